/-
  csr.File.plain: the map literal's region, in whatever order: the look-up gives the address of the register with that number, or nil.
-/
import Derived.Test.YtpmgdidigfincaaRows
import Derived.Test.YtpmgdidigfincaaVal
import Derived.WalkKit
import Derived.WalkSpells
import Derived.Lib.Hide
import Derived.WalkLawsBesides
namespace Go.Proofs.Ytpmgdidigfincaa
open Go.RowKit Go.Val Go.MapKept

def findRegion (id : Nat) : Code → Option (Array Oper)
  | .region k ops _ => if k = id then some ops else none
  | .seq a b => (findRegion id a).orElse fun _ => findRegion id b
  | .cond _ a b => (findRegion id a).orElse fun _ => findRegion id b
  | .block _ b => findRegion id b
  | .loop b => findRegion id b
  | .scope b => findRegion id b
  | _ => none

noncomputable def opsP : Array Oper := ((Try.f21.body.bind (findRegion 1)).getD #[])

/-- The registers that are read as they are, and which field each is. -/
def plainKeys : List (Int × Nat) := [(261, 10), (320, 11), (321, 12), (322, 13), (323, 14), (384, 15), (773, 5), (832, 6), (833, 7), (834, 8), (835, 9)]

def look (b : Nat) (n : Int) : Option Addr := (plainKeys.find? fun p => p.1 == n).map fun p => ⟨b, p.2, none⟩

/-- What operation i inserts. -/
def tab (b : Nat) (i : Nat) : Option (Int × Value) := if i % 4 = 0 ∧ 1 ≤ i then (plainKeys[i / 4 - 1]?).map fun p => (p.1, .pointer (some ⟨b, p.2, none⟩)) else none

def valP (b B : Nat) (n : Int) (i : Nat) : Value :=
  if i = 0 ∨ i = 45 then .map (some B)
  else if i = 46 then .int .i64 n
  else if 47 ≤ i then .pointer (look b n)
  else if i % 4 = 3 then (match plainKeys[i / 4]? with | some p => .pointer (some ⟨b, p.2, none⟩) | none => undef)
  else .pointer (some ⟨b, 0, none⟩)

/-- The world, when the operations of g are done: the map is there, and has just what was inserted. -/
def IP (b : Nat) (W : World) (g : Nat → Bool) (w : World) : Prop :=
  (g 0 = false ∧ w = W ∧ ∀ j k v, tab b j = some (k, v) → g j = false) ∨ (g 0 = true ∧ ∃ es : Array MapEntry, w = W.alloc (.map es es.size) ∧
    (∀ x ∈ es.toList, ∃ i k, tab b i = some (k, x.val) ∧ g i = true ∧ x.key = .int .i64 k) ∧
    (∀ i k v, tab b i = some (k, v) → g i = true → ∃ x ∈ es.toList, x.key = .int .i64 k ∧ x.val = v))

theorem IP_same {b : Nat} {W : World} {g g' : Nat → Bool} {w : World} {i : Nat} (h : IP b W g w) (hi : i ≠ 0) (ht : tab b i = none) (ho : ∀ j, j ≠ i → g' j = g j) : IP b W g' w := by
  have hx : ∀ j p, tab b j = some p → g' j = g j := fun j p hj => ho j fun e => by rw [e, ht] at hj; cases hj
  rcases h with ⟨h1, h2, h3⟩ | ⟨h1, es, h2, h3, h4⟩
  · exact .inl ⟨by rw [ho 0 (Ne.symm hi)]; exact h1, h2, fun j k v hj => by rw [hx j _ hj]; exact h3 j k v hj⟩
  · refine .inr ⟨by rw [ho 0 (Ne.symm hi)]; exact h1, es, h2, fun x hx' => ?_, fun j k v hj hg => h4 j k v hj (by rw [← hx j _ hj]; exact hg)⟩
    obtain ⟨j, k, a1, a2, a3⟩ := h3 x hx'
    exact ⟨j, k, a1, by rw [hx j _ a1]; exact a2, a3⟩

section
variable {b : Nat} {n : Int} {W : World} {a0 : Act} {g : Nat → Bool} {w : World}

/-- An operation that leaves the world alone. -/
theorem does_quiet {i : Nat} {o : Oper} (hI : IP b W g w) (hi : i ≠ 0) (ht : tab b i = none)
    (hrun : (execOp (fillA opsP (valP b W.heap.size n) g a0).eval o).run Try.prog w = .ok (.value (valP b W.heap.size n i)) w) : Does Try.prog opsP (valP b W.heap.size n) a0 (IP b W) g i o w :=
  ⟨w, .inl hrun, fun _ _ ho => IP_same hI hi ht ho⟩

theorem run_move {ρ : Operand → Value} {o : Oper} {x : Operand} {v : Value} (h : o.op = .move x) (hx : ρ x = v) : (execOp ρ o).run Try.prog w = .ok (.value v) w := by
  cases o; simp only at h; subst h; subst hx; rfl
theorem run_assign {ρ : Operand → Value} {o : Oper} {x : Operand} {v : Value} (h : o.op = .assign x) (hx : ρ x = v) : (execOp ρ o).run Try.prog w = .ok (.value v) w := by
  cases o; simp only at h; subst h; subst hx; rfl
theorem run_nilCheck {ρ : Operand → Value} {o : Oper} {x : Operand} {a : Addr} (h : o.op = .nilCheck x) (hx : ρ x = .pointer (some a)) : (execOp ρ o).run Try.prog w = .ok (.value (.pointer (some a))) w := by
  cases o; simp only at h; subst h; simp only [execOp, hx]; rfl
theorem run_field {ρ : Operand → Value} {o : Oper} {x : Operand} {f : Nat} (h : o.op = .fieldAddr 29 x f) (hf : f < 17) (hx : ρ x = .pointer (some ⟨b, 0, none⟩)) : (execOp ρ o).run Try.prog w = .ok (.value (.pointer (some ⟨b, f, none⟩))) w := by
  cases o; simp only at h; subst h; simp only [execOp, hx]
  have hall : ∀ f, f < 17 → ((Instr.fieldAt 29 (.pointer (some ⟨b, 0, none⟩)) f).run Try.prog w) = .ok (.pointer (some ⟨b, f, none⟩)) w := by
    intro f hf
    match f, hf with
    | 0, _ => simp [go_sem]
    | 1, _ => simp [go_sem]
    | 2, _ => simp [go_sem]
    | 3, _ => simp [go_sem]
    | 4, _ => simp [go_sem]
    | 5, _ => simp [go_sem]
    | 6, _ => simp [go_sem]
    | 7, _ => simp [go_sem]
    | 8, _ => simp [go_sem]
    | 9, _ => simp [go_sem]
    | 10, _ => simp [go_sem]
    | 11, _ => simp [go_sem]
    | 12, _ => simp [go_sem]
    | 13, _ => simp [go_sem]
    | 14, _ => simp [go_sem]
    | 15, _ => simp [go_sem]
    | 16, _ => simp [go_sem]
    | n + 17, h => exact absurd h (by omega)
  simp [hall f hf, Result.andThen]


theorem mapTypes : Try.prog.underlying 56 = some (.map 3 44) := by kernel_rfl
theorem run_makes {ρ : Operand → Value} {o : Oper} (h : o.op = .makeMap 56 none) : (execOp ρ o).run Try.prog w = .ok (.value (.map (some w.heap.size))) (w.alloc (.map #[] 0)) := by
  cases o; simp only at h; subst h; rfl

theorem push_set {α : Type} (h : Array α) (a b : α) : (h.push a).setIfInBounds h.size b = h.push b := by
  apply Array.ext_getElem?
  intro i
  by_cases e : i = h.size
  · subst e; simp
  · rw [Array.getElem?_setIfInBounds_ne (Ne.symm e), Array.getElem?_push, Array.getElem?_push, if_neg e, if_neg e]

theorem run_insert {ρ : Operand → Value} {o : Oper} {x y : Operand} {k : Int} {v : Value} {es : Array MapEntry} (h : o.op = .insert 56 x (.const (.int .i64 k)) y) (hk : ρ (.const (.int .i64 k)) = .int .i64 k) (hx : ρ x = .map (some W.heap.size)) (hy : ρ y = v)
    (hks : ∀ e ∈ es.toList, ∃ j, e.key = .int .i64 j ∧ j ≠ k) :
    (execOp ρ o).run Try.prog (W.alloc (.map es es.size)) = .ok .skip (W.alloc (.map (es.push ⟨.int .i64 k, v, es.size⟩) (es.push ⟨.int .i64 k, v, es.size⟩).size)) := by
  cases o; simp only at h; subst h; simp only [execOp, hx, hy, hk]
  have hb : (W.alloc (.map es es.size)).heap[W.heap.size]? = some (.map es es.size) := (heap_alloc W _).1
  have hfind : Instr.findNow (.int .i64) (.int .i64 k) es.toList 0 = some none := by
    rcases findNow_spec (d := .int .i64) (k := .int .i64 k) (by simp [IsKey]) es.toList 0 (fun e he => by obtain ⟨j, e1, _⟩ := hks e he; rw [e1]; simp [IsKey]) with ⟨h1, _⟩ | ⟨j, e, _, h2, h3⟩
    · exact h1
    · obtain ⟨j', e1, e2⟩ := hks e (List.mem_of_getElem? h2)
      rw [e1] at h3
      exact absurd (by injection h3) e2
  simp only [Instr.mapUpdate, Sem.run_bind, run_underlying mapTypes, MapKept.run_getObj_map hb, run_checkKey Try.underlying3 (show IsKey (.int .i64) (.int .i64 k) by simp [IsKey]), run_findKey Try.underlying3 hfind, MapKept.run_setObj_map _ hb, Result.andThen]
  rw [show ({ W.alloc (.map es es.size) with heap := (W.alloc (.map es es.size)).heap.setIfInBounds W.heap.size (.map (es.push ⟨.int .i64 k, v, es.size⟩) (es.size + 1)) } : World) = W.alloc (.map (es.push ⟨.int .i64 k, v, es.size⟩) (es.push ⟨.int .i64 k, v, es.size⟩).size) from ?_]
  · rfl
  · show World.mk .. = World.mk ..
    congr 1
    show (W.heap.push _).setIfInBounds W.heap.size _ = W.heap.push _
    rw [push_set, Array.size_push]

theorem run_lookup {ρ : Operand → Value} {o : Oper} {x y : Operand} {es : Array MapEntry} (h : o.op = .lookup 56 x y false) (hx : ρ x = .map (some W.heap.size)) (hy : ρ y = .int .i64 n)
    (h3 : ∀ x ∈ es.toList, ∃ i k, tab b i = some (k, x.val) ∧ x.key = .int .i64 k) (h4 : ∀ i k v, tab b i = some (k, v) → ∃ x ∈ es.toList, x.key = .int .i64 k ∧ x.val = v) :
    (execOp ρ o).run Try.prog (W.alloc (.map es es.size)) = .ok (.value (.pointer (look b n))) (W.alloc (.map es es.size)) := by
  cases o; simp only at h; subst h; simp only [execOp, hx, hy]
  have hb : (W.alloc (.map es es.size)).heap[W.heap.size]? = some (.map es es.size) := (heap_alloc W _).1
  have hz : ∀ w, (zeroValue 44).run Try.prog w = .ok (.pointer none) w := fun w => by kernel_rfl
  have tabAt : ∀ q p, plainKeys[q]? = some p → tab b (4 * (q + 1)) = some (p.1, .pointer (some ⟨b, p.2, none⟩)) := fun q p hq => by
    have e1 : 4 * (q + 1) % 4 = 0 := by omega
    simp [tab, e1, hq]
  have tabOf : ∀ i k v, tab b i = some (k, v) → ∃ p ∈ plainKeys, p.1 = k ∧ v = .pointer (some ⟨b, p.2, none⟩) := by
    intro i k v ht
    unfold tab at ht
    split at ht
    · obtain ⟨p, hp, e⟩ := Option.map_eq_some_iff.1 ht
      injection e with e1 e2
      exact ⟨p, List.mem_of_getElem? hp, e1, e2.symm⟩
    · cases ht
  have uniq : ∀ p ∈ plainKeys, ∀ p' ∈ plainKeys, p.1 = p'.1 → p = p' := by decide
  rcases findNow_spec (d := .int .i64) (k := .int .i64 n) (by simp [IsKey]) es.toList 0 (fun e he => by obtain ⟨_, j, _, e1⟩ := h3 e he; rw [e1]; simp [IsKey]) with ⟨h1, h2⟩ | ⟨j, e, h1, h2, h5⟩
  · have hl : look b n = none := by
      unfold look
      rw [Option.map_eq_none_iff, List.find?_eq_none]
      intro p hp hpn
      obtain ⟨q, hq⟩ := List.mem_iff_getElem?.1 hp
      obtain ⟨x, hx1, hx2, _⟩ := h4 _ _ _ (tabAt q p hq)
      exact h2 x hx1 (by rw [hx2, show p.1 = n by simpa using hpn])
    rw [hl]
    simp [Instr.lookup, run_underlying mapTypes, MapKept.run_getObj_map hb, run_checkKey Try.underlying3 (show IsKey (.int .i64) (.int .i64 n) by simp [IsKey]), run_findKey Try.underlying3 h1, hz, Result.andThen]
  · obtain ⟨i, k, t1, t2⟩ := h3 e (List.mem_of_getElem? h2)
    obtain ⟨p, hp, p1, p2⟩ := tabOf i k _ t1
    have hkn : k = n := by rw [t2] at h5; injection h5
    have hl : look b n = some ⟨b, p.2, none⟩ := by
      unfold look
      cases hf : plainKeys.find? fun p => p.1 == n with
      | none =>
        rw [List.find?_eq_none] at hf
        exact absurd (by simp [p1, hkn]) (hf p hp)
      | some p' =>
        have := List.find?_some hf
        have e1 : p'.1 = n := by simpa using this
        rw [uniq p' (List.mem_of_find?_eq_some hf) p hp (by rw [e1, p1, hkn])]
        rfl
    rw [hl, ← p2]
    simp [Instr.lookup, run_underlying mapTypes, MapKept.run_getObj_map hb, run_checkKey Try.underlying3 (show IsKey (.int .i64) (.int .i64 n) by simp [IsKey]), run_findKey Try.underlying3 h1, Result.andThen]
end

theorem distinctP : distinctB opsP = true := by kernel_rfl
theorem orderedP : orderedB opsP = true := by kernel_rfl
theorem sizeP : opsP.size = 49 := by kernel_rfl

theorem dep_of {i j : Nat} {o : Oper} {g : Nat → Bool} (ho : opsP[i]? = some o) (hj : ((opsP[i]?).map fun o => o.after.any fun e => e.on == j && Region.binds .any e) = some true)
    (hdep : ∀ e ∈ o.after, Region.binds .any e = true → g e.on = true) : g j = true := by
  rw [ho] at hj
  simp only [Option.map_some, Option.some.injEq, Array.any_eq_true, Bool.and_eq_true, beq_iff_eq] at hj
  obtain ⟨k, hk, e1, e2⟩ := hj
  rw [← e1]
  exact hdep _ (Array.getElem_mem hk) e2

theorem op_of {i : Nat} {o : Oper} {x : Op} (ho : opsP[i]? = some o) (h : (opsP[i]?).map (·.op) = some x) : o.op = x := by
  rw [ho] at h
  simpa using h

theorem dst_of {i : Nat} {o : Oper} (ho : opsP[i]? = some o) : o.dst = dstOf opsP i := by simp [dstOf, ho]

theorem noDst (t : Nat) (h : ((List.range 49).all fun i => dstOf opsP i != some t) = true) : ∀ i, dstOf opsP i ≠ some t := by
  intro i hi
  have hlt := dstOf_lt hi
  rw [sizeP] at hlt
  have := List.all_eq_true.1 h i (by simpa using hlt)
  simp [hi] at this

/-- What an insertion leaves. -/
theorem IP_insert {b : Nat} {W w : World} {g : Nat → Bool} {i : Nat} {k : Int} {v : Value} (hI : IP b W g w) (h0 : g 0 = true) (hgi : g i = false) (hi : i ≠ 0) (ht : tab b i = some (k, v)) :
    ∃ es : Array MapEntry, w = W.alloc (.map es es.size) ∧ (∀ e ∈ es.toList, ∃ j, e.key = .int .i64 j ∧ j ≠ k) ∧
      ∀ g', g' i = true → (∀ j, j ≠ i → g' j = g j) → IP b W g' (W.alloc (.map (es.push ⟨.int .i64 k, v, es.size⟩) (es.push ⟨.int .i64 k, v, es.size⟩).size)) := by
  have tabInj : ∀ i k v i' v', tab b i = some (k, v) → tab b i' = some (k, v') → i = i' := by
    intro i k v i' v' h1 h2
    unfold tab at h1 h2
    split at h1
    · split at h2
      · rename_i a1 a2
        obtain ⟨p, hp, e⟩ := Option.map_eq_some_iff.1 h1
        obtain ⟨p', hp', e'⟩ := Option.map_eq_some_iff.1 h2
        injection e with e1 _
        injection e' with e1' _
        have uniq : ∀ q, q < 11 → ∀ q', q' < 11 → (plainKeys[q]?).map (·.1) = (plainKeys[q']?).map (·.1) → q = q' := by decide
        have l1 : i / 4 - 1 < 11 := (List.getElem?_eq_some_iff.1 hp).1
        have l2 : i' / 4 - 1 < 11 := (List.getElem?_eq_some_iff.1 hp').1
        have := uniq _ l1 _ l2 (by rw [hp, hp']; simp [e1, e1'])
        omega
      · cases h2
    · cases h1
  rcases hI with ⟨h1, _⟩ | ⟨_, es, rfl, h3, h4⟩
  · rw [h0] at h1; cases h1
  · refine ⟨es, rfl, fun e he => ?_, fun g' hg' ho => ?_⟩
    · obtain ⟨j, k', t1, t2, t3⟩ := h3 e he
      refine ⟨k', t3, fun e => ?_⟩
      subst e
      have := tabInj _ _ _ _ _ t1 ht
      rw [this, hgi] at t2
      cases t2
    · refine .inr ⟨by rw [ho 0 (Ne.symm hi)]; exact h0, _, rfl, fun x hx => ?_, fun j k' v' hj hg => ?_⟩
      · rw [Array.toList_push, List.mem_append, List.mem_singleton] at hx
        rcases hx with hx | rfl
        · obtain ⟨j, k', t1, t2, t3⟩ := h3 x hx
          have hji : j ≠ i := fun e => by rw [e, hgi] at t2; cases t2
          exact ⟨j, k', t1, by rw [ho j hji]; exact t2, t3⟩
        · exact ⟨i, k, ht, hg', rfl⟩
      · by_cases e : j = i
        · subst e
          rw [ht] at hj
          obtain ⟨rfl, rfl⟩ := Prod.mk.inj (Option.some.inj hj)
          exact ⟨⟨.int .i64 k, v, es.size⟩, by simp, rfl, rfl⟩
        · obtain ⟨x, hx, a1, a2⟩ := h4 j k' v' hj (by rw [← ho j e]; exact hg)
          exact ⟨x, by simp [hx], a1, a2⟩


section
variable (b : Nat) (n : Int) (t4 : Value) (W : World)
def a0P : Act := { tmps := #[.pointer (some ⟨b, 0, none⟩), .int .i64 n, undef, undef, t4, .bool false, undef, undef, undef, undef, undef, undef, undef, undef, undef, undef, undef, undef, undef, undef, undef, undef, undef, undef, undef, undef, undef, undef, undef, undef, undef, undef, undef, undef, undef, undef, undef, undef, undef, undef, undef, undef, undef, undef, undef, undef, undef, undef, undef, undef, undef, undef, undef, undef, undef, undef, undef, undef, undef], defers := [] }
def a1P : Act := { tmps := #[.pointer (some ⟨b, 0, none⟩), .int .i64 n, undef, undef, t4, .bool false, .pointer (look b n), undef, .map (some W.heap.size), .pointer (some ⟨b, 0, none⟩), .pointer (some ⟨b, 0, none⟩), .pointer (some ⟨b, 10, none⟩), .pointer (some ⟨b, 0, none⟩), .pointer (some ⟨b, 0, none⟩), .pointer (some ⟨b, 11, none⟩), .pointer (some ⟨b, 0, none⟩), .pointer (some ⟨b, 0, none⟩), .pointer (some ⟨b, 12, none⟩), .pointer (some ⟨b, 0, none⟩), .pointer (some ⟨b, 0, none⟩), .pointer (some ⟨b, 13, none⟩), .pointer (some ⟨b, 0, none⟩), .pointer (some ⟨b, 0, none⟩), .pointer (some ⟨b, 14, none⟩), .pointer (some ⟨b, 0, none⟩), .pointer (some ⟨b, 0, none⟩), .pointer (some ⟨b, 15, none⟩), .pointer (some ⟨b, 0, none⟩), .pointer (some ⟨b, 0, none⟩), .pointer (some ⟨b, 5, none⟩), .pointer (some ⟨b, 0, none⟩), .pointer (some ⟨b, 0, none⟩), .pointer (some ⟨b, 6, none⟩), .pointer (some ⟨b, 0, none⟩), .pointer (some ⟨b, 0, none⟩), .pointer (some ⟨b, 7, none⟩), .pointer (some ⟨b, 0, none⟩), .pointer (some ⟨b, 0, none⟩), .pointer (some ⟨b, 8, none⟩), .pointer (some ⟨b, 0, none⟩), .pointer (some ⟨b, 0, none⟩), .pointer (some ⟨b, 9, none⟩), .map (some W.heap.size), .int .i64 n, .pointer (look b n), undef, undef, undef, undef, undef, undef, undef, undef, undef, undef, undef, undef, undef, undef], defers := [] }
end

theorem lt59 {b : Nat} {n : Int} {t4 : Value} {t : Nat} (h : t < 59) : t < (a0P b n t4).tmps.size := h
theorem end_lit (b : Nat) (n : Int) (t4 : Value) (W : World) : fillA opsP (valP b W.heap.size n) (fun _ => true) (a0P b n t4) = a1P b n t4 W := by kernel_rfl
theorem end_frame (b : Nat) (n : Int) (t4 : Value) (W : World) (g : Nat → Bool) (h : ∀ i, i < opsP.size → g i = true) : fillA opsP (valP b W.heap.size n) g (a0P b n t4) = a1P b n t4 W := by
  rw [← end_lit]
  exact foldl_same _ _ fun x hx => by rw [h x (by simpa using hx)]


theorem deps45 {o : Oper} {g : Nat → Bool} (ho : opsP[45]? = some o) (hdep : ∀ e ∈ o.after, Region.binds .any e = true → g e.on = true) : ∀ i ∈ [4, 8, 12, 16, 20, 24, 28, 32, 36, 40, 44], g i = true := by
  intro i hi
  have h : ([4, 8, 12, 16, 20, 24, 28, 32, 36, 40, 44].all fun j => ((opsP[45]?).map fun o => o.after.any fun e => e.on == j && Region.binds .any e) == some true) = true := by kernel_rfl
  exact dep_of ho (by simpa using List.all_eq_true.1 h i hi) hdep

/-- THE STEP: whichever operation comes up. -/
theorem step_plain (b : Nat) (n : Int) (t4 : Value) (W : World) (i : Nat) (o : Oper) (g : Nat → Bool) (w : World) (ho : opsP[i]? = some o) (hgi : g i = false)
    (hdep : ∀ e ∈ o.after, Region.binds .any e = true → g e.on = true) (hcl : Closed opsP g) (hI : IP b W g w) : Does Try.prog opsP (valP b W.heap.size n) (a0P b n t4) (IP b W) g i o w := by
  have hlt : i < 49 := by rw [← sizeP]; exact (Array.getElem?_eq_some_iff.1 ho).1
  match i with
  | 0 =>
    rcases hI with ⟨_, rfl, hnone⟩ | ⟨h, _⟩
    · exact ⟨_, .inl (run_makes (op_of ho (by kernel_rfl))), fun g' hg' ho' => .inr ⟨hg', #[], rfl, fun x hx => by simp at hx, fun j k v hj hg => by
        exfalso
        have hj0 : j ≠ 0 := fun e => by subst e; simp [tab] at hj
        rw [ho' j hj0, hnone j k v hj] at hg
        cases hg⟩⟩
    · rw [hgi] at h; cases h
  | 1 => exact does_quiet hI (by decide) (by kernel_rfl) (run_move (x := .tmp 0) (op_of ho (by kernel_rfl)) (eval_other (noDst 0 (by kernel_rfl)) _))
  | 2 => exact does_quiet hI (by decide) (by kernel_rfl) (run_nilCheck (op_of ho (by kernel_rfl)) (eval_at (distinct_of distinctP) (j := 1) (t := 9) (by kernel_rfl) (dep_of (j := 1) ho (by kernel_rfl) hdep) _ (lt59 (by decide))))
  | 3 => exact does_quiet hI (by decide) (by kernel_rfl) (run_field (op_of ho (by kernel_rfl)) (by decide) (eval_at (distinct_of distinctP) (j := 2) (t := 10) (by kernel_rfl) (dep_of (j := 2) ho (by kernel_rfl) hdep) _ (lt59 (by decide))))
  | 4 =>
    obtain ⟨es, rfl, hks, hnew⟩ := IP_insert (i := 4) (k := 261) (v := .pointer (some ⟨b, 10, none⟩)) hI (dep_of (j := 0) ho (by kernel_rfl) hdep) hgi (by decide) (by kernel_rfl)
    exact ⟨_, .inr ⟨run_insert (op_of ho (by kernel_rfl)) rfl (eval_at (distinct_of distinctP) (j := 0) (t := 8) (by kernel_rfl) (dep_of (j := 0) ho (by kernel_rfl) hdep) _ (lt59 (by decide))) (eval_at (distinct_of distinctP) (j := 3) (t := 11) (by kernel_rfl) (dep_of (j := 3) ho (by kernel_rfl) hdep) _ (lt59 (by decide))) hks, (dst_of ho).trans (by kernel_rfl)⟩, hnew⟩
  | 5 => exact does_quiet hI (by decide) (by kernel_rfl) (run_move (x := .tmp 0) (op_of ho (by kernel_rfl)) (eval_other (noDst 0 (by kernel_rfl)) _))
  | 6 => exact does_quiet hI (by decide) (by kernel_rfl) (run_nilCheck (op_of ho (by kernel_rfl)) (eval_at (distinct_of distinctP) (j := 5) (t := 12) (by kernel_rfl) (dep_of (j := 5) ho (by kernel_rfl) hdep) _ (lt59 (by decide))))
  | 7 => exact does_quiet hI (by decide) (by kernel_rfl) (run_field (op_of ho (by kernel_rfl)) (by decide) (eval_at (distinct_of distinctP) (j := 6) (t := 13) (by kernel_rfl) (dep_of (j := 6) ho (by kernel_rfl) hdep) _ (lt59 (by decide))))
  | 8 =>
    obtain ⟨es, rfl, hks, hnew⟩ := IP_insert (i := 8) (k := 320) (v := .pointer (some ⟨b, 11, none⟩)) hI (dep_of (j := 0) ho (by kernel_rfl) hdep) hgi (by decide) (by kernel_rfl)
    exact ⟨_, .inr ⟨run_insert (op_of ho (by kernel_rfl)) rfl (eval_at (distinct_of distinctP) (j := 0) (t := 8) (by kernel_rfl) (dep_of (j := 0) ho (by kernel_rfl) hdep) _ (lt59 (by decide))) (eval_at (distinct_of distinctP) (j := 7) (t := 14) (by kernel_rfl) (dep_of (j := 7) ho (by kernel_rfl) hdep) _ (lt59 (by decide))) hks, (dst_of ho).trans (by kernel_rfl)⟩, hnew⟩
  | 9 => exact does_quiet hI (by decide) (by kernel_rfl) (run_move (x := .tmp 0) (op_of ho (by kernel_rfl)) (eval_other (noDst 0 (by kernel_rfl)) _))
  | 10 => exact does_quiet hI (by decide) (by kernel_rfl) (run_nilCheck (op_of ho (by kernel_rfl)) (eval_at (distinct_of distinctP) (j := 9) (t := 15) (by kernel_rfl) (dep_of (j := 9) ho (by kernel_rfl) hdep) _ (lt59 (by decide))))
  | 11 => exact does_quiet hI (by decide) (by kernel_rfl) (run_field (op_of ho (by kernel_rfl)) (by decide) (eval_at (distinct_of distinctP) (j := 10) (t := 16) (by kernel_rfl) (dep_of (j := 10) ho (by kernel_rfl) hdep) _ (lt59 (by decide))))
  | 12 =>
    obtain ⟨es, rfl, hks, hnew⟩ := IP_insert (i := 12) (k := 321) (v := .pointer (some ⟨b, 12, none⟩)) hI (dep_of (j := 0) ho (by kernel_rfl) hdep) hgi (by decide) (by kernel_rfl)
    exact ⟨_, .inr ⟨run_insert (op_of ho (by kernel_rfl)) rfl (eval_at (distinct_of distinctP) (j := 0) (t := 8) (by kernel_rfl) (dep_of (j := 0) ho (by kernel_rfl) hdep) _ (lt59 (by decide))) (eval_at (distinct_of distinctP) (j := 11) (t := 17) (by kernel_rfl) (dep_of (j := 11) ho (by kernel_rfl) hdep) _ (lt59 (by decide))) hks, (dst_of ho).trans (by kernel_rfl)⟩, hnew⟩
  | 13 => exact does_quiet hI (by decide) (by kernel_rfl) (run_move (x := .tmp 0) (op_of ho (by kernel_rfl)) (eval_other (noDst 0 (by kernel_rfl)) _))
  | 14 => exact does_quiet hI (by decide) (by kernel_rfl) (run_nilCheck (op_of ho (by kernel_rfl)) (eval_at (distinct_of distinctP) (j := 13) (t := 18) (by kernel_rfl) (dep_of (j := 13) ho (by kernel_rfl) hdep) _ (lt59 (by decide))))
  | 15 => exact does_quiet hI (by decide) (by kernel_rfl) (run_field (op_of ho (by kernel_rfl)) (by decide) (eval_at (distinct_of distinctP) (j := 14) (t := 19) (by kernel_rfl) (dep_of (j := 14) ho (by kernel_rfl) hdep) _ (lt59 (by decide))))
  | 16 =>
    obtain ⟨es, rfl, hks, hnew⟩ := IP_insert (i := 16) (k := 322) (v := .pointer (some ⟨b, 13, none⟩)) hI (dep_of (j := 0) ho (by kernel_rfl) hdep) hgi (by decide) (by kernel_rfl)
    exact ⟨_, .inr ⟨run_insert (op_of ho (by kernel_rfl)) rfl (eval_at (distinct_of distinctP) (j := 0) (t := 8) (by kernel_rfl) (dep_of (j := 0) ho (by kernel_rfl) hdep) _ (lt59 (by decide))) (eval_at (distinct_of distinctP) (j := 15) (t := 20) (by kernel_rfl) (dep_of (j := 15) ho (by kernel_rfl) hdep) _ (lt59 (by decide))) hks, (dst_of ho).trans (by kernel_rfl)⟩, hnew⟩
  | 17 => exact does_quiet hI (by decide) (by kernel_rfl) (run_move (x := .tmp 0) (op_of ho (by kernel_rfl)) (eval_other (noDst 0 (by kernel_rfl)) _))
  | 18 => exact does_quiet hI (by decide) (by kernel_rfl) (run_nilCheck (op_of ho (by kernel_rfl)) (eval_at (distinct_of distinctP) (j := 17) (t := 21) (by kernel_rfl) (dep_of (j := 17) ho (by kernel_rfl) hdep) _ (lt59 (by decide))))
  | 19 => exact does_quiet hI (by decide) (by kernel_rfl) (run_field (op_of ho (by kernel_rfl)) (by decide) (eval_at (distinct_of distinctP) (j := 18) (t := 22) (by kernel_rfl) (dep_of (j := 18) ho (by kernel_rfl) hdep) _ (lt59 (by decide))))
  | 20 =>
    obtain ⟨es, rfl, hks, hnew⟩ := IP_insert (i := 20) (k := 323) (v := .pointer (some ⟨b, 14, none⟩)) hI (dep_of (j := 0) ho (by kernel_rfl) hdep) hgi (by decide) (by kernel_rfl)
    exact ⟨_, .inr ⟨run_insert (op_of ho (by kernel_rfl)) rfl (eval_at (distinct_of distinctP) (j := 0) (t := 8) (by kernel_rfl) (dep_of (j := 0) ho (by kernel_rfl) hdep) _ (lt59 (by decide))) (eval_at (distinct_of distinctP) (j := 19) (t := 23) (by kernel_rfl) (dep_of (j := 19) ho (by kernel_rfl) hdep) _ (lt59 (by decide))) hks, (dst_of ho).trans (by kernel_rfl)⟩, hnew⟩
  | 21 => exact does_quiet hI (by decide) (by kernel_rfl) (run_move (x := .tmp 0) (op_of ho (by kernel_rfl)) (eval_other (noDst 0 (by kernel_rfl)) _))
  | 22 => exact does_quiet hI (by decide) (by kernel_rfl) (run_nilCheck (op_of ho (by kernel_rfl)) (eval_at (distinct_of distinctP) (j := 21) (t := 24) (by kernel_rfl) (dep_of (j := 21) ho (by kernel_rfl) hdep) _ (lt59 (by decide))))
  | 23 => exact does_quiet hI (by decide) (by kernel_rfl) (run_field (op_of ho (by kernel_rfl)) (by decide) (eval_at (distinct_of distinctP) (j := 22) (t := 25) (by kernel_rfl) (dep_of (j := 22) ho (by kernel_rfl) hdep) _ (lt59 (by decide))))
  | 24 =>
    obtain ⟨es, rfl, hks, hnew⟩ := IP_insert (i := 24) (k := 384) (v := .pointer (some ⟨b, 15, none⟩)) hI (dep_of (j := 0) ho (by kernel_rfl) hdep) hgi (by decide) (by kernel_rfl)
    exact ⟨_, .inr ⟨run_insert (op_of ho (by kernel_rfl)) rfl (eval_at (distinct_of distinctP) (j := 0) (t := 8) (by kernel_rfl) (dep_of (j := 0) ho (by kernel_rfl) hdep) _ (lt59 (by decide))) (eval_at (distinct_of distinctP) (j := 23) (t := 26) (by kernel_rfl) (dep_of (j := 23) ho (by kernel_rfl) hdep) _ (lt59 (by decide))) hks, (dst_of ho).trans (by kernel_rfl)⟩, hnew⟩
  | 25 => exact does_quiet hI (by decide) (by kernel_rfl) (run_move (x := .tmp 0) (op_of ho (by kernel_rfl)) (eval_other (noDst 0 (by kernel_rfl)) _))
  | 26 => exact does_quiet hI (by decide) (by kernel_rfl) (run_nilCheck (op_of ho (by kernel_rfl)) (eval_at (distinct_of distinctP) (j := 25) (t := 27) (by kernel_rfl) (dep_of (j := 25) ho (by kernel_rfl) hdep) _ (lt59 (by decide))))
  | 27 => exact does_quiet hI (by decide) (by kernel_rfl) (run_field (op_of ho (by kernel_rfl)) (by decide) (eval_at (distinct_of distinctP) (j := 26) (t := 28) (by kernel_rfl) (dep_of (j := 26) ho (by kernel_rfl) hdep) _ (lt59 (by decide))))
  | 28 =>
    obtain ⟨es, rfl, hks, hnew⟩ := IP_insert (i := 28) (k := 773) (v := .pointer (some ⟨b, 5, none⟩)) hI (dep_of (j := 0) ho (by kernel_rfl) hdep) hgi (by decide) (by kernel_rfl)
    exact ⟨_, .inr ⟨run_insert (op_of ho (by kernel_rfl)) rfl (eval_at (distinct_of distinctP) (j := 0) (t := 8) (by kernel_rfl) (dep_of (j := 0) ho (by kernel_rfl) hdep) _ (lt59 (by decide))) (eval_at (distinct_of distinctP) (j := 27) (t := 29) (by kernel_rfl) (dep_of (j := 27) ho (by kernel_rfl) hdep) _ (lt59 (by decide))) hks, (dst_of ho).trans (by kernel_rfl)⟩, hnew⟩
  | 29 => exact does_quiet hI (by decide) (by kernel_rfl) (run_move (x := .tmp 0) (op_of ho (by kernel_rfl)) (eval_other (noDst 0 (by kernel_rfl)) _))
  | 30 => exact does_quiet hI (by decide) (by kernel_rfl) (run_nilCheck (op_of ho (by kernel_rfl)) (eval_at (distinct_of distinctP) (j := 29) (t := 30) (by kernel_rfl) (dep_of (j := 29) ho (by kernel_rfl) hdep) _ (lt59 (by decide))))
  | 31 => exact does_quiet hI (by decide) (by kernel_rfl) (run_field (op_of ho (by kernel_rfl)) (by decide) (eval_at (distinct_of distinctP) (j := 30) (t := 31) (by kernel_rfl) (dep_of (j := 30) ho (by kernel_rfl) hdep) _ (lt59 (by decide))))
  | 32 =>
    obtain ⟨es, rfl, hks, hnew⟩ := IP_insert (i := 32) (k := 832) (v := .pointer (some ⟨b, 6, none⟩)) hI (dep_of (j := 0) ho (by kernel_rfl) hdep) hgi (by decide) (by kernel_rfl)
    exact ⟨_, .inr ⟨run_insert (op_of ho (by kernel_rfl)) rfl (eval_at (distinct_of distinctP) (j := 0) (t := 8) (by kernel_rfl) (dep_of (j := 0) ho (by kernel_rfl) hdep) _ (lt59 (by decide))) (eval_at (distinct_of distinctP) (j := 31) (t := 32) (by kernel_rfl) (dep_of (j := 31) ho (by kernel_rfl) hdep) _ (lt59 (by decide))) hks, (dst_of ho).trans (by kernel_rfl)⟩, hnew⟩
  | 33 => exact does_quiet hI (by decide) (by kernel_rfl) (run_move (x := .tmp 0) (op_of ho (by kernel_rfl)) (eval_other (noDst 0 (by kernel_rfl)) _))
  | 34 => exact does_quiet hI (by decide) (by kernel_rfl) (run_nilCheck (op_of ho (by kernel_rfl)) (eval_at (distinct_of distinctP) (j := 33) (t := 33) (by kernel_rfl) (dep_of (j := 33) ho (by kernel_rfl) hdep) _ (lt59 (by decide))))
  | 35 => exact does_quiet hI (by decide) (by kernel_rfl) (run_field (op_of ho (by kernel_rfl)) (by decide) (eval_at (distinct_of distinctP) (j := 34) (t := 34) (by kernel_rfl) (dep_of (j := 34) ho (by kernel_rfl) hdep) _ (lt59 (by decide))))
  | 36 =>
    obtain ⟨es, rfl, hks, hnew⟩ := IP_insert (i := 36) (k := 833) (v := .pointer (some ⟨b, 7, none⟩)) hI (dep_of (j := 0) ho (by kernel_rfl) hdep) hgi (by decide) (by kernel_rfl)
    exact ⟨_, .inr ⟨run_insert (op_of ho (by kernel_rfl)) rfl (eval_at (distinct_of distinctP) (j := 0) (t := 8) (by kernel_rfl) (dep_of (j := 0) ho (by kernel_rfl) hdep) _ (lt59 (by decide))) (eval_at (distinct_of distinctP) (j := 35) (t := 35) (by kernel_rfl) (dep_of (j := 35) ho (by kernel_rfl) hdep) _ (lt59 (by decide))) hks, (dst_of ho).trans (by kernel_rfl)⟩, hnew⟩
  | 37 => exact does_quiet hI (by decide) (by kernel_rfl) (run_move (x := .tmp 0) (op_of ho (by kernel_rfl)) (eval_other (noDst 0 (by kernel_rfl)) _))
  | 38 => exact does_quiet hI (by decide) (by kernel_rfl) (run_nilCheck (op_of ho (by kernel_rfl)) (eval_at (distinct_of distinctP) (j := 37) (t := 36) (by kernel_rfl) (dep_of (j := 37) ho (by kernel_rfl) hdep) _ (lt59 (by decide))))
  | 39 => exact does_quiet hI (by decide) (by kernel_rfl) (run_field (op_of ho (by kernel_rfl)) (by decide) (eval_at (distinct_of distinctP) (j := 38) (t := 37) (by kernel_rfl) (dep_of (j := 38) ho (by kernel_rfl) hdep) _ (lt59 (by decide))))
  | 40 =>
    obtain ⟨es, rfl, hks, hnew⟩ := IP_insert (i := 40) (k := 834) (v := .pointer (some ⟨b, 8, none⟩)) hI (dep_of (j := 0) ho (by kernel_rfl) hdep) hgi (by decide) (by kernel_rfl)
    exact ⟨_, .inr ⟨run_insert (op_of ho (by kernel_rfl)) rfl (eval_at (distinct_of distinctP) (j := 0) (t := 8) (by kernel_rfl) (dep_of (j := 0) ho (by kernel_rfl) hdep) _ (lt59 (by decide))) (eval_at (distinct_of distinctP) (j := 39) (t := 38) (by kernel_rfl) (dep_of (j := 39) ho (by kernel_rfl) hdep) _ (lt59 (by decide))) hks, (dst_of ho).trans (by kernel_rfl)⟩, hnew⟩
  | 41 => exact does_quiet hI (by decide) (by kernel_rfl) (run_move (x := .tmp 0) (op_of ho (by kernel_rfl)) (eval_other (noDst 0 (by kernel_rfl)) _))
  | 42 => exact does_quiet hI (by decide) (by kernel_rfl) (run_nilCheck (op_of ho (by kernel_rfl)) (eval_at (distinct_of distinctP) (j := 41) (t := 39) (by kernel_rfl) (dep_of (j := 41) ho (by kernel_rfl) hdep) _ (lt59 (by decide))))
  | 43 => exact does_quiet hI (by decide) (by kernel_rfl) (run_field (op_of ho (by kernel_rfl)) (by decide) (eval_at (distinct_of distinctP) (j := 42) (t := 40) (by kernel_rfl) (dep_of (j := 42) ho (by kernel_rfl) hdep) _ (lt59 (by decide))))
  | 44 =>
    obtain ⟨es, rfl, hks, hnew⟩ := IP_insert (i := 44) (k := 835) (v := .pointer (some ⟨b, 9, none⟩)) hI (dep_of (j := 0) ho (by kernel_rfl) hdep) hgi (by decide) (by kernel_rfl)
    exact ⟨_, .inr ⟨run_insert (op_of ho (by kernel_rfl)) rfl (eval_at (distinct_of distinctP) (j := 0) (t := 8) (by kernel_rfl) (dep_of (j := 0) ho (by kernel_rfl) hdep) _ (lt59 (by decide))) (eval_at (distinct_of distinctP) (j := 43) (t := 41) (by kernel_rfl) (dep_of (j := 43) ho (by kernel_rfl) hdep) _ (lt59 (by decide))) hks, (dst_of ho).trans (by kernel_rfl)⟩, hnew⟩
  | 45 => exact does_quiet hI (by decide) (by kernel_rfl) (run_move (op_of ho (by kernel_rfl)) (eval_at (distinct_of distinctP) (j := 0) (t := 8) (by kernel_rfl) (dep_of (j := 0) ho (by kernel_rfl) hdep) _ (lt59 (by decide))))
  | 46 => exact does_quiet hI (by decide) (by kernel_rfl) (run_move (x := .tmp 1) (op_of ho (by kernel_rfl)) (eval_other (noDst 1 (by kernel_rfl)) _))
  | 47 =>
    have hI' := hI
    have h45 : g 45 = true := dep_of (j := 45) ho (by kernel_rfl) hdep
    obtain ⟨o45, ho45⟩ : ∃ o, opsP[45]? = some o := ⟨opsP[45]'(by rw [sizeP]; decide), by simp [sizeP]⟩
    rcases hI with ⟨h1, _⟩ | ⟨_, es, rfl, h3, h4⟩
    · rw [dep_of (j := 0) ho45 (by kernel_rfl) (hcl 45 _ ho45 h45)] at h1; cases h1
    · refine does_quiet hI' (by decide) (by kernel_rfl) (run_lookup (op_of ho (by kernel_rfl)) (eval_at (distinct_of distinctP) (j := 45) (t := 42) (by kernel_rfl) (dep_of (j := 45) ho (by kernel_rfl) hdep) _ (lt59 (by decide))) (eval_at (distinct_of distinctP) (j := 46) (t := 43) (by kernel_rfl) (dep_of (j := 46) ho (by kernel_rfl) hdep) _ (lt59 (by decide))) (fun x hx => ?_) (fun i k v hi => h4 i k v hi ?_))
      · obtain ⟨i, k, t1, _, t3⟩ := h3 x hx
        exact ⟨i, k, t1, t3⟩
      · have hm : i ∈ [4, 8, 12, 16, 20, 24, 28, 32, 36, 40, 44] := by
          unfold tab at hi
          split at hi
          · obtain ⟨p, hp, _⟩ := Option.map_eq_some_iff.1 hi
            have l1 : i / 4 - 1 < 11 := (List.getElem?_eq_some_iff.1 hp).1
            simp only [List.mem_cons, List.not_mem_nil, or_false]
            omega
          · cases hi
        exact deps45 ho45 (hcl 45 _ ho45 h45) i hm
  | 48 => exact does_quiet hI (by decide) (by kernel_rfl) (run_assign (op_of ho (by kernel_rfl)) (eval_at (distinct_of distinctP) (j := 47) (t := 44) (by kernel_rfl) (dep_of (j := 47) ho (by kernel_rfl) hdep) _ (lt59 (by decide))))
  | n + 49 => exact absurd hlt (by omega)

theorem region_plain {Q : Exit → Act → World → Prop} {id : Nat} (b : Nat) (n : Int) (t4 : Value) (W : World) (h : ∀ es, Q .normal (a1P b n t4 W.drew) (W.drew.alloc (.map es es.size))) :
    (Code.region id opsP true).wp Try.prog Q (a0P b n t4) W := by
  refine wp_region_val (by kernel_rfl) (valP b W.drew.heap.size n) (IP b W.drew) distinctP orderedP (.inl ⟨rfl, rfl, fun _ _ _ _ => rfl⟩) (fun i o g w ho hgi hdep hcl hI => step_plain b n t4 W.drew i o g w ho hgi hdep hcl hI) ?_
  intro g w hg hI
  rw [end_frame b n t4 W.drew g hg]
  rcases hI with ⟨h0, _⟩ | ⟨_, es, rfl, _, _⟩
  · rw [hg 0 (by rw [sizeP]; decide)] at h0; cases h0
  · exact h es

/-- Bits that a plain register never has. -/
def clr (n : Int) : Int := if n = 261 ∨ n = 773 then 2 else if n = 321 ∨ n = 833 then 3 else 0

set_option maxRecDepth 100000 in
set_option maxHeartbeats 1000000 in
theorem plain_some (b : Nat) (n : Int) (a : Addr) (w : World) (hl : look b n = some a) :
    Calls Try.prog 21 #[.pointer (some ⟨b, 0, none⟩), .int .i64 n] w fun e w' => e = .returned (.tuple #[.agg #[.pointer (some a), .int .u32 4294967295, .int .u32 4294967295, .int .u32 (clr n), .bool false], .bool true]) ∧ Below w.heap.size w w' := by
  have HL := _root_.Go.Lib.hid hl
  clear hl
  have hc : ((n == 261) = true ∧ clr n = 2) ∨ ((n == 261) = false ∧ (n == 773) = true ∧ clr n = 2) ∨ ((n == 261) = false ∧ (n == 773) = false ∧ (n == 321) = true ∧ clr n = 3) ∨ ((n == 261) = false ∧ (n == 773) = false ∧ (n == 321) = false ∧ (n == 833) = true ∧ clr n = 3) ∨
      ((n == 261) = false ∧ (n == 773) = false ∧ (n == 321) = false ∧ (n == 833) = false ∧ clr n = 0) := by
    unfold clr
    by_cases h1 : n = 261
    · simp [h1]
    · by_cases h2 : n = 773
      · simp [h2]
      · by_cases h3 : n = 321
        · simp [h3]
        · by_cases h4 : n = 833
          · simp [h4]
          · simp [h1, h2, h3, h4]
  rcases hc with ⟨h1, e⟩ | ⟨h1, h2, e⟩ | ⟨h1, h2, h3, e⟩ | ⟨h1, h2, h3, h4, e⟩ | ⟨h1, h2, h3, h4, e⟩
  all_goals
    rw [e]
    clear e
    go_enter Try.func21, Try.ntmps21
    go_wp2
    refine region_plain b n _ _ (fun es => ?_)
    rw [a1P, HL.out]
    go_wp2
    refine bodyPost_ret (v := .tuple #[.agg #[.pointer (some a), .int .u32 4294967295, .int .u32 4294967295, .int .u32 _, .bool false], .bool true]) (by simp [results, Try.results21, go_sem]) rfl ⟨rfl, ?_⟩
    repeat (first | exact Below.refl _ _ | (refine Below.drew ?_) | (refine Below.setCell ?_ (by simp) _) | (refine Below.alloc ?_ (by simp; try omega) _))

set_option maxRecDepth 100000 in
set_option maxHeartbeats 1000000 in
theorem plain_none (b : Nat) (n : Int) (w : World) (hl : look b n = none) :
    Calls Try.prog 21 #[.pointer (some ⟨b, 0, none⟩), .int .i64 n] w fun e w' => e = .returned (.tuple #[.agg #[.pointer none, .int .u32 4294967295, .int .u32 4294967295, .int .u32 0, .bool false], .bool false]) ∧ Below w.heap.size w w' := by
  have hn : ∀ p ∈ plainKeys, p.1 ≠ n := by
    intro p hp e
    unfold look at hl
    rw [Option.map_eq_none_iff, List.find?_eq_none] at hl
    exact hl p hp (by simpa using e)
  have h1 : (n == 261) = false := by have := hn (261, 10) (by decide); simp at this ⊢; omega
  have h2 : (n == 773) = false := by have := hn (773, 5) (by decide); simp at this ⊢; omega
  have h3 : (n == 321) = false := by have := hn (321, 12) (by decide); simp at this ⊢; omega
  have h4 : (n == 833) = false := by have := hn (833, 7) (by decide); simp at this ⊢; omega
  have HL := _root_.Go.Lib.hid hl
  clear hl hn
  go_enter Try.func21, Try.ntmps21
  go_wp2
  refine region_plain b n _ _ (fun es => ?_)
  rw [a1P, HL.out]
  go_wp2
  refine bodyPost_ret (v := .tuple #[.agg #[.pointer none, .int .u32 4294967295, .int .u32 4294967295, .int .u32 0, .bool false], .bool false]) (by simp [results, Try.results21, go_sem]) rfl ⟨rfl, ?_⟩
  repeat (first | exact Below.refl _ _ | (refine Below.drew ?_) | (refine Below.setCell ?_ (by simp) _) | (refine Below.alloc ?_ (by simp; try omega) _))

end Go.Proofs.Ytpmgdidigfincaa
