/-
  WholeFlash, part 36 of 44: Made, Stepn, Stepo.
-/
import Derived.Test.YtlcbilknfjdceaaGreatDoorM02
import Derived.Test.YtlcbilknfjdceaaGreatDoorM35
section
/-
  A region that draws its order and lays blocks: each operation yields a value that hangs on the numbers of the blocks laid before it, whatever these are.
-/
set_option linter.unusedVariables false
namespace Go.Proofs.YtlcbilknfjdceaaGreatDoor
open Go.RowKit Go.Lib Go.Val
def upd (N : Nat → Nat) (i n : Nat) : Nat → Nat := fun j => if j = i then n else N j
theorem upd_ne {N : Nat → Nat} {i n j : Nat} (h : j ≠ i) : upd N i n j = N j := if_neg h
theorem upd_eq {N : Nat → Nat} {i n : Nat} : upd N i n i = n := if_pos rfl
theorem filterMap_same {α : Type} {f g : Nat → Option α} : ∀ {l : List Nat}, (∀ j, j ∈ l → g j = f j) → l.filterMap g = l.filterMap f
  | [], _ => rfl
  | x :: l, h => by
    have ih := filterMap_same (l := l) fun j hj => h j (List.mem_cons_of_mem _ hj)
    have hx := h x List.mem_cons_self
    cases hf : f x with
    | none => rw [List.filterMap_cons_none (hx.trans hf), List.filterMap_cons_none hf, ih]
    | some y => rw [List.filterMap_cons_some (hx.trans hf), List.filterMap_cons_some hf, ih]
theorem filterMap_set {α : Type} {f g : Nat → Option α} {i : Nat} : ∀ (l : List Nat), l.Nodup → i ∈ l → f i = none → (∀ j, j ≠ i → g j = f j) → (l.filterMap g).Perm ((g i).toList ++ l.filterMap f)
  | [], _, hi, _, _ => by cases hi
  | x :: l, hn, hi, hf, hg => by
    have hn' := List.nodup_cons.1 hn
    by_cases e : x = i
    · subst e
      have same : l.filterMap g = l.filterMap f := filterMap_same fun j hj => hg j fun e => hn'.1 (e ▸ hj)
      rw [List.filterMap_cons_none hf]
      cases hx : g x with
      | none => rw [List.filterMap_cons_none hx, same]; exact List.Perm.refl _
      | some y => rw [List.filterMap_cons_some hx, same]; exact List.Perm.refl _
    · have ih := filterMap_set l hn'.2 ((List.mem_cons.1 hi).resolve_left fun h => e h.symm) hf hg
      have hx := hg x e
      cases hfx : f x with
      | none => rw [List.filterMap_cons_none (hx.trans hfx), List.filterMap_cons_none hfx]; exact ih
      | some y =>
        rw [List.filterMap_cons_some (hx.trans hfx), List.filterMap_cons_some hfx]
        exact (ih.cons y).trans List.perm_middle.symm
section
variable {P : Program} {ops : Array Oper} {Q : Exit → Act → World → Prop}
def laidK (O : (Nat → Nat) → Nat → Option Obj) (N : Nat → Nat) (n : Nat) (d : Nat → Bool) : Blocks := (List.range n).filterMap fun k => if d k = true then (O N k).map fun ob => (N k, ob) else none
def addK (o : Option Obj) (n : Nat) (L : Blocks) : Blocks := (o.map fun ob => (n, ob)).toList ++ L
theorem wp_region_made {id : Nat} {a0 : Act} {B : Nat} {W w : World} {K : Blocks} (hm : P.follows .mixedOrders = true) (hO : orderedB3 ops = true)
    (D : Nat → Nat) (V : (Nat → Nat) → Nat → Value) (O : (Nat → Nat) → Nat → Option Obj) (anc : Nat → List Nat)
    (hD : ∀ i, i < ops.size → D i < a0.tmps.size) (hDd : ∀ i j, i < ops.size → j < ops.size → D i = D j → i = j)
    (hVi : ∀ N i n k, i ∉ anc k → V (upd N i n) k = V N k) (hOi : ∀ N i n k, i ∉ anc k → O (upd N i n) k = O N k)
    (hanc : ∀ k o, ops[k]? = some o → ∀ j ∈ anc k, j = k ∨ ∃ e ∈ o.after, Region.binds .any e = true ∧ (j = e.on ∨ j ∈ anc e.on))
    (h0 : KW B W K w)
    (step : ∀ i o N a w L, ops[i]? = some o → (∀ e ∈ o.after, Region.binds .any e = true → e.on < ops.size ∧ a.tmps[D e.on]? = some (V N e.on)) → (∀ t, (∀ j, j < ops.size → t ≠ D j) → a.tmps[t]? = a0.tmps[t]?) → KW B W (L ++ K) w →
      Region.wanted o (yielded ops a.tmps) = true ∧ ∀ Kc : Act → World → Prop,
        (∀ w', (∀ L', KW B W L' w → KW B W (addK (O (upd N i w.heap.size) i) w.heap.size L') w') → Kc (a.put (some (D i)) (V (upd N i w.heap.size) i)) w') → o.wp P a w Kc Q)
    (hQ : ∀ N a w, a.tmps.size = a0.tmps.size → a.defers = a0.defers → (∀ i, i < ops.size → a.tmps[D i]? = some (V N i)) → (∀ t, (∀ j, j < ops.size → t ≠ D j) → a.tmps[t]? = a0.tmps[t]?) → KW B W (laidK O N ops.size (fun _ => true) ++ K) w → Q .normal a w) :
    (Code.region id ops true).wp P Q a0 w := by
  refine wp_region_inv hm (fun d a w => ∃ N, a.tmps.size = a0.tmps.size ∧ a.defers = a0.defers ∧ (∀ t, (∀ j, j < ops.size → t ≠ D j) → a.tmps[t]? = a0.tmps[t]?) ∧ (∀ k, k < ops.size → d k = true → a.tmps[D k]? = some (V N k)) ∧
    (∀ k, d k = true → ∀ j ∈ anc k, d j = true) ∧ (∀ k, d k = true → k < ops.size) ∧ KW B W (laidK O N ops.size d ++ K) w) hO ?_ ?_ ?_
  · refine ⟨fun _ => 0, rfl, rfl, fun _ _ => rfl, fun _ _ h => (by cases h), fun _ h => (by cases h), fun _ h => (by cases h), ?_⟩
    have e : laidK O (fun _ => 0) ops.size (fun _ => false) = [] := by
      unfold laidK
      rw [List.filterMap_eq_nil_iff]
      intro k _
      rfl
    rw [e]
    exact h0.drew
  · rintro i o g a w ho hgi hdep ⟨N, hs, hd, hF, hV, hcl, hin, hk⟩
    have hi : i < ops.size := (Array.getElem?_eq_some_iff.1 ho).1
    obtain ⟨hw, hstep⟩ := step i o N a w _ ho (fun e he hb => ⟨hin _ (hdep e he hb), hV _ (hin _ (hdep e he hb)) (hdep e he hb)⟩) hF hk
    refine ⟨hw, fun Kc hKc => hstep Kc fun w' hw' => hKc _ _ fun g' hg' hgo => ?_⟩
    have hni : ∀ k, g k = true → i ∉ anc k := fun k hgk hm => by
      have := hcl k hgk i hm
      rw [hgi] at this
      cases this
    have hne : ∀ k, g k = true → k ≠ i := fun k hgk e => by
      rw [e, hgi] at hgk
      cases hgk
    have hg2 : ∀ k, g' k = true → k = i ∨ g k = true := fun k h => by
      by_cases e : k = i
      · exact .inl e
      · exact .inr (by rw [← hgo k e]; exact h)
    refine ⟨upd N i w.heap.size, by rw [put_size]; exact hs, hd, ?_, ?_, ?_, ?_, ?_⟩
    · intro t ht
      rw [put_other (ht i hi)]
      exact hF t ht
    · intro k hk' hgk
      rcases hg2 k hgk with rfl | hgk
      · exact put_at (by rw [hs]; exact hD k hi)
      · rw [put_other (fun e => hne k hgk (hDd k i hk' hi e)), hVi N i _ k (hni k hgk)]
        exact hV k hk' hgk
    · intro k hgk j hj
      have keep : ∀ x, g x = true → g' x = true := fun x hx => by rw [hgo x (hne x hx)]; exact hx
      rcases hg2 k hgk with rfl | hgk
      · rcases hanc k o ho j hj with rfl | ⟨e, he, hb, rfl | hje⟩
        · exact hg'
        · exact keep _ (hdep e he hb)
        · exact keep _ (hcl _ (hdep e he hb) j hje)
      · exact keep _ (hcl k hgk j hj)
    · intro k hgk
      rcases hg2 k hgk with rfl | hgk
      · exact hi
      · exact hin k hgk
    · have h1 := hw' _ hk
      refine h1.perm ?_
      unfold addK
      rw [← List.append_assoc]
      refine List.Perm.append_right K ?_
      have hp := filterMap_set (f := fun k => if g k = true then (O N k).map fun ob => (N k, ob) else none) (g := fun k => if g' k = true then (O (upd N i w.heap.size) k).map fun ob => (upd N i w.heap.size k, ob) else none) (i := i) (List.range ops.size) List.nodup_range (List.mem_range.2 hi) (by simp [hgi]) (fun j hj => by
        simp only [hgo j hj]
        by_cases hgj : g j = true
        · rw [if_pos hgj, if_pos hgj, hOi N i _ j (hni j hgj), upd_ne hj]
        · rw [if_neg hgj, if_neg hgj])
      simp only [hg', if_true, upd_eq] at hp
      exact hp.symm
  · rintro g a w hall ⟨N, hs, hd, hF, hV, _, _, hk⟩
    refine hQ N a w hs hd (fun i hi => hV i hi (hall i hi)) hF ?_
    have e : laidK O N ops.size (fun _ => true) = laidK O N ops.size g := filterMap_same fun k hk => by
      rw [if_pos (hall k (List.mem_range.1 hk)), if_pos rfl]
    rw [e]
    exact hk
end
end Go.Proofs.YtlcbilknfjdceaaGreatDoor
end
section
/-
  A machine is made: its parts, in whatever order.
-/
set_option linter.unusedVariables false
set_option linter.unusedSimpArgs false
set_option maxRecDepth 100000
namespace Go.Proofs.YtlcbilknfjdceaaGreatDoor
open Go.RowKit Go.Lib Go.Val
def findRegion (id : Nat) : Code → Option (Array Oper)
  | .region k ops _ => if k = id then some ops else none
  | .seq a b => (findRegion id a).orElse fun _ => findRegion id b
  | .cond _ a b => (findRegion id a).orElse fun _ => findRegion id b
  | .block _ b => findRegion id b
  | .loop b => findRegion id b
  | .scope b => findRegion id b
  | _ => none
noncomputable def ops38 : Array Oper := (Tryz.f38.body.bind (findRegion 3)).getD #[]
theorem size38 : ops38.size = 14 := by kernel_rfl
theorem ord38 : orderedB3 ops38 = true := by kernel_rfl
theorem ex_box {a : Act} {w w' : World} {o : Oper} {t : TypeId} {x : Operand} {v1 v : Value} (h : o.op = .box t x) (hx : a.eval x = v1) (hr : (Instr.box t v1).run Tryz.prog w = .ok v w') : (execOp a.eval o).run Tryz.prog w = .ok (.value v) w' := by
  subst hx
  cases o; simp only at h; subst h
  simp only [execOp, Sem.run_bind, hr]
  rfl
theorem ex_make {a : Act} {w w' : World} {o : Oper} {t : TypeId} {x y : Operand} {v1 v2 v : Value} (h : o.op = .makeSlice t x y) (hx : a.eval x = v1) (hy : a.eval y = v2) (hr : (Instr.makeSlice t v1 v2).run Tryz.prog w = .ok v w') : (execOp a.eval o).run Tryz.prog w = .ok (.value v) w' := by
  subst hx
  subst hy
  cases o; simp only at h; subst h
  simp only [execOp, Sem.run_bind, hr]
  rfl
/-- A machine that has no bus yet. -/
def machN (r c d u s : Nat) : Array Value := #[pt r, .pointer none, pt c, pt d, pt u, pt s, .int .u32 0, .int .u32 0, .int .u32 0, .int .u32 0, .int .u32 0, .int .u32 0, .int .u32 0, .int .u32 0, .int .u32 0, .int .u32 0, .int .u32 0, .int .u32 0, .int .u32 0, .int .u32 0, .int .u32 0, .int .u32 0, .int .u64 0, .int .i64 3, .int .u32 2147483648, .int .u32 0, .int .u32 0, .int .u32 0, .int .u32 0, .int .u32 0, .int .u32 0, .int .u32 0, .int .u32 0, .int .u32 0, .int .u32 0, .int .u32 0, .int .u32 0, .int .u32 0, .int .u32 0, .int .u32 0, .int .u32 0, .int .u32 0, .int .u32 0, .int .u32 0, .int .u32 0, .int .u32 0, .int .u32 0, .int .u32 0, .int .u32 0, .int .u32 0, .int .u32 0, .int .u32 0, .int .u32 0, .int .u32 0, .int .u32 0, .int .u32 0, .int .u32 0, .int .u32 0, .bool false, .bool false]
abbrev wordsZ : Array Value := ints .u32 (List.replicate 16 0)
def bootD (i : Nat) : Nat := #[26, 27, 28, 29, 30, 31, 32, 33, 34, 35, 36, 37, 38, 7].getD i 0
def bootV (f : Nat) (N : Nat → Nat) : Nat → Value
  | 0 => .int .i64 16
  | 1 => .slice (some ⟨N 1, 0, none⟩) 16 16
  | 2 => .agg #[.int .u32 2147483648, .slice (some ⟨N 1, 0, none⟩) 16 16]
  | 3 => pt (N 3)
  | 4 => pt (N 4)
  | 5 => pt (N 5)
  | 6 => pt (N 6)
  | 7 => .iface 30 (pt f)
  | 8 => pt (N 8)
  | 9 => .agg #[pt (N 8)]
  | 10 => .agg (hartV 0 2147483648 0)
  | 11 => .agg (machN (N 3) (N 4) (N 5) (N 6) (N 8))
  | _ => pt (N 12)
def bootO (f : Nat) (N : Nat → Nat) : Nat → Option Obj
  | 1 => some (.cells wordsZ 38)
  | 3 => some (ramO (N 1) 16 16)
  | 4 => some (clockO 0)
  | 5 => some deskO
  | 6 => some uartO
  | 8 => some (sectO f)
  | 12 => some (.cells (machN (N 3) (N 4) (N 5) (N 6) (N 8)) 122)
  | _ => none
def bootA : Nat → List Nat
  | 1 => [1]
  | 2 => [1]
  | 3 => [3, 1]
  | 4 => [4]
  | 5 => [5]
  | 6 => [6]
  | 8 => [8]
  | 9 => [8]
  | 11 => [3, 4, 5, 6, 8]
  | 12 => [12, 3, 4, 5, 6, 8]
  | 0 => []
  | 7 => []
  | 10 => []
  | _ => [12]
theorem anc38 : ((List.range 14).all fun k => match ops38[k]? with | none => true | some o => (bootA k).all fun j => j == k || o.after.any fun e => Region.binds .any e && (j == e.on || (bootA e.on).contains j)) = true := by kernel_rfl
theorem boot_anc (k : Nat) (o : Oper) (ho : ops38[k]? = some o) (j : Nat) (hj : j ∈ bootA k) : j = k ∨ ∃ e ∈ o.after, Region.binds .any e = true ∧ (j = e.on ∨ j ∈ bootA e.on) := by
  have hk : k < 14 := by rw [← size38]; exact (Array.getElem?_eq_some_iff.1 ho).1
  have h := anc38
  simp only [List.all_eq_true, List.mem_range] at h
  have h1 := h k hk
  rw [ho] at h1
  simp only [List.all_eq_true] at h1
  have h2 := h1 j hj
  simp only [Bool.or_eq_true, beq_iff_eq, Array.any_eq_true, Bool.and_eq_true, List.contains_iff_mem] at h2
  rcases h2 with h2 | ⟨i, hi, hb, h3⟩
  · exact .inl h2
  · exact .inr ⟨_, Array.getElem_mem hi, hb, h3⟩
theorem boot_V (f : Nat) (N : Nat → Nat) (i n : Nat) : ∀ k, i ∉ bootA k → bootV f (upd N i n) k = bootV f N k
  | 0, h => rfl
  | 1, h => by
    have e1 : upd N i n 1 = N 1 := upd_ne fun e => h (by rw [← e]; decide)
    simp only [bootV, e1]
  | 2, h => by
    have e1 : upd N i n 1 = N 1 := upd_ne fun e => h (by rw [← e]; decide)
    simp only [bootV, e1]
  | 3, h => by
    have e3 : upd N i n 3 = N 3 := upd_ne fun e => h (by rw [← e]; decide)
    simp only [bootV, e3]
  | 4, h => by
    have e4 : upd N i n 4 = N 4 := upd_ne fun e => h (by rw [← e]; decide)
    simp only [bootV, e4]
  | 5, h => by
    have e5 : upd N i n 5 = N 5 := upd_ne fun e => h (by rw [← e]; decide)
    simp only [bootV, e5]
  | 6, h => by
    have e6 : upd N i n 6 = N 6 := upd_ne fun e => h (by rw [← e]; decide)
    simp only [bootV, e6]
  | 7, h => rfl
  | 8, h => by
    have e8 : upd N i n 8 = N 8 := upd_ne fun e => h (by rw [← e]; decide)
    simp only [bootV, e8]
  | 9, h => by
    have e8 : upd N i n 8 = N 8 := upd_ne fun e => h (by rw [← e]; decide)
    simp only [bootV, e8]
  | 10, h => rfl
  | 11, h => by
    have e3 : upd N i n 3 = N 3 := upd_ne fun e => h (by rw [← e]; decide)
    have e4 : upd N i n 4 = N 4 := upd_ne fun e => h (by rw [← e]; decide)
    have e5 : upd N i n 5 = N 5 := upd_ne fun e => h (by rw [← e]; decide)
    have e6 : upd N i n 6 = N 6 := upd_ne fun e => h (by rw [← e]; decide)
    have e8 : upd N i n 8 = N 8 := upd_ne fun e => h (by rw [← e]; decide)
    simp only [bootV, e3, e4, e5, e6, e8]
  | 12, h => by
    have e12 : upd N i n 12 = N 12 := upd_ne fun e => h (by rw [← e]; decide)
    simp only [bootV, e12]
  | k + 13, h => by
    have e12 : upd N i n 12 = N 12 := upd_ne fun e => h (by rw [← e]; exact List.mem_singleton.2 rfl)
    show pt (upd N i n 12) = pt (N 12)
    rw [e12]
theorem boot_O (f : Nat) (N : Nat → Nat) (i n : Nat) : ∀ k, i ∉ bootA k → bootO f (upd N i n) k = bootO f N k
  | 0, h => rfl
  | 1, h => rfl
  | 2, h => rfl
  | 3, h => by
    have e1 : upd N i n 1 = N 1 := upd_ne fun e => h (by rw [← e]; decide)
    simp only [bootO, e1]
  | 4, h => rfl
  | 5, h => rfl
  | 6, h => rfl
  | 7, h => rfl
  | 8, h => rfl
  | 9, h => rfl
  | 10, h => rfl
  | 11, h => rfl
  | 12, h => by
    have e3 : upd N i n 3 = N 3 := upd_ne fun e => h (by rw [← e]; decide)
    have e4 : upd N i n 4 = N 4 := upd_ne fun e => h (by rw [← e]; decide)
    have e5 : upd N i n 5 = N 5 := upd_ne fun e => h (by rw [← e]; decide)
    have e6 : upd N i n 6 = N 6 := upd_ne fun e => h (by rw [← e]; decide)
    have e8 : upd N i n 8 = N 8 := upd_ne fun e => h (by rw [← e]; decide)
    simp only [bootO, e3, e4, e5, e6, e8]
  | k + 13, h => rfl
theorem run_build153 (n : Nat) (w : World) : (Instr.build 153 #[(0, .int .u32 2147483648), (1, .slice (some ⟨n, 0, none⟩) 16 16)]).run Tryz.prog w = .ok (.agg #[.int .u32 2147483648, .slice (some ⟨n, 0, none⟩) 16 16]) w := by kernel_rfl
theorem run_box153 (n : Nat) (w : World) : (Instr.box 153 (.agg #[.int .u32 2147483648, .slice (some ⟨n, 0, none⟩) 16 16])).run Tryz.prog w = .ok (pt w.heap.size) (w.alloc (ramO n 16 16)) := by kernel_rfl
theorem run_build120 (n : Nat) (w : World) : (Instr.build 120 #[(0, pt n)]).run Tryz.prog w = .ok (.agg #[pt n]) w := by kernel_rfl
theorem run_build122 (r c d u s : Nat) (w : World) : (Instr.build 122 #[(0, pt r), (2, pt c), (3, pt d), (4, pt u), (5, .agg #[pt s]), (6, .agg (hartV 0 2147483648 0))]).run Tryz.prog w = .ok (.agg (machN r c d u s)) w := by kernel_rfl
theorem run_box122 (r c d u s : Nat) (w : World) : (Instr.box 122 (.agg (machN r c d u s))).run Tryz.prog w = .ok (pt w.heap.size) (w.alloc (.cells (machN r c d u s) 122)) := by kernel_rfl
end Go.Proofs.YtlcbilknfjdceaaGreatDoor
end
section
/-
  A machine is made: its parts, in whatever order; the region.
-/
set_option linter.unusedVariables false
set_option linter.unusedSimpArgs false
set_option maxRecDepth 100000
namespace Go.Proofs.YtlcbilknfjdceaaGreatDoor
open Go.RowKit Go.Lib Go.Val
theorem dep_at {ops : Array Oper} {i j : Nat} {o : Oper} {p : Nat → Prop} (ho : ops[i]? = some o) (hj : ((ops[i]?).map fun o => o.after.any fun e => e.on == j && Region.binds .any e) = some true) (h : ∀ e ∈ o.after, Region.binds .any e = true → p e.on) : p j := by
  rw [ho] at hj
  simp only [Option.map_some, Option.some.injEq, Array.any_eq_true, Bool.and_eq_true, beq_iff_eq] at hj
  obtain ⟨k, hk, he, hb⟩ := hj
  rw [← he]
  exact h _ (Array.getElem_mem hk) hb
def bootL (f : Nat) (N : Nat → Nat) (K : Blocks) : Blocks := (N 1, .cells wordsZ 38) :: (N 3, ramO (N 1) 16 16) :: (N 4, clockO 0) :: (N 5, deskO) :: (N 6, uartO) :: (N 8, sectO f) :: (N 12, .cells (machN (N 3) (N 4) (N 5) (N 6) (N 8)) 122) :: K
theorem boot_laid (f : Nat) (N : Nat → Nat) (K : Blocks) : laidK (bootO f) N 14 (fun _ => true) ++ K = bootL f N K := rfl
theorem bootD_lt : ∀ i, i < 14 → bootD i < 100 := by decide
theorem bootD_ne : ∀ i, i < 14 → ∀ j, j < 14 → bootD i = bootD j → i = j := by decide
theorem region38 {Q : Exit → Act → World → Prop} {id : Nat} {ops : Array Oper} (hops : ops = ops38) (a0 : Act) {B : Nat} {W w : World} {K : Blocks} (f : Nat) (hsz : a0.tmps.size = 100) (t0 : a0.tmps[0]? = some (.int .i64 16)) (t2 : a0.tmps[2]? = some (.iface 30 (pt f))) (h : KW B W K w)
    (hQ : ∀ N w', KW B W (bootL f N K) w' → ∀ J : Act → Prop, (∀ a, Q .normal a w' → J a) → J ((((((((((((((a0.put (some 26) (.int .i64 16)).put (some 27) (.slice (some ⟨N 1, 0, none⟩) 16 16)).put (some 28) (.agg #[.int .u32 2147483648, .slice (some ⟨N 1, 0, none⟩) 16 16])).put (some 29) (pt (N 3))).put (some 30) (pt (N 4))).put (some 31) (pt (N 5))).put (some 32) (pt (N 6))).put (some 33) (.iface 30 (pt f))).put (some 34) (pt (N 8))).put (some 35) (.agg #[pt (N 8)])).put (some 36) (.agg (hartV 0 2147483648 0))).put (some 37) (.agg (machN (N 3) (N 4) (N 5) (N 6) (N 8)))).put (some 38) (pt (N 12))).put (some 7) (pt (N 12)))) :
    (Code.region id ops true).wp Tryz.prog Q a0 w := by
  subst hops
  refine wp_region_made (by kernel_rfl) ord38 bootD (bootV f) (bootO f) bootA (fun i hi => by rw [hsz]; exact bootD_lt i (size38 ▸ hi)) (fun i j hi hj => bootD_ne i (size38 ▸ hi) j (size38 ▸ hj)) (fun N i n k hk => boot_V f N i n k hk) (fun N i n k hk => boot_O f N i n k hk) boot_anc h ?_ ?_
  · intro i o N a w L ho hdep hfr hk
    have hlt : i < 14 := by rw [← size38]; exact (Array.getElem?_eq_some_iff.1 ho).1
    have s0 : a.eval (.tmp 0) = .int .i64 16 := eval_of ((hfr 0 (fun j hj e => by rw [size38] at hj; revert e; exact (show ∀ j, j < 14 → ¬ 0 = bootD j by decide) j hj)).trans t0)
    have s2 : a.eval (.tmp 2) = .iface 30 (pt f) := eval_of ((hfr 2 (fun j hj e => by rw [size38] at hj; revert e; exact (show ∀ j, j < 14 → ¬ 2 = bootD j by decide) j hj)).trans t2)
    have at_ : ∀ j, ((ops38[i]?).map fun o => o.after.any fun e => e.on == j && Region.binds .any e) = some true → a.eval (.tmp (bootD j)) = bootV f N j := fun j hj => eval_of (dep_at (p := fun j => j < ops38.size ∧ a.tmps[bootD j]? = some (bootV f N j)) ho hj hdep).2
    rcases (by omega : i = 0 ∨ i = 1 ∨ i = 2 ∨ i = 3 ∨ i = 4 ∨ i = 5 ∨ i = 6 ∨ i = 7 ∨ i = 8 ∨ i = 9 ∨ i = 10 ∨ i = 11 ∨ i = 12 ∨ i = 13) with rfl | rfl | rfl | rfl | rfl | rfl | rfl | rfl | rfl | rfl | rfl | rfl | rfl | rfl
    · have hi : 0 < 14 := hlt
      refine ⟨wanted_free (guard_in ho (by kernel_rfl)), fun Kc hKc => ?_⟩
      have hd := dst_in (x := some 26) ho (by kernel_rfl)
      have hop := op_in (x := Op.move (.tmp 0)) ho (by kernel_rfl)
      refine wp_value (ex_move hop s0) ?_
      rw [hd]
      exact hKc _ fun L' h => h
    · have hi : 1 < 14 := hlt
      refine ⟨wanted_free (guard_in ho (by kernel_rfl)), fun Kc hKc => ?_⟩
      have hd := dst_in (x := some 27) ho (by kernel_rfl)
      have hop := op_in (x := Op.makeSlice 34 (.tmp 26) (.tmp 26)) ho (by kernel_rfl)
      refine wp_value (ex_make hop (at_ 0 (by kernel_rfl)) (at_ 0 (by kernel_rfl)) (make34 16 (by decide) w)) ?_
      rw [hd]
      exact hKc _ fun L' h => h.push _
    · have hi : 2 < 14 := hlt
      refine ⟨wanted_free (guard_in ho (by kernel_rfl)), fun Kc hKc => ?_⟩
      have hd := dst_in (x := some 28) ho (by kernel_rfl)
      have hop := op_in (x := Op.build 153 #[(0, .const (.int .u32 2147483648)), (1, .tmp 27)]) ho (by kernel_rfl)
      refine wp_value (ex_bld hop (qs := #[(0, .int .u32 2147483648), (1, .slice (some ⟨N 1, 0, none⟩) 16 16)]) (by have e := (at_ 1 (by kernel_rfl)); simp only [List.map_toArray, List.map_cons, List.map_nil]; rw [show a.eval (.tmp 27) = _ from e]; rfl) (run_build153 _ w)) ?_
      rw [hd]
      exact hKc _ fun L' h => h
    · have hi : 3 < 14 := hlt
      refine ⟨wanted_free (guard_in ho (by kernel_rfl)), fun Kc hKc => ?_⟩
      have hd := dst_in (x := some 29) ho (by kernel_rfl)
      have hop := op_in (x := Op.box 153 (.tmp 28)) ho (by kernel_rfl)
      refine wp_value (ex_box hop (at_ 2 (by kernel_rfl)) (run_box153 _ w)) ?_
      rw [hd]
      exact hKc _ fun L' h => h.push _
    · have hi : 4 < 14 := hlt
      refine ⟨wanted_free (guard_in ho (by kernel_rfl)), fun Kc hKc => ?_⟩
      have hd := dst_in (x := some 30) ho (by kernel_rfl)
      have hop := op_in (x := Op.call { callee := .value (.func 68), args := #[], argTypes := #[] }) ho (by kernel_rfl)
      refine wp_enter (ex_call hop (vs := #[]) (by simp [Act.eval]) Tryz.func68 (by kernel_rfl) (by kernel_rfl)) (clock68 w) ?_
      rintro e w' ⟨rfl, rfl⟩
      refine ⟨_, rfl, ?_⟩
      rw [hd]
      exact hKc _ fun L' h => h.push _
    · have hi : 5 < 14 := hlt
      refine ⟨wanted_free (guard_in ho (by kernel_rfl)), fun Kc hKc => ?_⟩
      have hd := dst_in (x := some 31) ho (by kernel_rfl)
      have hop := op_in (x := Op.call { callee := .value (.func 69), args := #[], argTypes := #[] }) ho (by kernel_rfl)
      refine wp_enter (ex_call hop (vs := #[]) (by simp [Act.eval]) Tryz.func69 (by kernel_rfl) (by kernel_rfl)) (desk69 w) ?_
      rintro e w' ⟨rfl, rfl⟩
      refine ⟨_, rfl, ?_⟩
      rw [hd]
      exact hKc _ fun L' h => h.push _
    · have hi : 6 < 14 := hlt
      refine ⟨wanted_free (guard_in ho (by kernel_rfl)), fun Kc hKc => ?_⟩
      have hd := dst_in (x := some 32) ho (by kernel_rfl)
      have hop := op_in (x := Op.call { callee := .value (.func 70), args := #[], argTypes := #[] }) ho (by kernel_rfl)
      refine wp_enter (ex_call hop (vs := #[]) (by simp [Act.eval]) Tryz.func70 (by kernel_rfl) (by kernel_rfl)) (uart70 w) ?_
      rintro e w' ⟨rfl, rfl⟩
      refine ⟨_, rfl, ?_⟩
      rw [hd]
      exact hKc _ fun L' h => h.push _
    · have hi : 7 < 14 := hlt
      refine ⟨wanted_free (guard_in ho (by kernel_rfl)), fun Kc hKc => ?_⟩
      have hd := dst_in (x := some 33) ho (by kernel_rfl)
      have hop := op_in (x := Op.move (.tmp 2)) ho (by kernel_rfl)
      refine wp_value (ex_move hop s2) ?_
      rw [hd]
      exact hKc _ fun L' h => h
    · have hi : 8 < 14 := hlt
      refine ⟨wanted_free (guard_in ho (by kernel_rfl)), fun Kc hKc => ?_⟩
      have hd := dst_in (x := some 34) ho (by kernel_rfl)
      have hop := op_in (x := Op.call { callee := .value (.func 71), args := #[.tmp 33], argTypes := #[151] }) ho (by kernel_rfl)
      refine wp_enter (ex_call hop (vs := #[.iface 30 (pt f)]) (by simp [show a.eval (.tmp 33) = .iface 30 (pt f) from (at_ 7 (by kernel_rfl))]; try rfl) Tryz.func71 (by kernel_rfl) (by kernel_rfl)) (sect71 f w) ?_
      rintro e w' ⟨rfl, rfl⟩
      refine ⟨_, rfl, ?_⟩
      rw [hd]
      exact hKc _ fun L' h => h.push _
    · have hi : 9 < 14 := hlt
      refine ⟨wanted_free (guard_in ho (by kernel_rfl)), fun Kc hKc => ?_⟩
      have hd := dst_in (x := some 35) ho (by kernel_rfl)
      have hop := op_in (x := Op.build 120 #[(0, .tmp 34)]) ho (by kernel_rfl)
      refine wp_value (ex_bld hop (qs := #[(0, pt (N 8))]) (by have e := (at_ 8 (by kernel_rfl)); simp only [List.map_toArray, List.map_cons, List.map_nil]; rw [show a.eval (.tmp 34) = _ from e]; rfl) (run_build120 _ w)) ?_
      rw [hd]
      exact hKc _ fun L' h => h
    · have hi : 10 < 14 := hlt
      refine ⟨wanted_free (guard_in ho (by kernel_rfl)), fun Kc hKc => ?_⟩
      have hd := dst_in (x := some 36) ho (by kernel_rfl)
      have hop := op_in (x := Op.call { callee := .value (.func 72), args := #[.const (.int .u32 2147483648)], argTypes := #[38] }) ho (by kernel_rfl)
      refine wp_enter (ex_call hop (vs := #[.int .u32 2147483648]) (by simp [Act.eval]) Tryz.func72 (by kernel_rfl) (by kernel_rfl)) (hart72 2147483648 w) ?_
      rintro e w' ⟨rfl, hb⟩
      refine ⟨_, rfl, ?_⟩
      rw [hd]
      exact hKc _ fun L' h => h.grown hb
    · have hi : 11 < 14 := hlt
      refine ⟨wanted_free (guard_in ho (by kernel_rfl)), fun Kc hKc => ?_⟩
      have hd := dst_in (x := some 37) ho (by kernel_rfl)
      have hop := op_in (x := Op.build 122 #[(0, .tmp 29), (2, .tmp 30), (3, .tmp 31), (4, .tmp 32), (5, .tmp 35), (6, .tmp 36)]) ho (by kernel_rfl)
      refine wp_value (ex_bld hop (qs := #[(0, pt (N 3)), (2, pt (N 4)), (3, pt (N 5)), (4, pt (N 6)), (5, .agg #[pt (N 8)]), (6, .agg (hartV 0 2147483648 0))]) (by have e3 := (at_ 3 (by kernel_rfl)); have e4 := (at_ 4 (by kernel_rfl)); have e5 := (at_ 5 (by kernel_rfl)); have e6 := (at_ 6 (by kernel_rfl)); have e9 := (at_ 9 (by kernel_rfl)); have e10 := (at_ 10 (by kernel_rfl)); simp only [List.map_toArray, List.map_cons, List.map_nil]; rw [show a.eval (.tmp 29) = _ from e3, show a.eval (.tmp 30) = _ from e4, show a.eval (.tmp 31) = _ from e5, show a.eval (.tmp 32) = _ from e6, show a.eval (.tmp 35) = _ from e9, show a.eval (.tmp 36) = _ from e10]; rfl) (run_build122 _ _ _ _ _ w)) ?_
      rw [hd]
      exact hKc _ fun L' h => h
    · have hi : 12 < 14 := hlt
      refine ⟨wanted_free (guard_in ho (by kernel_rfl)), fun Kc hKc => ?_⟩
      have hd := dst_in (x := some 38) ho (by kernel_rfl)
      have hop := op_in (x := Op.box 122 (.tmp 37)) ho (by kernel_rfl)
      refine wp_value (ex_box hop (at_ 11 (by kernel_rfl)) (run_box122 _ _ _ _ _ w)) ?_
      rw [hd]
      exact hKc _ fun L' h => h.push _
    · have hi : 13 < 14 := hlt
      refine ⟨wanted_free (guard_in ho (by kernel_rfl)), fun Kc hKc => ?_⟩
      have hd := dst_in (x := some 7) ho (by kernel_rfl)
      have hop := op_in (x := Op.assign (.tmp 38)) ho (by kernel_rfl)
      refine wp_value (ex_assign hop (at_ 12 (by kernel_rfl))) ?_
      rw [hd]
      exact hKc _ fun L' h => h
  · intro N a w hs hd hv hf hk
    rw [size38, boot_laid] at hk
    have e := act_chain a a0 hs hd ((List.range 14).map fun k => (bootD k, bootV f N k)) (fun q hq => by
      obtain ⟨k, hk, rfl⟩ := List.mem_map.1 hq
      exact hv k (by rw [size38]; exact List.mem_range.1 hk)) (fun t ht => hf t fun j hj e => ht (List.mem_map.2 ⟨(bootD j, bootV f N j), List.mem_map.2 ⟨j, List.mem_range.2 (size38 ▸ hj), rfl⟩, e.symm⟩))
    rw [e]
    exact hQ N w hk (fun a => Q .normal a w) (fun _ h => h)
end Go.Proofs.YtlcbilknfjdceaaGreatDoor
end
