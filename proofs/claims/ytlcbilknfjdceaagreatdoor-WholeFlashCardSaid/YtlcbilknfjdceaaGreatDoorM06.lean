/-
  WholeFlash, part 6 of 44: Cmd, Mp, Jobx.
-/
import Derived.Laws.EntriesVeiled
import Derived.MapFrom
import Derived.Deep.RegionWith
import Derived.Deep.Cut
import Derived.Deep.QuietTactic
import Derived.BigQuiet
import Derived.Test.YtlcbilknfjdceaaGreatDoorM05
section
/-
  The flash before the chip: commands.
-/
set_option linter.unusedVariables false
set_option linter.unusedSimpArgs false
namespace Go.Proofs.YtlcbilknfjdceaaGreatDoor
open Go.RowKit Go.Lib
section
variable {B : Nat} {W w : World} {K : Blocks} {C : Ch} {a : At} {F : Fl}
theorem cmdread_calls (h : KW B W (flK F C a ++ K) w) : Calls Tryz.prog 140 #[.pointer (some ⟨F.f, 0, none⟩), .int .u32 255] w fun e w' => e = .returned (.tuple #[]) ∧ KW B W (flK { F with mode := 0 } C a ++ K) w' := by
  have m1 : w.cell? ⟨F.f, 1, none⟩ = some (.int .i64 F.mode) := cell_at (h.get (g := F.f) (o := flO F a) (by simp)) 1
  have m2 : w.cell? ⟨F.f, 2, none⟩ = some F.wait := cell_at (h.get (g := F.f) (o := flO F a) (by simp)) 2
  have f1 : w.frozen? ⟨F.f, 1, none⟩ = false := free_at (h.get (g := F.f) (o := flO F a) (by simp)) 1
  have f2 : w.frozen? ⟨F.f, 2, none⟩ = false := free_at (h.get (g := F.f) (o := flO F a) (by simp)) 2
  have H := _root_.Go.Lib.hid h
  clear h
  go_enter Tryz.func140, Tryz.ntmps140
  go_wp2
  refine bodyPost_end (v := .tuple #[]) ?ga ?gb ?gx
  case ga => simp [results, Tryz.results140]
  case gb => rfl
  case gx => exact ⟨rfl, (KW.cell (i := 1) (x := .int .i64 0) (vs := #[.pointer (some ⟨a.c, 0, none⟩), .int .i64 0, F.wait, .int .u32 0, .map (some F.m), F.job]) (KW.cell (i := 1) (x := .int .i64 1) (vs := #[.pointer (some ⟨a.c, 0, none⟩), .int .i64 1, F.wait, .int .u32 0, .map (some F.m), F.job]) H.out rfl) rfl)⟩
theorem cmdprog_calls (h : KW B W (flK F C a ++ K) w) : Calls Tryz.prog 140 #[.pointer (some ⟨F.f, 0, none⟩), .int .u32 64] w fun e w' => e = .returned (.tuple #[]) ∧ KW B W (flK { F with mode := 1, wait := .func (.func 168) #[] #[] } C a ++ K) w' := by
  have m1 : w.cell? ⟨F.f, 1, none⟩ = some (.int .i64 F.mode) := cell_at (h.get (g := F.f) (o := flO F a) (by simp)) 1
  have m2 : w.cell? ⟨F.f, 2, none⟩ = some F.wait := cell_at (h.get (g := F.f) (o := flO F a) (by simp)) 2
  have f1 : w.frozen? ⟨F.f, 1, none⟩ = false := free_at (h.get (g := F.f) (o := flO F a) (by simp)) 1
  have f2 : w.frozen? ⟨F.f, 2, none⟩ = false := free_at (h.get (g := F.f) (o := flO F a) (by simp)) 2
  have H := _root_.Go.Lib.hid h
  clear h
  go_enter Tryz.func140, Tryz.ntmps140
  go_wp2
  refine bodyPost_end (v := .tuple #[]) ?ga ?gb ?gx
  case ga => simp [results, Tryz.results140]
  case gb => rfl
  case gx => exact ⟨rfl, (KW.cell (i := 2) (x := .func (.func 168) #[] #[]) (vs := #[.pointer (some ⟨a.c, 0, none⟩), .int .i64 1, .func (.func 168) #[] #[], .int .u32 0, .map (some F.m), F.job]) (KW.cell (i := 1) (x := .int .i64 1) (vs := #[.pointer (some ⟨a.c, 0, none⟩), .int .i64 1, F.wait, .int .u32 0, .map (some F.m), F.job]) H.out rfl) rfl)⟩
theorem cmderase_calls (h : KW B W (flK F C a ++ K) w) : Calls Tryz.prog 140 #[.pointer (some ⟨F.f, 0, none⟩), .int .u32 32] w fun e w' => e = .returned (.tuple #[]) ∧ KW B W (flK { F with mode := 1, wait := .func (.func 169) #[] #[] } C a ++ K) w' := by
  have m1 : w.cell? ⟨F.f, 1, none⟩ = some (.int .i64 F.mode) := cell_at (h.get (g := F.f) (o := flO F a) (by simp)) 1
  have m2 : w.cell? ⟨F.f, 2, none⟩ = some F.wait := cell_at (h.get (g := F.f) (o := flO F a) (by simp)) 2
  have f1 : w.frozen? ⟨F.f, 1, none⟩ = false := free_at (h.get (g := F.f) (o := flO F a) (by simp)) 1
  have f2 : w.frozen? ⟨F.f, 2, none⟩ = false := free_at (h.get (g := F.f) (o := flO F a) (by simp)) 2
  have H := _root_.Go.Lib.hid h
  clear h
  go_enter Tryz.func140, Tryz.ntmps140
  go_wp2
  refine bodyPost_end (v := .tuple #[]) ?ga ?gb ?gx
  case ga => simp [results, Tryz.results140]
  case gb => rfl
  case gx => exact ⟨rfl, (KW.cell (i := 2) (x := .func (.func 169) #[] #[]) (vs := #[.pointer (some ⟨a.c, 0, none⟩), .int .i64 1, .func (.func 169) #[] #[], .int .u32 0, .map (some F.m), F.job]) (KW.cell (i := 1) (x := .int .i64 1) (vs := #[.pointer (some ⟨a.c, 0, none⟩), .int .i64 1, F.wait, .int .u32 0, .map (some F.m), F.job]) H.out rfl) rfl)⟩
end
end Go.Proofs.YtlcbilknfjdceaaGreatDoor
end
section
/-
  Maps whose keys are numbers.
-/
set_option linter.unusedVariables false
set_option linter.unusedSimpArgs false
namespace Go.Proofs.YtlcbilknfjdceaaGreatDoor
open Go.RowKit Go.Lib
open Go.MapKept in
theorem u86 : Tryz.prog.underlying 86 = some (.map 3 3) := by kernel_rfl
theorem u85 : Tryz.prog.underlying 85 = some (.map 38 102) := by kernel_rfl
theorem KW.drewN {B n : Nat} {W w : World} {K : Blocks} (h : KW B W K w) : KW B W K (w.drewN n) := h.keep (fun _ _ h => h) ⟨rfl, rfl, rfl, Nat.le_refl _, fun _ _ => rfl⟩
theorem KW.obj {B g : Nat} {W w : World} {K : Blocks} {o o' : Obj} (h : KW B W ((g, o) :: K) w) : KW B W ((g, o') :: K) { w with heap := w.heap.setIfInBounds g o' } := by
  have hg := h.kept _ List.mem_cons_self
  have hn := (List.nodup_cons.1 h.nodup).1
  have hlt := lt_of_heap hg.2
  refine ⟨h.bel.trans ⟨rfl, rfl, rfl, by simp, fun k hk => ?_⟩, by simpa using h.size, fun p hp => ?_, h.nodup⟩
  · show (w.heap.setIfInBounds g o')[k]? = _
    rw [Array.getElem?_setIfInBounds_ne (by have := hg.1; simp only at this; omega)]
  · rcases List.mem_cons.1 hp with rfl | hp
    · refine ⟨hg.1, ?_⟩
      show (w.heap.setIfInBounds g o')[g]? = _
      rw [Array.getElem?_setIfInBounds_self_of_lt hlt]
    · refine ⟨(h.kept p (List.mem_cons_of_mem _ hp)).1, ?_⟩
      show (w.heap.setIfInBounds g o')[p.1]? = _
      rw [Array.getElem?_setIfInBounds_ne fun e => hn (List.mem_map.2 ⟨p, hp, e.symm⟩)]
      exact (h.kept p (List.mem_cons_of_mem _ hp)).2
open Go.MapKept in
theorem look86 {m : Nat} {w : World} {c : Nat} (h : w.heap[m]? = some (.map #[] c)) (k : Int) : (Instr.lookup 86 (.map (some m)) (.int .i64 k) false).run Tryz.prog w = .ok (.int .i64 0) w := by
  have hz : ∀ w, (zeroValue 3).run Tryz.prog w = .ok (.int .i64 0) w := fun w => by kernel_rfl
  have hf : Instr.findNow (.int .i64) (.int .i64 k) (#[] : Array MapEntry).toList 0 = some none := rfl
  simp [Instr.lookup, run_underlying u86, MapKept.run_getObj_map h, run_checkKey Tryz.underlying3 (show IsKey (.int .i64) (.int .i64 k) by simp [IsKey]), run_findKey Tryz.underlying3 hf, hz, Result.andThen]
/-- What a map has at a number. -/
def lookE (es : Array MapEntry) (k : Int) : Option Value := (es.toList.find? fun e => match e.key with | .int _ j => decide (j = k) | _ => false).map (·.val)
/-- All keys are numbers of 32 bits. -/
def KeysE (es : Array MapEntry) : Prop := ∀ e ∈ es.toList, ∃ j, e.key = .int .u32 j
theorem find_now {es : List MapEntry} (h : ∀ e ∈ es, ∃ j, e.key = .int .u32 j) (k : Int) : ∀ n, (Instr.findNow (.int .u32) (.int .u32 k) es n = some none ∧ (es.find? fun e => match e.key with | .int _ j => decide (j = k) | _ => false) = none) ∨
    ∃ i e, Instr.findNow (.int .u32) (.int .u32 k) es n = some (some (n + i, e.val)) ∧ es[i]? = some e ∧ e.key = .int .u32 k ∧ (es.find? fun e => match e.key with | .int _ j => decide (j = k) | _ => false) = some e ∧ ∀ j x, j < i → es[j]? = some x → x.key ≠ .int .u32 k := by
  induction es with
  | nil => intro n; exact .inl ⟨rfl, rfl⟩
  | cons e es ih =>
    intro n
    obtain ⟨j, hj⟩ := h e List.mem_cons_self
    by_cases ejk : j = k
    · subst ejk
      refine .inr ⟨0, e, ?_, rfl, hj, ?_, fun _ _ h => absurd h (Nat.not_lt_zero _)⟩
      · simp [Instr.findNow, Instr.sameNow, hj]
      · simp [hj]
    · have e1 : Instr.findNow (.int .u32) (.int .u32 k) (e :: es) n = Instr.findNow (.int .u32) (.int .u32 k) es (n + 1) := by
        have : (k == j) = false := by simp; omega
        simp [Instr.findNow, Instr.sameNow, hj, this]
      have e2 : ((e :: es).find? fun e => match e.key with | .int _ j => decide (j = k) | _ => false) = (es.find? fun e => match e.key with | .int _ j => decide (j = k) | _ => false) := by
        simp [hj, ejk]
      rw [e1, e2]
      rcases ih (fun x hx => h x (List.mem_cons_of_mem _ hx)) (n + 1) with h1 | ⟨i, x, h1, h2, h3, h4, h5⟩
      · exact .inl h1
      · refine .inr ⟨i + 1, x, by rw [h1]; congr 3; omega, h2, h3, h4, fun q y hq hy => ?_⟩
        cases q with
        | zero =>
          simp only [List.getElem?_cons_zero, Option.some.injEq] at hy
          subst hy
          rw [hj]
          simp [ejk]
        | succ q => exact h5 q y (by omega) hy
theorem find_mod {k : Int} {v : Value} {e : MapEntry} (s : Int) : ∀ (l : List MapEntry) (i : Nat), (∀ x ∈ l, ∃ j, x.key = .int .u32 j) → l[i]? = some e → e.key = .int .u32 k → (∀ j x, j < i → l[j]? = some x → x.key ≠ .int .u32 k) →
    ((l.modify i fun e => { e with key := .int .u32 k, val := v }).find? fun e => match e.key with | .int _ j => decide (j = s) | _ => false).map (·.val) = if s = k then some v else (l.find? fun e => match e.key with | .int _ j => decide (j = s) | _ => false).map (·.val) := by
  intro l
  induction l with
  | nil => intro i _ h; cases h
  | cons x l ih =>
    intro i hk h2 h3 h5
    cases i with
    | zero =>
      simp only [List.getElem?_cons_zero, Option.some.injEq] at h2
      subst h2
      by_cases e : s = k
      · subst e; simp
      · have : ¬ k = s := fun h => e h.symm
        simp [e, this, h3]
    | succ i =>
      obtain ⟨j, hj⟩ := hk x List.mem_cons_self
      have hn : x.key ≠ .int .u32 k := h5 0 x (by omega) rfl
      have hjk : j ≠ k := fun e => hn (by rw [hj, e])
      have ih' := ih i (fun y hy => hk y (List.mem_cons_of_mem _ hy)) (by simpa using h2) h3 (fun q y hq hy => h5 (q + 1) y (by omega) (by simpa using hy))
      by_cases e : s = k
      · subst e
        rw [if_pos rfl] at ih' ⊢
        simp only [List.modify_succ_cons, List.find?_cons, hj, hjk, decide_false]
        exact ih'
      · by_cases ej : j = s
        · subst ej
          simp [hj, e]
        · simp only [List.modify_succ_cons, List.find?_cons, hj, ej, decide_false]
          exact ih'
open Go.MapKept in
theorem look85_some {m : Nat} {w : World} {c : Nat} {es : Array MapEntry} (h : w.heap[m]? = some (.map es c)) (hk : KeysE es) {k : Int} {v : Value} (he : lookE es k = some v) :
    (Instr.lookup 85 (.map (some m)) (.int .u32 k) true).run Tryz.prog w = .ok (.tuple #[v, .bool true]) w := by
  rcases find_now hk k 0 with ⟨_, h2⟩ | ⟨i, e, h1, h2, h3, h4, _⟩
  · unfold lookE at he
    rw [h2] at he
    cases he
  · unfold lookE at he
    rw [h4] at he
    cases he
    simp [Instr.lookup, run_underlying u85, MapKept.run_getObj_map h, run_checkKey Tryz.underlying38 (show IsKey (.int .u32) (.int .u32 k) by simp [IsKey]), run_findKey Tryz.underlying38 h1, Result.andThen]
abbrev zeroPlace : Value := .agg #[.int .i64 0, .int .i64 0, .int .u32 0, .int .u32 0, .bool false, .int .u32 0, .int .u32 0, .int .u32 0, .int .u32 0]
open Go.MapKept in
theorem look85_none {m : Nat} {w : World} {c : Nat} {es : Array MapEntry} (h : w.heap[m]? = some (.map es c)) (hk : KeysE es) {k : Int} (he : lookE es k = none) :
    (Instr.lookup 85 (.map (some m)) (.int .u32 k) true).run Tryz.prog w = .ok (.tuple #[zeroPlace, .bool false]) w := by
  have hz : ∀ w, (zeroValue 102).run Tryz.prog w = .ok zeroPlace w := fun w => by kernel_rfl
  rcases find_now hk k 0 with ⟨h1, _⟩ | ⟨i, e, h1, h2, h3, h4, _⟩
  · simp [Instr.lookup, run_underlying u85, MapKept.run_getObj_map h, run_checkKey Tryz.underlying38 (show IsKey (.int .u32) (.int .u32 k) by simp [IsKey]), run_findKey Tryz.underlying38 h1, hz, Result.andThen]
  · unfold lookE at he
    rw [h4] at he
    cases he
open Go.MapKept in
theorem update85 {m : Nat} {w : World} {c : Nat} {es : Array MapEntry} (h : w.heap[m]? = some (.map es c)) (hk : KeysE es) (k : Int) (v : Value) :
    ∃ es' c', (Instr.mapUpdate 85 (.map (some m)) (.int .u32 k) v).run Tryz.prog w = .ok () { w with heap := w.heap.setIfInBounds m (.map es' c') } ∧ KeysE es' ∧ ∀ s, lookE es' s = if s = k then some v else lookE es s := by
  rcases find_now hk k 0 with ⟨h1, h2⟩ | ⟨i, e, h1, h2, h3, h4, h5⟩
  · refine ⟨es.push ⟨.int .u32 k, v, c⟩, c + 1, ?_, ?_, fun s => ?_⟩
    · simp [Instr.mapUpdate, run_underlying u85, MapKept.run_getObj_map h, run_checkKey Tryz.underlying38 (show IsKey (.int .u32) (.int .u32 k) by simp [IsKey]), run_findKey Tryz.underlying38 h1, MapKept.run_setObj_map _ h, Result.andThen]
    · intro x hx
      rw [Array.toList_push, List.mem_append, List.mem_singleton] at hx
      rcases hx with hx | rfl
      · exact hk x hx
      · exact ⟨k, rfl⟩
    · unfold lookE
      rw [Array.toList_push, List.find?_append]
      by_cases e : s = k
      · subst e
        rw [h2, if_pos rfl]
        simp
      · rw [if_neg e]
        have : ¬ k = s := fun h => e h.symm
        simp [this]
  · have hi : i < es.size := by
      have := (List.getElem?_eq_some_iff.1 h2).1
      simpa using this
    have hie : es[i]? = some e := by simpa using h2
    have hks : Instr.keyThatStays (((es[0 + i]?).map (·.key)).getD (.int .u32 k)) (.int .u32 k) = pure (.int .u32 k) := by
      rw [Nat.zero_add, hie]
      simp [Instr.keyThatStays, h3, Instr.sameBits]
    refine ⟨es.modify i fun e => { e with key := .int .u32 k, val := v }, c, ?_, ?_, fun s => ?_⟩
    · have h1' := run_findKey (P := Tryz.prog) (w := w) Tryz.underlying38 h1
      rw [Nat.zero_add] at hks h1'
      simp [Instr.mapUpdate, run_underlying u85, MapKept.run_getObj_map h, run_checkKey Tryz.underlying38 (show IsKey (.int .u32) (.int .u32 k) by simp [IsKey]), h1', hks, MapKept.run_setObj_map _ h, Result.andThen]
    · intro x hx
      rw [Array.toList_modify] at hx
      obtain ⟨q, hq⟩ := List.getElem?_of_mem hx
      rw [List.getElem?_modify] at hq
      obtain ⟨y, hy, rfl⟩ := Option.map_eq_some_iff.1 hq
      by_cases e : i = q
      · simp only [if_pos e]; exact ⟨k, rfl⟩
      · simp only [if_neg e]; exact hk _ (List.mem_of_getElem? hy)
    · unfold lookE
      rw [Array.toList_modify]
      exact find_mod s es.toList i hk h2 h3 h5
end Go.Proofs.YtlcbilknfjdceaaGreatDoor
end
section
/-
  The flash before the chip: what a command is of comes, and becomes a job.
-/
set_option linter.unusedVariables false
set_option linter.unusedSimpArgs false
namespace Go.Proofs.YtlcbilknfjdceaaGreatDoor
open Go.RowKit Go.Lib
section
variable {B : Nat} {W w : World} {K : Blocks} {C : Ch} {a : At} {F : Fl}
abbrev boxO (v : Value) (t : TypeId) : Obj := .cells #[v] t
theorem job_in4 {p q r s : Nat × Obj} {x : Value} (h : KW B W (s :: r :: q :: p :: (flK F C a ++ K)) w) : KW B W (flK { F with job := x } C a ++ s :: p :: q :: r :: K) (w.setCell ⟨F.f, 5, none⟩ x) := by
  have h1 : KW B W ((F.f, flO F a) :: ([(F.m, .map #[] 0)] ++ chK C a ++ s :: p :: q :: r :: K)) w := h.perm (by
    have e := List.perm_append_comm (l₁ := [s, r, q, p]) (l₂ := flK F C a ++ K)
    refine e.trans ?_
    show (flK F C a ++ K ++ [s, r, q, p]).Perm (flK F C a ++ ([s, p, q, r] ++ K))
    rw [List.append_assoc]
    refine List.Perm.append_left _ (List.perm_append_comm.trans ?_)
    refine List.Perm.append_right _ ?_
    exact (List.Perm.cons s ((List.Perm.swap q r [p]).trans ((List.Perm.cons q (List.Perm.swap p r [])).trans (List.Perm.swap p q [r])))))
  exact KW.cell h1 rfl
theorem job_in3 {q r s : Nat × Obj} {x : Value} (h : KW B W (s :: r :: q :: (flK F C a ++ K)) w) : KW B W (flK { F with job := x } C a ++ s :: q :: r :: K) (w.setCell ⟨F.f, 5, none⟩ x) := by
  have h1 : KW B W ((F.f, flO F a) :: ([(F.m, .map #[] 0)] ++ chK C a ++ s :: q :: r :: K)) w := h.perm (by
    have e := List.perm_append_comm (l₁ := [s, r, q]) (l₂ := flK F C a ++ K)
    refine e.trans ?_
    show (flK F C a ++ K ++ [s, r, q]).Perm (flK F C a ++ ([s, q, r] ++ K))
    rw [List.append_assoc]
    refine List.Perm.append_left _ (List.perm_append_comm.trans ?_)
    refine List.Perm.append_right _ ?_
    exact List.Perm.cons s (List.Perm.swap q r []))
  exact KW.cell h1 rfl
set_option maxRecDepth 100000 in
theorem fprog_calls (h : KW B W (flK F C a ++ K) w) (i : Nat) (v : Int) (hi : i < 320) : Calls Tryz.prog 168 #[.pointer (some ⟨F.f, 0, none⟩), .int .i64 (i : Int), .int .u32 v] w fun e w' => e = .returned (.tuple #[]) ∧ ∃ j bf ba bv, KW B W (flK { F with job := .pointer (some ⟨j, 0, none⟩) } C a ++ (j, jobO 3 (.func (.func 196) #[] #[.pointer (some ⟨bf, 0, none⟩), .pointer (some ⟨ba, 0, none⟩), .pointer (some ⟨bv, 0, none⟩)])) :: (bf, boxO (.pointer (some ⟨F.f, 0, none⟩)) 80) :: (ba, boxO (.int .i64 (i : Int)) 3) :: (bv, boxO (.int .u32 v) 38) :: K) w' := by
  have h2 := ((h.push (boxO (.pointer (some ⟨F.f, 0, none⟩)) 80)).push (boxO (.int .i64 (i : Int)) 3)).push (boxO (.int .u32 v) 38)
  simp only [World.size_alloc] at h2
  have H2 := _root_.Go.Lib.hid h2
  clear h h2
  go_enter Tryz.func168, Tryz.ntmps168
  go_wp2_with fail
  have h2 := H2.out
  clear H2
  generalize World.alloc (World.alloc (World.alloc w _) _) _ = w1 at h2 ⊢
  generalize w.heap.size = bf at h2 ⊢
  have m4 : w1.cell? ⟨F.f, 4, none⟩ = some (.map (some F.m)) := cell_at (h2.get (g := F.f) (o := flO F a) (by simp)) 4
  have m5 : w1.cell? ⟨F.f, 5, none⟩ = some (F.job) := cell_at (h2.get (g := F.f) (o := flO F a) (by simp)) 5
  have f5 : w1.frozen? ⟨F.f, 5, none⟩ = false := free_at (h2.get (g := F.f) (o := flO F a) (by simp)) 5
  have x0 : w1.cell? ⟨bf, 0, none⟩ = some (.pointer (some ⟨F.f, 0, none⟩)) := cell_at (h2.get (g := bf) (o := boxO (.pointer (some ⟨F.f, 0, none⟩)) 80) (by simp)) 0
  have x1 : w1.cell? ⟨(bf+1), 0, none⟩ = some (.int .i64 (i : Int)) := cell_at (h2.get (g := (bf+1)) (o := boxO (.int .i64 (i : Int)) 3) (by simp)) 0
  have x2 : w1.cell? ⟨(bf+1+1), 0, none⟩ = some (.int .u32 v) := cell_at (h2.get (g := (bf+1+1)) (o := boxO (.int .u32 v) 38) (by simp)) 0
  have mm : w1.heap[F.m]? = some (.map #[] 0) := h2.get (g := F.m) (o := .map #[] 0) (by simp)
  have lk : ∀ n k, (Instr.lookup 86 (.map (some F.m)) (.int .i64 k) false).run Tryz.prog (w1.drewN n) = .ok (.int .i64 0) (w1.drewN n) := fun n k => look86 (w := w1.drewN n) (c := 0) mm k
  clear mm
  have H := _root_.Go.Lib.hid h2
  clear h2
  go_quiet ((fail))
  rename_i nq
  have h3 := H.out.drewN (n := nq)
  generalize World.drewN w1 nq = w2 at h3 ⊢
  clear lk m4 m5 f5 x0 x1 x2 H
  have m5 : w2.cell? ⟨F.f, 5, none⟩ = some (F.job) := cell_at (h3.get (g := F.f) (o := flO F a) (by simp)) 5
  have f5 : w2.frozen? ⟨F.f, 5, none⟩ = false := free_at (h3.get (g := F.f) (o := flO F a) (by simp)) 5
  have x0 : w2.cell? ⟨bf, 0, none⟩ = some (.pointer (some ⟨F.f, 0, none⟩)) := cell_at (h3.get (g := bf) (o := boxO (.pointer (some ⟨F.f, 0, none⟩)) 80) (by simp)) 0
  have h4 := h3.push (jobO 3 (.func (.func 196) #[] #[.pointer (some ⟨bf, 0, none⟩), .pointer (some ⟨bf + 1, 0, none⟩), .pointer (some ⟨bf + 1 + 1, 0, none⟩)]))
  have m6 : (w2.alloc (jobO 3 (.func (.func 196) #[] #[.pointer (some ⟨bf, 0, none⟩), .pointer (some ⟨bf + 1, 0, none⟩), .pointer (some ⟨bf + 1 + 1, 0, none⟩)]))).cell? ⟨F.f, 5, none⟩ = some (F.job) := cell_at (h4.get (g := F.f) (o := flO F a) (by simp)) 5
  have f6 : (w2.alloc (jobO 3 (.func (.func 196) #[] #[.pointer (some ⟨bf, 0, none⟩), .pointer (some ⟨bf + 1, 0, none⟩), .pointer (some ⟨bf + 1 + 1, 0, none⟩)]))).frozen? ⟨F.f, 5, none⟩ = false := free_at (h4.get (g := F.f) (o := flO F a) (by simp)) 5
  have HX := _root_.Go.Lib.hid h4
  clear h3 h4
  go_wp2_with fail
  refine bodyPost_end (v := .tuple #[]) ?ga ?gb ?gx
  case ga => simp [results, Tryz.results168]
  case gb => rfl
  case gx => exact ⟨rfl, w2.heap.size, bf, bf + 1, bf + 1 + 1, job_in4 (x := .pointer (some ⟨w2.heap.size, 0, none⟩)) HX.out⟩
set_option maxRecDepth 100000 in
theorem ferase_calls (h : KW B W (flK F C a ++ K) w) (b : Nat) (hb : b < 5) : Calls Tryz.prog 169 #[.pointer (some ⟨F.f, 0, none⟩), .int .i64 ((b : Int) * 64), .int .u32 208] w fun e w' => e = .returned (.tuple #[]) ∧ ∃ j bf bb, KW B W (flK { F with job := .pointer (some ⟨j, 0, none⟩) } C a ++ (j, jobO 20 (.func (.func 198) #[] #[.pointer (some ⟨bf, 0, none⟩), .pointer (some ⟨bb, 0, none⟩)])) :: (bf, boxO (.pointer (some ⟨F.f, 0, none⟩)) 80) :: (bb, boxO (.int .i64 (b : Int)) 3) :: K) w' := by
  have h2 := ((h.push (boxO (.pointer (some ⟨F.f, 0, none⟩)) 80)).push (boxO (.int .i64 (b : Int)) 3))
  simp only [World.size_alloc] at h2
  have g1 : wrap64 ((b : Int) * 64 / 64) = b := by unfold wrap64; omega
  have g2 : (b : Int) * 64 / 64 = b := by omega
  have H2 := _root_.Go.Lib.hid h2
  clear h h2
  go_enter Tryz.func169, Tryz.ntmps169
  go_upto_region 5 with fail
  have h2 := H2.out
  clear H2 g1 g2
  generalize World.alloc (World.alloc w _) _ = w1 at h2 ⊢
  generalize w.heap.size = bf at h2 ⊢
  have m4 : w1.cell? ⟨F.f, 4, none⟩ = some (.map (some F.m)) := cell_at (h2.get (g := F.f) (o := flO F a) (by simp)) 4
  have x0 : w1.cell? ⟨bf, 0, none⟩ = some (.pointer (some ⟨F.f, 0, none⟩)) := cell_at (h2.get (g := bf) (o := boxO (.pointer (some ⟨F.f, 0, none⟩)) 80) (by simp)) 0
  have x1 : w1.cell? ⟨(bf+1), 0, none⟩ = some (.int .i64 (b : Int)) := cell_at (h2.get (g := (bf+1)) (o := boxO (.int .i64 (b : Int)) 3) (by simp)) 0
  have mm : w1.heap[F.m]? = some (.map #[] 0) := h2.get (g := F.m) (o := .map #[] 0) (by simp)
  have lk : ∀ n k, (Instr.lookup 86 (.map (some F.m)) (.int .i64 k) false).run Tryz.prog (w1.drewN n) = .ok (.int .i64 0) (w1.drewN n) := fun n k => look86 (w := w1.drewN n) (c := 0) mm k
  clear mm
  have H := _root_.Go.Lib.hid h2
  clear h2
  go_quiet ((fail))
  rename_i nq
  have h3 := H.out.drewN (n := nq)
  generalize World.drewN w1 nq = w2 at h3 ⊢
  clear lk m4 x0 x1 H
  have x0 : w2.cell? ⟨bf, 0, none⟩ = some (.pointer (some ⟨F.f, 0, none⟩)) := cell_at (h3.get (g := bf) (o := boxO (.pointer (some ⟨F.f, 0, none⟩)) 80) (by simp)) 0
  have h4 := h3.push (jobO 20 (.func (.func 198) #[] #[.pointer (some ⟨bf, 0, none⟩), .pointer (some ⟨bf + 1, 0, none⟩)]))
  have m6 : (w2.alloc (jobO 20 (.func (.func 198) #[] #[.pointer (some ⟨bf, 0, none⟩), .pointer (some ⟨bf + 1, 0, none⟩)]))).cell? ⟨F.f, 5, none⟩ = some (F.job) := cell_at (h4.get (g := F.f) (o := flO F a) (by simp)) 5
  have f6 : (w2.alloc (jobO 20 (.func (.func 198) #[] #[.pointer (some ⟨bf, 0, none⟩), .pointer (some ⟨bf + 1, 0, none⟩)]))).frozen? ⟨F.f, 5, none⟩ = false := free_at (h4.get (g := F.f) (o := flO F a) (by simp)) 5
  have HX := _root_.Go.Lib.hid h4
  clear h3 h4
  go_wp2_with fail
  refine bodyPost_end (v := .tuple #[]) ?ga ?gb ?gx
  case ga => simp [results, Tryz.results169]
  case gb => rfl
  case gx => exact ⟨rfl, w2.heap.size, bf, bf + 1, job_in3 (x := .pointer (some ⟨w2.heap.size, 0, none⟩)) HX.out⟩
end
end Go.Proofs.YtlcbilknfjdceaaGreatDoor
end
