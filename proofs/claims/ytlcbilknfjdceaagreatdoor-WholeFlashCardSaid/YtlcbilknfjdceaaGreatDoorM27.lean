/-
  WholeFlash, part 27 of 44: Readx.
-/
import Derived.Test.YtlcbilknfjdceaaGreatDoorM25
section
/-
  Reads ahead of the rest: the operations one by one.
-/
set_option linter.unusedVariables false
set_option linter.unusedSimpArgs false
namespace Go
section
variable {P : Program} {ops : Array Oper} {C : World → Prop} {Q : Act → Prop} {a : Act} {rest : List Oper}
theorem Reads.val {o : Oper} {v : Value} (hgd : o.guard = none) (hr : ∀ w, C w → (execOp a.eval o).run P w = .ok (.value v) w) (h : wpReads P ops C Q rest (a.put o.dst v)) : wpReads P ops C Q (o :: rest) a :=
  ⟨v, .inl ⟨by simp [Region.wanted, hgd], fun w hw => by
    unfold Oper.quietAt
    rw [hr w hw]
    exact ⟨rfl, rfl⟩⟩, h⟩
theorem Reads.call {o : Oper} {v : Value} {f : Nat} {fs : Array Operand} {ts : Array TypeId} (hgd : o.guard = none) (hop : o.op = .call { callee := .value (.func f), args := fs, argTypes := ts })
    (eg : ∀ args w, (callFunc f args).run P w = .ok (.enter f args) w) {gs : Array Value} (has : fs.map a.eval = gs) (hc : ∀ w, C w → Calls P f gs w fun e w' => e = .returned v ∧ w' = w) (h : wpReads P ops C Q rest (a.put o.dst v)) : wpReads P ops C Q (o :: rest) a := by
  subst has
  refine ⟨v, .inl ⟨by simp [Region.wanted, hgd], fun w hw => ?_⟩, h⟩
  have hr : (execOp a.eval o).run P w = .ok (.enter f (fs.map a.eval)) w := by
    have e1 : a.eval (.func f) = .func (.func f) #[] #[] := rfl
    simp [execOp, hop, resolve, e1, Deferred.ofValue, invoke, eg, Sem.run_bind, Sem.run_pure, Result.andThen]
  unfold Oper.quietAt
  rw [hr]
  exact ⟨rfl, hc w hw⟩
theorem Reads.ld {x : Operand} {dst : Option Tmp} {ty t' : TypeId} {ps : String} {af : Array Edge} {p v : Value} (hx : a.eval x = p) (hr : ∀ w, C w → (Instr.loadAt ty p).run P w = .ok v w) (h : wpReads P ops C Q rest (a.put dst v)) : wpReads P ops C Q ({ dst := dst, op := .load ty x, type := t', pos := ps, after := af, guard := none } :: rest) a :=
  Reads.val rfl (fun w hw => by
    subst hx
    simp [execOp, hr w hw, Sem.run_bind, Result.andThen, Sem.run_pure]) h
theorem Reads.go {l : List Oper} (h : ∀ K : Act → Prop, (∀ a, wpReads P ops C Q l a → K a) → K a) : wpReads P ops C Q l a := h _ (fun _ h => h)
theorem ListR.go {Q : Act → World → Prop} {w : World} {l : List Oper} (h : ∀ K : Act → World → Prop, (∀ a w, wpListR P ops C Q l a w → K a w) → K a w) : wpListR P ops C Q l a w := h _ (fun _ _ h => h)
/-- A plan: operations that only read (true), and such as are the only ones ready (false). -/
def planB (md : Region.Mode) (ops : Array Oper) : List (Bool × Nat) → Array Bool → Bool
  | [], listed => (Region.ready md ops listed).isEmpty
  | (true, k) :: ks, listed => (Region.ready md ops listed).contains k && Region.free md ops listed k && planB md ops ks (listed.setIfInBounds k true)
  | (false, k) :: ks, listed => decide (Region.ready md ops listed = [k]) && planB md ops ks (listed.setIfInBounds k true)
def wpPlan (P : Program) (ops : Array Oper) (C : World → Prop) (Q : Act → World → Prop) : List (Bool × Oper) → Act → World → Prop
  | [], a, w => Q a w
  | (true, o) :: l, a, w => ∃ v, YieldsR P ops C o v a ∧ wpPlan P ops C Q l (a.put o.dst v) w
  | (false, o) :: l, a, w => if Region.wanted o (yielded ops a.tmps) then o.keptUpon P a C (wpPlan P ops C Q l) ((execOp a.eval o).run P w) else wpPlan P ops C Q l (a.put o.dst undef) w
theorem wpAnyR_plan {md : Region.Mode} {Q : Act → World → Prop} (hs : Region.noSelect ops = true) : ∀ (l : List (Bool × Oper)) (ks : List (Bool × Nat)) (listed : Array Bool) (a : Act) (w : World), C w → ks.map (fun x => (x.1, ops[x.2]?)) = l.map (fun x => (x.1, some x.2)) →
    planB md ops ks listed = true → wpPlan P ops C Q l a w → wpAnyR P md ops C Q l.length listed a w
  | [], [], _, _, _, _, _, hB, h => ⟨by simpa [planB] using hB, h⟩
  | [], _ :: _, _, _, _, _, hl, _, _ => by cases hl
  | _ :: _, [], _, _, _, _, hl, _, _ => by cases hl
  | (true, o) :: l, (f, k) :: ks, listed, a, w, hw, hl, hB, h => by
    simp only [List.map_cons, List.cons.injEq, Prod.mk.injEq] at hl
    obtain ⟨⟨rfl, h0⟩, hl⟩ := hl
    simp only [planB, Bool.and_eq_true] at hB
    obtain ⟨⟨hr, hf⟩, hB'⟩ := hB
    obtain ⟨v, hy, hK⟩ := h
    exact wpAnyR_first h0 (Region.noSelect_spec hs) l.length listed a w hw (Region.free_spec h0 hf) (by simpa using hr) hy (wpAnyR_plan hs l ks _ _ w hw hl hB' hK)
  | (false, o) :: l, (f, k) :: ks, listed, a, w, hw, hl, hB, h => by
    simp only [List.map_cons, List.cons.injEq, Prod.mk.injEq] at hl
    obtain ⟨⟨rfl, h0⟩, hl⟩ := hl
    simp only [planB, Bool.and_eq_true, decide_eq_true_eq] at hB
    refine ⟨fun h1 => (by rw [hB.1] at h1; cases h1), fun i hi => ?_⟩
    rw [hB.1] at hi
    have hik : i = k := by simpa using hi
    subst hik
    have hr : rOp P ops C i (wpPlan P ops C Q l) a w := by unfold rOp; simp only [h0]; exact h
    exact rOp_mono hw (fun a' w' hw' h' => wpAnyR_plan hs l ks _ a' w' hw' hl hB.2 h') hr
theorem wp_region_plan {id : Nat} {Q : Exit → Act → World → Prop} {a : Act} {w : World} {l : List Oper} (ks : List (Bool × Nat)) (L : List (Bool × Oper)) (C : World → Prop) (hm : P.follows .mixedOrders = true)
    (hB : (Region.noSelect l.toArray && decide (L.length = l.length) && planB .any l.toArray ks (Array.replicate l.length false)) = true) (hL : ks.map (fun x => (x.1, l.toArray[x.2]?)) = L.map (fun x => (x.1, some x.2))) (hC : C { w with drawn := w.drawn + 1 })
    (h : wpPlan P l.toArray C (fun a'' w'' => Q .normal a'' w'') L a { w with drawn := w.drawn + 1 }) : (Code.region id l.toArray true).wp P Q a w := by
  simp only [Bool.and_eq_true, decide_eq_true_eq] at hB
  obtain ⟨⟨hs', hn⟩, hlex⟩ := hB
  refine wp_region_any hm (wpAny_of_kept (C := C) (Q := fun a'' w'' => Q .normal a'' w'') (fun _ _ _ h => h) _ _ _ _ hC ?_)
  have := wpAnyR_plan (md := .any) (P := P) hs' L ks (Array.replicate l.length false) a _ hC hL hlex h
  rw [hn] at this
  simpa using this
theorem Reads.un {o : Oper} (hw : Region.wanted o (yielded ops a.tmps) = false) (h : wpReads P ops C Q rest (a.put o.dst undef)) : wpReads P ops C Q (o :: rest) a := ⟨undef, .inr ⟨hw, rfl⟩, h⟩
theorem Plan.nil {Q : Act → World → Prop} {w : World} (h : Q a w) : wpPlan P ops C Q [] a w := h
theorem Plan.go {Q : Act → World → Prop} {w : World} {l : List (Bool × Oper)} (h : ∀ K : Act → World → Prop, (∀ a w, wpPlan P ops C Q l a w → K a w) → K a w) : wpPlan P ops C Q l a w := h _ (fun _ _ h => h)
theorem Plan.val {Q : Act → World → Prop} {w : World} {l : List (Bool × Oper)} {o : Oper} {v : Value} (hgd : o.guard = none) (hr : ∀ w, C w → (execOp a.eval o).run P w = .ok (.value v) w) (h : wpPlan P ops C Q l (a.put o.dst v) w) : wpPlan P ops C Q ((true, o) :: l) a w :=
  ⟨v, .inl ⟨by simp [Region.wanted, hgd], fun w hw => by
    unfold Oper.quietAt
    rw [hr w hw]
    exact ⟨rfl, rfl⟩⟩, h⟩
theorem Plan.read {Q : Act → World → Prop} {w : World} {l : List (Bool × Oper)} {o : Oper} {v : Value} {f : Nat} {fs : Array Operand} {ts : Array TypeId} (hgd : o.guard = none) (hop : o.op = .call { callee := .value (.func f), args := fs, argTypes := ts })
    (eg : ∀ args w, (callFunc f args).run P w = .ok (.enter f args) w) {gs : Array Value} (has : fs.map a.eval = gs) (hc : ∀ w, C w → Calls P f gs w fun e w' => e = .returned v ∧ w' = w) (h : wpPlan P ops C Q l (a.put o.dst v) w) : wpPlan P ops C Q ((true, o) :: l) a w := by
  subst has
  refine ⟨v, .inl ⟨by simp [Region.wanted, hgd], fun w hw => ?_⟩, h⟩
  have hr : (execOp a.eval o).run P w = .ok (.enter f (fs.map a.eval)) w := by
    have e1 : a.eval (.func f) = .func (.func f) #[] #[] := rfl
    simp [execOp, hop, resolve, e1, Deferred.ofValue, invoke, eg, Sem.run_bind, Sem.run_pure, Result.andThen]
  unfold Oper.quietAt
  rw [hr]
  exact ⟨rfl, hc w hw⟩
theorem Plan.call {Q : Act → World → Prop} {w : World} {o : Oper} {l : List (Bool × Oper)} {f : Nat} {fs : Array Operand} {ts : Array TypeId} {R : Ending → World → Prop} (hgd : o.guard = none) (hop : o.op = .call { callee := .value (.func f), args := fs, argTypes := ts })
    (eg : ∀ args w, (callFunc f args).run P w = .ok (.enter f args) w) {gs : Array Value} (has : fs.map a.eval = gs) (hc : Calls P f gs w R) (h : ∀ e w', R e w' → ∃ v, e = .returned v ∧ C w' ∧ wpPlan P ops C Q l (a.put o.dst v) w') : wpPlan P ops C Q ((false, o) :: l) a w := by
  unfold wpPlan
  rw [if_pos (by simp [Region.wanted, hgd])]
  subst has
  have hr : (execOp a.eval o).run P w = .ok (.enter f (fs.map a.eval)) w := by
    have e1 : a.eval (.func f) = .func (.func f) #[] #[] := rfl
    simp [execOp, hop, resolve, e1, Deferred.ofValue, invoke, eg, Sem.run_bind, Sem.run_pure, Result.andThen]
  rw [hr]
  exact hc.mono fun e w' hR => h e w' hR
theorem Plan.put {Q : Act → World → Prop} {w w' : World} {o : Oper} {l : List (Bool × Oper)} {v : Value} (hgd : o.guard = none) (hr : (execOp a.eval o).run P w = .ok (.value v) w') (hC : C w') (h : wpPlan P ops C Q l (a.put o.dst v) w') : wpPlan P ops C Q ((false, o) :: l) a w := by
  unfold wpPlan
  rw [if_pos (by simp [Region.wanted, hgd]), hr]
  exact ⟨hC, h⟩
theorem Plan.skip {Q : Act → World → Prop} {w w' : World} {o : Oper} {l : List (Bool × Oper)} (hgd : o.guard = none) (hr : (execOp a.eval o).run P w = .ok .skip w') (hC : C w') (h : wpPlan P ops C Q l (a.put o.dst undef) w') : wpPlan P ops C Q ((false, o) :: l) a w := by
  unfold wpPlan
  rw [if_pos (by simp [Region.wanted, hgd]), hr]
  exact ⟨hC, h⟩
end
end Go
end
