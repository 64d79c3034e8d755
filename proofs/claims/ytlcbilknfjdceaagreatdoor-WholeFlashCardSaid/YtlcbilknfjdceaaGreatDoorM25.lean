/-
  WholeFlash, part 25 of 44: Reads.
-/
import Derived.StillTail
import Derived.Deep.Quiet
import Derived.StillTactics
section
/-
  A region that draws its order, whose head only reads: the reads may be taken first.
-/
set_option linter.unusedVariables false
set_option linter.unusedSimpArgs false
namespace Go
section
variable {P : Program} {ops : Array Oper} {md : Region.Mode} {C : World → Prop}
def Oper.keptUpon (P : Program) (o : Oper) (a : Act) (C : World → Prop) (K : Act → World → Prop) : Result Next → Prop
  | .ok (.value u) w' => C w' ∧ K (a.put o.dst u) w'
  | .ok .skip w' => C w' ∧ K (a.put o.dst undef) w'
  | .ok (.enter f args) w' => Calls P f args w' fun e w'' => ∃ v, e = .returned v ∧ C w'' ∧ K (a.put o.dst v) w''
  | _ => False
/-- Operation i comes up: it does not panic, and keeps the class. -/
def rOp (P : Program) (ops : Array Oper) (C : World → Prop) (i : Nat) (K : Act → World → Prop) (a : Act) (w : World) : Prop :=
  match ops[i]? with
  | none => K a w
  | some o => if Region.wanted o (yielded ops a.tmps) then o.keptUpon P a C K ((execOp a.eval o).run P w) else K (a.put o.dst undef) w
theorem Oper.keptUpon_mono {o : Oper} {a : Act} {K K' : Act → World → Prop} (h : ∀ a w, C w → K a w → K' a w) {r : Result Next} (hh : o.keptUpon P a C K r) : o.keptUpon P a C K' r := by
  cases r with
  | ok n w' =>
    cases n <;> simp only [Oper.keptUpon] at hh ⊢
    case value u => exact ⟨hh.1, h _ _ hh.1 hh.2⟩
    case skip => exact ⟨hh.1, h _ _ hh.1 hh.2⟩
    case enter f args => exact hh.mono fun e w'' ⟨v, he, hc, hk⟩ => ⟨v, he, hc, h _ _ hc hk⟩
  | halt x w' => simp only [Oper.keptUpon] at hh
theorem rOp_mono {i : Nat} {a : Act} {w : World} {K K' : Act → World → Prop} (hw : C w) (h : ∀ a w, C w → K a w → K' a w) (hh : rOp P ops C i K a w) : rOp P ops C i K' a w := by
  unfold rOp at *
  split
  · rename_i ho; simp only [ho] at hh; exact h _ _ hw hh
  · rename_i o ho
    simp only [ho] at hh
    split
    · rename_i hwt; simp only [hwt, if_true] at hh; exact Oper.keptUpon_mono h hh
    · rename_i hwt; simp only [hwt] at hh; exact h _ _ hw hh
theorem wpOp_of_rOp {i : Nat} {a : Act} {w : World} {K K' : Act → World → Prop} {Q' : Exit → Act → World → Prop} (hw : C w) (h : ∀ a w, C w → K a w → K' a w) (hh : rOp P ops C i K a w) : wpOp P ops Q' i K' a w := by
  unfold rOp at hh
  unfold wpOp
  split
  · rename_i ho; simp only [ho] at hh; exact h _ _ hw hh
  · rename_i o ho
    simp only [ho] at hh
    split
    · rename_i hwt
      simp only [hwt, if_true] at hh
      left
      unfold Oper.wp
      generalize (execOp a.eval o).run P w = r at hh ⊢
      cases r with
      | ok n w' =>
        cases n <;> simp only [Oper.keptUpon] at hh <;> simp only [Oper.upon]
        case value u => exact h _ _ hh.1 hh.2
        case skip => exact h _ _ hh.1 hh.2
        case enter f args => exact hh.mono fun e w'' ⟨v, he, hc, hk⟩ => by subst he; exact h _ _ hc hk
      | halt x w' => simp only [Oper.keptUpon] at hh
    · rename_i hwt; simp only [hwt] at hh; exact h _ _ hw hh
def wpAnyR (P : Program) (md : Region.Mode) (ops : Array Oper) (C : World → Prop) (Q : Act → World → Prop) : Nat → Array Bool → Act → World → Prop
  | 0, listed, a, w => Region.ready md ops listed = [] ∧ Q a w
  | f + 1, listed, a, w => (Region.ready md ops listed = [] → Q a w) ∧ ∀ i ∈ Region.ready md ops listed, rOp P ops C i (wpAnyR P md ops C Q f (listed.setIfInBounds i true)) a w
theorem wpAny_of_kept {Q : Act → World → Prop} {Q' : Exit → Act → World → Prop} (hQ : ∀ a w, C w → Q a w → Q' .normal a w) : ∀ (f : Nat) (listed : Array Bool) (a : Act) (w : World), C w →
    wpAnyR P md ops C Q f listed a w → wpAny P md ops Q' f listed a w
  | 0, _, _, _, hw, h => ⟨h.1, hQ _ _ hw h.2⟩
  | f + 1, _, _, _, hw, h => ⟨fun h0 => hQ _ _ hw (h.1 h0), fun i hi => wpOp_of_rOp hw (fun a' w' hw' h' => wpAny_of_kept hQ f _ a' w' hw' h') (h.2 i hi)⟩
/-- In every world of the class o yields v and leaves the world alone. -/
def YieldsR (P : Program) (ops : Array Oper) (C : World → Prop) (o : Oper) (v : Value) (a : Act) : Prop :=
  (Region.wanted o (yielded ops a.tmps) = true ∧ ∀ w, C w → o.quietAt P a (fun w'' => w'' = w) w v) ∨ (Region.wanted o (yielded ops a.tmps) = false ∧ v = undef)
theorem YieldsR.rOp {i : Nat} {o : Oper} {v : Value} {a : Act} {w : World} (hw : C w) (hi : ops[i]? = some o) (hy : YieldsR P ops C o v a) {K : Act → World → Prop} (h : K (a.put o.dst v) w) : rOp P ops C i K a w := by
  unfold Go.rOp
  simp only [hi]
  rcases hy with ⟨hwt, hv⟩ | ⟨hwt, rfl⟩
  · simp only [hwt, if_true]
    have h3 := hv w hw
    unfold Oper.quietAt at h3
    generalize (execOp a.eval o).run P w = r at *
    cases r with
    | ok n w' =>
      cases n <;> simp only [Oper.quietUpon] at h3 <;> simp only [Oper.keptUpon]
      case value u => obtain ⟨e1, e2⟩ := h3; rw [e1, e2]; exact ⟨hw, h⟩
      case skip => obtain ⟨e1, e2⟩ := h3; rw [e1, ← e2]; exact ⟨hw, h⟩
      case enter f args =>
        obtain ⟨e1, hc⟩ := h3
        rw [e1]
        exact hc.mono fun e w'' ⟨he, hw''⟩ => ⟨v, he, by rw [hw'']; exact hw, by rw [hw'']; exact h⟩
    | halt x w' => simp only [Oper.quietUpon] at h3
  · simp only [hwt, Bool.false_eq_true, if_false]; exact h
theorem YieldsR.of_same {o : Oper} {v : Value} {a a' : Act} (hy : YieldsR P ops C o v a) (he : execOp a'.eval o = execOp a.eval o) (hw : Region.wanted o (yielded ops a'.tmps) = Region.wanted o (yielded ops a.tmps)) : YieldsR P ops C o v a' := by
  unfold YieldsR Oper.quietAt at *
  rw [he, hw]
  exact hy
theorem rOp_put {j : Nat} {oi oj : Oper} {v : Value} {w : World} (hj : ops[j]? = some oj) (hap : oi.apart ops oj = true) (hsi : ∀ cs b, oi.op ≠ .select cs b) (hsj : ∀ cs b, oj.op ≠ .select cs b) {K : Act → World → Prop} {a : Act}
    (hy : YieldsR P ops C oi v a) (h : rOp P ops C j K (a.put oi.dst v) w) : rOp P ops C j (fun a' w' => YieldsR P ops C oi v a' ∧ K (a'.put oi.dst v) w') a w := by
  obtain ⟨h1, h2, h3⟩ := Oper.apart_spec hap
  have keep : ∀ (a : Act), YieldsR P ops C oi v a → ∀ u, YieldsR P ops C oi v (a.put oj.dst u) := fun a hy u => hy.of_same (execOp_put oi hsi a oj.dst u h3) (wanted_put oi a oj.dst u h3)
  unfold rOp at *
  simp only [hj] at *
  rw [wanted_put oj a oi.dst v h1] at h
  split
  · rename_i hwt
    simp only [hwt, if_true] at h
    rw [execOp_put oj hsj a oi.dst v h1] at h
    generalize (execOp a.eval oj).run P w = r at h ⊢
    cases r with
    | ok n w' =>
      cases n <;> simp only [Oper.keptUpon] at h ⊢
      case value u => exact ⟨h.1, keep a hy u, by rw [← Act.put_comm a v u h2]; exact h.2⟩
      case skip => exact ⟨h.1, keep a hy _, by rw [← Act.put_comm a v undef h2]; exact h.2⟩
      case enter f args => exact h.mono fun e w'' ⟨u, he, hc, hk⟩ => ⟨u, he, hc, keep a hy u, by rw [← Act.put_comm a v u h2]; exact hk⟩
    | halt x w' => simp only [Oper.keptUpon] at h
  · rename_i hwt
    simp only [hwt] at h
    exact ⟨keep a hy _, by rw [← Act.put_comm a v undef h2]; exact h⟩
theorem wpAnyR_first {Q : Act → World → Prop} {i : Nat} {oi : Oper} {v : Value} (hi : ops[i]? = some oi) (hsel : ∀ (j : Nat) (o : Oper) cs b, ops[j]? = some o → o.op ≠ .select cs b) :
    ∀ (fuel : Nat) (listed : Array Bool) (a : Act) (w : World), C w →
      (∀ j oj, ops[j]? = some oj → j ≠ i → listed.getD j true = false → (∀ e ∈ oj.after, Region.binds md e = true → e.on ≠ i) → oi.apart ops oj = true) →
      i ∈ Region.ready md ops listed → YieldsR P ops C oi v a →
      wpAnyR P md ops C Q fuel (listed.setIfInBounds i true) (a.put oi.dst v) w → wpAnyR P md ops C Q (fuel + 1) listed a w := by
  intro fuel
  induction fuel with
  | zero =>
    intro listed a w hw _ hr hy H
    refine ⟨fun h => (by rw [h] at hr; cases hr), fun j hj => ?_⟩
    by_cases hji : j = i
    · subst hji; exact hy.rOp hw hi H
    · have := ready_mono hj hji
      rw [H.1] at this
      cases this
  | succ fuel ih =>
    intro listed a w hw hfree hr hy H
    refine ⟨fun h => (by rw [h] at hr; cases hr), fun j hj => ?_⟩
    by_cases hji : j = i
    · subst hji; exact hy.rOp hw hi H
    · have h1 := H.2 j (ready_mono hj hji)
      obtain ⟨hjun, oj, hoj, hall⟩ := mem_ready.1 hj
      have hun := (mem_ready.1 hr).1
      have hnot : ∀ e ∈ oj.after, Region.binds md e = true → e.on ≠ i := fun e he hb heq => by
        have h1 := hall e he hb
        rw [heq, getD_both hun] at h1
        cases h1
      have h2 := rOp_put hoj (hfree j oj hoj hji hjun hnot) (fun cs b => hsel i oi cs b hi) (fun cs b => hsel j oj cs b hoj) hy h1
      have hfree' : ∀ k ok, ops[k]? = some ok → k ≠ i → (listed.setIfInBounds j true).getD k true = false →
          (∀ e ∈ ok.after, Region.binds md e = true → e.on ≠ i) → oi.apart ops ok = true := fun k ok hk hki hun hno => by
        refine hfree k ok hk hki ?_ hno
        by_cases hjk : j = k
        · subst hjk; exact hjun
        · rw [getD_set_ne true hjk] at hun; exact hun
      refine rOp_mono hw (fun a' w' hw' h3 => ih (listed.setIfInBounds j true) a' w' hw' hfree' (ready_mono hr (Ne.symm hji)) h3.1 ?_) h2
      rw [Array.setIfInBounds_comm _ _ hji]
      exact h3.2
/-- The tail, one operation after the other. -/
def wpListR (P : Program) (ops : Array Oper) (C : World → Prop) (Q : Act → World → Prop) : List Oper → Act → World → Prop
  | [], a, w => Q a w
  | o :: l, a, w => if Region.wanted o (yielded ops a.tmps) then o.keptUpon P a C (wpListR P ops C Q l) ((execOp a.eval o).run P w) else wpListR P ops C Q l (a.put o.dst undef) w
theorem wpAnyR_of_seq {Q : Act → World → Prop} : ∀ (l : List Oper) (k : Nat) (listed : Array Bool) (a : Act) (w : World), C w → (∀ j, l[j]? = ops[k + j]?) →
    Region.seqB md ops l.length k listed = true → wpListR P ops C Q l a w → wpAnyR P md ops C Q l.length listed a w
  | [], _, _, _, _, _, _, hB, h => ⟨by simpa [Region.seqB] using hB, h⟩
  | o :: l, k, listed, a, w, hw, hl, hB, h => by
    have h0 : ops[k]? = some o := by simpa using (hl 0).symm
    simp only [List.length_cons, Region.seqB, Bool.and_eq_true, decide_eq_true_eq] at hB
    refine ⟨fun h1 => (by rw [hB.1] at h1; cases h1), fun i hi => ?_⟩
    rw [hB.1] at hi
    have hik : i = k := by simpa using hi
    subst hik
    have hr : rOp P ops C i (wpListR P ops C Q l) a w := by unfold rOp; simp only [h0]; exact h
    exact rOp_mono hw (fun a' w' hw' h' => wpAnyR_of_seq l (i + 1) _ a' w' hw' (fun j => by have := hl (j + 1); simpa [Nat.add_assoc, Nat.add_comm 1 j] using this) hB.2 h') hr
/-- The head: reads, each with one value in every world of the class. -/
def wpReads (P : Program) (ops : Array Oper) (C : World → Prop) (Q : Act → Prop) : List Oper → Act → Prop
  | [], a => Q a
  | o :: l, a => ∃ v, YieldsR P ops C o v a ∧ wpReads P ops C Q l (a.put o.dst v)
theorem wpAnyR_lex {Q : Act → World → Prop} {w : World} {g : Nat} (hw : C w) (hs : Region.noSelect ops = true) : ∀ (l t : List Oper) (k : Nat) (listed : Array Bool) (a : Act), t.length = g → (∀ j, (l ++ t)[j]? = ops[k + j]?) →
    Region.lexHead md ops g l.length k listed = true → wpReads P ops C (fun a' => wpListR P ops C Q t a' w) l a → wpAnyR P md ops C Q (l.length + g) listed a w
  | [], t, k, listed, a, hg, hl, hB, h => by
    subst hg
    rw [List.length_nil, Nat.zero_add]
    exact wpAnyR_of_seq t k listed a w hw (by simpa using hl) (by simpa [Region.lexHead] using hB) h
  | o :: l, t, k, listed, a, hg, hl, hB, h => by
    have h0 : ops[k]? = some o := by simpa using (hl 0).symm
    simp only [List.length_cons, Region.lexHead, Bool.and_eq_true] at hB
    obtain ⟨⟨hr, hf⟩, hB'⟩ := hB
    obtain ⟨v, hy, hK⟩ := h
    have := wpAnyR_first h0 (Region.noSelect_spec hs) (l.length + g) listed a w hw (Region.free_spec h0 hf) (by simpa using hr) hy
      (wpAnyR_lex hw hs l t (k + 1) _ _ hg (fun j => by have := hl (j + 1); simpa [Nat.add_assoc, Nat.add_comm 1 j] using this) hB' hK)
    rw [show (o :: l).length + g = l.length + g + 1 by rw [List.length_cons]; omega]
    exact this
theorem wpReads_step {Q : Act → Prop} {a : Act} {o : Oper} {rest : List Oper}
    (h : ∀ K : Act → Prop, (∀ a, wpReads P ops C Q rest a → K a) → if Region.wanted o (yielded ops a.tmps) then ∃ v, (∀ w, C w → o.quietAt P a (fun w'' => w'' = w) w v) ∧ K (a.put o.dst v) else K (a.put o.dst undef)) : wpReads P ops C Q (o :: rest) a := by
  have := h _ (fun _ h => h)
  by_cases hw : Region.wanted o (yielded ops a.tmps) = true
  · rw [if_pos hw] at this
    obtain ⟨v, h1, h2⟩ := this
    exact ⟨v, .inl ⟨hw, h1⟩, h2⟩
  · rw [if_neg hw] at this
    exact ⟨undef, .inr ⟨by simpa using hw, rfl⟩, this⟩
theorem wpListR_nil {Q : Act → World → Prop} {a : Act} {w : World} (h : Q a w) : wpListR P ops C Q [] a w := h
theorem wpListR_call {Q : Act → World → Prop} {a : Act} {w : World} {o : Oper} {l : List Oper} {f : Nat} {fs : Array Operand} {ts : Array TypeId} {R : Ending → World → Prop} (hgd : o.guard = none) (hop : o.op = .call { callee := .value (.func f), args := fs, argTypes := ts })
    (eg : ∀ args w, (callFunc f args).run P w = .ok (.enter f args) w) {gs : Array Value} (has : fs.map a.eval = gs) (hc : Calls P f gs w R) (h : ∀ e w', R e w' → ∃ v, e = .returned v ∧ C w' ∧ wpListR P ops C Q l (a.put o.dst v) w') : wpListR P ops C Q (o :: l) a w := by
  unfold wpListR
  rw [if_pos (by simp [Region.wanted, hgd])]
  subst has
  have hr : (execOp a.eval o).run P w = .ok (.enter f (fs.map a.eval)) w := by
    have e1 : a.eval (.func f) = .func (.func f) #[] #[] := rfl
    simp [execOp, hop, resolve, e1, Deferred.ofValue, invoke, eg, Sem.run_bind, Sem.run_pure, Result.andThen]
  rw [hr]
  exact hc.mono fun e w' hR => h e w' hR
theorem wpListR_val {Q : Act → World → Prop} {a : Act} {w w' : World} {o : Oper} {l : List Oper} {v : Value} (hgd : o.guard = none) (hr : (execOp a.eval o).run P w = .ok (.value v) w') (hC : C w') (h : wpListR P ops C Q l (a.put o.dst v) w') : wpListR P ops C Q (o :: l) a w := by
  unfold wpListR
  rw [if_pos (by simp [Region.wanted, hgd]), hr]
  exact ⟨hC, h⟩
theorem wpListR_skip {Q : Act → World → Prop} {a : Act} {w w' : World} {o : Oper} {l : List Oper} (hgd : o.guard = none) (hr : (execOp a.eval o).run P w = .ok .skip w') (hC : C w') (h : wpListR P ops C Q l (a.put o.dst undef) w') : wpListR P ops C Q (o :: l) a w := by
  unfold wpListR
  rw [if_pos (by simp [Region.wanted, hgd]), hr]
  exact ⟨hC, h⟩
/-- The same by a list of indices: reads first, then the rest, one after the other. -/
def seqI (md : Region.Mode) (ops : Array Oper) : List Nat → Array Bool → Bool
  | [], listed => (Region.ready md ops listed).isEmpty
  | k :: ks, listed => decide (Region.ready md ops listed = [k]) && seqI md ops ks (listed.setIfInBounds k true)
def headI (md : Region.Mode) (ops : Array Oper) (ts : List Nat) : List Nat → Array Bool → Bool
  | [], listed => seqI md ops ts listed
  | k :: ks, listed => (Region.ready md ops listed).contains k && Region.free md ops listed k && headI md ops ts ks (listed.setIfInBounds k true)
theorem wpAnyR_seqI {Q : Act → World → Prop} : ∀ (l : List Oper) (ks : List Nat) (listed : Array Bool) (a : Act) (w : World), C w → ks.map (fun k => ops[k]?) = l.map some →
    seqI md ops ks listed = true → wpListR P ops C Q l a w → wpAnyR P md ops C Q l.length listed a w
  | [], [], _, _, _, _, _, hB, h => ⟨by simpa [seqI] using hB, h⟩
  | [], _ :: _, _, _, _, _, hl, _, _ => by cases hl
  | _ :: _, [], _, _, _, _, hl, _, _ => by cases hl
  | o :: l, k :: ks, listed, a, w, hw, hl, hB, h => by
    simp only [List.map_cons, List.cons.injEq] at hl
    have h0 : ops[k]? = some o := hl.1
    simp only [seqI, Bool.and_eq_true, decide_eq_true_eq] at hB
    refine ⟨fun h1 => (by rw [hB.1] at h1; cases h1), fun i hi => ?_⟩
    rw [hB.1] at hi
    have hik : i = k := by simpa using hi
    subst hik
    have hr : rOp P ops C i (wpListR P ops C Q l) a w := by unfold rOp; simp only [h0]; exact h
    exact rOp_mono hw (fun a' w' hw' h' => wpAnyR_seqI l ks _ a' w' hw' hl.2 hB.2 h') hr
theorem wpAnyR_headI {Q : Act → World → Prop} {w : World} (hw : C w) (hs : Region.noSelect ops = true) (t : List Oper) (ts : List Nat) (ht : ts.map (fun k => ops[k]?) = t.map some) : ∀ (l : List Oper) (ks : List Nat) (listed : Array Bool) (a : Act), ks.map (fun k => ops[k]?) = l.map some →
    headI md ops ts ks listed = true → wpReads P ops C (fun a' => wpListR P ops C Q t a' w) l a → wpAnyR P md ops C Q (l.length + t.length) listed a w
  | [], [], listed, a, _, hB, h => by
    rw [List.length_nil, Nat.zero_add]
    exact wpAnyR_seqI t ts listed a w hw ht (by simpa [headI] using hB) h
  | [], _ :: _, _, _, hl, _, _ => by cases hl
  | _ :: _, [], _, _, hl, _, _ => by cases hl
  | o :: l, k :: ks, listed, a, hl, hB, h => by
    simp only [List.map_cons, List.cons.injEq] at hl
    have h0 : ops[k]? = some o := hl.1
    simp only [headI, Bool.and_eq_true] at hB
    obtain ⟨⟨hr, hf⟩, hB'⟩ := hB
    obtain ⟨v, hy, hK⟩ := h
    have := wpAnyR_first h0 (Region.noSelect_spec hs) (l.length + t.length) listed a w hw (Region.free_spec h0 hf) (by simpa using hr) hy (wpAnyR_headI hw hs t ts ht l ks _ _ hl.2 hB' hK)
    rw [show (o :: l).length + t.length = l.length + t.length + 1 by rw [List.length_cons]; omega]
    exact this
/-- Reads first, then the rest in order. -/
theorem wp_region_reads {id : Nat} {Q : Exit → Act → World → Prop} {a : Act} {w : World} {l : List Oper} (n : Nat) (C : World → Prop) (hm : P.follows .mixedOrders = true)
    (hB : (Region.noSelect l.toArray && decide (n ≤ l.length) && Region.lexHead .any l.toArray (l.length - n) n 0 (Array.replicate l.length false)) = true) (hC : C { w with drawn := w.drawn + 1 })
    (h : wpReads P l.toArray C (fun a' => wpListR P l.toArray C (fun a'' w'' => Q .normal a'' w'') (l.drop n) a' { w with drawn := w.drawn + 1 }) (l.take n) a) : (Code.region id l.toArray true).wp P Q a w := by
  simp only [Bool.and_eq_true, decide_eq_true_eq] at hB
  obtain ⟨⟨hs, hn⟩, hlex⟩ := hB
  have htl : (l.take n).length = n := by simp; omega
  refine wp_region_any hm (wpAny_of_kept (C := C) (Q := fun a'' w'' => Q .normal a'' w'') (fun _ _ _ h => h) _ _ _ _ hC ?_)
  have := wpAnyR_lex (md := .any) (P := P) (g := l.length - n) hC hs (l.take n) (l.drop n) 0 (Array.replicate l.length false) a (by simp) (by intro j; simp) (by rw [htl]; exact hlex) h
  rw [htl, show n + (l.length - n) = l.length by omega] at this
  simpa using this
/-- Reads first (their indices hs), then the rest (ts), in the orders given. -/
theorem wp_region_readsI {id : Nat} {Q : Exit → Act → World → Prop} {a : Act} {w : World} {l : List Oper} (hs ts : List Nat) (H T : List Oper) (C : World → Prop) (hm : P.follows .mixedOrders = true)
    (hB : (Region.noSelect l.toArray && decide (H.length + T.length = l.length) && headI .any l.toArray ts hs (Array.replicate l.length false)) = true) (hH : hs.map (fun k => l.toArray[k]?) = H.map some) (hT : ts.map (fun k => l.toArray[k]?) = T.map some) (hC : C { w with drawn := w.drawn + 1 })
    (h : wpReads P l.toArray C (fun a' => wpListR P l.toArray C (fun a'' w'' => Q .normal a'' w'') T a' { w with drawn := w.drawn + 1 }) H a) : (Code.region id l.toArray true).wp P Q a w := by
  simp only [Bool.and_eq_true, decide_eq_true_eq] at hB
  obtain ⟨⟨hs', hn⟩, hlex⟩ := hB
  refine wp_region_any hm (wpAny_of_kept (C := C) (Q := fun a'' w'' => Q .normal a'' w'') (fun _ _ _ h => h) _ _ _ _ hC ?_)
  have := wpAnyR_headI (md := .any) (P := P) hC hs' T ts hT H hs (Array.replicate l.length false) a hH hlex h
  rw [hn] at this
  simpa using this
end
end Go
end
