/-
  WholeFlash, part 2 of 44: Gval, Inv.
-/
import Derived.WalkKit
import Derived.Calls
import Derived.Test.YtlcbilknfjdceaaGreatDoorM01
section
/-
  The law of text Val, for regions with guarded operations and calls: each operation yields one value, whatever was done before it that it need not wait for; calls by their contracts. Conditions: no two operations write one slot; each waits for earlier ones alone.
-/
namespace Go.Val
open Go

def orderedB2 (ops : Array Oper) : Bool := (List.range ops.size).all fun i => match ops[i]? with | none => true | some o => o.after.all fun e => e.on < i

theorem all_done2 {ops : Array Oper} (hO : orderedB2 ops = true) {listed : Array Bool} (hs : listed.size = ops.size) (h : Region.ready .any ops listed = []) : ∀ i, i < ops.size → listed.getD i false = true := by
  intro i
  induction i using Nat.strongRecOn with
  | _ i ih =>
    intro hi
    cases hl : listed.getD i false with
    | true => rfl
    | false =>
      have ho : ops[i]? = some ops[i] := by simp [hi]
      simp only [orderedB2, List.all_eq_true, List.mem_range] at hO
      have h1 := hO i hi
      simp only [ho] at h1
      have hr : i ∈ Region.ready .any ops listed := ready_of ho (by simpa [Array.getD_eq_getD_getElem?, hs, hi] using hl) fun e he => by
        obtain ⟨k, hk, rfl⟩ := Array.mem_iff_getElem.1 he
        simp only [Array.all_eq_true] at h1
        have := h1 k hk
        simp only [decide_eq_true_eq] at this
        exact ih _ this (by omega)
      rw [h] at hr
      cases hr

section
variable {P : Program} {ops : Array Oper} {Q : Exit → Act → World → Prop}

/-- One operation, among those that are done: it yields its value, and the world is then as the operations that are done have it; or it is not wanted. -/
def Does2 (P : Program) (ops : Array Oper) (Q : Exit → Act → World → Prop) (val : Nat → Value) (I : (Nat → Bool) → World → Prop) (g : Nat → Bool) (i : Nat) (o : Oper) (a : Act) (w : World) : Prop :=
  (Region.wanted o (yielded ops a.tmps) = true ∧ ∀ K : Act → World → Prop, (∀ w', (∀ g', g' i = true → (∀ j, j ≠ i → g' j = g j) → I g' w') → K (a.put o.dst (val i)) w') → o.wp P a w K Q) ∨
  (Region.wanted o (yielded ops a.tmps) = false ∧ val i = undef ∧ ∀ g', g' i = true → (∀ j, j ≠ i → g' j = g j) → I g' w)

theorem wpAny_val2 {val : Nat → Value} {a0 : Act} {I : (Nat → Bool) → World → Prop} (hd : Distinct ops) (hO : orderedB2 ops = true)
    (step : ∀ i o g w, ops[i]? = some o → g i = false → (∀ e ∈ o.after, Region.binds .any e = true → g e.on = true) → Closed ops g → I g w → Does2 P ops Q val I g i o (fillA ops val g a0) w)
    (hQ : ∀ g w, (∀ i, i < ops.size → g i = true) → I g w → Q .normal (fillA ops val g a0) w) :
    ∀ (fuel : Nat) (listed : Array Bool) (w : World), listed.size = ops.size → listed.toList.count false ≤ fuel → Closed ops (gOf listed) → I (gOf listed) w → wpAny P .any ops Q fuel listed (fillA ops val (gOf listed) a0) w := by
  intro fuel
  induction fuel with
  | zero =>
    intro listed w hs hc hcl hI
    have all : ∀ i, i < ops.size → listed.getD i false = true := by
      intro i hi
      have : listed[i]'(by omega) ≠ false := by
        intro e
        have hm : false ∈ listed.toList := by rw [← e]; exact Array.getElem_mem_toList ..
        have := List.count_pos_iff.2 hm
        omega
      simp only [Array.getD_eq_getD_getElem?, Array.getElem?_eq_getElem (show i < listed.size by omega), Option.getD_some]
      simpa using this
    refine ⟨?_, hQ _ w all hI⟩
    cases hr : Region.ready .any ops listed with
    | nil => rfl
    | cons x xs =>
      obtain ⟨o, _, hx, h1, _⟩ := ready_spec (ops := ops) (listed := listed) (i := x) (by rw [hr]; simp)
      have := all x hx
      simp [Array.getD_eq_getD_getElem?, hs, hx] at h1 this
      rw [this] at h1; cases h1
  | succ fuel ih =>
    intro listed w hs hc hcl hI
    refine ⟨fun h0 => hQ _ w (all_done2 hO hs h0) hI, fun i hi => ?_⟩
    obtain ⟨o, ho, hlt, hl, hdep⟩ := ready_spec hi
    have hgi : gOf listed i = false := by simpa [gOf, Array.getD_eq_getD_getElem?, hs, hlt] using hl
    have hset : gOf (listed.setIfInBounds i true) i = true := by simp [gOf, Array.getD_eq_getD_getElem?, hs, hlt]
    have hoth : ∀ j, j ≠ i → gOf (listed.setIfInBounds i true) j = gOf listed j := fun j hj => by
      simp [gOf, Array.getD_eq_getD_getElem?, Array.getElem?_setIfInBounds_ne (Ne.symm hj)]
    have hfill : fillA ops val (gOf (listed.setIfInBounds i true)) a0 = (fillA ops val (gOf listed) a0).put o.dst (val i) := by
      rw [fillA_set hd hlt hgi hset hoth a0]
      simp [dstOf, ho]
    have hcount : (listed.setIfInBounds i true).toList.count false ≤ fuel := by
      have hli : i < listed.toList.length := by simpa [hs] using hlt
      have hv : listed.toList[i] = false := by simpa [gOf, Array.getD_eq_getD_getElem?, hs, hlt] using hgi
      have e : (listed.setIfInBounds i true).toList = listed.toList.set i true := by simp
      rw [e, List.count_set hli, hv]
      have := List.count_pos_iff.2 (show false ∈ listed.toList by rw [← hv]; exact List.getElem_mem hli)
      change listed.toList.count false - 1 + 0 ≤ fuel
      omega
    have hclosed : Closed ops (gOf (listed.setIfInBounds i true)) := by
      intro j o' hj hgj e he hb
      have key : gOf listed e.on = true := by
        by_cases hji : j = i
        · subst hji
          rw [ho] at hj
          obtain rfl := Option.some.inj hj
          exact hdep e he hb
        · rw [hoth j hji] at hgj
          exact hcl j o' hj hgj e he hb
      by_cases h : e.on = i
      · rw [h]; exact hset
      · rw [hoth _ h]; exact key
    have hK : ∀ w', I (gOf (listed.setIfInBounds i true)) w' → _ := fun w' hI' => ih (listed.setIfInBounds i true) w' (by simp [hs]) hcount hclosed hI'
    rw [hfill] at hK
    unfold wpOp
    simp only [ho]
    rcases step i o (gOf listed) w ho hgi hdep hcl hI with ⟨hw, h⟩ | ⟨hw, hv, h⟩
    · rw [if_pos hw]
      left
      exact h _ fun w' hI' => hK w' (hI' _ hset hoth)
    · rw [if_neg (by rw [hw]; decide)]
      rw [← hv]
      exact hK w (h _ hset hoth)

/-- THE LAW. -/
theorem wp_region_val2 {id : Nat} {a0 : Act} {w : World} (hm : P.follows .mixedOrders = true) (val : Nat → Value) (I : (Nat → Bool) → World → Prop) (hd : distinctB ops = true) (hO : orderedB2 ops = true)
    (h0 : I (fun _ => false) { w with drawn := w.drawn + 1 })
    (step : ∀ i o g w, ops[i]? = some o → g i = false → (∀ e ∈ o.after, Region.binds .any e = true → g e.on = true) → Closed ops g → I g w → Does2 P ops Q val I g i o (fillA ops val g a0) w)
    (hQ : ∀ w, I (fun _ => true) w → Q .normal (fillA ops val (fun _ => true) a0) w) (hI : ∀ g w, (∀ i, i < ops.size → g i = true) → I g w → I (fun _ => true) w) : (Code.region id ops true).wp P Q a0 w := by
  refine wp_region_any hm ?_
  have hg : gOf (Array.replicate ops.size false) = fun _ => false := by
    funext i
    simp only [gOf, Array.getD_eq_getD_getElem?, Array.getElem?_replicate]
    split <;> rfl
  have he : fillA ops val (fun _ => false) a0 = a0 := by
    unfold fillA
    exact go (List.range ops.size) a0
  have := wpAny_val2 (P := P) (Q := Q) (val := val) (a0 := a0) (I := I) (distinct_of hd) hO step
    (fun g w h1 h2 => by
      have e : fillA ops val g a0 = fillA ops val (fun _ => true) a0 := foldl_same _ _ fun x hx => by rw [h1 x (by simpa using hx)]
      rw [e]
      exact hQ w (hI g w h1 h2)) ops.size (Array.replicate ops.size false) { w with drawn := w.drawn + 1 } (by simp) (by simp) (by rw [hg]; intro j o hj hg; cases hg) (by rw [hg]; exact h0)
  rw [hg, he] at this
  exact this
where go : ∀ (l : List Nat) (a : Act), l.foldl (fillStep ops val (fun _ => false)) a = a
  | [], _ => rfl
  | _ :: l, a => by simpa [fillStep] using go l a

/-- An operation that yields a value at once. -/
theorem wp_value {o : Oper} {a : Act} {w w' : World} {v : Value} {K : Act → World → Prop} (h : (execOp a.eval o).run P w = .ok (.value v) w') (hK : K (a.put o.dst v) w') : o.wp P a w K Q := by
  unfold Oper.wp
  rw [h]
  exact hK

/-- A call, by its contract. -/
theorem wp_enter {o : Oper} {a : Act} {w w' : World} {f : FuncId} {args : Array Value} {K : Act → World → Prop} (h : (execOp a.eval o).run P w = .ok (.enter f args) w') {R : Ending → World → Prop} (hc : Calls P f args w' R)
    (hK : ∀ e w1, R e w1 → ∃ v, e = .returned v ∧ K (a.put o.dst v) w1) : o.wp P a w K Q := by
  unfold Oper.wp
  rw [h, Oper.upon_enter]
  refine hc.mono fun e w1 he => ?_
  obtain ⟨v, rfl, hk⟩ := hK e w1 he
  exact hk

theorem foldl_defers {val : Nat → Value} {g : Nat → Bool} : ∀ (l : List Nat) (a : Act), (l.foldl (fillStep ops val g) a).defers = a.defers
  | [], _ => rfl
  | x :: l, a => by
    simp only [List.foldl_cons]
    rw [foldl_defers l]
    unfold fillStep
    split
    · cases dstOf ops x <;> rfl
    · rfl
theorem fillA_defers {val : Nat → Value} {g : Nat → Bool} (a : Act) : (fillA ops val g a).defers = a.defers := foldl_defers _ a

theorem eval_put_self {a : Act} {t : Tmp} {v : Value} (h : t < a.tmps.size) : (a.put (some t) v).eval (.tmp t) = v := by
  simp [Act.eval, Act.put, h]

theorem wanted_free {o : Oper} {y : Nat → Option Bool} (h : o.guard = none) : Region.wanted o y = true := by simp [Region.wanted, h]
theorem wanted_at {o : Oper} {a : Act} {j t : Nat} {b : Bool} (h : o.guard = some (j, b)) (hd : dstOf ops j = some t) (hv : a.tmps[t]? = some (.bool b)) : Region.wanted o (yielded ops a.tmps) = true := by
  simp only [Region.wanted, h, yielded]
  unfold dstOf at hd
  rw [hd]
  simp [hv]
theorem unwanted_at {o : Oper} {a : Act} {j t : Nat} {b : Bool} (h : o.guard = some (j, b)) (hd : dstOf ops j = some t) (hv : a.tmps[t]? = some (.bool !b)) : Region.wanted o (yielded ops a.tmps) = false := by
  simp only [Region.wanted, h, yielded]
  unfold dstOf at hd
  rw [hd]
  simp [hv]

theorem tmps_at {val : Nat → Value} {g : Nat → Bool} (hd : Distinct ops) {j : Nat} {t : Tmp} (hj : dstOf ops j = some t) (hg : g j = true) (a : Act) (ht : t < a.tmps.size) : (fillA ops val g a).tmps[t]? = some (val j) :=
  foldl_at hd hj hg _ a List.nodup_range (by simpa using dstOf_lt hj) ht

theorem dep_in {i j : Nat} {o : Oper} {g : Nat → Bool} (ho : ops[i]? = some o) (hj : ((ops[i]?).map fun o => o.after.any fun e => e.on == j && Region.binds .any e) = some true)
    (hdep : ∀ e ∈ o.after, Region.binds .any e = true → g e.on = true) : g j = true := by
  rw [ho] at hj
  simp only [Option.map_some, Option.some.injEq, Array.any_eq_true, Bool.and_eq_true, beq_iff_eq] at hj
  obtain ⟨k, hk, e1, e2⟩ := hj
  rw [← e1]
  exact hdep _ (Array.getElem_mem hk) e2

/-- What one waits for waits itself. -/
theorem dep_via {i j : Nat} {g : Nat → Bool} (hcl : Closed ops g) (hg : g i = true) (hj : ((ops[i]?).map fun o => o.after.any fun e => e.on == j && Region.binds .any e) = some true) : g j = true := by
  cases ho : ops[i]? with
  | none => rw [ho] at hj; cases hj
  | some o => exact dep_in ho hj fun e he hb => hcl i o ho hg e he hb

theorem op_in {i : Nat} {o : Oper} {x : Op} (ho : ops[i]? = some o) (h : (ops[i]?).map (·.op) = some x) : o.op = x := by
  rw [ho] at h
  simpa using h
theorem guard_in {i : Nat} {o : Oper} {x : Option (Nat × Bool)} (ho : ops[i]? = some o) (h : (ops[i]?).map (·.guard) = some x) : o.guard = x := by
  rw [ho] at h
  simpa using h

theorem noDst_in {n t : Nat} (hs : ops.size = n) (h : ((List.range n).all fun i => dstOf ops i != some t) = true) : ∀ i, dstOf ops i ≠ some t := by
  intro i hi
  have hlt := dstOf_lt hi
  rw [hs] at hlt
  have := List.all_eq_true.1 h i (by simpa using hlt)
  simp [hi] at this
end

section
variable {P : Program} {ρ : Operand → Value} {o : Oper} {w : World} {v : Value} {x y : Operand}
theorem ex_move (h : o.op = .move x) (hx : ρ x = v) : (execOp ρ o).run P w = .ok (.value v) w := by
  cases o; simp only at h; subst h; subst hx; rfl
theorem ex_assign (h : o.op = .assign x) (hx : ρ x = v) : (execOp ρ o).run P w = .ok (.value v) w := by
  cases o; simp only at h; subst h; subst hx; rfl
theorem ex_pick {z : Operand} {b : Bool} {v1 v2 : Value} (h : o.op = .pick x y z) (hx : ρ x = .bool b) (hy : ρ y = v1) (hz : ρ z = v2) : (execOp ρ o).run P w = .ok (.value (if b then v1 else v2)) w := by
  cases o; simp only at h; subst h; subst hy; subst hz; simp only [execOp, hx]; cases b <;> rfl
theorem ex_eql_agg {b : BinOp} {t u : TypeId} {xs ys : Array Value} (h : o.op = .binOp b t x y u) (hx : ρ x = .agg xs) (hy : ρ y = .agg ys) (hg : P.eqGuardType P.depth t = false) (hr : (binOp b t (.agg xs) (.agg ys)).run P w = .ok v w) : (execOp ρ o).run P w = .ok (.value v) w := by
  cases o; simp only at h; subst h
  simp only [execOp, hx, hy]
  have he : (eqGuard b t x y (.agg xs) (.agg ys)).run P w = .ok () w := by
    cases b <;> (first | rfl | (
      show Sem.run P ((program : Sem Program) >>= fun p => program >>= fun q => if !p.eqGuardType q.depth t then pure () else _) w = _
      rw [Sem.run_bind]
      show Sem.run P ((program : Sem Program) >>= fun q => if !P.eqGuardType q.depth t then pure () else _) w = _
      rw [Sem.run_bind]
      show Sem.run P (if !P.eqGuardType P.depth t then pure () else _) w = _
      rw [hg]
      rfl))
  rw [Sem.run_bind, Sem.run_bind, he]
  simp only [Result.andThen_ok, hr]
  rfl
theorem ex_binOp {b : BinOp} {t u : TypeId} {v1 v2 : Value} (h : o.op = .binOp b t x y u) (hx : ρ x = v1) (hy : ρ y = v2) (hg : (match v1, v2 with | .nilIface, .nilIface => false | .agg _, .agg _ => false | _, _ => true) = true) (hr : (binOp b t v1 v2).run P w = .ok v w) : (execOp ρ o).run P w = .ok (.value v) w := by
  cases o; simp only at h; subst h
  simp only [execOp, hx, hy]
  have he : (eqGuard b t x y v1 v2).run P w = .ok () w := by
    cases b <;> first | rfl | (cases v1 <;> first | rfl | (cases v2 <;> first | rfl | cases hg))
  rw [Sem.run_bind, Sem.run_bind, he]
  simp only [Result.andThen_ok, hr]
  rfl
theorem ex_unOp {u : UnOp} {t : TypeId} {v1 : Value} (h : o.op = .unOp u t x) (hx : ρ x = v1) (hr : (Op.unary u v1).run P w = .ok v w) : (execOp ρ o).run P w = .ok (.value v) w := by
  cases o; simp only at h; subst h
  simp only [execOp, hx, Sem.run_bind, hr]
  rfl
theorem ex_extract {i : Nat} {vs : Array Value} (h : o.op = .extract x i) (hx : ρ x = .tuple vs) (hi : vs[i]? = some v) : (execOp ρ o).run P w = .ok (.value v) w := by
  cases o; simp only at h; subst h
  simp only [execOp, hx, Sem.run_bind]
  simp [Instr.extract, hi]
theorem ex_loadAt {t : TypeId} {v1 : Value} (h : o.op = .load t x) (hx : ρ x = v1) (hr : (Instr.loadAt t v1).run P w = .ok v w) : (execOp ρ o).run P w = .ok (.value v) w := by
  cases o; simp only at h; subst h
  simp only [execOp, hx, Sem.run_bind, hr]
  rfl
theorem enters {f : FuncId} {fn : Func} {vs : Array Value} (hf : P.funcs[f]? = some fn) (hb : (fn.name == "runtime.NumGoroutine") = false) (hn : fn.body.isNone = false) : (callFunc f vs).run P w = .ok (.enter f vs) w := by
  unfold callFunc
  rw [Sem.run_bind]
  show Sem.run P (match P.funcs[f]? with | none => _ | some fn => _) w = _
  rw [hf]
  simp only [hb, hn]
  rfl
theorem ex_call {a : Act} {f : FuncId} {fn : Func} {args : Array Operand} {ts : Array TypeId} {vs : Array Value} (h : o.op = .call { callee := .value (.func f), args := args, argTypes := ts }) (hx : #[] ++ args.map a.eval ++ #[] = vs) (hf : P.funcs[f]? = some fn) (hb : (fn.name == "runtime.NumGoroutine") = false) (hn : fn.body.isNone = false) : (execOp a.eval o).run P w = .ok (.enter f vs) w := by
  cases o; simp only at h; subst h; subst hx
  rw [execOp_call_go]
  exact enters hf hb hn
end
end Go.Val
end
section
/-
  A region that draws its order, by an invariant of what is done, the slots and the world. Conditions: each operation waits for earlier ones alone.
-/
namespace Go.Val
open Go

section
variable {P : Program} {ops : Array Oper} {Q : Exit → Act → World → Prop}

def orderedB3 (ops : Array Oper) : Bool := (List.range ops.size).all fun i => match ops[i]? with | none => true | some o => o.after.all fun e => !Region.binds .any e || decide (e.on < i)

theorem ready_of3 {listed : Array Bool} {i : Nat} {o : Oper} (ho : ops[i]? = some o) (hl : listed.getD i true = false) (h : ∀ e ∈ o.after, Region.binds .any e = true → listed.getD e.on false = true) : i ∈ Region.ready .any ops listed := by
  have hi : i < ops.size := (Array.getElem?_eq_some_iff.1 ho).1
  simp only [Region.ready, List.mem_filter, List.mem_range, Bool.and_eq_true, Bool.not_eq_true']
  refine ⟨hi, hl, ?_⟩
  simp only [ho, Option.map_some, Option.getD_some, Array.all_eq_true]
  intro k hk
  cases hb : Region.binds .any o.after[k]
  · simp
  · have := h o.after[k] (Array.getElem_mem hk) hb
    simp [this]

theorem all_done3 (hO : orderedB3 ops = true) {listed : Array Bool} (hs : listed.size = ops.size) (h : Region.ready .any ops listed = []) : ∀ i, i < ops.size → listed.getD i false = true := by
  intro i
  induction i using Nat.strongRecOn with
  | _ i ih =>
    intro hi
    cases hl : listed.getD i false with
    | true => rfl
    | false =>
      have ho : ops[i]? = some ops[i] := by simp [hi]
      simp only [orderedB3, List.all_eq_true, List.mem_range] at hO
      have h1 := hO i hi
      simp only [ho] at h1
      have hr : i ∈ Region.ready .any ops listed := ready_of3 ho (by simpa [Array.getD_eq_getD_getElem?, hs, hi] using hl) fun e he hb => by
        obtain ⟨k, hk, rfl⟩ := Array.mem_iff_getElem.1 he
        simp only [Array.all_eq_true] at h1
        have := h1 k hk
        rw [hb] at this
        simp only [Bool.not_true, Bool.false_or, decide_eq_true_eq] at this
        exact ih _ this (by omega)
      rw [h] at hr
      cases hr

theorem wpAny_inv {J : (Nat → Bool) → Act → World → Prop} (hO : orderedB3 ops = true)
    (step : ∀ i o g a w, ops[i]? = some o → g i = false → (∀ e ∈ o.after, Region.binds .any e = true → g e.on = true) → J g a w →
      Region.wanted o (yielded ops a.tmps) = true ∧ ∀ K : Act → World → Prop, (∀ a' w', (∀ g', g' i = true → (∀ j, j ≠ i → g' j = g j) → J g' a' w') → K a' w') → o.wp P a w K Q)
    (hQ : ∀ g a w, (∀ i, i < ops.size → g i = true) → J g a w → Q .normal a w) :
    ∀ (fuel : Nat) (listed : Array Bool) (a : Act) (w : World), listed.size = ops.size → listed.toList.count false ≤ fuel → J (gOf listed) a w → wpAny P .any ops Q fuel listed a w := by
  intro fuel
  induction fuel with
  | zero =>
    intro listed a w hs hc hI
    have all : ∀ i, i < ops.size → listed.getD i false = true := by
      intro i hi
      have : listed[i]'(by omega) ≠ false := by
        intro e
        have hm : false ∈ listed.toList := by rw [← e]; exact Array.getElem_mem_toList ..
        have := List.count_pos_iff.2 hm
        omega
      simp only [Array.getD_eq_getD_getElem?, Array.getElem?_eq_getElem (show i < listed.size by omega), Option.getD_some]
      simpa using this
    refine ⟨?_, hQ _ _ w all hI⟩
    cases hr : Region.ready .any ops listed with
    | nil => rfl
    | cons x xs =>
      obtain ⟨o, _, hx, h1, _⟩ := ready_spec (ops := ops) (listed := listed) (i := x) (by rw [hr]; simp)
      have := all x hx
      simp [Array.getD_eq_getD_getElem?, hs, hx] at h1 this
      rw [this] at h1; cases h1
  | succ fuel ih =>
    intro listed a w hs hc hI
    refine ⟨fun h0 => hQ _ _ w (all_done3 hO hs h0) hI, fun i hi => ?_⟩
    obtain ⟨o, ho, hlt, hl, hdep⟩ := ready_spec hi
    have hgi : gOf listed i = false := by simpa [gOf, Array.getD_eq_getD_getElem?, hs, hlt] using hl
    have hset : gOf (listed.setIfInBounds i true) i = true := by simp [gOf, Array.getD_eq_getD_getElem?, hs, hlt]
    have hoth : ∀ j, j ≠ i → gOf (listed.setIfInBounds i true) j = gOf listed j := fun j hj => by
      simp [gOf, Array.getD_eq_getD_getElem?, Array.getElem?_setIfInBounds_ne (Ne.symm hj)]
    have hcount : (listed.setIfInBounds i true).toList.count false ≤ fuel := by
      have hli : i < listed.toList.length := by simpa [hs] using hlt
      have hv : listed.toList[i] = false := by simpa [gOf, Array.getD_eq_getD_getElem?, hs, hlt] using hgi
      have e : (listed.setIfInBounds i true).toList = listed.toList.set i true := by simp
      rw [e, List.count_set hli, hv]
      have := List.count_pos_iff.2 (show false ∈ listed.toList by rw [← hv]; exact List.getElem_mem hli)
      change listed.toList.count false - 1 + 0 ≤ fuel
      omega
    obtain ⟨hw, h⟩ := step i o (gOf listed) a w ho hgi hdep hI
    unfold wpOp
    simp only [ho]
    rw [if_pos hw]
    left
    exact h _ fun a' w' hI' => ih (listed.setIfInBounds i true) a' w' (by simp [hs]) hcount (hI' _ hset hoth)

theorem wp_region_inv {id : Nat} {a0 : Act} {w : World} (hm : P.follows .mixedOrders = true) (J : (Nat → Bool) → Act → World → Prop) (hO : orderedB3 ops = true)
    (h0 : J (fun _ => false) a0 w.drew)
    (step : ∀ i o g a w, ops[i]? = some o → g i = false → (∀ e ∈ o.after, Region.binds .any e = true → g e.on = true) → J g a w →
      Region.wanted o (yielded ops a.tmps) = true ∧ ∀ K : Act → World → Prop, (∀ a' w', (∀ g', g' i = true → (∀ j, j ≠ i → g' j = g j) → J g' a' w') → K a' w') → o.wp P a w K Q)
    (hQ : ∀ g a w, (∀ i, i < ops.size → g i = true) → J g a w → Q .normal a w) : (Code.region id ops true).wp P Q a0 w := by
  refine wp_region_any hm ?_
  have hg : gOf (Array.replicate ops.size false) = fun _ => false := by
    funext i
    simp only [gOf, Array.getD_eq_getD_getElem?, Array.getElem?_replicate]
    split <;> rfl
  exact wpAny_inv hO step hQ ops.size (Array.replicate ops.size false) a0 w.drew (by simp) (by simp) (by rw [hg]; exact h0)

theorem dst_in {i : Nat} {o : Oper} {x : Option Tmp} (ho : ops[i]? = some o) (h : (ops[i]?).map (·.dst) = some x) : o.dst = x := by
  rw [ho] at h
  simpa using h
theorem wp_skip' {o : Oper} {a : Act} {w w' : World} {K : Act → World → Prop} (h : (execOp a.eval o).run P w = .ok .skip w') (hK : K (a.put o.dst undef) w') : o.wp P a w K Q := by
  unfold Oper.wp
  rw [h]
  exact hK

theorem eval_of {a : Act} {t : Tmp} {v : Value} (h : a.tmps[t]? = some v) : a.eval (.tmp t) = v := by
  simp [Act.eval, h]
theorem put_at {a : Act} {t : Tmp} {v : Value} (h : t < a.tmps.size) : (a.put (some t) v).tmps[t]? = some v := by
  simp [Act.put, h]
theorem put_other {a : Act} {t u : Tmp} {v : Value} (h : u ≠ t) : (a.put (some t) v).tmps[u]? = a.tmps[u]? := by
  simp [Act.put, Array.getElem?_setIfInBounds_ne (Ne.symm h)]

theorem chain_at (a : Act) : ∀ (L : List (Tmp × Value)) (b : Act), b.tmps.size = a.tmps.size → (∀ p ∈ L, a.tmps[p.1]? = some p.2) → ∀ t, (L.foldl (fun x p => x.put (some p.1) p.2) b).tmps[t]? = if t ∈ L.map (·.1) then a.tmps[t]? else b.tmps[t]?
  | [], b, _, _, t => by simp
  | p :: L, b, hs, hL, t => by
    rw [List.foldl_cons, chain_at a L _ (by rw [put_size]; exact hs) (fun q hq => hL q (List.mem_cons_of_mem _ hq))]
    have hp := hL p List.mem_cons_self
    by_cases h1 : t ∈ L.map (·.1)
    · rw [if_pos h1, if_pos (by simp only [List.map_cons, List.mem_cons]; exact .inr h1)]
    · rw [if_neg h1]
      by_cases h2 : t = p.1
      · subst h2
        rw [if_pos (by simp)]
        have hlt : p.1 < b.tmps.size := by rw [hs]; exact (Array.getElem?_eq_some_iff.1 hp).1
        rw [put_at hlt, hp]
      · rw [if_neg (by simp only [List.map_cons, List.mem_cons]; intro h; exact h.elim h2 h1), put_other h2]
/-- The slots, by what they hold. -/
theorem act_chain (a a0 : Act) (hs : a.tmps.size = a0.tmps.size) (hd : a.defers = a0.defers) (L : List (Tmp × Value)) (hL : ∀ p ∈ L, a.tmps[p.1]? = some p.2) (hF : ∀ t, t ∉ L.map (·.1) → a.tmps[t]? = a0.tmps[t]?) :
    a = L.foldl (fun x p => x.put (some p.1) p.2) a0 := by
  have h1 : (L.foldl (fun x p => x.put (some p.1) p.2) a0).defers = a0.defers := by
    clear hL hF hs hd
    induction L generalizing a0 with
    | nil => rfl
    | cons p L ih => rw [List.foldl_cons, ih]; rfl
  have h2 : (L.foldl (fun x p => x.put (some p.1) p.2) a0).tmps = a.tmps := by
    apply Array.ext_getElem?
    intro t
    rw [chain_at a L a0 hs.symm hL t]
    split
    · rfl
    · rename_i h; exact (hF t h).symm
  obtain ⟨t1, d1⟩ := a
  generalize L.foldl (fun x p => x.put (some p.1) p.2) a0 = z at *
  obtain ⟨t2, d2⟩ := z
  simp only at h1 h2 hd
  rw [h2, h1, hd]
end
end Go.Val
end
