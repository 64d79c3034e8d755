/-
  WholeFlash, part 16 of 44: Step.
-/
import Derived.Great.BuildSlice
import Derived.Test.YtlcbilknfjdceaaGreatDoorM15
section
/-
  Steps of a region that draws its order, inside a round.
-/
set_option linter.unusedVariables false
set_option linter.unusedSimpArgs false
namespace Go.Proofs.YtlcbilknfjdceaaGreatDoor
open Go.RowKit Go.Lib
section
variable {F : Fence} {n : Nat} {ops : Array Oper} {o : Oper} {a : Act} {w w' : World} {K : Act → World → Prop} {Q : Exit → Act → World → Prop} {E : Prop} {v : Value}
theorem stV (hgd : o.guard = none) (hd : ∀ c, o.op ≠ .defer c) (ha : o.about Tryz.prog w a.eval = none) (hr : (execOp a.eval o).run Tryz.prog w = .ok (.value v) w') (h : K (a.put o.dst v) w') : if Region.wanted o (yielded ops a.tmps) = true then Oper.wpIn F n Tryz.prog o a w K Q else E := by
  rw [if_pos (by simp [Region.wanted, hgd])]
  exact ⟨fun f hf => (by rw [ha] at hf; cases hf), by rw [Oper.semAt_eq _ _ _ hd, hr]; exact h⟩
theorem stS (hgd : o.guard = none) (hd : ∀ c, o.op ≠ .defer c) (ha : o.about Tryz.prog w a.eval = none) (hr : (execOp a.eval o).run Tryz.prog w = .ok .skip w') (h : K (a.put o.dst undef) w') : if Region.wanted o (yielded ops a.tmps) = true then Oper.wpIn F n Tryz.prog o a w K Q else E := by
  rw [if_pos (by simp [Region.wanted, hgd])]
  exact ⟨fun f hf => (by rw [ha] at hf; cases hf), by rw [Oper.semAt_eq _ _ _ hd, hr]; exact h⟩
theorem stC {f : Nat} {fs : Array Operand} {ts : Array TypeId} {R : Ending → World → Prop} (hgd : o.guard = none) (hop : o.op = .call { callee := .value (.func f), args := fs, argTypes := ts }) (hF : F.fn f) (hdep : F.depth.isSome = true → 1 ≤ n)
    (eg : ∀ args w, (callFunc f args).run Tryz.prog w = .ok (.enter f args) w) {gs : Array Value} (has : fs.map a.eval = gs) (hc : CallsIn F (n - 1) Tryz.prog f gs w R) (h : ∀ e w', R e w' → ∃ v, e = .returned v ∧ K (a.put o.dst v) w') :
    if Region.wanted o (yielded ops a.tmps) = true then Oper.wpIn F n Tryz.prog o a w K Q else E := by
  rw [if_pos (by simp [Region.wanted, hgd])]
  subst has
  have hr : (execOp a.eval o).run Tryz.prog w = .ok (.enter f (fs.map a.eval)) w := by
    have e1 : a.eval (.func f) = .func (.func f) #[] #[] := rfl
    simp [execOp, hop, resolve, e1, Deferred.ofValue, invoke, eg, Sem.run_bind, Sem.run_pure, Result.andThen]
  refine ⟨fun g hg => ?_, ?_⟩
  · have e1 : a.eval (.func f) = .func (.func f) #[] #[] := rfl
    simp [Oper.about, hop, resolve, e1, Deferred.ofValue, Target.leads] at hg
    rw [← hg]; exact hF
  · rw [Oper.semAt_eq _ _ _ (by rw [hop]; intro c hc; cases hc), hr]
    refine ⟨hdep, CallsIn.mono hc ?_⟩
    intro e w' hR
    obtain ⟨v, rfl, hk⟩ := h e w' hR
    exact hk
theorem stA {B : Nat} {W : World} {e : TypeId} {sz m : Nat} {xs : List Value} {Kb : Blocks} (hgd : o.guard = none) (s x : Operand) (t : TypeId) (ho : o.op = .call { callee := .builtin .append, args := #[s, x], argTypes := #[t, t] })
    (i : TypeInfo) (z : Value) (bytes : Nat) (ht : Tryz.prog.underlying t = some (.slice e)) (hi : Tryz.prog.info? e = some i) (hz : i.zero = some z) (hsize : i.size = sz) (hby : i.bytes = bytes) (hzs : z.cells.size = sz) (hsz : 0 < sz)
    (hs : a.eval s = v) (hk : KO B W e sz v m xs Kb w) (ad : Addr) (k c : Nat) (news : List Value) (hx : a.eval x = .slice (some ad) k c) (hl : news.length = k * sz) (hnews : ∀ j u, news[j]? = some u → w.cell? (ad.add j) = some u) (h1 : ∀ u ∈ news, u.oneCell' = true)
    (h63 : m + k ≤ maxLen) (hbytes : (m + k) * bytes ≤ 140737488355328) (h : ∀ v' w', KO B W e sz v' (m + k) (xs ++ news) Kb w' → K (a.put o.dst v') w') :
    if Region.wanted o (yielded ops a.tmps) = true then Oper.wpIn F n Tryz.prog o a w K Q else E := by
  rw [if_pos (by simp [Region.wanted, hgd])]
  obtain ⟨v', w', hr, h2, h3, h4, h5⟩ := run_append_own_at (P := Tryz.prog) w B t o.type e i z sz bytes ht hi hz hsize hby hzs hsz v m xs hk.owns ad k c news hl hnews h1 h63 hbytes hk.kw.size
  unfold Oper.wpIn
  refine ⟨by simp [Oper.about, ho, resolve, Target.leads, Sem.run_pure], ?_⟩
  rw [Oper.semAt_plain F _ _ (by rw [ho]; intro c hc'; cases hc')]
  simp [execOp, ho, resolve, invoke, builtin, hs, hx, hr, Result.andThen]
  exact h v' w' (hk.after h2 h3 h5)
end
theorem info140 : (Tryz.prog.info? 140).map (fun i => (i.zero, i.size, i.bytes)) = some (some (.agg (rbV zB)), 66, 304) := by kernel_rfl
theorem fold_all : ∀ (l : List Value) (k : Nat) (cs : Array Value), k + l.length = cs.size → (l.zipIdx k).foldl (fun cs p => cs.setIfInBounds (0 + p.2) p.1) cs = (cs.toList.take k ++ l).toArray := by
  intro l
  induction l with
  | nil =>
    intro k cs h
    rw [List.zipIdx_nil, List.foldl_nil, List.append_nil, List.take_of_length_le (by simp at h ⊢; omega)]
  | cons x l ih =>
    intro k cs h
    rw [List.length_cons] at h
    rw [List.zipIdx_cons, List.foldl_cons, ih (k + 1) _ (by rw [Array.size_setIfInBounds]; omega)]
    congr 1
    simp only [Nat.zero_add, Array.toList_setIfInBounds]
    rw [List.take_succ_eq_append_getElem (by simp; omega), List.take_set_of_le (Nat.le_refl _), List.getElem_set_self, List.append_assoc]
    rfl
theorem fill_one {b : Rb} (h : Rb8 b) : Instr.fill (fun i => some (i * 66, 66)) ((Array.range (1 * 66)).map ((rbV zB)[· % (rbV zB).size]!)) [(0, .agg (rbV b))] = some (rbV b) := by
  have hs := rbV_size h
  have hz : ((Array.range (1 * 66)).map ((rbV zB)[· % (rbV zB).size]!)).size = 66 := by simp
  generalize (Array.range (1 * 66)).map ((rbV zB)[· % (rbV zB).size]!) = cs at hz
  have hf := fold_all (rbV b).toList 0 cs (by rw [hz]; simp [hs])
  rw [List.take_zero, List.nil_append, Array.toArray_toList] at hf
  unfold Instr.fill
  have e : (Value.agg (rbV b)).cells = rbV b := rfl
  rw [e]
  simp only [hs, Nat.zero_mul, ne_eq, not_true_eq_false, decide_false, Bool.false_or, Nat.zero_add, hz]
  rw [if_neg (by simp)]
  unfold Instr.fill
  congr 1
  rw [← Array.foldl_toList, Array.toList_zipIdx]
  simpa using hf
theorem bs140 {b : Rb} (h : Rb8 b) (w : World) : (Instr.buildSlice 84 1 #[(0, .agg (rbV b))]).run Tryz.prog w = .ok (.slice (some ⟨w.heap.size, 0, none⟩) 1 1) (w.alloc (.cells (rbV b) 140)) := by
  obtain ⟨i0, hi, hz0, hz1, hz2⟩ := info_parts info140
  exact run_buildSlice w 84 140 1 _ (rbV b) i0 _ Tryz.underlying84 hi hz0 (by rw [hz1]; decide) (by rw [hz1]; decide) (by rw [hz1]; exact fill_one h)
end Go.Proofs.YtlcbilknfjdceaaGreatDoor
end
