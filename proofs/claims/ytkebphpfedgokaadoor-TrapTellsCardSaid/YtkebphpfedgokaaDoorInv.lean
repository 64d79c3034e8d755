/-
  A region that draws its order, by an invariant of what is done, the slots and the world. Conditions: each operation waits for earlier ones alone.
-/
import Derived.Test.YtkebphpfedgokaaDoorGval
namespace Go.Val
open Go

section
variable {P : Program} {ops : Array Oper} {Q : Exit → Act → World → Prop}

def orderedB3 (ops : Array Oper) : Bool := (List.range ops.size).all fun i => match ops[i]? with | none => true | some o => o.after.all fun e => !Region.binds .any e || decide (e.on < i)

theorem ready_of3 {listed : Array Bool} {i : Nat} {o : Oper} (ho : ops[i]? = some o) (hl : listed.getD i true = false) (h : ∀ e ∈ o.after, Region.binds .any e = true → listed.getD e.on false = true) : i ∈ Region.ready .any ops listed := by
  have hi : i < ops.size := (Array.getElem?_eq_some_iff.1 ho).1
  simp only [Region.ready, List.mem_filter, List.mem_range, Bool.and_eq_true, Bool.not_eq_true']
  refine ⟨hi, hl, ?_⟩
  simp only [ho, Option.map_some, Option.getD_some, Array.all_eq_true]
  intro k hk
  cases hb : Region.binds .any o.after[k]
  · simp
  · have := h o.after[k] (Array.getElem_mem hk) hb
    simp [this]

theorem all_done3 (hO : orderedB3 ops = true) {listed : Array Bool} (hs : listed.size = ops.size) (h : Region.ready .any ops listed = []) : ∀ i, i < ops.size → listed.getD i false = true := by
  intro i
  induction i using Nat.strongRecOn with
  | _ i ih =>
    intro hi
    cases hl : listed.getD i false with
    | true => rfl
    | false =>
      have ho : ops[i]? = some ops[i] := by simp [hi]
      simp only [orderedB3, List.all_eq_true, List.mem_range] at hO
      have h1 := hO i hi
      simp only [ho] at h1
      have hr : i ∈ Region.ready .any ops listed := ready_of3 ho (by simpa [Array.getD_eq_getD_getElem?, hs, hi] using hl) fun e he hb => by
        obtain ⟨k, hk, rfl⟩ := Array.mem_iff_getElem.1 he
        simp only [Array.all_eq_true] at h1
        have := h1 k hk
        rw [hb] at this
        simp only [Bool.not_true, Bool.false_or, decide_eq_true_eq] at this
        exact ih _ this (by omega)
      rw [h] at hr
      cases hr

theorem wpAny_inv {J : (Nat → Bool) → Act → World → Prop} (hO : orderedB3 ops = true)
    (step : ∀ i o g a w, ops[i]? = some o → g i = false → (∀ e ∈ o.after, Region.binds .any e = true → g e.on = true) → J g a w →
      Region.wanted o (yielded ops a.tmps) = true ∧ ∀ K : Act → World → Prop, (∀ a' w', (∀ g', g' i = true → (∀ j, j ≠ i → g' j = g j) → J g' a' w') → K a' w') → o.wp P a w K Q)
    (hQ : ∀ g a w, (∀ i, i < ops.size → g i = true) → J g a w → Q .normal a w) :
    ∀ (fuel : Nat) (listed : Array Bool) (a : Act) (w : World), listed.size = ops.size → listed.toList.count false ≤ fuel → J (gOf listed) a w → wpAny P .any ops Q fuel listed a w := by
  intro fuel
  induction fuel with
  | zero =>
    intro listed a w hs hc hI
    have all : ∀ i, i < ops.size → listed.getD i false = true := by
      intro i hi
      have : listed[i]'(by omega) ≠ false := by
        intro e
        have hm : false ∈ listed.toList := by rw [← e]; exact Array.getElem_mem_toList ..
        have := List.count_pos_iff.2 hm
        omega
      simp only [Array.getD_eq_getD_getElem?, Array.getElem?_eq_getElem (show i < listed.size by omega), Option.getD_some]
      simpa using this
    refine ⟨?_, hQ _ _ w all hI⟩
    cases hr : Region.ready .any ops listed with
    | nil => rfl
    | cons x xs =>
      obtain ⟨o, _, hx, h1, _⟩ := ready_spec (ops := ops) (listed := listed) (i := x) (by rw [hr]; simp)
      have := all x hx
      simp [Array.getD_eq_getD_getElem?, hs, hx] at h1 this
      rw [this] at h1; cases h1
  | succ fuel ih =>
    intro listed a w hs hc hI
    refine ⟨fun h0 => hQ _ _ w (all_done3 hO hs h0) hI, fun i hi => ?_⟩
    obtain ⟨o, ho, hlt, hl, hdep⟩ := ready_spec hi
    have hgi : gOf listed i = false := by simpa [gOf, Array.getD_eq_getD_getElem?, hs, hlt] using hl
    have hset : gOf (listed.setIfInBounds i true) i = true := by simp [gOf, Array.getD_eq_getD_getElem?, hs, hlt]
    have hoth : ∀ j, j ≠ i → gOf (listed.setIfInBounds i true) j = gOf listed j := fun j hj => by
      simp [gOf, Array.getD_eq_getD_getElem?, Array.getElem?_setIfInBounds_ne (Ne.symm hj)]
    have hcount : (listed.setIfInBounds i true).toList.count false ≤ fuel := by
      have hli : i < listed.toList.length := by simpa [hs] using hlt
      have hv : listed.toList[i] = false := by simpa [gOf, Array.getD_eq_getD_getElem?, hs, hlt] using hgi
      have e : (listed.setIfInBounds i true).toList = listed.toList.set i true := by simp
      rw [e, List.count_set hli, hv]
      have := List.count_pos_iff.2 (show false ∈ listed.toList by rw [← hv]; exact List.getElem_mem hli)
      change listed.toList.count false - 1 + 0 ≤ fuel
      omega
    obtain ⟨hw, h⟩ := step i o (gOf listed) a w ho hgi hdep hI
    unfold wpOp
    simp only [ho]
    rw [if_pos hw]
    left
    exact h _ fun a' w' hI' => ih (listed.setIfInBounds i true) a' w' (by simp [hs]) hcount (hI' _ hset hoth)

theorem wp_region_inv {id : Nat} {a0 : Act} {w : World} (hm : P.follows .mixedOrders = true) (J : (Nat → Bool) → Act → World → Prop) (hO : orderedB3 ops = true)
    (h0 : J (fun _ => false) a0 w.drew)
    (step : ∀ i o g a w, ops[i]? = some o → g i = false → (∀ e ∈ o.after, Region.binds .any e = true → g e.on = true) → J g a w →
      Region.wanted o (yielded ops a.tmps) = true ∧ ∀ K : Act → World → Prop, (∀ a' w', (∀ g', g' i = true → (∀ j, j ≠ i → g' j = g j) → J g' a' w') → K a' w') → o.wp P a w K Q)
    (hQ : ∀ g a w, (∀ i, i < ops.size → g i = true) → J g a w → Q .normal a w) : (Code.region id ops true).wp P Q a0 w := by
  refine wp_region_any hm ?_
  have hg : gOf (Array.replicate ops.size false) = fun _ => false := by
    funext i
    simp only [gOf, Array.getD_eq_getD_getElem?, Array.getElem?_replicate]
    split <;> rfl
  exact wpAny_inv hO step hQ ops.size (Array.replicate ops.size false) a0 w.drew (by simp) (by simp) (by rw [hg]; exact h0)

theorem dst_in {i : Nat} {o : Oper} {x : Option Tmp} (ho : ops[i]? = some o) (h : (ops[i]?).map (·.dst) = some x) : o.dst = x := by
  rw [ho] at h
  simpa using h
theorem wp_skip' {o : Oper} {a : Act} {w w' : World} {K : Act → World → Prop} (h : (execOp a.eval o).run P w = .ok .skip w') (hK : K (a.put o.dst undef) w') : o.wp P a w K Q := by
  unfold Oper.wp
  rw [h]
  exact hK

theorem eval_of {a : Act} {t : Tmp} {v : Value} (h : a.tmps[t]? = some v) : a.eval (.tmp t) = v := by
  simp [Act.eval, h]
theorem put_at {a : Act} {t : Tmp} {v : Value} (h : t < a.tmps.size) : (a.put (some t) v).tmps[t]? = some v := by
  simp [Act.put, h]
theorem put_other {a : Act} {t u : Tmp} {v : Value} (h : u ≠ t) : (a.put (some t) v).tmps[u]? = a.tmps[u]? := by
  simp [Act.put, Array.getElem?_setIfInBounds_ne (Ne.symm h)]

theorem chain_at (a : Act) : ∀ (L : List (Tmp × Value)) (b : Act), b.tmps.size = a.tmps.size → (∀ p ∈ L, a.tmps[p.1]? = some p.2) → ∀ t, (L.foldl (fun x p => x.put (some p.1) p.2) b).tmps[t]? = if t ∈ L.map (·.1) then a.tmps[t]? else b.tmps[t]?
  | [], b, _, _, t => by simp
  | p :: L, b, hs, hL, t => by
    rw [List.foldl_cons, chain_at a L _ (by rw [put_size]; exact hs) (fun q hq => hL q (List.mem_cons_of_mem _ hq))]
    have hp := hL p List.mem_cons_self
    by_cases h1 : t ∈ L.map (·.1)
    · rw [if_pos h1, if_pos (by simp only [List.map_cons, List.mem_cons]; exact .inr h1)]
    · rw [if_neg h1]
      by_cases h2 : t = p.1
      · subst h2
        rw [if_pos (by simp)]
        have hlt : p.1 < b.tmps.size := by rw [hs]; exact (Array.getElem?_eq_some_iff.1 hp).1
        rw [put_at hlt, hp]
      · rw [if_neg (by simp only [List.map_cons, List.mem_cons]; intro h; exact h.elim h2 h1), put_other h2]
/-- The slots, by what they hold. -/
theorem act_chain (a a0 : Act) (hs : a.tmps.size = a0.tmps.size) (hd : a.defers = a0.defers) (L : List (Tmp × Value)) (hL : ∀ p ∈ L, a.tmps[p.1]? = some p.2) (hF : ∀ t, t ∉ L.map (·.1) → a.tmps[t]? = a0.tmps[t]?) :
    a = L.foldl (fun x p => x.put (some p.1) p.2) a0 := by
  have h1 : (L.foldl (fun x p => x.put (some p.1) p.2) a0).defers = a0.defers := by
    clear hL hF hs hd
    induction L generalizing a0 with
    | nil => rfl
    | cons p L ih => rw [List.foldl_cons, ih]; rfl
  have h2 : (L.foldl (fun x p => x.put (some p.1) p.2) a0).tmps = a.tmps := by
    apply Array.ext_getElem?
    intro t
    rw [chain_at a L a0 hs.symm hL t]
    split
    · rfl
    · rename_i h; exact (hF t h).symm
  obtain ⟨t1, d1⟩ := a
  generalize L.foldl (fun x p => x.put (some p.1) p.2) a0 = z at *
  obtain ⟨t2, d2⟩ := z
  simp only at h1 h2 hd
  rw [h2, h1, hd]
end
end Go.Val
