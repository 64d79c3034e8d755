/-
  WholeFlash, part 1 of 44: Val.
-/
import Derived.Orders
section
/-
  A law of our own for a region that draws its order: each operation yields one value, whatever was done before it that it need not wait for; what the world is like hangs on which operations are done alone. Conditions: no two operations write one slot; none is guarded; each waits for earlier ones alone.
-/
namespace Go.Val
open Go

def dstOf (ops : Array Oper) (i : Nat) : Option Tmp := (ops[i]?).bind (·.dst)

def fillStep (ops : Array Oper) (val : Nat → Value) (g : Nat → Bool) (a : Act) (i : Nat) : Act := if g i then a.put (dstOf ops i) (val i) else a

def fillA (ops : Array Oper) (val : Nat → Value) (g : Nat → Bool) (a : Act) : Act := (List.range ops.size).foldl (fillStep ops val g) a

def Distinct (ops : Array Oper) : Prop := ∀ i j d, i ≠ j → dstOf ops i = some d → dstOf ops j ≠ some d

def distinctB (ops : Array Oper) : Bool :=
  (List.range ops.size).all fun i => (List.range ops.size).all fun j => i == j || match dstOf ops i with | none => true | some d => dstOf ops j != some d

theorem dstOf_lt {ops : Array Oper} {i : Nat} {d : Tmp} (h : dstOf ops i = some d) : i < ops.size := by
  unfold dstOf at h
  rcases Nat.lt_or_ge i ops.size with h' | h'
  · exact h'
  · simp [Array.getElem?_eq_none h'] at h

theorem distinct_of {ops : Array Oper} (h : distinctB ops = true) : Distinct ops := by
  intro i j d hij hi hj
  have li := dstOf_lt hi
  have lj := dstOf_lt hj
  simp only [distinctB, List.all_eq_true, List.mem_range] at h
  have := h i li j lj
  simp [hij, hi, hj] at this

section
variable {ops : Array Oper} {val : Nat → Value} {g g' : Nat → Bool}

theorem foldl_put (hd : Distinct ops) {i : Nat} : ∀ (l : List Nat) (a : Act), i ∉ l →
    l.foldl (fillStep ops val g) (a.put (dstOf ops i) (val i)) = (l.foldl (fillStep ops val g) a).put (dstOf ops i) (val i)
  | [], _, _ => rfl
  | x :: l, a, h => by
    have hx : i ≠ x := fun e => h (by simp [e])
    have hl : i ∉ l := fun e => h (by simp [e])
    simp only [List.foldl_cons]
    have : fillStep ops val g (a.put (dstOf ops i) (val i)) x = (fillStep ops val g a x).put (dstOf ops i) (val i) := by
      unfold fillStep
      split
      · exact Act.put_comm _ _ _ fun d hi hj => hd i x d hx hi hj
      · rfl
    rw [this]
    exact foldl_put hd l _ hl

theorem foldl_same : ∀ (l : List Nat) (a : Act), (∀ x ∈ l, g' x = g x) → l.foldl (fillStep ops val g') a = l.foldl (fillStep ops val g) a
  | [], _, _ => rfl
  | x :: l, a, h => by
    simp only [List.foldl_cons]
    have : fillStep ops val g' a x = fillStep ops val g a x := by unfold fillStep; rw [h x (by simp)]
    rw [this]
    exact foldl_same l _ fun y hy => h y (by simp [hy])

theorem foldl_set (hd : Distinct ops) {i : Nat} (hg : g i = false) (hg' : g' i = true) (ho : ∀ j, j ≠ i → g' j = g j) : ∀ (l : List Nat) (a : Act), l.Nodup → i ∈ l →
    l.foldl (fillStep ops val g') a = (l.foldl (fillStep ops val g) a).put (dstOf ops i) (val i)
  | [], _, _, h => by cases h
  | x :: l, a, hn, h => by
    obtain ⟨hxl, hnl⟩ := List.nodup_cons.1 hn
    simp only [List.foldl_cons]
    by_cases e : x = i
    · subst e
      have e1 : fillStep ops val g' a x = a.put (dstOf ops x) (val x) := by simp [fillStep, hg']
      have e2 : fillStep ops val g a x = a := by simp [fillStep, hg]
      rw [e1, e2, foldl_same (g := g) (g' := g') l _ (fun y hy => ho y (fun e => hxl (e ▸ hy)))]
      exact foldl_put hd l a hxl
    · have hi : i ∈ l := by cases h with | head => exact absurd rfl e | tail _ h => exact h
      have e1 : fillStep ops val g' a x = fillStep ops val g a x := by unfold fillStep; rw [ho x e]
      rw [e1]
      exact foldl_set hd hg hg' ho l _ hnl hi

theorem fillA_set (hd : Distinct ops) {i : Nat} (hi : i < ops.size) (hg : g i = false) (hg' : g' i = true) (ho : ∀ j, j ≠ i → g' j = g j) (a : Act) :
    fillA ops val g' a = (fillA ops val g a).put (dstOf ops i) (val i) :=
  foldl_set hd hg hg' ho _ a List.nodup_range (by simpa using hi)

theorem put_size (a : Act) (d : Option Tmp) (v : Value) : (a.put d v).tmps.size = a.tmps.size := by cases d <;> simp [Act.put]

theorem foldl_size : ∀ (l : List Nat) (a : Act), (l.foldl (fillStep ops val g) a).tmps.size = a.tmps.size
  | [], _ => rfl
  | x :: l, a => by
    simp only [List.foldl_cons]
    rw [foldl_size l]
    unfold fillStep
    split
    · exact put_size _ _ _
    · rfl

theorem fillA_size (a : Act) : (fillA ops val g a).tmps.size = a.tmps.size := foldl_size _ a

theorem foldl_other {t : Tmp} : ∀ (l : List Nat) (a : Act), (∀ i ∈ l, g i = true → dstOf ops i ≠ some t) → (l.foldl (fillStep ops val g) a).tmps[t]? = a.tmps[t]?
  | [], _, _ => rfl
  | x :: l, a, h => by
    simp only [List.foldl_cons]
    rw [foldl_other l _ fun i hi => h i (by simp [hi])]
    unfold fillStep
    split
    · rename_i hx
      have := h x (by simp) hx
      cases hdx : dstOf ops x with
      | none => rfl
      | some d =>
        have : d ≠ t := fun e => this (by rw [hdx, e])
        simp [Act.put, Array.getElem?_setIfInBounds_ne this]
    · rfl

/-- A slot that none of the operations writes. -/
theorem eval_other {t : Tmp} (h : ∀ i, dstOf ops i ≠ some t) (a : Act) : (fillA ops val g a).eval (.tmp t) = a.eval (.tmp t) := by
  simp only [Act.eval, Array.getD_eq_getD_getElem?]
  rw [show (fillA ops val g a).tmps[t]? = a.tmps[t]? from foldl_other _ a fun i _ _ => h i]

theorem foldl_at (hd : Distinct ops) {j : Nat} {t : Tmp} (hj : dstOf ops j = some t) (hg : g j = true) : ∀ (l : List Nat) (a : Act), l.Nodup → j ∈ l → t < a.tmps.size →
    (l.foldl (fillStep ops val g) a).tmps[t]? = some (val j)
  | [], _, _, h, _ => by cases h
  | x :: l, a, hn, h, ht => by
    obtain ⟨hxl, hnl⟩ := List.nodup_cons.1 hn
    simp only [List.foldl_cons]
    by_cases e : x = j
    · subst e
      rw [foldl_other l _ fun i hi _ hit => hd x i t (fun e => hxl (e ▸ hi)) hj hit]
      simp [fillStep, hg, hj, Act.put, ht]
    · have hjl : j ∈ l := by cases h with | head => exact absurd rfl e | tail _ h => exact h
      refine foldl_at hd hj hg l _ hnl hjl ?_
      unfold fillStep
      split
      · rw [put_size]; exact ht
      · exact ht

/-- A slot that an operation writes which is done. -/
theorem eval_at (hd : Distinct ops) {j : Nat} {t : Tmp} (hj : dstOf ops j = some t) (hg : g j = true) (a : Act) (ht : t < a.tmps.size) : (fillA ops val g a).eval (.tmp t) = val j := by
  simp only [Act.eval, Array.getD_eq_getD_getElem?]
  rw [show (fillA ops val g a).tmps[t]? = some (val j) from foldl_at hd hj hg _ a List.nodup_range (by simpa using dstOf_lt hj) ht]
  rfl
end

/-- What is done, as a function. -/
def gOf (listed : Array Bool) (i : Nat) : Bool := listed.getD i false

section
variable {P : Program} {ops : Array Oper} {Q : Exit → Act → World → Prop}

/-- One operation, among those that are done: it yields its value, and the world is as the operations that are done then have it. -/
def Does (P : Program) (ops : Array Oper) (val : Nat → Value) (a0 : Act) (I : (Nat → Bool) → World → Prop) (g : Nat → Bool) (i : Nat) (o : Oper) (w : World) : Prop :=
  ∃ w', ((execOp (fillA ops val g a0).eval o).run P w = .ok (.value (val i)) w' ∨ ((execOp (fillA ops val g a0).eval o).run P w = .ok .skip w' ∧ o.dst = none)) ∧
    ∀ g', g' i = true → (∀ j, j ≠ i → g' j = g j) → I g' w'

/-- Whatever is done, what it waited for is done. -/
def Closed (ops : Array Oper) (g : Nat → Bool) : Prop := ∀ j o, ops[j]? = some o → g j = true → ∀ e ∈ o.after, Region.binds .any e = true → g e.on = true

def orderedB (ops : Array Oper) : Bool := (List.range ops.size).all fun i => match ops[i]? with | none => true | some o => o.guard.isNone && o.after.all fun e => e.on < i

theorem ready_spec {listed : Array Bool} {i : Nat} (h : i ∈ Region.ready .any ops listed) : ∃ o, ops[i]? = some o ∧ i < ops.size ∧ listed.getD i true = false ∧ ∀ e ∈ o.after, Region.binds .any e = true → listed.getD e.on false = true := by
  simp only [Region.ready, List.mem_filter, List.mem_range, Bool.and_eq_true, Bool.not_eq_true'] at h
  obtain ⟨hi, h1, h2⟩ := h
  refine ⟨ops[i], by simp [hi], hi, h1, fun e he hb => ?_⟩
  simp only [Array.getElem?_eq_getElem hi, Option.map_some, Option.getD_some, Array.all_eq_true] at h2
  obtain ⟨k, hk, rfl⟩ := Array.mem_iff_getElem.1 he
  have := h2 k hk
  rw [hb] at this
  simpa using this

theorem ready_of {listed : Array Bool} {i : Nat} {o : Oper} (ho : ops[i]? = some o) (hl : listed.getD i true = false) (h : ∀ e ∈ o.after, listed.getD e.on false = true) : i ∈ Region.ready .any ops listed := by
  have hi : i < ops.size := (Array.getElem?_eq_some_iff.1 ho).1
  simp only [Region.ready, List.mem_filter, List.mem_range, Bool.and_eq_true, Bool.not_eq_true']
  refine ⟨hi, hl, ?_⟩
  simp only [ho, Option.map_some, Option.getD_some, Array.all_eq_true]
  intro k hk
  have := h o.after[k] (Array.getElem_mem hk)
  simp [this]

/-- Where nothing is ready, all is done. -/
theorem all_done (hO : orderedB ops = true) {listed : Array Bool} (hs : listed.size = ops.size) (h : Region.ready .any ops listed = []) : ∀ i, i < ops.size → listed.getD i false = true := by
  intro i
  induction i using Nat.strongRecOn with
  | _ i ih =>
    intro hi
    cases hl : listed.getD i false with
    | true => rfl
    | false =>
      have ho : ops[i]? = some ops[i] := by simp [hi]
      simp only [orderedB, List.all_eq_true, List.mem_range] at hO
      have h1 := hO i hi
      simp only [ho, Bool.and_eq_true] at h1
      have hr : i ∈ Region.ready .any ops listed := ready_of ho (by simpa [Array.getD_eq_getD_getElem?, hs, hi] using hl) fun e he => by
        obtain ⟨k, hk, rfl⟩ := Array.mem_iff_getElem.1 he
        have h2 := h1.2
        simp only [Array.all_eq_true] at h2
        have := h2 k hk
        simp only [decide_eq_true_eq] at this
        exact ih _ this (by omega)
      rw [h] at hr
      cases hr

theorem wpAny_val {val : Nat → Value} {a0 : Act} {I : (Nat → Bool) → World → Prop} (hd : Distinct ops) (hO : orderedB ops = true)
    (step : ∀ i o g w, ops[i]? = some o → g i = false → (∀ e ∈ o.after, Region.binds .any e = true → g e.on = true) → Closed ops g → I g w → Does P ops val a0 I g i o w)
    (hQ : ∀ g w, (∀ i, i < ops.size → g i = true) → I g w → Q .normal (fillA ops val g a0) w) :
    ∀ (fuel : Nat) (listed : Array Bool) (w : World), listed.size = ops.size → listed.toList.count false ≤ fuel → Closed ops (gOf listed) → I (gOf listed) w → wpAny P .any ops Q fuel listed (fillA ops val (gOf listed) a0) w := by
  intro fuel
  induction fuel with
  | zero =>
    intro listed w hs hc hcl hI
    have all : ∀ i, i < ops.size → listed.getD i false = true := by
      intro i hi
      have : listed[i]'(by omega) ≠ false := by
        intro e
        have hm : false ∈ listed.toList := by rw [← e]; exact Array.getElem_mem_toList ..
        have := List.count_pos_iff.2 hm
        omega
      simp only [Array.getD_eq_getD_getElem?, Array.getElem?_eq_getElem (show i < listed.size by omega), Option.getD_some]
      simpa using this
    refine ⟨?_, hQ _ w all hI⟩
    cases hr : Region.ready .any ops listed with
    | nil => rfl
    | cons x xs =>
      obtain ⟨o, _, hx, h1, _⟩ := ready_spec (ops := ops) (listed := listed) (i := x) (by rw [hr]; simp)
      have := all x hx
      simp [Array.getD_eq_getD_getElem?, hs, hx] at h1 this
      rw [this] at h1; cases h1
  | succ fuel ih =>
    intro listed w hs hc hcl hI
    refine ⟨fun h0 => hQ _ w (all_done hO hs h0) hI, fun i hi => ?_⟩
    obtain ⟨o, ho, hlt, hl, hdep⟩ := ready_spec hi
    have hgi : gOf listed i = false := by simpa [gOf, Array.getD_eq_getD_getElem?, hs, hlt] using hl
    obtain ⟨w', hrun, hI'⟩ := step i o (gOf listed) w ho hgi hdep hcl hI
    have hset : gOf (listed.setIfInBounds i true) i = true := by simp [gOf, Array.getD_eq_getD_getElem?, hs, hlt]
    have hoth : ∀ j, j ≠ i → gOf (listed.setIfInBounds i true) j = gOf listed j := fun j hj => by
      simp [gOf, Array.getD_eq_getD_getElem?, Array.getElem?_setIfInBounds_ne (Ne.symm hj)]
    have hfill : fillA ops val (gOf (listed.setIfInBounds i true)) a0 = (fillA ops val (gOf listed) a0).put o.dst (val i) := by
      rw [fillA_set hd hlt hgi hset hoth a0]
      simp [dstOf, ho]
    have hcount : (listed.setIfInBounds i true).toList.count false ≤ fuel := by
      have hli : i < listed.toList.length := by simpa [hs] using hlt
      have hv : listed.toList[i] = false := by simpa [gOf, Array.getD_eq_getD_getElem?, hs, hlt] using hgi
      have e : (listed.setIfInBounds i true).toList = listed.toList.set i true := by simp
      rw [e, List.count_set hli, hv]
      have := List.count_pos_iff.2 (show false ∈ listed.toList by rw [← hv]; exact List.getElem_mem hli)
      change listed.toList.count false - 1 + 0 ≤ fuel
      omega
    have hclosed : Closed ops (gOf (listed.setIfInBounds i true)) := by
      intro j o' hj hgj e he hb
      have key : gOf listed e.on = true := by
        by_cases hji : j = i
        · subst hji
          rw [ho] at hj
          obtain rfl := Option.some.inj hj
          exact hdep e he hb
        · rw [hoth j hji] at hgj
          exact hcl j o' hj hgj e he hb
      by_cases h : e.on = i
      · rw [h]; exact hset
      · rw [hoth _ h]; exact key
    have hK := ih (listed.setIfInBounds i true) w' (by simp [hs]) hcount hclosed (hI' _ hset hoth)
    rw [hfill] at hK
    unfold wpOp
    simp only [ho]
    have hguard : o.guard = none := by
      simp only [orderedB, List.all_eq_true, List.mem_range] at hO
      have := hO i hlt
      simp only [ho, Bool.and_eq_true] at this
      simpa using this.1
    rw [if_pos (by simp [Region.wanted, hguard])]
    left
    unfold Oper.wp
    rcases hrun with hrun | ⟨hrun, hdst⟩
    · rw [hrun]; exact hK
    · rw [hrun]
      simp only [Oper.upon]
      rw [hdst] at hK ⊢
      exact hK

/-- THE LAW. -/
theorem wp_region_val {id : Nat} {a0 : Act} {w : World} (hm : P.follows .mixedOrders = true) (val : Nat → Value) (I : (Nat → Bool) → World → Prop) (hd : distinctB ops = true) (hO : orderedB ops = true)
    (h0 : I (fun _ => false) { w with drawn := w.drawn + 1 })
    (step : ∀ i o g w, ops[i]? = some o → g i = false → (∀ e ∈ o.after, Region.binds .any e = true → g e.on = true) → Closed ops g → I g w → Does P ops val a0 I g i o w)
    (hQ : ∀ g w, (∀ i, i < ops.size → g i = true) → I g w → Q .normal (fillA ops val g a0) w) : (Code.region id ops true).wp P Q a0 w := by
  refine wp_region_any hm ?_
  have hg : gOf (Array.replicate ops.size false) = fun _ => false := by
    funext i
    simp only [gOf, Array.getD_eq_getD_getElem?, Array.getElem?_replicate]
    split <;> rfl
  have he : fillA ops val (fun _ => false) a0 = a0 := by
    unfold fillA
    generalize List.range ops.size = l
    induction l generalizing a0 with
    | nil => rfl
    | cons x l ih => simpa [fillStep] using ih (fun i o g w h1 h2 h3 hc h4 => by
        obtain ⟨w', h5, h6⟩ := step i o g w h1 h2 h3 hc h4
        exact ⟨w', h5, h6⟩) hQ
  have := wpAny_val (P := P) (Q := Q) (val := val) (a0 := a0) (I := I) (distinct_of hd) hO step hQ ops.size (Array.replicate ops.size false) { w with drawn := w.drawn + 1 } (by simp) (by simp) (by rw [hg]; intro j o hj hg; cases hg) (by rw [hg]; exact h0)
  rw [hg, he] at this
  exact this
end
end Go.Val
end
