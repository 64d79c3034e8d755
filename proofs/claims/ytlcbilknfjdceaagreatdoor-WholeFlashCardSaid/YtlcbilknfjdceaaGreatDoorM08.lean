/-
  WholeFlash, part 8 of 44: Lawa, Lawb.
-/
import Derived.Laws.BitsAllLaws
section
/-
  The words of a chip: what a change may do to them.
-/
set_option linter.unusedVariables false
set_option linter.unusedSimpArgs false
namespace Go.Proofs.YtlcbilknfjdceaaGreatDoor
open Go
theorem bv_wrap (X : BitVec 32) : BitVec.ofInt 32 (IntKind.u32.wrap (X.toNat : Int)) = X := by
  have e : IntKind.u32.wrap (X.toNat : Int) = (X.toNat : Int) := by
    rw [IntKind.wrap_u32']
    have := X.isLt
    omega
  rw [e, BitVec.ofInt_natCast]
  simp
theorem bv_and (x y : Int) : BitVec.ofInt 32 (bits .and .u32 x y) = BitVec.ofInt 32 x &&& BitVec.ofInt 32 y := bv_wrap _
theorem bv_andNot (x y : Int) : BitVec.ofInt 32 (bits .andNot .u32 x y) = BitVec.ofInt 32 x &&& ~~~ BitVec.ofInt 32 y := bv_wrap _
/-- No bit of y but bits of x. -/
def LeW (x y : Int) : Prop := BitVec.ofInt 32 y &&& ~~~ BitVec.ofInt 32 x = 0#32
theorem LeW.refl (x : Int) : LeW x x := by unfold LeW; simp
theorem LeW.trans {x y z : Int} (h : LeW x y) (h' : LeW y z) : LeW x z := by
  unfold LeW at *
  generalize BitVec.ofInt 32 x = a at *
  generalize BitVec.ofInt 32 y = b at *
  generalize BitVec.ofInt 32 z = c at *
  have e : c &&& ~~~a = ((c &&& ~~~b) ||| (b &&& ~~~a)) &&& (c &&& ~~~a) := by
    ext i hi
    simp only [BitVec.getElem_and, BitVec.getElem_or, BitVec.getElem_not]
    cases a[i] <;> cases b[i] <;> cases c[i] <;> rfl
  rw [e, h, h']
  simp
theorem leW_and (x v : Int) : LeW x (bits .and .u32 x v) := by
  unfold LeW
  rw [bv_and]
  ext i hi
  simp only [BitVec.getElem_and, BitVec.getElem_not, BitVec.getElem_zero]
  cases (BitVec.ofInt 32 x)[i] <;> simp
theorem LeW.none {x y : Int} (h : LeW x y) : bits .andNot .u32 y x = 0 := by
  unfold LeW at h
  unfold bits
  show IntKind.u32.wrap ((BitVec.ofInt 32 y &&& ~~~ BitVec.ofInt 32 x).toNat : Int) = 0
  rw [h]
  rfl
theorem ones_and (v : Int) (h0 : 0 ≤ v) (h1 : v < 4294967296) : bits .and .u32 4294967295 v = v := by
  unfold bits
  show IntKind.u32.wrap ((BitVec.ofInt 32 4294967295 &&& BitVec.ofInt 32 v).toNat : Int) = v
  have e : BitVec.ofInt 32 4294967295 = BitVec.allOnes 32 := by decide
  rw [e, BitVec.allOnes_and]
  obtain ⟨n, rfl⟩ := Int.eq_ofNat_of_zero_le h0
  rw [ofInt_u32 n (by omega), IntKind.wrap_u32']
  omega
/-- What one change may do: where a block's wear is the same, its words only lose bits. -/
structure LeC (ws wear ws' wear' : List Int) : Prop where
  grow : ∀ b, wear.getD b 0 ≤ wear'.getD b 0
  less : ∀ i, wear'.getD (i / 64) 0 = wear.getD (i / 64) 0 → LeW (ws.getD i 0) (ws'.getD i 0)
theorem LeC.refl (ws wear : List Int) : LeC ws wear ws wear := ⟨fun _ => Int.le_refl _, fun _ _ => LeW.refl _⟩
theorem LeC.trans {ws wear ws' wear' ws'' wear'' : List Int} (h : LeC ws wear ws' wear') (h' : LeC ws' wear' ws'' wear'') : LeC ws wear ws'' wear'' :=
  ⟨fun b => Int.le_trans (h.grow b) (h'.grow b), fun i e => by
    have a := h.grow (i / 64)
    have b := h'.grow (i / 64)
    exact (h.less i (by omega)).trans (h'.less i (by omega))⟩
theorem getD_set (l : List Int) (i j : Nat) (x d : Int) : (l.set i x).getD j d = if i = j ∧ j < l.length then x else l.getD j d := by
  rw [List.getD_eq_getElem?_getD, List.getD_eq_getElem?_getD, List.getElem?_set]
  by_cases e : i = j
  · subst e
    by_cases h : i < l.length
    · simp [h]
    · simp [h]
  · simp [e]
theorem LeC.prog (ws wear : List Int) (i : Nat) (v : Int) : LeC ws wear (ws.set i (bits .and .u32 (ws.getD i 0) v)) wear :=
  ⟨fun _ => Int.le_refl _, fun j _ => by
    rw [getD_set]
    split
    · rename_i h
      rw [← h.1]
      exact leW_and _ _
    · exact LeW.refl _⟩
end Go.Proofs.YtlcbilknfjdceaaGreatDoor
end
section
/-
  Pages and blocks in plain Lean, and the words that they are on the flash.
-/
set_option linter.unusedVariables false
set_option linter.unusedSimpArgs false
namespace Go.Proofs.YtlcbilknfjdceaaGreatDoor
open Go
structure Pg where
  sec : Int
  seq : Int
  gone : Bool
  d0 : Int
  d1 : Int
  d2 : Int
  d3 : Int
abbrev Pg.z : Pg := ⟨0, 0, false, 0, 0, 0, 0⟩
instance : Inhabited Pg := ⟨Pg.z⟩
structure Pg.Right (p : Pg) : Prop where
  s0 : 0 ≤ p.sec
  s1 : p.sec < 512
  q0 : 1 ≤ p.seq
  q1 : p.seq ≤ 2147483648
  a0 : 0 ≤ p.d0 ∧ p.d0 < 4294967296
  a1 : 0 ≤ p.d1 ∧ p.d1 < 4294967296
  a2 : 0 ≤ p.d2 ∧ p.d2 < 4294967296
  a3 : 0 ≤ p.d3 ∧ p.d3 < 4294967296
  g : p.gone = true → p.d0 = 0 ∧ p.d1 = 0 ∧ p.d2 = 0 ∧ p.d3 = 0
/-- What is known of a block: its head, how often it was erased, its pages' kinds, its pages. -/
structure Rb where
  head : Int
  count : Int
  kinds : List Int
  pages : List Pg
instance : Inhabited Rb := ⟨⟨0, 0, [], []⟩⟩
abbrev ones : Int := 4294967295
def pgW (p : Pg) : List Int := [if p.gone then p.sec + 2147483648 else p.sec, p.seq, p.d0, p.d1, p.d2, p.d3, 1526644958]
def hdW (c : Int) : List Int := [2970353665, c, 4294967295 - c, 1526644958]
def encP (k : Int) (p : Pg) : List Int := if k = 1 then pgW p else List.replicate 7 ones
theorem pgW_len (p : Pg) : (pgW p).length = 7 := rfl
theorem encP_len (k : Int) (p : Pg) : (encP k p).length = 7 := by unfold encP; split <;> simp [pgW]
def encKP (ks : List Int) (ps : List Pg) : List Int := (List.zipWith encP ks ps).flatten
def encB (b : Rb) : List Int := if b.head = 1 then hdW b.count ++ (encKP b.kinds b.pages ++ List.replicate 4 ones) else List.replicate 64 ones
def encW (bs : List Rb) : List Int := (bs.map encB).flatten
/-- A block whose words are what is known of it: it has a head, or it has nothing. -/
structure Rest (b : Rb) : Prop where
  k8 : b.kinds.length = 8
  p8 : b.pages.length = 8
  c0 : 0 ≤ b.count
  c1 : b.count ≤ 2147483648
  hd : b.head = 1 ∨ b.head = 0
  pg : ∀ k, k < 8 → (b.kinds.getD k 0 = 0 ∧ b.pages.getD k Pg.z = Pg.z ∧ b.head = 1) ∨ (b.kinds.getD k 0 = 1 ∧ (b.pages.getD k Pg.z).Right ∧ b.head = 1) ∨ (b.kinds.getD k 0 = 2 ∧ b.pages.getD k Pg.z = Pg.z ∧ b.head = 0)
theorem flat7 {l : List (List Int)} (h : ∀ x ∈ l, x.length = 7) : ∀ (n j : Nat), j < 7 → n < l.length → l.flatten.getD (7 * n + j) 0 = (l.getD n []).getD j 0 := by
  induction l with
  | nil => intro n j _ h; cases h
  | cons x l ih =>
    intro n j hj hn
    have hx := h x List.mem_cons_self
    cases n with
    | zero =>
      simp only [List.flatten_cons, Nat.mul_zero, Nat.zero_add, List.getD_cons_zero]
      rw [List.getD_eq_getElem?_getD, List.getD_eq_getElem?_getD, List.getElem?_append_left (by omega)]
    | succ n =>
      have e : 7 * (n + 1) + j = 7 + (7 * n + j) := by omega
      rw [List.flatten_cons, List.getD_cons_succ, ← ih (fun y hy => h y (List.mem_cons_of_mem _ hy)) n j hj (by simpa using hn), e, List.getD_eq_getElem?_getD, List.getD_eq_getElem?_getD, List.getElem?_append_right (by omega), hx]
      congr 2
      omega
theorem flat64 {l : List (List Int)} (h : ∀ x ∈ l, x.length = 64) : ∀ (n j : Nat), j < 64 → n < l.length → l.flatten.getD (64 * n + j) 0 = (l.getD n []).getD j 0 := by
  induction l with
  | nil => intro n j _ h; cases h
  | cons x l ih =>
    intro n j hj hn
    have hx := h x List.mem_cons_self
    cases n with
    | zero =>
      simp only [List.flatten_cons, Nat.mul_zero, Nat.zero_add, List.getD_cons_zero]
      rw [List.getD_eq_getElem?_getD, List.getD_eq_getElem?_getD, List.getElem?_append_left (by omega)]
    | succ n =>
      have e : 64 * (n + 1) + j = 64 + (64 * n + j) := by omega
      rw [List.flatten_cons, List.getD_cons_succ, ← ih (fun y hy => h y (List.mem_cons_of_mem _ hy)) n j hj (by simpa using hn), e, List.getD_eq_getElem?_getD, List.getD_eq_getElem?_getD, List.getElem?_append_right (by omega), hx]
      congr 2
      omega
theorem flat_len {n : Nat} {l : List (List Int)} (h : ∀ x ∈ l, x.length = n) : l.flatten.length = n * l.length := by
  induction l with
  | nil => simp
  | cons x l ih => rw [List.flatten_cons, List.length_append, h x List.mem_cons_self, ih fun y hy => h y (List.mem_cons_of_mem _ hy), List.length_cons, Nat.mul_succ]; omega
theorem encKP_len {ks : List Int} {ps : List Pg} (h : ks.length = 8) (h' : ps.length = 8) : (encKP ks ps).length = 56 := by
  unfold encKP
  rw [flat_len (n := 7)]
  · rw [List.length_zipWith, h, h']; rfl
  · intro x hx
    obtain ⟨i, hi, e⟩ := List.getElem_of_mem hx
    rw [List.getElem_zipWith] at e
    rw [← e]
    exact encP_len _ _
theorem encKP_at {ks : List Int} {ps : List Pg} (h : ks.length = 8) (h' : ps.length = 8) (n j : Nat) (hn : n < 8) (hj : j < 7) : (encKP ks ps).getD (7 * n + j) 0 = (encP (ks.getD n 0) (ps.getD n Pg.z)).getD j 0 := by
  unfold encKP
  rw [flat7 _ n j hj (by rw [List.length_zipWith, h, h']; exact hn)]
  · congr 1
    rw [List.getD_eq_getElem?_getD, List.getElem?_zipWith, List.getD_eq_getElem?_getD, List.getD_eq_getElem?_getD, List.getElem?_eq_getElem (by omega), List.getElem?_eq_getElem (by omega)]
    rfl
  · intro x hx
    obtain ⟨i, hi, e⟩ := List.getElem_of_mem hx
    rw [List.getElem_zipWith] at e
    rw [← e]
    exact encP_len _ _
theorem encB_len {b : Rb} (h : Rest b) : (encB b).length = 64 := by
  unfold encB
  split
  · rw [List.length_append, List.length_append, encKP_len h.k8 h.p8]; simp [hdW]
  · simp
theorem encB_head {b : Rb} (h : b.head = 1) (j : Nat) (hj : j < 4) : (encB b).getD j 0 = (hdW b.count).getD j 0 := by
  unfold encB
  rw [if_pos h, List.getD_eq_getElem?_getD, List.getD_eq_getElem?_getD, List.getElem?_append_left (by simpa [hdW] using hj)]
theorem encB_page {b : Rb} (h : Rest b) (h1 : b.head = 1) (n j : Nat) (hn : n < 8) (hj : j < 7) : (encB b).getD (4 + (7 * n + j)) 0 = (encP (b.kinds.getD n 0) (b.pages.getD n Pg.z)).getD j 0 := by
  have hl := encKP_len h.k8 h.p8
  have hh : (hdW b.count).length = 4 := rfl
  rw [← encKP_at h.k8 h.p8 n j hn hj]
  unfold encB
  rw [if_pos h1, List.getD_eq_getElem?_getD, List.getD_eq_getElem?_getD, List.getElem?_append_right (by omega), hh, List.getElem?_append_left (by omega)]
  congr 2
  omega
theorem encB_tail {b : Rb} (h : Rest b) (j : Nat) (hj : 60 ≤ j) (hj' : j < 64) : (encB b).getD j 0 = ones := by
  have hh : (hdW b.count).length = 4 := rfl
  unfold encB
  split
  · have hl := encKP_len h.k8 h.p8
    rw [List.getD_eq_getElem?_getD, List.getElem?_append_right (by omega), hh, List.getElem?_append_right (by omega), hl, List.getElem?_replicate, if_pos (by omega)]
    rfl
  · rw [List.getD_eq_getElem?_getD, List.getElem?_replicate, if_pos (by omega)]
    rfl
theorem encB_none {b : Rb} (h : b.head ≠ 1) (j : Nat) (hj : j < 64) : (encB b).getD j 0 = ones := by
  unfold encB
  rw [if_neg h, List.getD_eq_getElem?_getD, List.getElem?_replicate, if_pos hj]
  rfl
def Rests (bs : List Rb) : Prop := bs.length = 5 ∧ ∀ b ∈ bs, Rest b
theorem encW_len {bs : List Rb} (h : Rests bs) : (encW bs).length = 320 := by
  unfold encW
  rw [flat_len (n := 64), List.length_map, h.1]
  intro x hx
  obtain ⟨b, hb, rfl⟩ := List.mem_map.1 hx
  exact encB_len (h.2 b hb)
theorem encW_at {bs : List Rb} (h : Rests bs) (n j : Nat) (hn : n < 5) (hj : j < 64) : (encW bs).getD (64 * n + j) 0 = (encB (bs.getD n default)).getD j 0 := by
  unfold encW
  rw [flat64 _ n j hj (by rw [List.length_map, h.1]; exact hn)]
  · congr 1
    rw [List.getD_eq_getElem?_getD, List.getElem?_map, List.getD_eq_getElem?_getD, List.getElem?_eq_getElem (by rw [h.1]; exact hn)]
    rfl
  · intro x hx
    obtain ⟨b, hb, rfl⟩ := List.mem_map.1 hx
    exact encB_len (h.2 b hb)
/-- Words programmed one behind the other. -/
def progs (ws : List Int) (i : Nat) : List Int → List Int
  | [] => ws
  | v :: l => progs (ws.set i (bits .and .u32 (ws.getD i 0) v)) (i + 1) l
theorem progs_len (l : List Int) : ∀ (ws : List Int) (i : Nat), (progs ws i l).length = ws.length := by
  induction l with
  | nil => intros; rfl
  | cons v l ih => intro ws i; unfold progs; rw [ih, List.length_set]
theorem progs_at (l : List Int) : ∀ (ws : List Int) (i j : Nat), i + l.length ≤ ws.length → (progs ws i l).getD j 0 = if i ≤ j ∧ j < i + l.length then bits .and .u32 (ws.getD j 0) (l.getD (j - i) 0) else ws.getD j 0 := by
  induction l with
  | nil => intro ws i j _; rw [if_neg (by simp)]; rfl
  | cons v l ih =>
    intro ws i j h
    rw [List.length_cons] at h
    unfold progs
    rw [ih _ _ _ (by rw [List.length_set]; omega), getD_set, List.length_cons]
    by_cases e : i = j
    · subst e
      rw [if_neg (by omega), if_pos ⟨rfl, by omega⟩, if_pos (by omega), Nat.sub_self]
      rfl
    · by_cases e2 : i + 1 ≤ j ∧ j < i + 1 + l.length
      · rw [if_pos e2, if_neg (fun hh => e hh.1), if_pos (by omega), show j - i = (j - (i + 1)) + 1 by omega, List.getD_cons_succ]
      · rw [if_neg e2, if_neg (fun hh => e hh.1), if_neg (by omega)]
theorem progs_le (l : List Int) (wear : List Int) : ∀ (ws : List Int) (i : Nat), LeC ws wear (progs ws i l) wear := by
  induction l with
  | nil => intro ws i; exact LeC.refl _ _
  | cons v l ih => intro ws i; exact (LeC.prog ws wear i v).trans (ih _ _)
theorem words_ext {l l' : List Int} (h : l.length = 320) (h' : l'.length = 320) (e : ∀ n j, n < 5 → j < 64 → l.getD (64 * n + j) 0 = l'.getD (64 * n + j) 0) : l = l' := by
  apply List.ext_getElem? 
  intro i
  by_cases hi : i < 320
  · have := e (i / 64) (i % 64) (by omega) (by omega)
    rw [show 64 * (i / 64) + i % 64 = i by omega, List.getD_eq_getElem?_getD, List.getD_eq_getElem?_getD, List.getElem?_eq_getElem (by omega), List.getElem?_eq_getElem (by omega)] at this
    rw [List.getElem?_eq_getElem (by omega), List.getElem?_eq_getElem (by omega)]
    exact congrArg some this
  · rw [List.getElem?_eq_none (by omega), List.getElem?_eq_none (by omega)]
end Go.Proofs.YtlcbilknfjdceaaGreatDoor
end
