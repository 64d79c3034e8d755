/-
  The reference's desk: what it tells and leaves, and that it is what the desk does.
-/
import Derived.Test.YtogepklmmehbjaaDoorWaits
import Derived.Test.YtogepklmmehbjaaDoorGrow
set_option linter.unusedVariables false
set_option linter.unusedSimpArgs false
namespace Go.Proofs.YtogepklmmehbjaaDoor
open Go.RowKit Go.Lib

/-! ### The words -/
theorem or_new (S k : Nat) (hS : S < 4294967296) (hk : k < 32) (h : bV S k = 0) : bits .or .u32 (S : Int) ((2 : Int) ^ k % 4294967296) = ((sV S k 1 : Nat) : Int) := by
  have hroom := bit_room S k hS (by omega) h
  have hp : 2 ^ k < 4294967296 := by omega
  have e : sV S k 1 = S + 2 ^ k := by unfold sV; rw [h]; simp
  rw [e, pow_cast k hk, u_nat S hS, u_nat (2 ^ k) hp, or_u]
  have hz : BitVec.ofNat 32 S &&& BitVec.ofNat 32 (2 ^ k) = 0#32 := by
    apply BitVec.eq_of_toNat_eq
    rw [BitVec.toNat_and, BitVec.toNat_ofNat, BitVec.toNat_ofNat, Nat.mod_eq_of_lt hS, Nat.mod_eq_of_lt hp]
    apply Nat.eq_of_testBit_eq
    intro j
    rw [Nat.testBit_and, Nat.testBit_two_pow]
    by_cases e : k = j
    · subst e
      have : S.testBit k = false := by
        cases ht : S.testBit k with
        | false => rfl
        | true => have := bV_one_of ht; unfold bV at h; omega
      simp [this]
    · simp [e]
  have h2 := congrArg BitVec.toNat (BitVec.add_eq_or_of_and_eq_zero _ _ hz)
  rw [BitVec.toNat_add, BitVec.toNat_ofNat, BitVec.toNat_ofNat, Nat.mod_eq_of_lt (show S < 2 ^ 32 from hS), Nat.mod_eq_of_lt (show 2 ^ k < 2 ^ 32 from hp)] at h2
  unfold u
  rw [← h2]
  omega
theorem andNot_new (S k : Nat) (hS : S < 4294967296) (hk : k < 32) : bits .andNot .u32 (S : Int) ((2 : Int) ^ k % 4294967296) = ((sV S k 0 : Nat) : Int) := by
  have h31 : 2 ^ k ≤ 2 ^ 31 := Nat.pow_le_pow_right (by decide) (by omega)
  have hp : 2 ^ k < 4294967296 := by omega
  rcases bV_01 S k with h | h
  · have e : sV S k 0 = S := by unfold sV; rw [h]; simp
    rw [e, pow_cast k hk]
    have hs : (0 : Nat) &&& S = 0 := Nat.zero_and _
    rw [u_nat S hS, u_nat (2 ^ k) hp, andNot_u]
    congr 1
    ext i hi
    simp only [BitVec.getElem_and, BitVec.getElem_not]
    have t1 : (BitVec.ofNat 32 (2 ^ k))[i] = decide (k = i) := by
      rw [← BitVec.getLsbD_eq_getElem hi, test_nat _ i hp, Nat.testBit_two_pow]
    have t2 : (BitVec.ofNat 32 S)[i] = S.testBit i := by rw [← BitVec.getLsbD_eq_getElem hi, test_nat _ i hS]
    rw [t1, t2]
    by_cases e : k = i
    · subst e
      have : S.testBit k = false := by
        cases ht : S.testBit k with
        | false => rfl
        | true => have := bV_one_of ht; unfold bV at h; omega
      simp [this]
    · simp [e]
  · have e : sV S k 0 = S - 2 ^ k := by unfold sV; rw [h]; simp
    rw [e, pow_cast k hk]
    exact (andNot_sub S _ hS (pow_part S k h)).1
theorem even_of (v : Int) (hv : 0 ≤ v ∧ v < 4294967296) : bits .andNot .u32 v 1 = (((v - v % 2).toNat : Nat) : Int) := by
  obtain ⟨X, rfl⟩ : ∃ X : Nat, v = (X : Int) := ⟨v.toNat, by omega⟩
  have h := andNot_new X 0 (by omega) (by decide)
  have e1 : (2 : Int) ^ 0 % 4294967296 = 1 := by decide
  rw [e1] at h
  rw [h]
  have : sV X 0 0 = X - X % 2 := by unfold sV bV; simp
  rw [this]
  omega

structure In3 (A E S : Nat) : Prop where
  a : A < 4294967296
  e : E < 4294967296
  s : S < 4294967296
  a2 : A % 2 = 0
  e2 : E % 2 = 0
  s2 : S % 2 = 0
def gN (A E S : Nat) : Nat := if wN A E S = 0 then S else sV S (dNum (nD A E S)) 1
theorem num_bits {A E S : Nat} (h : In3 A E S) (hw : wN A E S ≠ 0) : 1 ≤ dNum (nD A E S) ∧ dNum (nD A E S) < 32 ∧ bV S (dNum (nD A E S)) = 0 := by
  have hlt := wN_lt A E S
  have hn : dNum (nD A E S) = Lib.ctz 32 (wN A E S) := by
    unfold dNum
    rw [dW_nD A E S h.a h.e h.s, if_neg (by omega), Int.toNat_natCast]
  obtain ⟨hlow, hk⟩ := Lib.lowest_bit 32 _ hw hlt
  rw [hn]
  generalize Lib.ctz 32 (wN A E S) = k at *
  have ht : (wN A E S).testBit k = true := by
    have h1 : (2 ^ k).testBit k = true := by rw [Nat.testBit_two_pow]; simp
    rw [← hlow, Nat.testBit_and] at h1
    cases hb : (wN A E S).testBit k with
    | true => rfl
    | false => rw [hb] at h1; cases h1
  have hb := wN_bit A E S k h.a h.e h.s hk
  rw [ht] at hb
  have hs : S.testBit k = false := by cases hs : S.testBit k with
    | false => rfl
    | true => rw [hs] at hb; simp at hb
  have ha : A.testBit k = true := by cases ha : A.testBit k with
    | true => rfl
    | false => rw [ha] at hb; simp at hb
  refine ⟨?_, hk, bV_zero_of hs⟩
  rcases Nat.eq_zero_or_pos k with h0 | h0
  · subst h0
    rw [Nat.testBit_zero, decide_eq_true_iff] at ha
    have := h.a2
    omega
  · exact h0
theorem dGetS_nD {A E S : Nat} (h : In3 A E S) : dGetS (nD A E S) 8 = nD A E (gN A E S) := by
  unfold dGetS dServe gN
  rw [if_pos rfl]
  by_cases hw : wN A E S = 0
  · rw [if_pos (by rw [dW_nD A E S h.a h.e h.s, hw]; rfl), if_pos hw]
  · obtain ⟨n1, n2, n3⟩ := num_bits h hw
    rw [if_neg (by rw [dW_nD A E S h.a h.e h.s]; omega), if_neg hw]
    have hn : Lib.ctz 32 (dW (nD A E S)).toNat = dNum (nD A E S) := by
      unfold dNum
      rw [if_neg (by rw [dW_nD A E S h.a h.e h.s]; omega)]
    rw [hn]
    show (⟨(A : Int), (E : Int), bits .or .u32 (S : Int) ((2 : Int) ^ dNum (nD A E S) % 4294967296)⟩ : Dk) = _
    rw [or_new S _ h.s n2 n3]
    rfl
theorem sV_even (S k b : Nat) (hk : 1 ≤ k) (h : S % 2 = 0) : sV S k b % 2 = 0 := by
  obtain ⟨m, rfl⟩ : ∃ m, k = m + 1 := ⟨k - 1, by omega⟩
  have hle := bit_le S (m + 1)
  unfold sV
  rw [Nat.pow_succ] at *
  have e1 : bV S (m + 1) * (2 ^ m * 2) = (bV S (m + 1) * 2 ^ m) * 2 := by rw [Nat.mul_assoc]
  have e2 : b * (2 ^ m * 2) = (b * 2 ^ m) * 2 := by rw [Nat.mul_assoc]
  rw [e1] at hle
  rw [e1, e2]
  omega
theorem sV_lt (S k b : Nat) (hS : S < 4294967296) (hk : k < 32) (hb : b = 0 ∨ b = 1) : sV S k b < 4294967296 := by
  have hle := bit_le S k
  have hroom := bit_room S k hS (by omega)
  unfold sV
  generalize 2 ^ k = Q at *
  rcases bV_01 S k with h | h <;> rw [h] at hle hroom ⊢ <;> rcases hb with rfl | rfl <;> simp at hle hroom ⊢ <;> omega
theorem In3.get {A E S : Nat} (h : In3 A E S) : In3 A E (gN A E S) := by
  unfold gN
  split
  · exact h
  · rename_i hw
    obtain ⟨n1, n2, n3⟩ := num_bits h hw
    exact ⟨h.a, h.e, sV_lt S _ 1 h.s n2 (.inr rfl), h.a2, h.e2, sV_even S _ 1 n1 h.s2⟩

/-! ### The reference's methods -/
theorem rdget_0 (A E S : Nat) (w : World) : Calls Tryd.prog 21 #[.agg (rdR A E S), .int .u32 0] w fun r w' => r = .returned (.tuple #[.agg (rdR A E S), .int .u32 (A : Int), .bool true]) ∧ Below w.heap.size w w' := by
  go_enter Tryd.func21, Tryd.ntmps21
  go_wp2
  go_region
  all_goals
    go_wp2
    exact bodyPost_ret (v := .tuple #[.agg (rdR A E S), .int .u32 (A : Int), .bool true]) (by simp [results, Tryd.results21, go_sem]) rfl ⟨rfl, (by repeat (first | exact Below.refl _ _ | (refine Below.setCell ?_ (by simp) _) | (refine Below.drew ?_) | (refine Below.grow ?_ (by first | (simp; done) | (simp; omega)) _ _) | (refine Below.alloc ?_ (by first | (simp; done) | (simp; omega)) _)))⟩
theorem rdget_4 (A E S : Nat) (w : World) : Calls Tryd.prog 21 #[.agg (rdR A E S), .int .u32 4] w fun r w' => r = .returned (.tuple #[.agg (rdR A E S), .int .u32 (E : Int), .bool true]) ∧ Below w.heap.size w w' := by
  go_enter Tryd.func21, Tryd.ntmps21
  go_wp2
  go_region
  all_goals
    go_wp2
    exact bodyPost_ret (v := .tuple #[.agg (rdR A E S), .int .u32 (E : Int), .bool true]) (by simp [results, Tryd.results21, go_sem]) rfl ⟨rfl, (by repeat (first | exact Below.refl _ _ | (refine Below.setCell ?_ (by simp) _) | (refine Below.drew ?_) | (refine Below.grow ?_ (by first | (simp; done) | (simp; omega)) _ _) | (refine Below.alloc ?_ (by first | (simp; done) | (simp; omega)) _)))⟩
theorem rdget_8_none (A E S : Nat) (h : In3 A E S) (hw : wN A E S = 0) (w : World) : Calls Tryd.prog 21 #[.agg (rdR A E S), .int .u32 8] w fun r w' => r = .returned (.tuple #[.agg (rdR A E S), .int .u32 0, .bool true]) ∧ Below w.heap.size w w' := by
  have H := _root_.Go.Lib.hid h
  have HN := _root_.Go.Lib.hid (num_zero h.a h.e h.s hw)
  clear h hw
  go_enter Tryd.func21, Tryd.ntmps21
  go_wp2_with (go_at_call 26; refine (waits_calls A E S H.out.a H.out.e H.out.s H.out.a2 _).mono ?_; rw [HN.out]; rintro r w1 ⟨rfl, hb⟩; obtain ⟨e1, d1, rfl⟩ := below_grow hb; clear hb)
  exact bodyPost_ret (v := .tuple #[.agg (rdR A E S), .int .u32 0, .bool true]) (by simp [results, Tryd.results21, go_sem]) rfl ⟨rfl, (by repeat (first | exact Below.refl _ _ | (refine Below.setCell ?_ (by simp) _) | (refine Below.drew ?_) | (refine Below.grow ?_ (by first | (simp; done) | (simp; omega)) _ _) | (refine Below.alloc ?_ (by first | (simp; done) | (simp; omega)) _)))⟩
theorem rdget_8_some (A E S n S' : Nat) (h : In3 A E S) (hn : dNum (nD A E S) = n) (h1 : 1 ≤ n) (h32 : n < 32) (hS' : sV S n 1 = S') (w : World) : Calls Tryd.prog 21 #[.agg (rdR A E S), .int .u32 8] w fun r w' => r = .returned (.tuple #[.agg (rdR A E S'), .int .u32 (n : Int), .bool true]) ∧ Below w.heap.size w w' := by
  have H := _root_.Go.Lib.hid h
  have HN := _root_.Go.Lib.hid hn
  have HS := _root_.Go.Lib.hid hS'
  have hpos : ((n : Int) > 0) = True := eq_true (by omega)
  clear h hn hS'
  go_enter Tryd.func21, Tryd.ntmps21
  go_wp2_with (first | (go_at_call 26; refine (waits_calls A E S H.out.a H.out.e H.out.s H.out.a2 _).mono ?_; rw [HN.out]; rintro r w1 ⟨rfl, hb⟩; obtain ⟨e1, d1, rfl⟩ := below_grow hb; clear hb) | (go_at_call 31; refine (put_one S n 1 H.out.s (by omega) (.inr rfl) _).mono ?_; rw [HS.out]; rintro r w1 ⟨rfl, rfl⟩))
  exact bodyPost_ret (v := .tuple #[.agg (rdR A E S'), .int .u32 (n : Int), .bool true]) (by simp [results, Tryd.results21, go_sem]) rfl ⟨rfl, (by repeat (first | exact Below.refl _ _ | (refine Below.setCell ?_ (by simp) _) | (refine Below.drew ?_) | (refine Below.grow ?_ (by first | (simp; done) | (simp; omega)) _ _) | (refine Below.alloc ?_ (by first | (simp; done) | (simp; omega)) _)))⟩
theorem rdget_bad (A E S : Nat) (off : Int) (h0 : off ≠ 0) (h4 : off ≠ 4) (h8 : off ≠ 8) (w : World) : Calls Tryd.prog 21 #[.agg (rdR A E S), .int .u32 off] w fun r w' => r = .returned (.tuple #[.agg (rdR A E S), .int .u32 0, .bool false]) ∧ Below w.heap.size w w' := by
  have k0 : (off == 0) = false := beq_false_of_ne h0
  have k4 : (off == 4) = false := beq_false_of_ne h4
  have k8 : (off == 8) = false := beq_false_of_ne h8
  clear h0 h4 h8
  go_enter Tryd.func21, Tryd.ntmps21
  go_wp2
  exact bodyPost_ret (v := .tuple #[.agg (rdR A E S), .int .u32 0, .bool false]) (by simp [results, Tryd.results21, go_sem]) rfl ⟨rfl, (by repeat (first | exact Below.refl _ _ | (refine Below.setCell ?_ (by simp) _) | (refine Below.drew ?_) | (refine Below.grow ?_ (by first | (simp; done) | (simp; omega)) _ _) | (refine Below.alloc ?_ (by first | (simp; done) | (simp; omega)) _)))⟩

theorem rdset_0 (A E S : Nat) (v : Int) (w : World) : Calls Tryd.prog 22 #[.agg (rdR A E S), .int .u32 0, .int .u32 v] w fun r w' => r = .returned (.tuple #[.agg (rdR A E S), .bool true]) ∧ Below w.heap.size w w' := by
  go_enter Tryd.func22, Tryd.ntmps22
  go_wp2
  exact bodyPost_ret (v := .tuple #[.agg (rdR A E S), .bool true]) (by simp [results, Tryd.results22, go_sem]) rfl ⟨rfl, (by repeat (first | exact Below.refl _ _ | (refine Below.setCell ?_ (by simp) _) | (refine Below.drew ?_) | (refine Below.grow ?_ (by first | (simp; done) | (simp; omega)) _ _) | (refine Below.alloc ?_ (by first | (simp; done) | (simp; omega)) _)))⟩
theorem rdset_4 (A E S E' : Nat) (v : Int) (hv : 0 ≤ v ∧ v < 4294967296) (he : v - v % 2 = (E' : Int)) (w : World) : Calls Tryd.prog 22 #[.agg (rdR A E S), .int .u32 4, .int .u32 v] w fun r w' => r = .returned (.tuple #[.agg (rdR A E' S), .bool true]) ∧ Below w.heap.size w w' := by
  obtain ⟨v1, v2⟩ := hv
  have hm : v.tmod 2 = v % 2 := Int.tmod_eq_emod_of_nonneg v1
  go_enter Tryd.func22, Tryd.ntmps22
  go_wp2
  exact bodyPost_ret (v := .tuple #[.agg (rdR A E' S), .bool true]) (by simp [results, Tryd.results22, go_sem]) rfl ⟨rfl, (by repeat (first | exact Below.refl _ _ | (refine Below.setCell ?_ (by simp) _) | (refine Below.drew ?_) | (refine Below.grow ?_ (by first | (simp; done) | (simp; omega)) _ _) | (refine Below.alloc ?_ (by first | (simp; done) | (simp; omega)) _)))⟩
theorem rdset_8_out (A E S : Nat) (v : Int) (hv : v = 0 ∨ 32 ≤ v) (w : World) : Calls Tryd.prog 22 #[.agg (rdR A E S), .int .u32 8, .int .u32 v] w fun r w' => r = .returned (.tuple #[.agg (rdR A E S), .bool true]) ∧ Below w.heap.size w w' := by
  rcases hv with rfl | hv
  · go_enter Tryd.func22, Tryd.ntmps22
    go_wp2
    exact bodyPost_ret (v := .tuple #[.agg (rdR A E S), .bool true]) (by simp [results, Tryd.results22, go_sem]) rfl ⟨rfl, (by repeat (first | exact Below.refl _ _ | (refine Below.setCell ?_ (by simp) _) | (refine Below.drew ?_) | (refine Below.grow ?_ (by first | (simp; done) | (simp; omega)) _ _) | (refine Below.alloc ?_ (by first | (simp; done) | (simp; omega)) _)))⟩
  · have a1 : (v ≥ 1) = True := eq_true (by omega)
    have a2 : (v ≤ 31) = False := eq_false (by omega)
    go_enter Tryd.func22, Tryd.ntmps22
    go_wp2
    exact bodyPost_ret (v := .tuple #[.agg (rdR A E S), .bool true]) (by simp [results, Tryd.results22, go_sem]) rfl ⟨rfl, (by repeat (first | exact Below.refl _ _ | (refine Below.setCell ?_ (by simp) _) | (refine Below.drew ?_) | (refine Below.grow ?_ (by first | (simp; done) | (simp; omega)) _ _) | (refine Below.alloc ?_ (by first | (simp; done) | (simp; omega)) _)))⟩
theorem rdset_8 (A E S k S' : Nat) (hS : S < 4294967296) (h1 : 1 ≤ k) (h31 : k ≤ 31) (hS' : sV S k 0 = S') (w : World) : Calls Tryd.prog 22 #[.agg (rdR A E S), .int .u32 8, .int .u32 (k : Int)] w fun r w' => r = .returned (.tuple #[.agg (rdR A E S'), .bool true]) ∧ Below w.heap.size w w' := by
  have HS := _root_.Go.Lib.hid hS
  have HS2 := _root_.Go.Lib.hid hS'
  have a1 : ((k : Int) ≥ 1) = True := eq_true (by omega)
  have a2 : ((k : Int) ≤ 31) = True := eq_true (by omega)
  clear hS hS'
  go_enter Tryd.func22, Tryd.ntmps22
  go_wp2_with (go_at_call 31; refine (put_one S k 0 HS.out h31 (.inl rfl) _).mono ?_; rw [HS2.out]; rintro r w1 ⟨rfl, rfl⟩)
  exact bodyPost_ret (v := .tuple #[.agg (rdR A E S'), .bool true]) (by simp [results, Tryd.results22, go_sem]) rfl ⟨rfl, (by repeat (first | exact Below.refl _ _ | (refine Below.setCell ?_ (by simp) _) | (refine Below.drew ?_) | (refine Below.grow ?_ (by first | (simp; done) | (simp; omega)) _ _) | (refine Below.alloc ?_ (by first | (simp; done) | (simp; omega)) _)))⟩
theorem rdset_bad (A E S : Nat) (off v : Int) (h0 : off ≠ 0) (h4 : off ≠ 4) (h8 : off ≠ 8) (w : World) : Calls Tryd.prog 22 #[.agg (rdR A E S), .int .u32 off, .int .u32 v] w fun r w' => r = .returned (.tuple #[.agg (rdR A E S), .bool false]) ∧ Below w.heap.size w w' := by
  have k0 : (off == 0) = false := beq_false_of_ne h0
  have k4 : (off == 4) = false := beq_false_of_ne h4
  have k8 : (off == 8) = false := beq_false_of_ne h8
  clear h0 h4 h8
  go_enter Tryd.func22, Tryd.ntmps22
  go_wp2
  exact bodyPost_ret (v := .tuple #[.agg (rdR A E S), .bool false]) (by simp [results, Tryd.results22, go_sem]) rfl ⟨rfl, (by repeat (first | exact Below.refl _ _ | (refine Below.setCell ?_ (by simp) _) | (refine Below.drew ?_) | (refine Below.grow ?_ (by first | (simp; done) | (simp; omega)) _ _) | (refine Below.alloc ?_ (by first | (simp; done) | (simp; omega)) _)))⟩
end Go.Proofs.YtogepklmmehbjaaDoor
