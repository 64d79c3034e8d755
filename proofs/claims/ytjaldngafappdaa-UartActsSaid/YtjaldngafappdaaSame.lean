/-
  The reference does what the uart does. Conditions: at most sixteen bytes wait, and the registers are bytes.
-/
import Derived.Test.YtjaldngafappdaaReff
set_option linter.unusedVariables false
set_option linter.unusedSimpArgs false
namespace Go.Proofs.Ytjaldngafappdaa
open Go.RowKit Go.Lib

structure Inv (S : Ua) : Prop where
  c : S.c.length ≤ 16
  e : 0 ≤ S.r 1 ∧ S.r 1 < 256
  l : 0 ≤ S.r 3 ∧ S.r 3 < 256

def bA (l : List UInt8) : ByteArray := ⟨l.toArray⟩
abbrev mV (S : Ua) : Value := rV (bA S.c) (bA S.o) (S.r 1) (S.r 3) (S.r 4) (S.r 7) S.ov
theorem bA_size (l : List UInt8) : (bA l).size = l.length := by simp [bA, ByteArray.size]
theorem bA_list (l : List UInt8) : (bA l).data.toList = l := rfl

/-! ### Bits -/
theorem and_pow (n i : Nat) : n &&& 2 ^ i = 2 ^ i * (n.testBit i).toNat := by
  apply Nat.eq_of_testBit_eq
  intro j
  rw [Nat.testBit_and, Nat.testBit_two_pow]
  by_cases e : i = j
  · subst e
    cases h : n.testBit i <;> simp
  · cases h : n.testBit i <;> simp [e]
theorem bit7 (n : Int) (h : 0 ≤ n ∧ n < 256) : (bits .and .u32 n 128 != 0) = decide (128 ≤ n) := by
  obtain ⟨x, rfl⟩ := u_of n (by omega)
  have e : bits .and .u32 (u x) 128 = u (x &&& 128#32) := and_u x 128#32
  have e2 : (x &&& 128#32).toNat = 128 * (x.toNat.testBit 7).toNat := by
    rw [BitVec.toNat_and]
    exact and_pow x.toNat 7
  rw [e]
  unfold u at h ⊢
  rw [e2, Nat.testBit_eq_decide_div_mod_eq]
  by_cases hx : 128 ≤ x.toNat
  · have : x.toNat / 2 ^ 7 % 2 = 1 := by omega
    simp [this]
    omega
  · have : ¬ x.toNat / 2 ^ 7 % 2 = 1 := by omega
    simp [this]
    omega
theorem bit1 (c : UInt8) : clB c = (((c.toNat : Int) / 2 % 2) == 1) := by
  have hc := c.toNat_lt
  unfold clB
  obtain ⟨x, hx⟩ := u_of (c.toNat : Int) (by omega)
  have e : bits .and .u32 (u x) 2 = u (x &&& 2#32) := and_u x 2#32
  have e2 : (x &&& 2#32).toNat = 2 * (x.toNat.testBit 1).toNat := by
    rw [BitVec.toNat_and]
    exact and_pow x.toNat 1
  rw [hx, e]
  unfold u at *
  rw [e2, Nat.testBit_eq_decide_div_mod_eq]
  by_cases h : x.toNat / 2 ^ 1 % 2 = 1
  · have : (x.toNat : Int) / 2 % 2 = 1 := by omega
    simp [h, this]
  · have : (x.toNat : Int) / 2 % 2 = 0 := by omega
    simp [h, this]
theorem ot_eq {S : Ua} (h : Inv S) : otB S = decide (128 ≤ S.r 3) := bit7 _ h.l
theorem en_eq {S : Ua} (h : Inv S) : (bits .and .u32 (S.r 1) 1 != 0) = (S.r 1 % 2 == 1) := by
  rw [and_1 _ ⟨h.e.1, by have := h.e.2; omega⟩]
  rcases (show S.r 1 % 2 = 0 ∨ S.r 1 % 2 = 1 by omega) with e | e <;> rw [e] <;> rfl
theorem up_eq {S : Ua} (h : Inv S) : ((S.r 1 % 2 == 1) && decide (0 < (bA S.c).size)) = upB S := by
  rw [← en_eq h, bA_size]; rfl

/-! ### Up -/
theorem refUp_S {S : Ua} (h : Inv S) (w : World) : Calls Try.prog 19 #[mV S] w fun e w' => e = .returned (.bool (upB S)) ∧ Below w.heap.size w w' :=
  refUp_calls _ _ _ _ _ _ _ _ w h.e (up_eq h)

/-! ### Get -/
theorem gS_same {S : Ua} {off : Int} (h0 : off ≠ 0) (h20 : off ≠ 20) : gS S off = S := by
  unfold gS; rw [if_neg h0, if_neg h20]
theorem not_bad {off : Int} (ho : 0 ≤ off) (hb : badO off = true) : ¬ off = 0 ∧ ¬ off = 4 ∧ ¬ off = 8 ∧ ¬ off = 12 ∧ ¬ off = 16 ∧ ¬ off = 20 ∧ ¬ off = 24 ∧ ¬ off = 28 := by
  refine ⟨?_, ?_, ?_, ?_, ?_, ?_, ?_, ?_⟩ <;> (intro e; subst e; cases hb)

def RGet (S : Ua) (off : Int) (w : World) (e : Ending) (w' : World) : Prop := e = .returned (.tuple #[mV (gS S off), .int .u32 (gV S off), .bool (!badO off)]) ∧ Below w.heap.size w w'
theorem refGet_S {S : Ua} (h : Inv S) (off : Int) (ho : 0 ≤ off) (w : World) : Calls Try.prog 12 #[mV S, .int .u32 off] w (RGet S off w) := by
  have key : ∀ (S' : Ua) (v : Int) (t : Bool), gS S off = S' → gV S off = v → (!badO off) = t → ∀ e w', (e = .returned (.tuple #[mV S', .int .u32 v, .bool t]) ∧ Below w.heap.size w w') → RGet S off w e w' := by
    rintro S' v t rfl rfl rfl e w' hh
    exact hh
  cases hb : badO off with
  | true =>
    obtain ⟨h0, h4, h8, h12, h16, h20, h24, h28⟩ := not_bad ho hb
    exact (refGet_bad _ _ _ _ _ _ _ w off ho h0 h4 h8 h12 h16 h20 h24 h28).mono (key S 0 false (gS_same h0 h20) (by simp [gV, hb]) (by rw [hb]; rfl))
  | false =>
    rcases badO_false ho hb with rfl | rfl | rfl | rfl | rfl | rfl | rfl | rfl
    · by_cases hl : 128 ≤ S.r 3
      · have ot : otB S = true := by rw [ot_eq h]; simpa using hl
        exact (refGet_0_other _ _ _ _ _ _ _ w hl).mono (key S 0 true (by simp [gS, ot]) (by simp [gV, badO, ot]) rfl)
      · have ot : otB S = false := by rw [ot_eq h]; simpa using hl
        obtain ⟨c, o, r, ov⟩ := S
        cases c with
        | nil => exact (refGet_0_none _ _ _ _ _ _ _ w (by simpa using hl) (by rw [bA_size]; rfl)).mono (key _ 0 true (by simp [gS, ot]) (by simp [gV, badO, ot]) rfl)
        | cons c l =>
          refine (refGet_0 _ _ _ _ _ _ _ w (by simpa using hl) (by simp [bA, ByteArray.size]) c rfl (bA l) ?_).mono (key { c := l, o := o, r := r, ov := ov } c.toNat true (by simp [gS, ot]) (by simp [gV, badO, ot]) rfl)
          apply ByteArray.ext
          apply Array.ext'
          simp [bA, ByteArray.size]
    · refine (refGet_4 _ _ _ _ _ _ _ w).mono (key S _ true rfl ?_ rfl)
      unfold gV oneV
      rw [if_neg (by decide), if_neg (by decide), if_pos rfl, ot_eq h]
      by_cases hl : 128 ≤ S.r 3 <;> simp [hl]
    · refine (refGet_8 _ _ _ _ _ _ _ w (upB S) h.e (up_eq h)).mono (key S _ true rfl ?_ rfl)
      unfold gV oneV
      rw [if_neg (by decide), if_neg (by decide), if_neg (by decide), if_pos rfl]
      cases upB S <;> kernel_rfl
    · exact (refGet_12 _ _ _ _ _ _ _ w).mono (key S _ true rfl (by simp [gV, badO]) rfl)
    · exact (refGet_16 _ _ _ _ _ _ _ w).mono (key S _ true rfl (by simp [gV, badO]) rfl)
    · refine (refGet_20 _ _ _ _ _ _ _ w).mono (key { S with ov := false } _ true rfl ?_ rfl)
      unfold gV oneV stv
      rw [if_neg (by decide), if_neg (by decide), if_neg (by decide), if_neg (by decide), if_pos rfl, bA_size]
      obtain ⟨c, o, r, ov⟩ := S
      cases c <;> cases ov <;> simp
    · exact (refGet_24 _ _ _ _ _ _ _ w).mono (key S _ true rfl (by simp [gV, badO]) rfl)
    · exact (refGet_28 _ _ _ _ _ _ _ w).mono (key S _ true rfl (by simp [gV, badO]) rfl)

/-! ### Set -/
def RSet (S : Ua) (off : Int) (c : UInt8) (w : World) (e : Ending) (w' : World) : Prop := e = .returned (.tuple #[mV (sS S off c), .bool (!badO off)]) ∧ Below w.heap.size w w'
theorem low_mod (v : Int) (h : 0 ≤ v ∧ v < 4294967296) : v % 256 = ((low v).toNat : Int) := by
  unfold low
  simp
  omega
theorem refSet_S {S : Ua} (h : Inv S) (off v : Int) (ho : 0 ≤ off) (hv : 0 ≤ v ∧ v < 4294967296) (hlen : S.o.length ≤ 1000) (w : World) : Calls Try.prog 13 #[mV S, .int .u32 off, .int .u32 v] w (RSet S off (low v) w) := by
  have key : ∀ (S' : Ua) (t : Bool), sS S off (low v) = S' → (!badO off) = t → ∀ e w', (e = .returned (.tuple #[mV S', .bool t]) ∧ Below w.heap.size w w') → RSet S off (low v) w e w' := by
    rintro S' t rfl rfl e w' hh
    exact hh
  have m2 := low_mod v hv
  have m1 : v.tmod 256 = ((low v).toNat : Int) := by rw [Int.tmod_eq_emod_of_nonneg hv.1]; exact m2
  generalize low v = c at *
  cases hb : badO off with
  | true =>
    obtain ⟨h0, h4, h8, h12, h16, h20, h24, h28⟩ := not_bad ho hb
    exact (refSet_bad _ _ _ _ _ _ _ v c w m1 m2 off ho h0 h4 h8 h12 h16 h20 h24 h28).mono (key S false (by simp [sS, hb]) (by rw [hb]; rfl))
  | false =>
    rcases badO_false ho hb with rfl | rfl | rfl | rfl | rfl | rfl | rfl | rfl
    · by_cases hl : 128 ≤ S.r 3
      · have ot : otB S = true := by rw [ot_eq h]; simpa using hl
        exact (refSet_0_other _ _ _ _ _ _ _ v c w m1 m2 hl).mono (key S true (by simp [sS, badO, ot]) rfl)
      · have ot : otB S = false := by rw [ot_eq h]; simpa using hl
        refine (refSet_0 _ _ _ _ _ _ _ v c w m1 m2 (by omega) (by rw [bA_size]; omega) (bA (S.o ++ [c])) ?_).mono (key { S with o := S.o ++ [c] } true (by simp [sS, badO, ot]) rfl)
        apply ByteArray.ext
        simp [bA]
    · by_cases hl : 128 ≤ S.r 3
      · have ot : otB S = true := by rw [ot_eq h]; simpa using hl
        exact (refSet_4_other _ _ _ _ _ _ _ v c w m1 m2 hl).mono (key S true (by simp [sS, badO, ot]) rfl)
      · have ot : otB S = false := by rw [ot_eq h]; simpa using hl
        exact (refSet_4 _ _ _ _ _ _ _ v c w m1 m2 (by omega)).mono (key { S with r := upd S.r 1 c.toNat } true (by simp [sS, badO, ot]) rfl)
    · cases ot : clB c with
      | true => exact (refSet_8_clear _ _ _ _ _ _ _ v c w m1 m2 (by rw [← bit1]; exact ot)).mono (key { S with c := [] } true (by simp [sS, badO, ot]) rfl)
      | false => exact (refSet_8_no _ _ _ _ _ _ _ v c w m1 m2 (by rw [← bit1]; exact ot)).mono (key S true (by simp [sS, badO, ot]) rfl)
    · exact (refSet_12 _ _ _ _ _ _ _ v c w m1 m2).mono (key { S with r := upd S.r 3 c.toNat } true (by simp [sS, badO]) rfl)
    · exact (refSet_16 _ _ _ _ _ _ _ v c w m1 m2).mono (key { S with r := upd S.r 4 c.toNat } true (by simp [sS, badO]) rfl)
    · exact (refSet_20 _ _ _ _ _ _ _ v c w m1 m2).mono (key S true (by simp [sS, badO]) rfl)
    · exact (refSet_24 _ _ _ _ _ _ _ v c w m1 m2).mono (key S true (by simp [sS, badO]) rfl)
    · exact (refSet_28 _ _ _ _ _ _ _ v c w m1 m2).mono (key { S with r := upd S.r 7 c.toNat } true (by simp [sS, badO]) rfl)

/-! ### Feed -/
theorem refFeed_S {S : Ua} (h : Inv S) (s : ByteArray) (hs : s.size ≤ 60) (w : World) : Calls Try.prog 16 #[mV S, .string s] w fun e w' => e = .returned (mV (fS S s.data.toList)) ∧ Below w.heap.size w w' := by
  refine (refFeed_calls _ _ s _ _ _ _ _ w (by rw [bA_size]; exact h.c) hs).mono ?_
  rintro e w' ⟨rfl, hb⟩
  refine ⟨?_, hb⟩
  have e1 : cJ (bA S.c) s s.size = bA (S.c ++ s.data.toList.take (16 - S.c.length)) := by
    unfold cJ preB
    rw [bA_size]
    apply ByteArray.ext
    apply Array.ext'
    simp [bA]
    have : s.data.toList.take (min s.size (16 - S.c.length)) = s.data.toList.take (16 - S.c.length) := by
      rw [List.take_eq_take_iff]
      simp
      omega
    simpa using this
  have e2 : oJ (bA S.c) S.ov s.size = (S.ov || decide (16 - S.c.length < s.data.toList.length)) := by
    unfold oJ
    rw [bA_size]
    simp
  rw [e1, e2]
  rfl

/-! ### What stays -/
theorem Inv.get {S : Ua} (h : Inv S) (off : Int) : Inv (gS S off) := by
  unfold gS
  split
  · split
    · exact h
    · exact ⟨by have := h.c; simp; omega, h.e, h.l⟩
  · split
    · exact ⟨h.c, h.e, h.l⟩
    · exact h
theorem Inv.feed {S : Ua} (h : Inv S) (l : List UInt8) : Inv (fS S l) := by
  refine ⟨?_, h.e, h.l⟩
  have := h.c
  simp [fS]
  omega
theorem Inv.out {S : Ua} (h : Inv S) : Inv { S with o := [] } := ⟨h.c, h.e, h.l⟩
theorem Inv.upd {S : Ua} (h : Inv S) (k : Nat) (c : UInt8) : Inv { S with r := upd S.r k c.toNat } := by
  have hc := c.toNat_lt
  refine ⟨h.c, ?_, ?_⟩
  · show 0 ≤ (if (1 : Nat) = k then (c.toNat : Int) else S.r 1) ∧ (if (1 : Nat) = k then (c.toNat : Int) else S.r 1) < 256
    split
    · omega
    · exact h.e
  · show 0 ≤ (if (3 : Nat) = k then (c.toNat : Int) else S.r 3) ∧ (if (3 : Nat) = k then (c.toNat : Int) else S.r 3) < 256
    split
    · omega
    · exact h.l
theorem Inv.set {S : Ua} (h : Inv S) (off : Int) (c : UInt8) : Inv (sS S off c) := by
  unfold sS
  split
  · exact h
  split
  · split
    · exact h
    · exact ⟨h.c, h.e, h.l⟩
  split
  · split
    · exact h
    · exact h.upd 1 c
  split
  · split
    · exact ⟨by simp, h.e, h.l⟩
    · exact h
  split
  · exact h
  split
  · exact h
  · exact h.upd _ c
theorem set_len (S : Ua) (off : Int) (c : UInt8) : (sS S off c).o.length ≤ S.o.length + 1 := by
  unfold sS
  repeat' split
  all_goals simp
theorem get_len (S : Ua) (off : Int) : (gS S off).o = S.o := by
  unfold gS
  repeat' split
  all_goals rfl
end Go.Proofs.Ytjaldngafappdaa
