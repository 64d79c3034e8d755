/-
  state and Get: what they tell, and what they leave.
-/
import Derived.Test.YtjaldngafappdaaTake
set_option linter.unusedVariables false
set_option linter.unusedSimpArgs false
namespace Go.Proofs.Ytjaldngafappdaa
open Go.RowKit Go.Lib

/-- The status. -/
def stv (S : Ua) : Int := 96 + (if S.c = [] then 0 else 1) + (if S.ov then 2 else 0)

theorem state_raw (b : Nat) (a : Option Addr) (n cap : Nat) (ov : Bool) (w : World) (hs : w.cell? ⟨b, 0, none⟩ = some (.slice a n cap)) (ho : w.cell? ⟨b, 11, none⟩ = some (.bool ov)) (hf : w.frozen? ⟨b, 11, none⟩ = false) :
    Calls Try.prog 22 #[.pointer (some ⟨b, 0, none⟩)] w fun e w' => e = .returned (.int .u32 (96 + (if n = 0 then 0 else 1) + (if ov then 2 else 0))) ∧ w' = w.setCell ⟨b, 11, none⟩ (.bool false) := by
  have b1 : bits .or .u32 96 1 = 97 := by kernel_rfl
  have b2 : bits .or .u32 96 2 = 98 := by kernel_rfl
  have b3 : bits .or .u32 97 2 = 99 := by kernel_rfl
  cases ov with
  | false =>
    cases n with
    | zero =>
      go_enter Try.func22, Try.ntmps22
      go_wp2
      go_ret
      exact ⟨rfl, rfl⟩
    | succ n =>
      go_enter Try.func22, Try.ntmps22
      go_wp2
      go_ret
      exact ⟨rfl, rfl⟩
  | true =>
    cases n with
    | zero =>
      go_enter Try.func22, Try.ntmps22
      go_wp2
      go_ret
      exact ⟨rfl, rfl⟩
    | succ n =>
      go_enter Try.func22, Try.ntmps22
      go_wp2
      go_ret
      exact ⟨rfl, rfl⟩

theorem state_calls {B b : Nat} {S : Ua} {w : World} (h : IsU B b S w) :
    Calls Try.prog 22 #[.pointer (some ⟨b, 0, none⟩)] w fun e w' => e = .returned (.int .u32 (stv S)) ∧ IsU B b { S with ov := false } w' ∧ Left B b w w' := by
  obtain ⟨cv, pv, bv, hU⟩ := h
  obtain ⟨a, cap, hcv⟩ := hU.came.form
  have h0 := hU.cell 0
  rw [hcv] at h0
  refine (state_raw b a _ cap S.ov w h0 (hU.cell 11) (hU.free 11)).mono ?_
  rintro e w' ⟨rfl, rfl⟩
  refine ⟨?_, ⟨cv, pv, bv, hU.put 11 (.bool false) _ rfl rfl rfl⟩, (Left.refl B b w).setCell hU.at_b _⟩
  unfold stv
  rw [bcells_length]
  simp only [List.length_eq_zero_iff]
/-- Are the first registers others now? -/
def otB (S : Ua) : Bool := bits .and .u32 (S.r 3) 128 != 0
/-- Does it ask? -/
def upB (S : Ua) : Bool := (bits .and .u32 (S.r 1) 1 != 0) && decide (0 < S.c.length)
def badO (off : Int) : Bool := off % 4 != 0 || decide (32 ≤ off)

/-- What Get tells, and the state that it leaves. -/
def gV (S : Ua) (off : Int) : Int :=
  if badO off then 0 else if off = 0 then (if otB S then 0 else ((S.c.headD 0).toNat : Int)) else if off = 4 then (if otB S then 0 else S.r 1) else if off = 8 then (if upB S then 4 else 1) else
  if off = 20 then stv S else if off = 24 then 0 else S.r (off / 4).toNat
def gS (S : Ua) (off : Int) : Ua := if off = 0 then (if otB S then S else { S with c := S.c.tail }) else if off = 20 then { S with ov := false } else S

theorem up_of {B b : Nat} {S : Ua} {w : World} (h : IsU B b S w) : Calls Try.prog 18 #[.pointer (some ⟨b, 0, none⟩)] w fun e w' => e = .returned (.bool (upB S)) ∧ w = w' := by
  obtain ⟨cv, pv, bv, hU⟩ := h
  obtain ⟨a, cap, hcv⟩ := hU.came.form
  have h0 := hU.cell 0
  rw [hcv] at h0
  exact up_calls b _ a _ cap _ w (hU.cell 4) h0 (by rw [bcells_length]; rfl)
theorem other_of {B b : Nat} {S : Ua} {w : World} (h : IsU B b S w) : Calls Try.prog 20 #[.pointer (some ⟨b, 0, none⟩)] w fun e w' => e = .returned (.bool (otB S)) ∧ w = w' := by
  obtain ⟨cv, pv, bv, hU⟩ := h
  exact other_calls b _ _ w (hU.cell 6) rfl

theorem get_nil (off : Int) (w : World) (ho : 0 ≤ off) : Calls Try.prog 11 #[.pointer none, .int .u32 off] w fun e w' => e = .returned (.tuple #[.int .u32 0, .bool false]) ∧ w = w' := by
  go_enter Try.func11, Try.ntmps11
  go_wp2
  refine bodyPost_ret (v := .tuple #[.int .u32 0, .bool false]) (by simp [results, Try.results11, go_sem]) rfl ?_
  exact ⟨rfl, rfl⟩
theorem get_bad (b : Nat) (off : Int) (w : World) (ho : 0 ≤ off) (h : badO off = true) : Calls Try.prog 11 #[.pointer (some ⟨b, 0, none⟩), .int .u32 off] w fun e w' => e = .returned (.tuple #[.int .u32 0, .bool false]) ∧ w = w' := by
  have hq : off.tmod 4 = off % 4 := Int.tmod_eq_emod_of_nonneg ho
  unfold badO at h
  cases h1 : (off % 4 != 0) with
  | true =>
    go_enter Try.func11, Try.ntmps11
    go_wp2
    refine bodyPost_ret (v := .tuple #[.int .u32 0, .bool false]) (by simp [results, Try.results11, go_sem]) rfl ?_
    exact ⟨rfl, rfl⟩
  | false =>
    rw [h1, Bool.false_or] at h
    have h2 : 32 ≤ off := of_decide_eq_true h
    go_enter Try.func11, Try.ntmps11
    go_wp2
    refine bodyPost_ret (v := .tuple #[.int .u32 0, .bool false]) (by simp [results, Try.results11, go_sem]) rfl ?_
    exact ⟨rfl, rfl⟩

theorem get_0_other {B b : Nat} {S : Ua} {w : World} (h : IsU B b S w) (hot : otB S = true) : Calls Try.prog 11 #[.pointer (some ⟨b, 0, none⟩), .int .u32 0] w fun e w' => e = .returned (.tuple #[.int .u32 0, .bool true]) ∧ IsU B b S w' ∧ Left B b w w' := by
  have H := _root_.Go.Lib.hid h
  clear h
  go_enter Try.func11, Try.ntmps11
  go_wp2_with (first | (go_at_call 20; refine (other_of H.out).mono ?_; rw [hot]; rintro e w1 ⟨rfl, rfl⟩))
  refine bodyPost_ret (v := .tuple #[.int .u32 0, .bool true]) (by simp [results, Try.results11, go_sem]) rfl ?_
  exact ⟨rfl, H.out, Left.refl _ _ _⟩
theorem get_4_other {B b : Nat} {S : Ua} {w : World} (h : IsU B b S w) (hot : otB S = true) : Calls Try.prog 11 #[.pointer (some ⟨b, 0, none⟩), .int .u32 4] w fun e w' => e = .returned (.tuple #[.int .u32 0, .bool true]) ∧ IsU B b S w' ∧ Left B b w w' := by
  have H := _root_.Go.Lib.hid h
  clear h
  go_enter Try.func11, Try.ntmps11
  go_wp2_with (first | (go_at_call 20; refine (other_of H.out).mono ?_; rw [hot]; rintro e w1 ⟨rfl, rfl⟩))
  refine bodyPost_ret (v := .tuple #[.int .u32 0, .bool true]) (by simp [results, Try.results11, go_sem]) rfl ?_
  exact ⟨rfl, H.out, Left.refl _ _ _⟩
theorem get_0 {B b : Nat} {S : Ua} {w : World} (h : IsU B b S w) (hot : otB S = false) : Calls Try.prog 11 #[.pointer (some ⟨b, 0, none⟩), .int .u32 0] w fun e w' => e = .returned (.tuple #[.int .u32 ((S.c.headD 0).toNat : Int), .bool true]) ∧ IsU B b { S with c := S.c.tail } w' ∧ Left B b w w' := by
  have H := _root_.Go.Lib.hid h
  clear h
  go_enter Try.func11, Try.ntmps11
  go_wp2_with (first | (go_at_call 20; refine (other_of H.out).mono ?_; rw [hot]; rintro e w1 ⟨rfl, rfl⟩) | (go_at_call 21; refine (take_calls H.out).mono ?_; rintro e w1 ⟨rfl, hu, hl⟩))
  refine bodyPost_ret (v := .tuple #[.int .u32 ((S.c.headD 0).toNat : Int), .bool true]) (by simp [results, Try.results11, go_sem]) rfl ?_
  exact ⟨rfl, hu, hl⟩
theorem get_8_up {B b : Nat} {S : Ua} {w : World} (h : IsU B b S w) (hup : upB S = true) : Calls Try.prog 11 #[.pointer (some ⟨b, 0, none⟩), .int .u32 8] w fun e w' => e = .returned (.tuple #[.int .u32 4, .bool true]) ∧ IsU B b S w' ∧ Left B b w w' := by
  have H := _root_.Go.Lib.hid h
  clear h
  go_enter Try.func11, Try.ntmps11
  go_wp2_with (first | (go_at_call 18; refine (up_of H.out).mono ?_; rw [hup]; rintro e w1 ⟨rfl, rfl⟩))
  refine bodyPost_ret (v := .tuple #[.int .u32 4, .bool true]) (by simp [results, Try.results11, go_sem]) rfl ?_
  exact ⟨rfl, H.out, Left.refl _ _ _⟩
theorem get_8_no {B b : Nat} {S : Ua} {w : World} (h : IsU B b S w) (hup : upB S = false) : Calls Try.prog 11 #[.pointer (some ⟨b, 0, none⟩), .int .u32 8] w fun e w' => e = .returned (.tuple #[.int .u32 1, .bool true]) ∧ IsU B b S w' ∧ Left B b w w' := by
  have H := _root_.Go.Lib.hid h
  clear h
  go_enter Try.func11, Try.ntmps11
  go_wp2_with (first | (go_at_call 18; refine (up_of H.out).mono ?_; rw [hup]; rintro e w1 ⟨rfl, rfl⟩))
  refine bodyPost_ret (v := .tuple #[.int .u32 1, .bool true]) (by simp [results, Try.results11, go_sem]) rfl ?_
  exact ⟨rfl, H.out, Left.refl _ _ _⟩
theorem get_20 {B b : Nat} {S : Ua} {w : World} (h : IsU B b S w)  : Calls Try.prog 11 #[.pointer (some ⟨b, 0, none⟩), .int .u32 20] w fun e w' => e = .returned (.tuple #[.int .u32 (stv S), .bool true]) ∧ IsU B b { S with ov := false } w' ∧ Left B b w w' := by
  have H := _root_.Go.Lib.hid h
  clear h
  go_enter Try.func11, Try.ntmps11
  go_wp2_with (first | (go_at_call 22; refine (state_calls H.out).mono ?_; rintro e w1 ⟨rfl, hu, hl⟩))
  refine bodyPost_ret (v := .tuple #[.int .u32 (stv S), .bool true]) (by simp [results, Try.results11, go_sem]) rfl ?_
  exact ⟨rfl, hu, hl⟩
theorem get_24 {B b : Nat} {S : Ua} {w : World} (h : IsU B b S w)  : Calls Try.prog 11 #[.pointer (some ⟨b, 0, none⟩), .int .u32 24] w fun e w' => e = .returned (.tuple #[.int .u32 0, .bool true]) ∧ IsU B b S w' ∧ Left B b w w' := by
  have H := _root_.Go.Lib.hid h
  clear h
  go_enter Try.func11, Try.ntmps11
  go_wp2
  refine bodyPost_ret (v := .tuple #[.int .u32 0, .bool true]) (by simp [results, Try.results11, go_sem]) rfl ?_
  exact ⟨rfl, H.out, Left.refl _ _ _⟩
theorem get_4 {B b : Nat} {S : Ua} {w : World} (h : IsU B b S w) (hot : otB S = false) : Calls Try.prog 11 #[.pointer (some ⟨b, 0, none⟩), .int .u32 4] w fun e w' => e = .returned (.tuple #[.int .u32 (S.r 1), .bool true]) ∧ IsU B b S w' ∧ Left B b w w' := by
  have hcell : w.cell? ⟨b, 4, none⟩ = some (.int .u32 (S.r 1)) := by obtain ⟨cv, pv, bv, hU⟩ := h; exact hU.cell 4
  have H := _root_.Go.Lib.hid h
  clear h
  go_enter Try.func11, Try.ntmps11
  go_wp2_with (first | (go_at_call 20; refine (other_of H.out).mono ?_; rw [hot]; rintro e w1 ⟨rfl, rfl⟩) | (go_at_call 23; refine (reg_calls b 4 _ (by decide)).mono ?_; rintro e w1 ⟨rfl, rfl⟩))
  refine bodyPost_ret (v := .tuple #[.int .u32 (S.r 1), .bool true]) (by simp [results, Try.results11, go_sem]) rfl ?_
  exact ⟨rfl, H.out, Left.refl _ _ _⟩
theorem get_12 {B b : Nat} {S : Ua} {w : World} (h : IsU B b S w)  : Calls Try.prog 11 #[.pointer (some ⟨b, 0, none⟩), .int .u32 12] w fun e w' => e = .returned (.tuple #[.int .u32 (S.r 3), .bool true]) ∧ IsU B b S w' ∧ Left B b w w' := by
  have hcell : w.cell? ⟨b, 6, none⟩ = some (.int .u32 (S.r 3)) := by obtain ⟨cv, pv, bv, hU⟩ := h; exact hU.cell 6
  have H := _root_.Go.Lib.hid h
  clear h
  go_enter Try.func11, Try.ntmps11
  go_wp2_with (first | (go_at_call 23; refine (reg_calls b 12 _ (by decide)).mono ?_; rintro e w1 ⟨rfl, rfl⟩))
  refine bodyPost_ret (v := .tuple #[.int .u32 (S.r 3), .bool true]) (by simp [results, Try.results11, go_sem]) rfl ?_
  exact ⟨rfl, H.out, Left.refl _ _ _⟩
theorem get_16 {B b : Nat} {S : Ua} {w : World} (h : IsU B b S w)  : Calls Try.prog 11 #[.pointer (some ⟨b, 0, none⟩), .int .u32 16] w fun e w' => e = .returned (.tuple #[.int .u32 (S.r 4), .bool true]) ∧ IsU B b S w' ∧ Left B b w w' := by
  have hcell : w.cell? ⟨b, 7, none⟩ = some (.int .u32 (S.r 4)) := by obtain ⟨cv, pv, bv, hU⟩ := h; exact hU.cell 7
  have H := _root_.Go.Lib.hid h
  clear h
  go_enter Try.func11, Try.ntmps11
  go_wp2_with (first | (go_at_call 23; refine (reg_calls b 16 _ (by decide)).mono ?_; rintro e w1 ⟨rfl, rfl⟩))
  refine bodyPost_ret (v := .tuple #[.int .u32 (S.r 4), .bool true]) (by simp [results, Try.results11, go_sem]) rfl ?_
  exact ⟨rfl, H.out, Left.refl _ _ _⟩
theorem get_28 {B b : Nat} {S : Ua} {w : World} (h : IsU B b S w)  : Calls Try.prog 11 #[.pointer (some ⟨b, 0, none⟩), .int .u32 28] w fun e w' => e = .returned (.tuple #[.int .u32 (S.r 7), .bool true]) ∧ IsU B b S w' ∧ Left B b w w' := by
  have hcell : w.cell? ⟨b, 10, none⟩ = some (.int .u32 (S.r 7)) := by obtain ⟨cv, pv, bv, hU⟩ := h; exact hU.cell 10
  have H := _root_.Go.Lib.hid h
  clear h
  go_enter Try.func11, Try.ntmps11
  go_wp2_with (first | (go_at_call 23; refine (reg_calls b 28 _ (by decide)).mono ?_; rintro e w1 ⟨rfl, rfl⟩))
  refine bodyPost_ret (v := .tuple #[.int .u32 (S.r 7), .bool true]) (by simp [results, Try.results11, go_sem]) rfl ?_
  exact ⟨rfl, H.out, Left.refl _ _ _⟩
end Go.Proofs.Ytjaldngafappdaa
