/-
  The reference's Set: what it leaves.
-/
import Derived.Test.YtjaldngafappdaaRef
set_option linter.unusedVariables false
set_option linter.unusedSimpArgs false
namespace Go.Proofs.Ytjaldngafappdaa
open Go.RowKit Go.Lib

theorem conv_at (c : UInt8) (w : World) (g : Nat) (h : g = w.heap.size) : (convert 43 9 (.slice (some ⟨g, 0, none⟩) 1 1)).run Try.prog (w.alloc (.cells #[.int .u8 (c.toNat : Int)] 5)) = .ok (.string ⟨#[c]⟩) (w.alloc (.cells #[.int .u8 (c.toNat : Int)] 5)) := by
  subst h
  exact conv_one w c

set_option maxHeartbeats 1000000 in
theorem refSet_0_other (x y : ByteArray) (en lcr mcr scr : Int) (ov : Bool) (v : Int) (c : UInt8) (w : World) (hv1 : v.tmod 256 = (c.toNat : Int)) (hv2 : v % 256 = (c.toNat : Int)) (hl : 128 ≤ lcr) :
    Calls Try.prog 13 #[rV x y en lcr mcr scr ov, .int .u32 0, .int .u32 v] w fun e w' => e = .returned (.tuple #[rV x y en lcr mcr scr ov, .bool true]) ∧ Below w.heap.size w w' := by
  have hcb := c.toNat_lt
  go_enter Try.func13, Try.ntmps13
  go_wp2
  all_goals exact bodyPost_ret (v := .tuple #[rV x y en lcr mcr scr ov, .bool true]) (by simp [results, Try.results13, go_sem]) rfl ⟨rfl, (by repeat (first | exact Below.refl _ _ | (refine Below.setCell ?_ (by simp) _) | (refine Below.drew ?_) | (refine Below.alloc ?_ (by first | (simp; done) | (simp; omega)) _)))⟩
set_option maxHeartbeats 1000000 in
theorem refSet_0 (x y : ByteArray) (en lcr mcr scr : Int) (ov : Bool) (v : Int) (c : UInt8) (w : World) (hv1 : v.tmod 256 = (c.toNat : Int)) (hv2 : v % 256 = (c.toNat : Int)) (hl : lcr < 128) (hy : y.size + 1 ≤ 9223372036854775807) (y1 : ByteArray) (he : y ++ ⟨#[c]⟩ = y1) :
    Calls Try.prog 13 #[rV x y en lcr mcr scr ov, .int .u32 0, .int .u32 v] w fun e w' => e = .returned (.tuple #[rV x y1 en lcr mcr scr ov, .bool true]) ∧ Below w.heap.size w w' := by
  have hcb := c.toNat_lt
  have hd : (!decide (128 ≤ lcr)) = true := by simp; omega
  have hw := u8_wrap c
  have hcv := conv_at c
  go_enter Try.func13, Try.ntmps13
  go_wp2
  all_goals exact bodyPost_ret (v := .tuple #[rV x y1 en lcr mcr scr ov, .bool true]) (by simp [results, Try.results13, go_sem]) rfl ⟨rfl, (by repeat (first | exact Below.refl _ _ | (refine Below.setCell ?_ (by simp) _) | (refine Below.drew ?_) | (refine Below.alloc ?_ (by first | (simp; done) | (simp; omega)) _)))⟩
set_option maxHeartbeats 1000000 in
theorem refSet_4_other (x y : ByteArray) (en lcr mcr scr : Int) (ov : Bool) (v : Int) (c : UInt8) (w : World) (hv1 : v.tmod 256 = (c.toNat : Int)) (hv2 : v % 256 = (c.toNat : Int)) (hl : 128 ≤ lcr) :
    Calls Try.prog 13 #[rV x y en lcr mcr scr ov, .int .u32 4, .int .u32 v] w fun e w' => e = .returned (.tuple #[rV x y en lcr mcr scr ov, .bool true]) ∧ Below w.heap.size w w' := by
  have hcb := c.toNat_lt
  go_enter Try.func13, Try.ntmps13
  go_wp2
  all_goals exact bodyPost_ret (v := .tuple #[rV x y en lcr mcr scr ov, .bool true]) (by simp [results, Try.results13, go_sem]) rfl ⟨rfl, (by repeat (first | exact Below.refl _ _ | (refine Below.setCell ?_ (by simp) _) | (refine Below.drew ?_) | (refine Below.alloc ?_ (by first | (simp; done) | (simp; omega)) _)))⟩
set_option maxHeartbeats 1000000 in
theorem refSet_4 (x y : ByteArray) (en lcr mcr scr : Int) (ov : Bool) (v : Int) (c : UInt8) (w : World) (hv1 : v.tmod 256 = (c.toNat : Int)) (hv2 : v % 256 = (c.toNat : Int)) (hl : lcr < 128) :
    Calls Try.prog 13 #[rV x y en lcr mcr scr ov, .int .u32 4, .int .u32 v] w fun e w' => e = .returned (.tuple #[rV x y c.toNat lcr mcr scr ov, .bool true]) ∧ Below w.heap.size w w' := by
  have hcb := c.toNat_lt
  have hd : (!decide (128 ≤ lcr)) = true := by simp; omega
  go_enter Try.func13, Try.ntmps13
  go_wp2
  all_goals exact bodyPost_ret (v := .tuple #[rV x y c.toNat lcr mcr scr ov, .bool true]) (by simp [results, Try.results13, go_sem]) rfl ⟨rfl, (by repeat (first | exact Below.refl _ _ | (refine Below.setCell ?_ (by simp) _) | (refine Below.drew ?_) | (refine Below.alloc ?_ (by first | (simp; done) | (simp; omega)) _)))⟩
set_option maxHeartbeats 1000000 in
theorem refSet_8_no (x y : ByteArray) (en lcr mcr scr : Int) (ov : Bool) (v : Int) (c : UInt8) (w : World) (hv1 : v.tmod 256 = (c.toNat : Int)) (hv2 : v % 256 = (c.toNat : Int)) (h : (((c.toNat : Int) / 2 % 2) == 1) = false) :
    Calls Try.prog 13 #[rV x y en lcr mcr scr ov, .int .u32 8, .int .u32 v] w fun e w' => e = .returned (.tuple #[rV x y en lcr mcr scr ov, .bool true]) ∧ Below w.heap.size w w' := by
  have hcb := c.toNat_lt
  go_enter Try.func13, Try.ntmps13
  go_wp2
  all_goals exact bodyPost_ret (v := .tuple #[rV x y en lcr mcr scr ov, .bool true]) (by simp [results, Try.results13, go_sem]) rfl ⟨rfl, (by repeat (first | exact Below.refl _ _ | (refine Below.setCell ?_ (by simp) _) | (refine Below.drew ?_) | (refine Below.alloc ?_ (by first | (simp; done) | (simp; omega)) _)))⟩
set_option maxHeartbeats 1000000 in
theorem refSet_8_clear (x y : ByteArray) (en lcr mcr scr : Int) (ov : Bool) (v : Int) (c : UInt8) (w : World) (hv1 : v.tmod 256 = (c.toNat : Int)) (hv2 : v % 256 = (c.toNat : Int)) (h : (((c.toNat : Int) / 2 % 2) == 1) = true) :
    Calls Try.prog 13 #[rV x y en lcr mcr scr ov, .int .u32 8, .int .u32 v] w fun e w' => e = .returned (.tuple #[rV ⟨#[]⟩ y en lcr mcr scr ov, .bool true]) ∧ Below w.heap.size w w' := by
  have hcb := c.toNat_lt
  go_enter Try.func13, Try.ntmps13
  go_wp2
  all_goals exact bodyPost_ret (v := .tuple #[rV ⟨#[]⟩ y en lcr mcr scr ov, .bool true]) (by simp [results, Try.results13, go_sem]) rfl ⟨rfl, (by repeat (first | exact Below.refl _ _ | (refine Below.setCell ?_ (by simp) _) | (refine Below.drew ?_) | (refine Below.alloc ?_ (by first | (simp; done) | (simp; omega)) _)))⟩
set_option maxHeartbeats 1000000 in
theorem refSet_12 (x y : ByteArray) (en lcr mcr scr : Int) (ov : Bool) (v : Int) (c : UInt8) (w : World) (hv1 : v.tmod 256 = (c.toNat : Int)) (hv2 : v % 256 = (c.toNat : Int))  :
    Calls Try.prog 13 #[rV x y en lcr mcr scr ov, .int .u32 12, .int .u32 v] w fun e w' => e = .returned (.tuple #[rV x y en c.toNat mcr scr ov, .bool true]) ∧ Below w.heap.size w w' := by
  have hcb := c.toNat_lt
  go_enter Try.func13, Try.ntmps13
  go_wp2
  all_goals exact bodyPost_ret (v := .tuple #[rV x y en c.toNat mcr scr ov, .bool true]) (by simp [results, Try.results13, go_sem]) rfl ⟨rfl, (by repeat (first | exact Below.refl _ _ | (refine Below.setCell ?_ (by simp) _) | (refine Below.drew ?_) | (refine Below.alloc ?_ (by first | (simp; done) | (simp; omega)) _)))⟩
set_option maxHeartbeats 1000000 in
theorem refSet_16 (x y : ByteArray) (en lcr mcr scr : Int) (ov : Bool) (v : Int) (c : UInt8) (w : World) (hv1 : v.tmod 256 = (c.toNat : Int)) (hv2 : v % 256 = (c.toNat : Int))  :
    Calls Try.prog 13 #[rV x y en lcr mcr scr ov, .int .u32 16, .int .u32 v] w fun e w' => e = .returned (.tuple #[rV x y en lcr c.toNat scr ov, .bool true]) ∧ Below w.heap.size w w' := by
  have hcb := c.toNat_lt
  go_enter Try.func13, Try.ntmps13
  go_wp2
  all_goals exact bodyPost_ret (v := .tuple #[rV x y en lcr c.toNat scr ov, .bool true]) (by simp [results, Try.results13, go_sem]) rfl ⟨rfl, (by repeat (first | exact Below.refl _ _ | (refine Below.setCell ?_ (by simp) _) | (refine Below.drew ?_) | (refine Below.alloc ?_ (by first | (simp; done) | (simp; omega)) _)))⟩
set_option maxHeartbeats 1000000 in
theorem refSet_28 (x y : ByteArray) (en lcr mcr scr : Int) (ov : Bool) (v : Int) (c : UInt8) (w : World) (hv1 : v.tmod 256 = (c.toNat : Int)) (hv2 : v % 256 = (c.toNat : Int))  :
    Calls Try.prog 13 #[rV x y en lcr mcr scr ov, .int .u32 28, .int .u32 v] w fun e w' => e = .returned (.tuple #[rV x y en lcr mcr c.toNat ov, .bool true]) ∧ Below w.heap.size w w' := by
  have hcb := c.toNat_lt
  go_enter Try.func13, Try.ntmps13
  go_wp2
  all_goals exact bodyPost_ret (v := .tuple #[rV x y en lcr mcr c.toNat ov, .bool true]) (by simp [results, Try.results13, go_sem]) rfl ⟨rfl, (by repeat (first | exact Below.refl _ _ | (refine Below.setCell ?_ (by simp) _) | (refine Below.drew ?_) | (refine Below.alloc ?_ (by first | (simp; done) | (simp; omega)) _)))⟩
set_option maxHeartbeats 1000000 in
theorem refSet_20 (x y : ByteArray) (en lcr mcr scr : Int) (ov : Bool) (v : Int) (c : UInt8) (w : World) (hv1 : v.tmod 256 = (c.toNat : Int)) (hv2 : v % 256 = (c.toNat : Int))  :
    Calls Try.prog 13 #[rV x y en lcr mcr scr ov, .int .u32 20, .int .u32 v] w fun e w' => e = .returned (.tuple #[rV x y en lcr mcr scr ov, .bool true]) ∧ Below w.heap.size w w' := by
  have hcb := c.toNat_lt
  go_enter Try.func13, Try.ntmps13
  go_wp2
  all_goals exact bodyPost_ret (v := .tuple #[rV x y en lcr mcr scr ov, .bool true]) (by simp [results, Try.results13, go_sem]) rfl ⟨rfl, (by repeat (first | exact Below.refl _ _ | (refine Below.setCell ?_ (by simp) _) | (refine Below.drew ?_) | (refine Below.alloc ?_ (by first | (simp; done) | (simp; omega)) _)))⟩
set_option maxHeartbeats 1000000 in
theorem refSet_24 (x y : ByteArray) (en lcr mcr scr : Int) (ov : Bool) (v : Int) (c : UInt8) (w : World) (hv1 : v.tmod 256 = (c.toNat : Int)) (hv2 : v % 256 = (c.toNat : Int))  :
    Calls Try.prog 13 #[rV x y en lcr mcr scr ov, .int .u32 24, .int .u32 v] w fun e w' => e = .returned (.tuple #[rV x y en lcr mcr scr ov, .bool true]) ∧ Below w.heap.size w w' := by
  have hcb := c.toNat_lt
  go_enter Try.func13, Try.ntmps13
  go_wp2
  all_goals exact bodyPost_ret (v := .tuple #[rV x y en lcr mcr scr ov, .bool true]) (by simp [results, Try.results13, go_sem]) rfl ⟨rfl, (by repeat (first | exact Below.refl _ _ | (refine Below.setCell ?_ (by simp) _) | (refine Below.drew ?_) | (refine Below.alloc ?_ (by first | (simp; done) | (simp; omega)) _)))⟩
set_option maxHeartbeats 1000000 in
theorem refSet_bad (x y : ByteArray) (en lcr mcr scr : Int) (ov : Bool) (v : Int) (c : UInt8) (w : World) (hv1 : v.tmod 256 = (c.toNat : Int)) (hv2 : v % 256 = (c.toNat : Int)) (off : Int) (ho : 0 ≤ off) (h0 : ¬ off = 0) (h4 : ¬ off = 4) (h8 : ¬ off = 8) (h12 : ¬ off = 12) (h16 : ¬ off = 16) (h20 : ¬ off = 20) (h24 : ¬ off = 24) (h28 : ¬ off = 28) :
    Calls Try.prog 13 #[rV x y en lcr mcr scr ov, .int .u32 off, .int .u32 v] w fun e w' => e = .returned (.tuple #[rV x y en lcr mcr scr ov, .bool false]) ∧ Below w.heap.size w w' := by
  have hcb := c.toNat_lt
  go_enter Try.func13, Try.ntmps13
  go_wp2
  all_goals exact bodyPost_ret (v := .tuple #[rV x y en lcr mcr scr ov, .bool false]) (by simp [results, Try.results13, go_sem]) rfl ⟨rfl, (by repeat (first | exact Below.refl _ _ | (refine Below.setCell ?_ (by simp) _) | (refine Below.drew ?_) | (refine Below.alloc ?_ (by first | (simp; done) | (simp; omega)) _)))⟩
end Go.Proofs.Ytjaldngafappdaa
