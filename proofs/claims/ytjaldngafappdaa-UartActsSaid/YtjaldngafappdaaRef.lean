/-
  The reference's one, Up and Get: what they tell. Conditions: the line control register is a byte.
-/
import Derived.Test.YtjaldngafappdaaLoses
import Derived.Test.YtjaldngafappdaaGrow
import Derived.Deep.QuietTactic
import Derived.BigQuiet
import Derived.Test.YtjaldngafappdaaGrow
import Derived.Deep.QuietTactic
import Derived.BigQuiet
import Derived.Test.YtjaldngafappdaaGrow
import Derived.Deep.QuietTactic
import Derived.BigQuiet
import Derived.Test.YtjaldngafappdaaGrow
set_option linter.unusedVariables false
set_option linter.unusedSimpArgs false
namespace Go.Proofs.Ytjaldngafappdaa
open Go.RowKit Go.Lib

/-- A reference's uart, as a value. -/
abbrev rV (x y : ByteArray) (en lcr mcr scr : Int) (ov : Bool) : Value := .agg #[.string x, .string y, .int .u32 en, .int .u32 lcr, .int .u32 mcr, .int .u32 scr, .bool ov]

def oneV (b : Bool) (n : Int) : Int := if b then n else 0
theorem one_calls (b : Bool) (n : Int) (w : World) : Calls Try.prog 24 #[.bool b, .int .u32 n] w fun e w' => e = .returned (.int .u32 (oneV b n)) ∧ w = w' := by
  cases b with
  | false =>
    go_enter Try.func24, Try.ntmps24
    go_wp2
    go_ret
    exact ⟨rfl, rfl⟩
  | true =>
    go_enter Try.func24, Try.ntmps24
    go_wp2
    go_ret
    exact ⟨rfl, rfl⟩

theorem refUp_calls (x y : ByteArray) (en lcr mcr scr : Int) (ov t : Bool) (w : World) (he : 0 ≤ en ∧ en < 256) (ht : ((en % 2 == 1) && decide (0 < x.size)) = t) :
    Calls Try.prog 19 #[rV x y en lcr mcr scr ov] w fun e w' => e = .returned (.bool t) ∧ Below w.heap.size w w' := by
  subst ht
  have hq : en.tmod 2 = en % 2 := Int.tmod_eq_emod_of_nonneg he.1
  have HE := _root_.Go.Lib.hid he
  clear he
  cases hb : (en % 2 == 1) with
  | false =>
    go_enter Try.func19, Try.ntmps19
    go_wp2
    go_ret
    exact ⟨rfl, (Below.refl _ _).alloc (Nat.le_refl _) _⟩
  | true =>
    go_enter Try.func19, Try.ntmps19
    go_wp2
    go_ret
    exact ⟨by simp, (Below.refl _ _).alloc (Nat.le_refl _) _⟩

set_option maxHeartbeats 1000000 in
set_option maxHeartbeats 1000000 in
set_option maxHeartbeats 1000000 in
theorem refGet_0_other (x y : ByteArray) (en lcr mcr scr : Int) (ov : Bool) (w : World) (hl : 128 ≤ lcr) :
    Calls Try.prog 12 #[rV x y en lcr mcr scr ov, .int .u32 0] w fun e w' => e = .returned (.tuple #[rV x y en lcr mcr scr ov, .int .u32 0, .bool true]) ∧ Below w.heap.size w w' := by
  go_enter Try.func12, Try.ntmps12
  go_wp2
  all_goals exact bodyPost_ret (v := .tuple #[rV x y en lcr mcr scr ov, .int .u32 0, .bool true]) (by simp [results, Try.results12, go_sem]) rfl ⟨rfl, (by repeat (first | exact Below.refl _ _ | (refine Below.setCell ?_ (by simp) _) | (refine Below.drew ?_) | (refine Below.alloc ?_ (by first | (simp; done) | (simp; omega)) _) | (refine Below.grow ?_ (by first | (simp; done) | (simp; omega)) _ _) | (simp; done) | (simp; omega)))⟩
set_option maxHeartbeats 1000000 in
theorem refGet_0_none (x y : ByteArray) (en lcr mcr scr : Int) (ov : Bool) (w : World) (hl : lcr < 128) (hx : (x.size : Int) = 0) :
    Calls Try.prog 12 #[rV x y en lcr mcr scr ov, .int .u32 0] w fun e w' => e = .returned (.tuple #[rV x y en lcr mcr scr ov, .int .u32 0, .bool true]) ∧ Below w.heap.size w w' := by
  go_enter Try.func12, Try.ntmps12
  go_wp2
  all_goals exact bodyPost_ret (v := .tuple #[rV x y en lcr mcr scr ov, .int .u32 0, .bool true]) (by simp [results, Try.results12, go_sem]) rfl ⟨rfl, (by repeat (first | exact Below.refl _ _ | (refine Below.setCell ?_ (by simp) _) | (refine Below.drew ?_) | (refine Below.alloc ?_ (by first | (simp; done) | (simp; omega)) _) | (refine Below.grow ?_ (by first | (simp; done) | (simp; omega)) _ _) | (simp; done) | (simp; omega)))⟩
set_option maxHeartbeats 1000000 in
theorem refGet_4 (x y : ByteArray) (en lcr mcr scr : Int) (ov : Bool) (w : World)  :
    Calls Try.prog 12 #[rV x y en lcr mcr scr ov, .int .u32 4] w fun e w' => e = .returned (.tuple #[rV x y en lcr mcr scr ov, .int .u32 (oneV (!decide (128 ≤ lcr)) en), .bool true]) ∧ Below w.heap.size w w' := by
  go_enter Try.func12, Try.ntmps12
  go_wp2
  go_region_with (go_at_call 24; refine (one_calls _ _ _).mono ?_; rintro e w1 ⟨rfl, rfl⟩)
  all_goals go_wp2
  all_goals exact bodyPost_ret (v := .tuple #[rV x y en lcr mcr scr ov, .int .u32 (oneV (!decide (128 ≤ lcr)) en), .bool true]) (by simp [results, Try.results12, go_sem]) rfl ⟨rfl, (by repeat (first | exact Below.refl _ _ | (refine Below.setCell ?_ (by simp) _) | (refine Below.drew ?_) | (refine Below.alloc ?_ (by first | (simp; done) | (simp; omega)) _) | (refine Below.grow ?_ (by first | (simp; done) | (simp; omega)) _ _) | (simp; done) | (simp; omega)))⟩
set_option maxHeartbeats 1000000 in
theorem refGet_12 (x y : ByteArray) (en lcr mcr scr : Int) (ov : Bool) (w : World)  :
    Calls Try.prog 12 #[rV x y en lcr mcr scr ov, .int .u32 12] w fun e w' => e = .returned (.tuple #[rV x y en lcr mcr scr ov, .int .u32 lcr, .bool true]) ∧ Below w.heap.size w w' := by
  go_enter Try.func12, Try.ntmps12
  go_wp2
  go_region
  all_goals go_wp2
  all_goals exact bodyPost_ret (v := .tuple #[rV x y en lcr mcr scr ov, .int .u32 lcr, .bool true]) (by simp [results, Try.results12, go_sem]) rfl ⟨rfl, (by repeat (first | exact Below.refl _ _ | (refine Below.setCell ?_ (by simp) _) | (refine Below.drew ?_) | (refine Below.alloc ?_ (by first | (simp; done) | (simp; omega)) _) | (refine Below.grow ?_ (by first | (simp; done) | (simp; omega)) _ _) | (simp; done) | (simp; omega)))⟩
set_option maxHeartbeats 1000000 in
theorem refGet_16 (x y : ByteArray) (en lcr mcr scr : Int) (ov : Bool) (w : World)  :
    Calls Try.prog 12 #[rV x y en lcr mcr scr ov, .int .u32 16] w fun e w' => e = .returned (.tuple #[rV x y en lcr mcr scr ov, .int .u32 mcr, .bool true]) ∧ Below w.heap.size w w' := by
  go_enter Try.func12, Try.ntmps12
  go_wp2
  go_region
  all_goals go_wp2
  all_goals exact bodyPost_ret (v := .tuple #[rV x y en lcr mcr scr ov, .int .u32 mcr, .bool true]) (by simp [results, Try.results12, go_sem]) rfl ⟨rfl, (by repeat (first | exact Below.refl _ _ | (refine Below.setCell ?_ (by simp) _) | (refine Below.drew ?_) | (refine Below.alloc ?_ (by first | (simp; done) | (simp; omega)) _) | (refine Below.grow ?_ (by first | (simp; done) | (simp; omega)) _ _) | (simp; done) | (simp; omega)))⟩
set_option maxHeartbeats 1000000 in
theorem refGet_28 (x y : ByteArray) (en lcr mcr scr : Int) (ov : Bool) (w : World)  :
    Calls Try.prog 12 #[rV x y en lcr mcr scr ov, .int .u32 28] w fun e w' => e = .returned (.tuple #[rV x y en lcr mcr scr ov, .int .u32 scr, .bool true]) ∧ Below w.heap.size w w' := by
  go_enter Try.func12, Try.ntmps12
  go_wp2
  go_region
  all_goals go_wp2
  all_goals exact bodyPost_ret (v := .tuple #[rV x y en lcr mcr scr ov, .int .u32 scr, .bool true]) (by simp [results, Try.results12, go_sem]) rfl ⟨rfl, (by repeat (first | exact Below.refl _ _ | (refine Below.setCell ?_ (by simp) _) | (refine Below.drew ?_) | (refine Below.alloc ?_ (by first | (simp; done) | (simp; omega)) _) | (refine Below.grow ?_ (by first | (simp; done) | (simp; omega)) _ _) | (simp; done) | (simp; omega)))⟩
set_option maxHeartbeats 1000000 in
theorem refGet_24 (x y : ByteArray) (en lcr mcr scr : Int) (ov : Bool) (w : World)  :
    Calls Try.prog 12 #[rV x y en lcr mcr scr ov, .int .u32 24] w fun e w' => e = .returned (.tuple #[rV x y en lcr mcr scr ov, .int .u32 0, .bool true]) ∧ Below w.heap.size w w' := by
  go_enter Try.func12, Try.ntmps12
  go_wp2
  all_goals exact bodyPost_ret (v := .tuple #[rV x y en lcr mcr scr ov, .int .u32 0, .bool true]) (by simp [results, Try.results12, go_sem]) rfl ⟨rfl, (by repeat (first | exact Below.refl _ _ | (refine Below.setCell ?_ (by simp) _) | (refine Below.drew ?_) | (refine Below.alloc ?_ (by first | (simp; done) | (simp; omega)) _) | (refine Below.grow ?_ (by first | (simp; done) | (simp; omega)) _ _) | (simp; done) | (simp; omega)))⟩
set_option maxHeartbeats 1000000 in
theorem refGet_0 (x y : ByteArray) (en lcr mcr scr : Int) (ov : Bool) (w : World) (hl : lcr < 128) (hx : 0 < x.size) (c : UInt8) (hc : x[0]'hx = c) (x1 : ByteArray) (he : x.extract 1 x.size = x1) :
    Calls Try.prog 12 #[rV x y en lcr mcr scr ov, .int .u32 0] w fun e w' => e = .returned (.tuple #[rV x1 y en lcr mcr scr ov, .int .u32 c.toNat, .bool true]) ∧ Below w.heap.size w w' := by
  have hn : ((x.size : Int) == 0) = false := beq_false_of_ne (by omega)
  have h1 : 1 ≤ x.size := hx
  have hb := c.toNat_lt
  go_enter Try.func12, Try.ntmps12
  go_wp2
  all_goals exact bodyPost_ret (v := .tuple #[rV x1 y en lcr mcr scr ov, .int .u32 c.toNat, .bool true]) (by simp [results, Try.results12, go_sem]) rfl ⟨rfl, (by repeat (first | exact Below.refl _ _ | (refine Below.setCell ?_ (by simp) _) | (refine Below.drew ?_) | (refine Below.alloc ?_ (by first | (simp; done) | (simp; omega)) _) | (refine Below.grow ?_ (by first | (simp; done) | (simp; omega)) _ _) | (simp; done) | (simp; omega)))⟩
set_option maxHeartbeats 1000000 in
theorem refGet_8 (x y : ByteArray) (en lcr mcr scr : Int) (ov : Bool) (w : World) (t : Bool) (he : 0 ≤ en ∧ en < 256) (ht : ((en % 2 == 1) && decide (0 < x.size)) = t) :
    Calls Try.prog 12 #[rV x y en lcr mcr scr ov, .int .u32 8] w fun e w' => e = .returned (.tuple #[rV x y en lcr mcr scr ov, .int .u32 (IntKind.u32.wrap (1 + oneV t 3)), .bool true]) ∧ Below w.heap.size w w' := by
  have HE := _root_.Go.Lib.hid he
  have HT := _root_.Go.Lib.hid ht
  clear he ht
  go_enter Try.func12, Try.ntmps12
  go_wp2
  go_region_with (first | (go_at_call 19; refine (refUp_calls x y en lcr mcr scr ov t _ HE.out HT.out).mono ?_; rintro e w1 ⟨rfl, hb⟩; obtain ⟨e1, d1, rfl⟩ := below_grow hb; clear hb) | (go_at_call 24; refine (one_calls _ _ _).mono ?_; rintro e w1 ⟨rfl, rfl⟩))
  all_goals go_wp2
  all_goals exact bodyPost_ret (v := .tuple #[rV x y en lcr mcr scr ov, .int .u32 (IntKind.u32.wrap (1 + oneV t 3)), .bool true]) (by simp [results, Try.results12, go_sem]) rfl ⟨rfl, (by repeat (first | exact Below.refl _ _ | (refine Below.setCell ?_ (by simp) _) | (refine Below.drew ?_) | (refine Below.alloc ?_ (by first | (simp; done) | (simp; omega)) _) | (refine Below.grow ?_ (by first | (simp; done) | (simp; omega)) _ _) | (simp; done) | (simp; omega)))⟩
set_option maxHeartbeats 1000000 in
theorem refGet_20 (x y : ByteArray) (en lcr mcr scr : Int) (ov : Bool) (w : World)  :
    Calls Try.prog 12 #[rV x y en lcr mcr scr ov, .int .u32 20] w fun e w' => e = .returned (.tuple #[rV x y en lcr mcr scr false, .int .u32 ((96 + oneV (decide (0 < x.size)) 1 + oneV ov 2) % 4294967296), .bool true]) ∧ Below w.heap.size w w' := by
  go_enter Try.func12, Try.ntmps12
  go_wp2
  go_region_with (go_at_call 24; refine (one_calls _ _ _).mono ?_; rintro e w1 ⟨rfl, rfl⟩)
  all_goals go_wp2
  all_goals exact bodyPost_ret (v := .tuple #[rV x y en lcr mcr scr false, .int .u32 ((96 + oneV (decide (0 < x.size)) 1 + oneV ov 2) % 4294967296), .bool true]) (by simp [results, Try.results12, go_sem]) rfl ⟨rfl, (by repeat (first | exact Below.refl _ _ | (refine Below.setCell ?_ (by simp) _) | (refine Below.drew ?_) | (refine Below.alloc ?_ (by first | (simp; done) | (simp; omega)) _) | (refine Below.grow ?_ (by first | (simp; done) | (simp; omega)) _ _) | (simp; done) | (simp; omega)))⟩
set_option maxHeartbeats 1000000 in
theorem refGet_bad (x y : ByteArray) (en lcr mcr scr : Int) (ov : Bool) (w : World) (off : Int) (ho : 0 ≤ off) (h0 : ¬ off = 0) (h4 : ¬ off = 4) (h8 : ¬ off = 8) (h12 : ¬ off = 12) (h16 : ¬ off = 16) (h20 : ¬ off = 20) (h24 : ¬ off = 24) (h28 : ¬ off = 28) :
    Calls Try.prog 12 #[rV x y en lcr mcr scr ov, .int .u32 off] w fun e w' => e = .returned (.tuple #[rV x y en lcr mcr scr ov, .int .u32 0, .bool false]) ∧ Below w.heap.size w w' := by
  go_enter Try.func12, Try.ntmps12
  go_wp2
  all_goals exact bodyPost_ret (v := .tuple #[rV x y en lcr mcr scr ov, .int .u32 0, .bool false]) (by simp [results, Try.results12, go_sem]) rfl ⟨rfl, (by repeat (first | exact Below.refl _ _ | (refine Below.setCell ?_ (by simp) _) | (refine Below.drew ?_) | (refine Below.alloc ?_ (by first | (simp; done) | (simp; omega)) _) | (refine Below.grow ?_ (by first | (simp; done) | (simp; omega)) _ _) | (simp; done) | (simp; omega)))⟩
end Go.Proofs.Ytjaldngafappdaa
