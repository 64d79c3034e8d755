/-
  The reference's clock: what it tells and leaves.
-/
import Derived.Test.YtogepklmmehbjaaDoorAlive
set_option linter.unusedVariables false
set_option linter.unusedSimpArgs false
namespace Go.Proofs.YtogepklmmehbjaaDoor
open Go.RowKit Go.Lib

def sI (s : Bool) : Int := if s then 1 else 0
abbrev rR (t l s : Int) : Array Value := #[.int .u64 t, .int .u64 l, .int .u32 s]
abbrev rC (c : Ck) : Value := .agg (rR c.t c.l (sI c.s))
theorem int_ret {k : IntKind} {a b : Int} (h : a = b) : Ending.returned (.int k a) = .returned (.int k b) := by rw [h]

theorem low_calls (n v : Int) (w : World) (hn : 0 ≤ n ∧ n < 18446744073709551616) (hv : 0 ≤ v ∧ v < 4294967296) : Calls Tryd.prog 28 #[.int .u64 n, .int .u32 v] w fun e w' => e = .returned (.int .u64 (n / 4294967296 * 4294967296 + v)) ∧ w = w' := by
  obtain ⟨n1, n2⟩ := hn
  obtain ⟨v1, v2⟩ := hv
  have hm : n.tmod 4294967296 = n % 4294967296 := Int.tmod_eq_emod_of_nonneg n1
  have hw : IntKind.u64.wrap (n - n % 4294967296 + v) = n / 4294967296 * 4294967296 + v := by rw [IntKind.wrap_u64]; omega
  have hw2 : IntKind.u64.wrap (n - n % 4294967296) = n - n % 4294967296 := by rw [IntKind.wrap_u64]; omega
  have hw3 : n - n % 4294967296 + v = n / 4294967296 * 4294967296 + v := by omega
  have HW := _root_.Go.Lib.hid hw3
  clear hw3
  go_enter Tryd.func28, Tryd.ntmps28
  go_wp2
  go_ret
  exact ⟨by first | rfl | exact int_ret HW.out, rfl⟩
theorem high_calls (n v : Int) (w : World) (hn : 0 ≤ n ∧ n < 18446744073709551616) (hv : 0 ≤ v ∧ v < 4294967296) : Calls Tryd.prog 29 #[.int .u64 n, .int .u32 v] w fun e w' => e = .returned (.int .u64 (n % 4294967296 + v * 4294967296)) ∧ w = w' := by
  obtain ⟨n1, n2⟩ := hn
  obtain ⟨v1, v2⟩ := hv
  have hm : n.tmod 4294967296 = n % 4294967296 := Int.tmod_eq_emod_of_nonneg n1
  have hw : IntKind.u64.wrap (n % 4294967296 + v * 4294967296) = n % 4294967296 + v * 4294967296 := by rw [IntKind.wrap_u64]; omega
  go_enter Tryd.func29, Tryd.ntmps29
  go_wp2
  go_ret
  exact ⟨rfl, rfl⟩
theorem refNew_calls (w : World) : Calls Tryd.prog 11 #[] w fun e w' => e = .returned (.agg (rR 0 18446744073709551615 0)) ∧ Below w.heap.size w w' := by
  go_enter Tryd.func11, Tryd.ntmps11
  go_wp2
  exact bodyPost_ret (v := .agg (rR 0 18446744073709551615 0)) (by simp [results, Tryd.results11, go_sem]) rfl ⟨rfl, (by repeat (first | exact Below.refl _ _ | (refine Below.setCell ?_ (by simp) _) | (refine Below.drew ?_) | (refine Below.alloc ?_ (by first | (simp; done) | (simp; omega)) _)))⟩

theorem rget_0 (t l s : Int) (w : World)  : Calls Tryd.prog 13 #[.agg (rR t l s), .int .u32 0] w fun e w' => e = .returned (.tuple #[.int .u32 s, .bool true]) ∧ Below w.heap.size w w' := by
  go_enter Tryd.func13, Tryd.ntmps13
  go_wp2
  exact bodyPost_ret (v := .tuple #[.int .u32 s, .bool true]) (by simp [results, Tryd.results13, go_sem]) rfl ⟨rfl, (by repeat (first | exact Below.refl _ _ | (refine Below.setCell ?_ (by simp) _) | (refine Below.drew ?_) | (refine Below.alloc ?_ (by first | (simp; done) | (simp; omega)) _)))⟩
theorem rget_16384 (t l s : Int) (w : World) (ht : 0 ≤ t ∧ t < 18446744073709551616) (hl : 0 ≤ l ∧ l < 18446744073709551616) : Calls Tryd.prog 13 #[.agg (rR t l s), .int .u32 16384] w fun e w' => e = .returned (.tuple #[.int .u32 (l % 4294967296), .bool true]) ∧ Below w.heap.size w w' := by
  obtain ⟨t1, t2⟩ := ht
  obtain ⟨l1, l2⟩ := hl
  have hmt : t.tmod 4294967296 = t % 4294967296 := Int.tmod_eq_emod_of_nonneg t1
  have hml : l.tmod 4294967296 = l % 4294967296 := Int.tmod_eq_emod_of_nonneg l1
  go_enter Tryd.func13, Tryd.ntmps13
  go_wp2
  exact bodyPost_ret (v := .tuple #[.int .u32 (l % 4294967296), .bool true]) (by simp [results, Tryd.results13, go_sem]) rfl ⟨rfl, (by repeat (first | exact Below.refl _ _ | (refine Below.setCell ?_ (by simp) _) | (refine Below.drew ?_) | (refine Below.alloc ?_ (by first | (simp; done) | (simp; omega)) _)))⟩
theorem rget_16388 (t l s : Int) (w : World) (ht : 0 ≤ t ∧ t < 18446744073709551616) (hl : 0 ≤ l ∧ l < 18446744073709551616) : Calls Tryd.prog 13 #[.agg (rR t l s), .int .u32 16388] w fun e w' => e = .returned (.tuple #[.int .u32 (l / 4294967296), .bool true]) ∧ Below w.heap.size w w' := by
  obtain ⟨t1, t2⟩ := ht
  obtain ⟨l1, l2⟩ := hl
  have hmt : t.tmod 4294967296 = t % 4294967296 := Int.tmod_eq_emod_of_nonneg t1
  have hml : l.tmod 4294967296 = l % 4294967296 := Int.tmod_eq_emod_of_nonneg l1
  go_enter Tryd.func13, Tryd.ntmps13
  go_wp2
  exact bodyPost_ret (v := .tuple #[.int .u32 (l / 4294967296), .bool true]) (by simp [results, Tryd.results13, go_sem]) rfl ⟨rfl, (by repeat (first | exact Below.refl _ _ | (refine Below.setCell ?_ (by simp) _) | (refine Below.drew ?_) | (refine Below.alloc ?_ (by first | (simp; done) | (simp; omega)) _)))⟩
theorem rget_49144 (t l s : Int) (w : World) (ht : 0 ≤ t ∧ t < 18446744073709551616) (hl : 0 ≤ l ∧ l < 18446744073709551616) : Calls Tryd.prog 13 #[.agg (rR t l s), .int .u32 49144] w fun e w' => e = .returned (.tuple #[.int .u32 (t % 4294967296), .bool true]) ∧ Below w.heap.size w w' := by
  obtain ⟨t1, t2⟩ := ht
  obtain ⟨l1, l2⟩ := hl
  have hmt : t.tmod 4294967296 = t % 4294967296 := Int.tmod_eq_emod_of_nonneg t1
  have hml : l.tmod 4294967296 = l % 4294967296 := Int.tmod_eq_emod_of_nonneg l1
  go_enter Tryd.func13, Tryd.ntmps13
  go_wp2
  exact bodyPost_ret (v := .tuple #[.int .u32 (t % 4294967296), .bool true]) (by simp [results, Tryd.results13, go_sem]) rfl ⟨rfl, (by repeat (first | exact Below.refl _ _ | (refine Below.setCell ?_ (by simp) _) | (refine Below.drew ?_) | (refine Below.alloc ?_ (by first | (simp; done) | (simp; omega)) _)))⟩
theorem rget_49148 (t l s : Int) (w : World) (ht : 0 ≤ t ∧ t < 18446744073709551616) (hl : 0 ≤ l ∧ l < 18446744073709551616) : Calls Tryd.prog 13 #[.agg (rR t l s), .int .u32 49148] w fun e w' => e = .returned (.tuple #[.int .u32 (t / 4294967296), .bool true]) ∧ Below w.heap.size w w' := by
  obtain ⟨t1, t2⟩ := ht
  obtain ⟨l1, l2⟩ := hl
  have hmt : t.tmod 4294967296 = t % 4294967296 := Int.tmod_eq_emod_of_nonneg t1
  have hml : l.tmod 4294967296 = l % 4294967296 := Int.tmod_eq_emod_of_nonneg l1
  go_enter Tryd.func13, Tryd.ntmps13
  go_wp2
  exact bodyPost_ret (v := .tuple #[.int .u32 (t / 4294967296), .bool true]) (by simp [results, Tryd.results13, go_sem]) rfl ⟨rfl, (by repeat (first | exact Below.refl _ _ | (refine Below.setCell ?_ (by simp) _) | (refine Below.drew ?_) | (refine Below.alloc ?_ (by first | (simp; done) | (simp; omega)) _)))⟩
theorem rget_bad (t l s : Int) (w : World) (off : Int) (h0 : off ≠ 0) (h16384 : off ≠ 16384) (h16388 : off ≠ 16388) (h49144 : off ≠ 49144) (h49148 : off ≠ 49148) : Calls Tryd.prog 13 #[.agg (rR t l s), .int .u32 off] w fun e w' => e = .returned (.tuple #[.int .u32 0, .bool false]) ∧ Below w.heap.size w w' := by
  have k0 : (off == 0) = false := beq_false_of_ne h0
  have k16384 : (off == 16384) = false := beq_false_of_ne h16384
  have k16388 : (off == 16388) = false := beq_false_of_ne h16388
  have k49144 : (off == 49144) = false := beq_false_of_ne h49144
  have k49148 : (off == 49148) = false := beq_false_of_ne h49148
  clear h0 h16384 h16388 h49144 h49148
  go_enter Tryd.func13, Tryd.ntmps13
  go_wp2
  exact bodyPost_ret (v := .tuple #[.int .u32 0, .bool false]) (by simp [results, Tryd.results13, go_sem]) rfl ⟨rfl, (by repeat (first | exact Below.refl _ _ | (refine Below.setCell ?_ (by simp) _) | (refine Below.drew ?_) | (refine Below.alloc ?_ (by first | (simp; done) | (simp; omega)) _)))⟩
theorem rset_0 (t l s : Int) (w : World)  (v : Int) (hv : 0 ≤ v ∧ v < 4294967296) : Calls Tryd.prog 14 #[.agg (rR t l s), .int .u32 0, .int .u32 v] w fun e w' => e = .returned (.tuple #[.agg (rR t l (v % 2)), .bool true]) ∧ Below w.heap.size w w' := by
  obtain ⟨v1, v2⟩ := hv
  have hm : v.tmod 2 = v % 2 := Int.tmod_eq_emod_of_nonneg v1
  go_enter Tryd.func14, Tryd.ntmps14
  go_wp2
  exact bodyPost_ret (v := .tuple #[.agg (rR t l (v % 2)), .bool true]) (by simp [results, Tryd.results14, go_sem]) rfl ⟨rfl, (by repeat (first | exact Below.refl _ _ | (refine Below.setCell ?_ (by simp) _) | (refine Below.drew ?_) | (refine Below.alloc ?_ (by first | (simp; done) | (simp; omega)) _)))⟩
theorem rset_16384 (t l s : Int) (w : World) (ht : 0 ≤ t ∧ t < 18446744073709551616) (hl : 0 ≤ l ∧ l < 18446744073709551616) (v : Int) (hv : 0 ≤ v ∧ v < 4294967296) : Calls Tryd.prog 14 #[.agg (rR t l s), .int .u32 16384, .int .u32 v] w fun e w' => e = .returned (.tuple #[.agg (rR t (l / 4294967296 * 4294967296 + v) s), .bool true]) ∧ Below w.heap.size w w' := by
  have HV := _root_.Go.Lib.hid hv
  have HH := _root_.Go.Lib.hid hl
  clear hv ht hl
  go_enter Tryd.func14, Tryd.ntmps14
  go_wp2_with (go_at_call 28; refine (low_calls l v _ HH.out HV.out).mono ?_; rintro e w1 ⟨rfl, rfl⟩)
  exact bodyPost_ret (v := .tuple #[.agg (rR t (l / 4294967296 * 4294967296 + v) s), .bool true]) (by simp [results, Tryd.results14, go_sem]) rfl ⟨rfl, (by repeat (first | exact Below.refl _ _ | (refine Below.setCell ?_ (by simp) _) | (refine Below.drew ?_) | (refine Below.alloc ?_ (by first | (simp; done) | (simp; omega)) _)))⟩
theorem rset_16388 (t l s : Int) (w : World) (ht : 0 ≤ t ∧ t < 18446744073709551616) (hl : 0 ≤ l ∧ l < 18446744073709551616) (v : Int) (hv : 0 ≤ v ∧ v < 4294967296) : Calls Tryd.prog 14 #[.agg (rR t l s), .int .u32 16388, .int .u32 v] w fun e w' => e = .returned (.tuple #[.agg (rR t (l % 4294967296 + v * 4294967296) s), .bool true]) ∧ Below w.heap.size w w' := by
  have HV := _root_.Go.Lib.hid hv
  have HH := _root_.Go.Lib.hid hl
  clear hv ht hl
  go_enter Tryd.func14, Tryd.ntmps14
  go_wp2_with (go_at_call 29; refine (high_calls l v _ HH.out HV.out).mono ?_; rintro e w1 ⟨rfl, rfl⟩)
  exact bodyPost_ret (v := .tuple #[.agg (rR t (l % 4294967296 + v * 4294967296) s), .bool true]) (by simp [results, Tryd.results14, go_sem]) rfl ⟨rfl, (by repeat (first | exact Below.refl _ _ | (refine Below.setCell ?_ (by simp) _) | (refine Below.drew ?_) | (refine Below.alloc ?_ (by first | (simp; done) | (simp; omega)) _)))⟩
theorem rset_49144 (t l s : Int) (w : World) (ht : 0 ≤ t ∧ t < 18446744073709551616) (hl : 0 ≤ l ∧ l < 18446744073709551616) (v : Int) (hv : 0 ≤ v ∧ v < 4294967296) : Calls Tryd.prog 14 #[.agg (rR t l s), .int .u32 49144, .int .u32 v] w fun e w' => e = .returned (.tuple #[.agg (rR (t / 4294967296 * 4294967296 + v) l s), .bool true]) ∧ Below w.heap.size w w' := by
  have HV := _root_.Go.Lib.hid hv
  have HH := _root_.Go.Lib.hid ht
  clear hv ht hl
  go_enter Tryd.func14, Tryd.ntmps14
  go_wp2_with (go_at_call 28; refine (low_calls t v _ HH.out HV.out).mono ?_; rintro e w1 ⟨rfl, rfl⟩)
  exact bodyPost_ret (v := .tuple #[.agg (rR (t / 4294967296 * 4294967296 + v) l s), .bool true]) (by simp [results, Tryd.results14, go_sem]) rfl ⟨rfl, (by repeat (first | exact Below.refl _ _ | (refine Below.setCell ?_ (by simp) _) | (refine Below.drew ?_) | (refine Below.alloc ?_ (by first | (simp; done) | (simp; omega)) _)))⟩
theorem rset_49148 (t l s : Int) (w : World) (ht : 0 ≤ t ∧ t < 18446744073709551616) (hl : 0 ≤ l ∧ l < 18446744073709551616) (v : Int) (hv : 0 ≤ v ∧ v < 4294967296) : Calls Tryd.prog 14 #[.agg (rR t l s), .int .u32 49148, .int .u32 v] w fun e w' => e = .returned (.tuple #[.agg (rR (t % 4294967296 + v * 4294967296) l s), .bool true]) ∧ Below w.heap.size w w' := by
  have HV := _root_.Go.Lib.hid hv
  have HH := _root_.Go.Lib.hid ht
  clear hv ht hl
  go_enter Tryd.func14, Tryd.ntmps14
  go_wp2_with (go_at_call 29; refine (high_calls t v _ HH.out HV.out).mono ?_; rintro e w1 ⟨rfl, rfl⟩)
  exact bodyPost_ret (v := .tuple #[.agg (rR (t % 4294967296 + v * 4294967296) l s), .bool true]) (by simp [results, Tryd.results14, go_sem]) rfl ⟨rfl, (by repeat (first | exact Below.refl _ _ | (refine Below.setCell ?_ (by simp) _) | (refine Below.drew ?_) | (refine Below.alloc ?_ (by first | (simp; done) | (simp; omega)) _)))⟩
theorem rset_bad (t l s : Int) (w : World) (off : Int) (h0 : off ≠ 0) (h16384 : off ≠ 16384) (h16388 : off ≠ 16388) (h49144 : off ≠ 49144) (h49148 : off ≠ 49148) (v : Int) (hv : 0 ≤ v ∧ v < 4294967296) : Calls Tryd.prog 14 #[.agg (rR t l s), .int .u32 off, .int .u32 v] w fun e w' => e = .returned (.tuple #[.agg (rR t l s), .bool false]) ∧ Below w.heap.size w w' := by
  have k0 : (off == 0) = false := beq_false_of_ne h0
  have k16384 : (off == 16384) = false := beq_false_of_ne h16384
  have k16388 : (off == 16388) = false := beq_false_of_ne h16388
  have k49144 : (off == 49144) = false := beq_false_of_ne h49144
  have k49148 : (off == 49148) = false := beq_false_of_ne h49148
  clear h0 h16384 h16388 h49144 h49148
  go_enter Tryd.func14, Tryd.ntmps14
  go_wp2
  exact bodyPost_ret (v := .tuple #[.agg (rR t l s), .bool false]) (by simp [results, Tryd.results14, go_sem]) rfl ⟨rfl, (by repeat (first | exact Below.refl _ _ | (refine Below.setCell ?_ (by simp) _) | (refine Below.drew ?_) | (refine Below.alloc ?_ (by first | (simp; done) | (simp; omega)) _)))⟩
theorem rln_0_yes (t l : Int) (w : World) (hr : l ≤ t) : Calls Tryd.prog 18 #[.agg (rR t l 0)] w fun e w' => e = .returned (.int .u32 128) ∧ Below w.heap.size w w' := by
  go_enter Tryd.func18, Tryd.ntmps18
  go_wp2
  go_ret
  exact ⟨rfl, (by repeat (first | exact Below.refl _ _ | (refine Below.setCell ?_ (by simp) _) | (refine Below.drew ?_) | (refine Below.alloc ?_ (by first | (simp; done) | (simp; omega)) _)))⟩
theorem rln_0_no (t l : Int) (w : World) (hr : t < l) : Calls Tryd.prog 18 #[.agg (rR t l 0)] w fun e w' => e = .returned (.int .u32 0) ∧ Below w.heap.size w w' := by
  go_enter Tryd.func18, Tryd.ntmps18
  go_wp2
  go_ret
  exact ⟨rfl, (by repeat (first | exact Below.refl _ _ | (refine Below.setCell ?_ (by simp) _) | (refine Below.drew ?_) | (refine Below.alloc ?_ (by first | (simp; done) | (simp; omega)) _)))⟩
theorem rln_1_yes (t l : Int) (w : World) (hr : l ≤ t) : Calls Tryd.prog 18 #[.agg (rR t l 1)] w fun e w' => e = .returned (.int .u32 136) ∧ Below w.heap.size w w' := by
  go_enter Tryd.func18, Tryd.ntmps18
  go_wp2
  go_ret
  exact ⟨rfl, (by repeat (first | exact Below.refl _ _ | (refine Below.setCell ?_ (by simp) _) | (refine Below.drew ?_) | (refine Below.alloc ?_ (by first | (simp; done) | (simp; omega)) _)))⟩
theorem rln_1_no (t l : Int) (w : World) (hr : t < l) : Calls Tryd.prog 18 #[.agg (rR t l 1)] w fun e w' => e = .returned (.int .u32 8) ∧ Below w.heap.size w w' := by
  go_enter Tryd.func18, Tryd.ntmps18
  go_wp2
  go_ret
  exact ⟨rfl, (by repeat (first | exact Below.refl _ _ | (refine Below.setCell ?_ (by simp) _) | (refine Below.drew ?_) | (refine Below.alloc ?_ (by first | (simp; done) | (simp; omega)) _)))⟩

theorem refGet_c (c : Ck) (hc : c.ok) (off x : Int) (t : Bool) (ho : 0 ≤ off ∧ off < 4294967296) (hx : cGet c off = x) (ht : (!cBad off) = t) (w : World) : Calls Tryd.prog 13 #[rC c, .int .u32 off] w fun e w' => e = .returned (.tuple #[.int .u32 x, .bool t]) ∧ Below w.heap.size w w' := by
  subst hx ht
  cases hb : cBad off with
  | true =>
    obtain ⟨h0, h1, h2, h3, h4⟩ := cBad_true hb
    exact (rget_bad _ _ _ w off h0 h1 h2 h3 h4).mono fun e w' ⟨e1, e2⟩ => ⟨by rw [e1]; simp [cGet, h0, h1, h2, h3, h4], e2⟩
  | false =>
    rcases cBad_false hb with rfl | rfl | rfl | rfl | rfl
    · exact (rget_0 _ _ _ w).mono fun e w' ⟨e1, e2⟩ => ⟨by rw [e1]; simp [cGet, sI], e2⟩
    · exact (rget_16384 _ _ _ w hc.t hc.l).mono fun e w' ⟨e1, e2⟩ => ⟨by rw [e1]; simp [cGet], e2⟩
    · exact (rget_16388 _ _ _ w hc.t hc.l).mono fun e w' ⟨e1, e2⟩ => ⟨by rw [e1]; simp [cGet], e2⟩
    · exact (rget_49144 _ _ _ w hc.t hc.l).mono fun e w' ⟨e1, e2⟩ => ⟨by rw [e1]; simp [cGet], e2⟩
    · exact (rget_49148 _ _ _ w hc.t hc.l).mono fun e w' ⟨e1, e2⟩ => ⟨by rw [e1]; simp [cGet], e2⟩
theorem sI_mod (v : Int) : sI (v % 2 == 1) = v % 2 := by
  unfold sI
  rcases (show v % 2 = 0 ∨ v % 2 = 1 by omega) with h | h <;> rw [h] <;> rfl
theorem refSet_c (c : Ck) (hc : c.ok) (off v : Int) (t : Bool) (c' : Ck) (ho : 0 ≤ off ∧ off < 4294967296) (hv : 0 ≤ v ∧ v < 4294967296) (ht : (!cBad off) = t) (hS : cSet c off v = c') (w : World) : Calls Tryd.prog 14 #[rC c, .int .u32 off, .int .u32 v] w fun e w' => e = .returned (.tuple #[rC c', .bool t]) ∧ Below w.heap.size w w' := by
  subst ht hS
  cases hb : cBad off with
  | true =>
    obtain ⟨h0, h1, h2, h3, h4⟩ := cBad_true hb
    exact (rset_bad _ _ _ w off h0 h1 h2 h3 h4 v hv).mono fun e w' ⟨e1, e2⟩ => ⟨by rw [e1, show cSet c off v = c by simp [cSet, h0, h1, h2, h3, h4]]; rfl, e2⟩
  | false =>
    rcases cBad_false hb with rfl | rfl | rfl | rfl | rfl
    · exact (rset_0 _ _ _ w v hv).mono fun e w' ⟨e1, e2⟩ => ⟨by rw [e1, ← sI_mod v]; rfl, e2⟩
    · exact (rset_16384 _ _ _ w hc.t hc.l v hv).mono fun e w' ⟨e1, e2⟩ => ⟨by rw [e1]; rfl, e2⟩
    · exact (rset_16388 _ _ _ w hc.t hc.l v hv).mono fun e w' ⟨e1, e2⟩ => ⟨by rw [e1]; rfl, e2⟩
    · exact (rset_49144 _ _ _ w hc.t hc.l v hv).mono fun e w' ⟨e1, e2⟩ => ⟨by rw [e1]; rfl, e2⟩
    · exact (rset_49148 _ _ _ w hc.t hc.l v hv).mono fun e w' ⟨e1, e2⟩ => ⟨by rw [e1]; rfl, e2⟩
theorem refLn_c (c : Ck) (x : Int) (hx : cLn c = x) (w : World) : Calls Tryd.prog 18 #[rC c] w fun e w' => e = .returned (.int .u32 x) ∧ Below w.heap.size w w' := by
  subst hx
  obtain ⟨t, l, s⟩ := c
  by_cases hr : l ≤ t
  · cases s with
    | true => exact (rln_1_yes t l w hr).mono fun e w' ⟨e1, e2⟩ => ⟨by rw [e1]; simp [cLn, lnV, hr], e2⟩
    | false => exact (rln_0_yes t l w hr).mono fun e w' ⟨e1, e2⟩ => ⟨by rw [e1]; simp [cLn, lnV, hr], e2⟩
  · cases s with
    | true => exact (rln_1_no t l w (by omega)).mono fun e w' ⟨e1, e2⟩ => ⟨by rw [e1]; simp [cLn, lnV, hr], e2⟩
    | false => exact (rln_0_no t l w (by omega)).mono fun e w' ⟨e1, e2⟩ => ⟨by rw [e1]; simp [cLn, lnV, hr], e2⟩
end Go.Proofs.YtogepklmmehbjaaDoor
