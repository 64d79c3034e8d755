/-
  The desk's methods: what they tell and leave.
-/
import Derived.Test.YtogepklmmehbjaaDoorClock
set_option linter.unusedVariables false
set_option linter.unusedSimpArgs false
namespace Go.Proofs.YtogepklmmehbjaaDoor
open Go.RowKit Go.Lib

/-- A desk's row. -/
abbrev dkR (a e s : Int) : Array Value := #[.int .u32 a, .int .u32 e, .int .u32 s]
abbrev dkO (a e s : Int) : Obj := .cells (dkR a e s) 66
def wtV (a e s : Int) : Int := bits .andNot .u32 (bits .and .u32 a e) s

theorem newDesk_raw (w : World) : Calls Tryd.prog 19 #[] w fun e w' => e = .returned (.pointer (some ⟨w.heap.size, 0, none⟩)) ∧ w' = w.alloc (dkO 0 0 0) := by
  go_enter Tryd.func19, Tryd.ntmps19
  go_wp2
  go_ret
  exact ⟨rfl, rfl⟩

theorem waits_raw (b : Nat) (a e s : Int) (w : World) (h : w.heap[b]? = some (dkO a e s)) : Calls Tryd.prog 32 #[.pointer (some ⟨b, 0, none⟩)] w fun r w' => r = .returned (.int .u32 (wtV a e s)) ∧ w' = w.drewN 1 := by
  have c0 : w.cell? ⟨b, 0, none⟩ = some (.int .u32 a) := cell_at h 0
  have c1 : w.cell? ⟨b, 1, none⟩ = some (.int .u32 e) := cell_at h 1
  have c2 : w.cell? ⟨b, 2, none⟩ = some (.int .u32 s) := cell_at h 2
  have H := _root_.Go.Lib.hid h
  clear h
  go_enter Tryd.func32, Tryd.ntmps32
  go_wp2
  go_region
  all_goals
    go_wp2
    go_ret
    exact ⟨rfl, rfl⟩

theorem ask_raw (b : Nat) (a e s v : Int) (w : World) (h : w.heap[b]? = some (dkO a e s)) : Calls Tryd.prog 24 #[.pointer (some ⟨b, 0, none⟩), .int .u32 v] w fun r w' => r = .returned (.tuple #[]) ∧ w' = w.setCell ⟨b, 0, none⟩ (.int .u32 (bits .andNot .u32 v 1)) := by
  have c0 : w.cell? ⟨b, 0, none⟩ = some (.int .u32 a) := cell_at h 0
  have f0 := free_at h 0
  have H := _root_.Go.Lib.hid h
  clear h
  go_enter Tryd.func24, Tryd.ntmps24
  go_wp2
  go_end0
  exact ⟨rfl, rfl⟩
theorem ask_nil (v : Int) (w : World) : Calls Tryd.prog 24 #[.pointer none, .int .u32 v] w fun r w' => r = .returned (.tuple #[]) ∧ w = w' := by
  go_enter Tryd.func24, Tryd.ntmps24
  go_wp2
  go_end0
  exact ⟨rfl, rfl⟩

theorem up_raw (b : Nat) (a e s : Int) (w : World) (h : w.heap[b]? = some (dkO a e s)) : Calls Tryd.prog 25 #[.pointer (some ⟨b, 0, none⟩)] w fun r w' => r = .returned (.bool (wtV a e s != 0)) ∧ w' = w.drewN 1 := by
  have H := _root_.Go.Lib.hid h
  clear h
  go_enter Tryd.func25, Tryd.ntmps25
  go_wp2_with (go_at_call 32; refine (waits_raw b a e s _ H.out).mono ?_; rintro r w1 ⟨rfl, rfl⟩)
  go_ret
  exact ⟨rfl, rfl⟩
theorem up_nil (w : World) : Calls Tryd.prog 25 #[.pointer none] w fun r w' => r = .returned (.bool false) ∧ w = w' := by
  go_enter Tryd.func25, Tryd.ntmps25
  go_wp2
  go_ret
  exact ⟨rfl, rfl⟩

theorem serve_none (b : Nat) (a e s : Int) (w : World) (h : w.heap[b]? = some (dkO a e s)) (hw : wtV a e s = 0) : Calls Tryd.prog 30 #[.pointer (some ⟨b, 0, none⟩)] w fun r w' => r = .returned (.int .u32 0) ∧ w' = w.drewN 1 := by
  have H := _root_.Go.Lib.hid h
  have HW := _root_.Go.Lib.hid hw
  clear h hw
  go_enter Tryd.func30, Tryd.ntmps30
  go_wp2_with (go_at_call 32; refine (waits_raw b a e s _ H.out).mono ?_; rw [HW.out]; rintro r w1 ⟨rfl, rfl⟩)
  go_ret
  exact ⟨rfl, rfl⟩

theorem serve_some (b : Nat) (a e s : Int) (x k : Nat) (w : World) (h : w.heap[b]? = some (dkO a e s)) (hw : wtV a e s = (x : Int)) (hx : x < 4294967296) (hx0 : x ≠ 0) (hk : Lib.ctz 32 x = k) (hk32 : k < 32) (hT : Tab w) :
    Calls Tryd.prog 30 #[.pointer (some ⟨b, 0, none⟩)] w fun r w' => r = .returned (.int .u32 (k : Int)) ∧ w' = ((w.drewN 1).setCell ⟨b, 2, none⟩ (.int .u32 (bits .or .u32 s ((2 : Int) ^ k % 4294967296)))).drew := by
  have H := _root_.Go.Lib.hid h
  have HW := _root_.Go.Lib.hid hw
  have HX := _root_.Go.Lib.hid hx
  have HX0 := _root_.Go.Lib.hid hx0
  have HK := _root_.Go.Lib.hid hk
  have HT := _root_.Go.Lib.hid (show Tab (w.drewN 1) from hT)
  have c2 : (w.drewN 1).cell? ⟨b, 2, none⟩ = some (.int .u32 s) := cell_at (w := w) h 2
  have f2 : (w.drewN 1).frozen? ⟨b, 2, none⟩ = false := free_at (w := w) h 2
  have x0 : ((x : Int) == 0) = false := beq_false_of_ne (by omega)
  clear h hw hx hx0 hk hT
  generalize hd : w.drewN 1 = wd at *
  have HD := _root_.Go.Lib.hid hd
  clear hd
  go_enter Tryd.func30, Tryd.ntmps30
  go_wp2_with (first | (go_at_call 32; refine (waits_raw b a e s _ H.out).mono ?_; rw [HW.out, HD.out]; rintro r w1 ⟨rfl, rfl⟩) | (go_at_call 34; refine (tz_calls x HX.out HX0.out _ HT.out).mono ?_; rw [HK.out]; rintro r w1 ⟨rfl, rfl⟩))
  go_region
  all_goals
    go_wp2
    go_ret
    exact ⟨rfl, rfl⟩

/-! ### Get -/
theorem dget_nil (off : Int) (w : World) : Calls Tryd.prog 20 #[.pointer none, .int .u32 off] w fun r w' => r = .returned (.tuple #[.int .u32 0, .bool false]) ∧ w = w' := by
  go_enter Tryd.func20, Tryd.ntmps20
  go_wp2
  go_ret2
  exact ⟨rfl, rfl⟩
theorem dget_0 (b : Nat) (a e s : Int) (w : World) (h : w.heap[b]? = some (dkO a e s)) : Calls Tryd.prog 20 #[.pointer (some ⟨b, 0, none⟩), .int .u32 0] w fun r w' => r = .returned (.tuple #[.int .u32 a, .bool true]) ∧ w = w' := by
  have c0 : w.cell? ⟨b, 0, none⟩ = some (.int .u32 a) := cell_at h 0
  have H := _root_.Go.Lib.hid h
  clear h
  go_enter Tryd.func20, Tryd.ntmps20
  go_wp2
  go_ret2
  exact ⟨rfl, rfl⟩
theorem dget_4 (b : Nat) (a e s : Int) (w : World) (h : w.heap[b]? = some (dkO a e s)) : Calls Tryd.prog 20 #[.pointer (some ⟨b, 0, none⟩), .int .u32 4] w fun r w' => r = .returned (.tuple #[.int .u32 e, .bool true]) ∧ w = w' := by
  have c1 : w.cell? ⟨b, 1, none⟩ = some (.int .u32 e) := cell_at h 1
  have H := _root_.Go.Lib.hid h
  clear h
  go_enter Tryd.func20, Tryd.ntmps20
  go_wp2
  go_ret2
  exact ⟨rfl, rfl⟩
theorem dget_8_none (b : Nat) (a e s : Int) (w : World) (h : w.heap[b]? = some (dkO a e s)) (hw : wtV a e s = 0) : Calls Tryd.prog 20 #[.pointer (some ⟨b, 0, none⟩), .int .u32 8] w fun r w' => r = .returned (.tuple #[.int .u32 0, .bool true]) ∧ w' = w.drewN 1 := by
  have H := _root_.Go.Lib.hid h
  have HW := _root_.Go.Lib.hid hw
  clear h hw
  go_enter Tryd.func20, Tryd.ntmps20
  go_wp2_with (go_at_call 30; refine (serve_none b a e s _ H.out HW.out).mono ?_; rintro r w1 ⟨rfl, rfl⟩)
  go_ret2
  exact ⟨rfl, rfl⟩
theorem dget_8_some (b : Nat) (a e s : Int) (x k : Nat) (w : World) (h : w.heap[b]? = some (dkO a e s)) (hw : wtV a e s = (x : Int)) (hx : x < 4294967296) (hx0 : x ≠ 0) (hk : Lib.ctz 32 x = k) (hk32 : k < 32) (hT : Tab w) :
    Calls Tryd.prog 20 #[.pointer (some ⟨b, 0, none⟩), .int .u32 8] w fun r w' => r = .returned (.tuple #[.int .u32 (k : Int), .bool true]) ∧ w' = ((w.drewN 1).setCell ⟨b, 2, none⟩ (.int .u32 (bits .or .u32 s ((2 : Int) ^ k % 4294967296)))).drew := by
  have H := _root_.Go.Lib.hid h
  have HW := _root_.Go.Lib.hid hw
  have HX := _root_.Go.Lib.hid hx
  have HX0 := _root_.Go.Lib.hid hx0
  have HK := _root_.Go.Lib.hid hk
  have HT := _root_.Go.Lib.hid hT
  clear h hw hx hx0 hk hT
  go_enter Tryd.func20, Tryd.ntmps20
  go_wp2_with (go_at_call 30; refine (serve_some b a e s x k _ H.out HW.out HX.out HX0.out HK.out hk32 HT.out).mono ?_; rintro r w1 ⟨rfl, rfl⟩)
  go_ret2
  exact ⟨rfl, rfl⟩
theorem dget_other (b : Nat) (off : Int) (w : World) (h0 : off ≠ 0) (h4 : off ≠ 4) (h8 : off ≠ 8) : Calls Tryd.prog 20 #[.pointer (some ⟨b, 0, none⟩), .int .u32 off] w fun r w' => r = .returned (.tuple #[.int .u32 0, .bool false]) ∧ w = w' := by
  have k0 : (off == 0) = false := beq_false_of_ne h0
  have k4 : (off == 4) = false := beq_false_of_ne h4
  have k8 : (off == 8) = false := beq_false_of_ne h8
  clear h0 h4 h8
  go_enter Tryd.func20, Tryd.ntmps20
  go_wp2
  go_ret2
  exact ⟨rfl, rfl⟩

/-! ### Set -/
theorem dset_nil (off v : Int) (w : World) : Calls Tryd.prog 23 #[.pointer none, .int .u32 off, .int .u32 v] w fun r w' => r = .returned (.bool false) ∧ w = w' := by
  go_enter Tryd.func23, Tryd.ntmps23
  go_wp2
  go_ret
  exact ⟨rfl, rfl⟩
theorem dset_0 (b : Nat) (v : Int) (w : World) : Calls Tryd.prog 23 #[.pointer (some ⟨b, 0, none⟩), .int .u32 0, .int .u32 v] w fun r w' => r = .returned (.bool true) ∧ w = w' := by
  go_enter Tryd.func23, Tryd.ntmps23
  go_wp2
  go_ret
  exact ⟨rfl, rfl⟩
theorem dset_4 (b : Nat) (a e s v : Int) (w : World) (h : w.heap[b]? = some (dkO a e s)) : Calls Tryd.prog 23 #[.pointer (some ⟨b, 0, none⟩), .int .u32 4, .int .u32 v] w fun r w' => r = .returned (.bool true) ∧ w' = w.setCell ⟨b, 1, none⟩ (.int .u32 (bits .andNot .u32 v 1)) := by
  have c1 : w.cell? ⟨b, 1, none⟩ = some (.int .u32 e) := cell_at h 1
  have f1 := free_at h 1
  have H := _root_.Go.Lib.hid h
  clear h
  go_enter Tryd.func23, Tryd.ntmps23
  go_wp2
  go_ret
  exact ⟨rfl, rfl⟩
theorem dset_8_big (b : Nat) (v : Int) (w : World) (hv : 32 ≤ v) : Calls Tryd.prog 23 #[.pointer (some ⟨b, 0, none⟩), .int .u32 8, .int .u32 v] w fun r w' => r = .returned (.bool true) ∧ w = w' := by
  go_enter Tryd.func23, Tryd.ntmps23
  go_wp2
  go_ret
  exact ⟨rfl, rfl⟩
theorem dset_8 (b k : Nat) (a e s : Int) (w : World) (h : w.heap[b]? = some (dkO a e s)) (hv : k < 32) : Calls Tryd.prog 23 #[.pointer (some ⟨b, 0, none⟩), .int .u32 8, .int .u32 (k : Int)] w fun r w' => r = .returned (.bool true) ∧ w' = w.setCell ⟨b, 2, none⟩ (.int .u32 (bits .andNot .u32 s ((2 : Int) ^ k % 4294967296))) := by
  have c2 : w.cell? ⟨b, 2, none⟩ = some (.int .u32 s) := cell_at h 2
  have f2 := free_at h 2
  have H := _root_.Go.Lib.hid h
  clear h
  have hk : ((k : Int) < 32) = True := eq_true (by omega)
  go_enter Tryd.func23, Tryd.ntmps23
  go_wp2
  go_ret
  exact ⟨rfl, rfl⟩
theorem dset_other (b : Nat) (off v : Int) (w : World) (h0 : off ≠ 0) (h4 : off ≠ 4) (h8 : off ≠ 8) : Calls Tryd.prog 23 #[.pointer (some ⟨b, 0, none⟩), .int .u32 off, .int .u32 v] w fun r w' => r = .returned (.bool false) ∧ w = w' := by
  have k0 : (off == 0) = false := beq_false_of_ne h0
  have k4 : (off == 4) = false := beq_false_of_ne h4
  have k8 : (off == 8) = false := beq_false_of_ne h8
  clear h0 h4 h8
  go_enter Tryd.func23, Tryd.ntmps23
  go_wp2
  go_ret
  exact ⟨rfl, rfl⟩
end Go.Proofs.YtogepklmmehbjaaDoor
