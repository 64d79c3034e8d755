/-
  The clock's methods: what they tell and leave.
-/
import Derived.Test.YtogepklmmehbjaaDoorKw
set_option linter.unusedVariables false
set_option linter.unusedSimpArgs false
namespace Go.Proofs.YtogepklmmehbjaaDoor
open Go.RowKit Go.Lib

/-- A clock's row. -/
abbrev ckR (t l : Int) (s : Bool) : Array Value := #[.int .u64 t, .int .u64 l, .bool s]
abbrev ckO (t l : Int) (s : Bool) : Obj := .cells (ckR t l s) 60

theorem num_16384 (b : Nat) (w : World) : Calls Tryd.prog 27 #[.pointer (some ⟨b, 0, none⟩), .int .u32 16384] w fun e w' => e = .returned (.tuple #[.pointer (some ⟨b, 1, none⟩), .int .i64 0]) ∧ w = w' := by
  have e1 : bits .andNot .u32 16384 4 = 16384 := by kernel_rfl
  have e2 : bits .and .u32 16384 4 = 0 := by kernel_rfl
  go_enter Tryd.func27, Tryd.ntmps27
  go_wp2
  go_ret2
  exact ⟨rfl, rfl⟩
theorem num_16388 (b : Nat) (w : World) : Calls Tryd.prog 27 #[.pointer (some ⟨b, 0, none⟩), .int .u32 16388] w fun e w' => e = .returned (.tuple #[.pointer (some ⟨b, 1, none⟩), .int .i64 32]) ∧ w = w' := by
  have e1 : bits .andNot .u32 16388 4 = 16384 := by kernel_rfl
  have e2 : bits .and .u32 16388 4 = 4 := by kernel_rfl
  go_enter Tryd.func27, Tryd.ntmps27
  go_wp2
  go_ret2
  exact ⟨rfl, rfl⟩
theorem num_49144 (b : Nat) (w : World) : Calls Tryd.prog 27 #[.pointer (some ⟨b, 0, none⟩), .int .u32 49144] w fun e w' => e = .returned (.tuple #[.pointer (some ⟨b, 0, none⟩), .int .i64 0]) ∧ w = w' := by
  have e1 : bits .andNot .u32 49144 4 = 49144 := by kernel_rfl
  have e2 : bits .and .u32 49144 4 = 0 := by kernel_rfl
  go_enter Tryd.func27, Tryd.ntmps27
  go_wp2
  go_ret2
  exact ⟨rfl, rfl⟩
theorem num_49148 (b : Nat) (w : World) : Calls Tryd.prog 27 #[.pointer (some ⟨b, 0, none⟩), .int .u32 49148] w fun e w' => e = .returned (.tuple #[.pointer (some ⟨b, 0, none⟩), .int .i64 32]) ∧ w = w' := by
  have e1 : bits .andNot .u32 49148 4 = 49144 := by kernel_rfl
  have e2 : bits .and .u32 49148 4 = 4 := by kernel_rfl
  go_enter Tryd.func27, Tryd.ntmps27
  go_wp2
  go_ret2
  exact ⟨rfl, rfl⟩
theorem num_other (b : Nat) (off : Int) (w : World) (h1 : bits .andNot .u32 off 4 ≠ 16384) (h2 : bits .andNot .u32 off 4 ≠ 49144) : Calls Tryd.prog 27 #[.pointer (some ⟨b, 0, none⟩), .int .u32 off] w fun e w' => (∃ n, e = .returned (.tuple #[.pointer none, .int .i64 n])) ∧ w = w' := by
  have k1 : (bits .andNot .u32 off 4 == 16384) = false := beq_false_of_ne h1
  have k2 : (bits .andNot .u32 off 4 == 49144) = false := beq_false_of_ne h2
  clear h1 h2
  go_enter Tryd.func27, Tryd.ntmps27
  go_wp2
  go_ret2
  exact ⟨⟨_, rfl⟩, rfl⟩

theorem newClock_raw (w : World) : Calls Tryd.prog 10 #[] w fun e w' => e = .returned (.pointer (some ⟨w.heap.size, 0, none⟩)) ∧ w' = w.alloc (ckO 0 18446744073709551615 false) := by
  go_enter Tryd.func10, Tryd.ntmps10
  go_wp2
  go_ret
  exact ⟨rfl, rfl⟩

theorem tick_raw (b : Nat) (t l n : Int) (s : Bool) (w : World) (h : w.heap[b]? = some (ckO t l s)) : Calls Tryd.prog 16 #[.pointer (some ⟨b, 0, none⟩), .int .u64 n] w fun e w' => e = .returned (.tuple #[]) ∧ w' = w.setCell ⟨b, 0, none⟩ (.int .u64 (IntKind.u64.wrap (t + n))) := by
  have c0 : w.cell? ⟨b, 0, none⟩ = some (.int .u64 t) := cell_at h 0
  have f0 := free_at h 0
  have H := _root_.Go.Lib.hid h
  clear h
  go_enter Tryd.func16, Tryd.ntmps16
  go_wp2
  go_end0
  exact ⟨rfl, rfl⟩
theorem tick_nil (n : Int) (w : World) : Calls Tryd.prog 16 #[.pointer none, .int .u64 n] w fun e w' => e = .returned (.tuple #[]) ∧ w = w' := by
  go_enter Tryd.func16, Tryd.ntmps16
  go_wp2
  go_end0
  exact ⟨rfl, rfl⟩

/-- What it asks. -/
def lnV (t l : Int) (s : Bool) : Int := (if s then 8 else 0) + (if l ≤ t then 128 else 0)

theorem lines_true_yes (b : Nat) (t l : Int) (w : World) (h : w.heap[b]? = some (ckO t l true)) (hr : l ≤ t) : Calls Tryd.prog 17 #[.pointer (some ⟨b, 0, none⟩)] w fun e w' => e = .returned (.int .u32 136) ∧ w' = w.drew := by
  have c0 : w.cell? ⟨b, 0, none⟩ = some (.int .u64 t) := cell_at h 0
  have c1 : w.cell? ⟨b, 1, none⟩ = some (.int .u64 l) := cell_at h 1
  have c2 : w.cell? ⟨b, 2, none⟩ = some (.bool true) := cell_at h 2
  have e8 : bits .or .u32 0 8 = 8 := by kernel_rfl
  have e128 : bits .or .u32 0 128 = 128 := by kernel_rfl
  have e136 : bits .or .u32 8 128 = 136 := by kernel_rfl
  have H := _root_.Go.Lib.hid h
  clear h
  go_enter Tryd.func17, Tryd.ntmps17
  go_wp2
  go_region
  all_goals
    go_wp2
    go_ret
    exact ⟨rfl, rfl⟩
theorem lines_true_no (b : Nat) (t l : Int) (w : World) (h : w.heap[b]? = some (ckO t l true)) (hr : t < l) : Calls Tryd.prog 17 #[.pointer (some ⟨b, 0, none⟩)] w fun e w' => e = .returned (.int .u32 8) ∧ w' = w.drew := by
  have c0 : w.cell? ⟨b, 0, none⟩ = some (.int .u64 t) := cell_at h 0
  have c1 : w.cell? ⟨b, 1, none⟩ = some (.int .u64 l) := cell_at h 1
  have c2 : w.cell? ⟨b, 2, none⟩ = some (.bool true) := cell_at h 2
  have e8 : bits .or .u32 0 8 = 8 := by kernel_rfl
  have e128 : bits .or .u32 0 128 = 128 := by kernel_rfl
  have e136 : bits .or .u32 8 128 = 136 := by kernel_rfl
  have H := _root_.Go.Lib.hid h
  clear h
  go_enter Tryd.func17, Tryd.ntmps17
  go_wp2
  go_region
  all_goals
    go_wp2
    go_ret
    exact ⟨rfl, rfl⟩
theorem lines_false_yes (b : Nat) (t l : Int) (w : World) (h : w.heap[b]? = some (ckO t l false)) (hr : l ≤ t) : Calls Tryd.prog 17 #[.pointer (some ⟨b, 0, none⟩)] w fun e w' => e = .returned (.int .u32 128) ∧ w' = w.drew := by
  have c0 : w.cell? ⟨b, 0, none⟩ = some (.int .u64 t) := cell_at h 0
  have c1 : w.cell? ⟨b, 1, none⟩ = some (.int .u64 l) := cell_at h 1
  have c2 : w.cell? ⟨b, 2, none⟩ = some (.bool false) := cell_at h 2
  have e8 : bits .or .u32 0 8 = 8 := by kernel_rfl
  have e128 : bits .or .u32 0 128 = 128 := by kernel_rfl
  have e136 : bits .or .u32 8 128 = 136 := by kernel_rfl
  have H := _root_.Go.Lib.hid h
  clear h
  go_enter Tryd.func17, Tryd.ntmps17
  go_wp2
  go_region
  all_goals
    go_wp2
    go_ret
    exact ⟨rfl, rfl⟩
theorem lines_false_no (b : Nat) (t l : Int) (w : World) (h : w.heap[b]? = some (ckO t l false)) (hr : t < l) : Calls Tryd.prog 17 #[.pointer (some ⟨b, 0, none⟩)] w fun e w' => e = .returned (.int .u32 0) ∧ w' = w.drew := by
  have c0 : w.cell? ⟨b, 0, none⟩ = some (.int .u64 t) := cell_at h 0
  have c1 : w.cell? ⟨b, 1, none⟩ = some (.int .u64 l) := cell_at h 1
  have c2 : w.cell? ⟨b, 2, none⟩ = some (.bool false) := cell_at h 2
  have e8 : bits .or .u32 0 8 = 8 := by kernel_rfl
  have e128 : bits .or .u32 0 128 = 128 := by kernel_rfl
  have e136 : bits .or .u32 8 128 = 136 := by kernel_rfl
  have H := _root_.Go.Lib.hid h
  clear h
  go_enter Tryd.func17, Tryd.ntmps17
  go_wp2
  go_region
  all_goals
    go_wp2
    go_ret
    exact ⟨rfl, rfl⟩
theorem lines_raw (b : Nat) (t l : Int) (s : Bool) (w : World) (h : w.heap[b]? = some (ckO t l s)) : Calls Tryd.prog 17 #[.pointer (some ⟨b, 0, none⟩)] w fun e w' => e = .returned (.int .u32 (lnV t l s)) ∧ w' = w.drew := by
  unfold lnV
  by_cases hr : l ≤ t
  · cases s with
    | true => exact (lines_true_yes b t l w h hr).mono fun e w' ⟨h1, h2⟩ => ⟨by rw [h1]; simp [hr], h2⟩
    | false => exact (lines_false_yes b t l w h hr).mono fun e w' ⟨h1, h2⟩ => ⟨by rw [h1]; simp [hr], h2⟩
  · cases s with
    | true => exact (lines_true_no b t l w h (by omega)).mono fun e w' ⟨h1, h2⟩ => ⟨by rw [h1]; simp [hr], h2⟩
    | false => exact (lines_false_no b t l w h (by omega)).mono fun e w' ⟨h1, h2⟩ => ⟨by rw [h1]; simp [hr], h2⟩
theorem lines_nil (w : World) : Calls Tryd.prog 17 #[.pointer none] w fun e w' => e = .returned (.int .u32 0) ∧ w = w' := by
  go_enter Tryd.func17, Tryd.ntmps17
  go_wp2
  go_ret
  exact ⟨rfl, rfl⟩

/-! ### Get -/
theorem get_nil (off : Int) (w : World) : Calls Tryd.prog 12 #[.pointer none, .int .u32 off] w fun e w' => e = .returned (.tuple #[.int .u32 0, .bool false]) ∧ w = w' := by
  go_enter Tryd.func12, Tryd.ntmps12
  go_wp2
  go_ret2
  exact ⟨rfl, rfl⟩
theorem get_0 (b : Nat) (t l : Int) (s : Bool) (w : World) (h : w.heap[b]? = some (ckO t l s)) : Calls Tryd.prog 12 #[.pointer (some ⟨b, 0, none⟩), .int .u32 0] w fun e w' => e = .returned (.tuple #[.int .u32 (if s then 1 else 0), .bool true]) ∧ w = w' := by
  have c2 : w.cell? ⟨b, 2, none⟩ = some (.bool s) := cell_at h 2
  have H := _root_.Go.Lib.hid h
  clear h
  cases s with
  | true =>
    go_enter Tryd.func12, Tryd.ntmps12
    go_wp2
    go_ret2
    exact ⟨rfl, rfl⟩
  | false =>
    go_enter Tryd.func12, Tryd.ntmps12
    go_wp2
    go_ret2
    exact ⟨rfl, rfl⟩
theorem get_16384 (b : Nat) (t l : Int) (s : Bool) (w : World) (h : w.heap[b]? = some (ckO t l s)) (hv : 0 ≤ l ∧ l < 18446744073709551616) : Calls Tryd.prog 12 #[.pointer (some ⟨b, 0, none⟩), .int .u32 16384] w fun e w' => e = .returned (.tuple #[.int .u32 (l % 4294967296), .bool true]) ∧ w = w' := by
  have c : w.cell? ⟨b, 1, none⟩ = some (.int .u64 l) := cell_at h 1
  obtain ⟨h1, h2⟩ := hv
  have H := _root_.Go.Lib.hid h
  clear h
  go_enter Tryd.func12, Tryd.ntmps12
  go_wp2_with (go_at_call 27; refine (num_16384 b _).mono ?_; rintro e w1 ⟨rfl, rfl⟩)
  refine bodyPost_ret (v := .tuple #[.int .u32 (l % 4294967296), .bool true]) ?_ rfl ⟨rfl, rfl⟩
  simp [results, Tryd.results12, go_sem]
  try omega
theorem get_16388 (b : Nat) (t l : Int) (s : Bool) (w : World) (h : w.heap[b]? = some (ckO t l s)) (hv : 0 ≤ l ∧ l < 18446744073709551616) : Calls Tryd.prog 12 #[.pointer (some ⟨b, 0, none⟩), .int .u32 16388] w fun e w' => e = .returned (.tuple #[.int .u32 (l / 4294967296), .bool true]) ∧ w = w' := by
  have c : w.cell? ⟨b, 1, none⟩ = some (.int .u64 l) := cell_at h 1
  obtain ⟨h1, h2⟩ := hv
  have H := _root_.Go.Lib.hid h
  clear h
  go_enter Tryd.func12, Tryd.ntmps12
  go_wp2_with (go_at_call 27; refine (num_16388 b _).mono ?_; rintro e w1 ⟨rfl, rfl⟩)
  refine bodyPost_ret (v := .tuple #[.int .u32 (l / 4294967296), .bool true]) ?_ rfl ⟨rfl, rfl⟩
  simp [results, Tryd.results12, go_sem]
  try omega
theorem get_49144 (b : Nat) (t l : Int) (s : Bool) (w : World) (h : w.heap[b]? = some (ckO t l s)) (hv : 0 ≤ t ∧ t < 18446744073709551616) : Calls Tryd.prog 12 #[.pointer (some ⟨b, 0, none⟩), .int .u32 49144] w fun e w' => e = .returned (.tuple #[.int .u32 (t % 4294967296), .bool true]) ∧ w = w' := by
  have c : w.cell? ⟨b, 0, none⟩ = some (.int .u64 t) := cell_at h 0
  obtain ⟨h1, h2⟩ := hv
  have H := _root_.Go.Lib.hid h
  clear h
  go_enter Tryd.func12, Tryd.ntmps12
  go_wp2_with (go_at_call 27; refine (num_49144 b _).mono ?_; rintro e w1 ⟨rfl, rfl⟩)
  refine bodyPost_ret (v := .tuple #[.int .u32 (t % 4294967296), .bool true]) ?_ rfl ⟨rfl, rfl⟩
  simp [results, Tryd.results12, go_sem]
  try omega
theorem get_49148 (b : Nat) (t l : Int) (s : Bool) (w : World) (h : w.heap[b]? = some (ckO t l s)) (hv : 0 ≤ t ∧ t < 18446744073709551616) : Calls Tryd.prog 12 #[.pointer (some ⟨b, 0, none⟩), .int .u32 49148] w fun e w' => e = .returned (.tuple #[.int .u32 (t / 4294967296), .bool true]) ∧ w = w' := by
  have c : w.cell? ⟨b, 0, none⟩ = some (.int .u64 t) := cell_at h 0
  obtain ⟨h1, h2⟩ := hv
  have H := _root_.Go.Lib.hid h
  clear h
  go_enter Tryd.func12, Tryd.ntmps12
  go_wp2_with (go_at_call 27; refine (num_49148 b _).mono ?_; rintro e w1 ⟨rfl, rfl⟩)
  refine bodyPost_ret (v := .tuple #[.int .u32 (t / 4294967296), .bool true]) ?_ rfl ⟨rfl, rfl⟩
  simp [results, Tryd.results12, go_sem]
  try omega
theorem get_other (b : Nat) (t l off : Int) (s : Bool) (w : World) (h0 : off ≠ 0) (h1 : bits .andNot .u32 off 4 ≠ 16384) (h2 : bits .andNot .u32 off 4 ≠ 49144) : Calls Tryd.prog 12 #[.pointer (some ⟨b, 0, none⟩), .int .u32 off] w fun e w' => e = .returned (.tuple #[.int .u32 0, .bool false]) ∧ w = w' := by
  have k0 : (off == 0) = false := beq_false_of_ne h0
  have H1 := _root_.Go.Lib.hid h1
  have H2 := _root_.Go.Lib.hid h2
  clear h0 h1 h2
  go_enter Tryd.func12, Tryd.ntmps12
  go_wp2_with (go_at_call 27; refine (num_other b off _ H1.out H2.out).mono ?_; rintro e w1 ⟨⟨n, rfl⟩, rfl⟩)
  go_ret2
  exact ⟨rfl, rfl⟩

/-! ### Set -/
theorem set_nil (off v : Int) (w : World) : Calls Tryd.prog 15 #[.pointer none, .int .u32 off, .int .u32 v] w fun e w' => e = .returned (.bool false) ∧ w = w' := by
  go_enter Tryd.func15, Tryd.ntmps15
  go_wp2
  go_ret
  exact ⟨rfl, rfl⟩
theorem set_0 (b : Nat) (t l v : Int) (s : Bool) (w : World) (h : w.heap[b]? = some (ckO t l s)) : Calls Tryd.prog 15 #[.pointer (some ⟨b, 0, none⟩), .int .u32 0, .int .u32 v] w fun e w' => e = .returned (.bool true) ∧ w' = w.setCell ⟨b, 2, none⟩ (.bool (bits .and .u32 v 1 == 1)) := by
  have c2 : w.cell? ⟨b, 2, none⟩ = some (.bool s) := cell_at h 2
  have f2 := free_at h 2
  have H := _root_.Go.Lib.hid h
  clear h
  go_enter Tryd.func15, Tryd.ntmps15
  go_wp2
  go_ret
  exact ⟨rfl, rfl⟩
theorem set_16384 (b : Nat) (t l v : Int) (s : Bool) (w : World) (h : w.heap[b]? = some (ckO t l s)) (hv : 0 ≤ v ∧ v < 4294967296) : Calls Tryd.prog 15 #[.pointer (some ⟨b, 0, none⟩), .int .u32 16384, .int .u32 v] w fun e w' => e = .returned (.bool true) ∧ w' = (w.setCell ⟨b, 1, none⟩ (.int .u64 (bits .or .u64 (bits .andNot .u64 l 4294967295) v))).drew := by
  have c : w.cell? ⟨b, 1, none⟩ = some (.int .u64 l) := cell_at h 1
  have f := free_at h 1
  obtain ⟨h1, h2⟩ := hv
  have H := _root_.Go.Lib.hid h
  clear h
  go_enter Tryd.func15, Tryd.ntmps15
  go_wp2_with (go_at_call 27; refine (num_16384 b _).mono ?_; rintro e w1 ⟨rfl, rfl⟩)
  go_region
  all_goals
    go_wp2
    go_ret
    exact ⟨rfl, rfl⟩
theorem set_16388 (b : Nat) (t l v : Int) (s : Bool) (w : World) (h : w.heap[b]? = some (ckO t l s)) (hv : 0 ≤ v ∧ v < 4294967296) : Calls Tryd.prog 15 #[.pointer (some ⟨b, 0, none⟩), .int .u32 16388, .int .u32 v] w fun e w' => e = .returned (.bool true) ∧ w' = (w.setCell ⟨b, 1, none⟩ (.int .u64 (bits .or .u64 (bits .andNot .u64 l 18446744069414584320) (v * 4294967296)))).drew := by
  have c : w.cell? ⟨b, 1, none⟩ = some (.int .u64 l) := cell_at h 1
  have f := free_at h 1
  obtain ⟨h1, h2⟩ := hv
  have H := _root_.Go.Lib.hid h
  clear h
  go_enter Tryd.func15, Tryd.ntmps15
  go_wp2_with (go_at_call 27; refine (num_16388 b _).mono ?_; rintro e w1 ⟨rfl, rfl⟩)
  go_region
  all_goals
    go_wp2
    go_ret
    exact ⟨rfl, rfl⟩
theorem set_49144 (b : Nat) (t l v : Int) (s : Bool) (w : World) (h : w.heap[b]? = some (ckO t l s)) (hv : 0 ≤ v ∧ v < 4294967296) : Calls Tryd.prog 15 #[.pointer (some ⟨b, 0, none⟩), .int .u32 49144, .int .u32 v] w fun e w' => e = .returned (.bool true) ∧ w' = (w.setCell ⟨b, 0, none⟩ (.int .u64 (bits .or .u64 (bits .andNot .u64 t 4294967295) v))).drew := by
  have c : w.cell? ⟨b, 0, none⟩ = some (.int .u64 t) := cell_at h 0
  have f := free_at h 0
  obtain ⟨h1, h2⟩ := hv
  have H := _root_.Go.Lib.hid h
  clear h
  go_enter Tryd.func15, Tryd.ntmps15
  go_wp2_with (go_at_call 27; refine (num_49144 b _).mono ?_; rintro e w1 ⟨rfl, rfl⟩)
  go_region
  all_goals
    go_wp2
    go_ret
    exact ⟨rfl, rfl⟩
theorem set_49148 (b : Nat) (t l v : Int) (s : Bool) (w : World) (h : w.heap[b]? = some (ckO t l s)) (hv : 0 ≤ v ∧ v < 4294967296) : Calls Tryd.prog 15 #[.pointer (some ⟨b, 0, none⟩), .int .u32 49148, .int .u32 v] w fun e w' => e = .returned (.bool true) ∧ w' = (w.setCell ⟨b, 0, none⟩ (.int .u64 (bits .or .u64 (bits .andNot .u64 t 18446744069414584320) (v * 4294967296)))).drew := by
  have c : w.cell? ⟨b, 0, none⟩ = some (.int .u64 t) := cell_at h 0
  have f := free_at h 0
  obtain ⟨h1, h2⟩ := hv
  have H := _root_.Go.Lib.hid h
  clear h
  go_enter Tryd.func15, Tryd.ntmps15
  go_wp2_with (go_at_call 27; refine (num_49148 b _).mono ?_; rintro e w1 ⟨rfl, rfl⟩)
  go_region
  all_goals
    go_wp2
    go_ret
    exact ⟨rfl, rfl⟩
theorem set_other (b : Nat) (t l off v : Int) (s : Bool) (w : World) (h0 : off ≠ 0) (h1 : bits .andNot .u32 off 4 ≠ 16384) (h2 : bits .andNot .u32 off 4 ≠ 49144) : Calls Tryd.prog 15 #[.pointer (some ⟨b, 0, none⟩), .int .u32 off, .int .u32 v] w fun e w' => e = .returned (.bool false) ∧ w = w' := by
  have k0 : (off == 0) = false := beq_false_of_ne h0
  have H1 := _root_.Go.Lib.hid h1
  have H2 := _root_.Go.Lib.hid h2
  clear h0 h1 h2
  go_enter Tryd.func15, Tryd.ntmps15
  go_wp2_with (go_at_call 27; refine (num_other b off _ H1.out H2.out).mono ?_; rintro e w1 ⟨⟨n, rfl⟩, rfl⟩)
  go_ret
  exact ⟨rfl, rfl⟩
end Go.Proofs.YtogepklmmehbjaaDoor
