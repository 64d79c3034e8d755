/-
  csr.Write: what all registers are behind a write.
-/
import Derived.Test.YtpmgdidigfincaaRead
import Derived.Test.YtpmgdidigfincaaGrow
import Derived.BigRegion
import Derived.Test.YtpmgdidigfincaaQt
namespace Go.Proofs.Ytpmgdidigfincaa
open Go.RowKit Go.Val Go.MapKept

def upd (f : Nat → Int) (i : Nat) (x : Int) : Nat → Int := fun j => if j = i then x else f j

/-- May a register's number be written at all? -/
def top (n : Int) : Int := bits .and .i64 (n / 1024) 3

theorem size29 : (Try.prog.info? 29).map (·.size) = some 17 := by kernel_rfl

theorem heapA (w : World) (A B C : Obj) (ext : Array Obj) (d : Nat) : ((((w.alloc A).alloc B).grow ext d).alloc C).heap[w.heap.size]? = some A := by
  rw [World.heap_alloc_past _ _ _ (by simp; omega), World.heap_grow_old _ _ _ _ (by simp; omega), World.heap_alloc_past _ _ _ (by simp), World.heap_alloc_at _ _ _ rfl]
theorem heapB (w : World) (A B C : Obj) (ext : Array Obj) (d : Nat) : ((((w.alloc A).alloc B).grow ext d).alloc C).heap[w.heap.size + 1]? = some B := by
  rw [World.heap_alloc_past _ _ _ (by simp; omega), World.heap_grow_old _ _ _ _ (by simp), World.heap_alloc_at _ _ _ (by simp)]

theorem heapAd (w : World) (A B C : Obj) (ext : Array Obj) (d : Nat) : ((((w.alloc A).alloc B).grow ext d).alloc C).drew.heap[w.heap.size]? = some A := heapA w A B C ext d
theorem heapBd (w : World) (A B C : Obj) (ext : Array Obj) (d : Nat) : ((((w.alloc A).alloc B).grow ext d).alloc C).drew.heap[w.heap.size + 1]? = some B := heapB w A B C ext d

theorem write_none (f : Nat → Int) (n p v : Int) (w : World) (hl : loc (f 2) n = none) :
    Calls Try.prog 11 #[fileV f, .int .i64 n, .int .i64 p, .int .u32 v] w fun e w' => e = .returned (.tuple #[fileV f, .bool false]) ∧ Below w.heap.size w w' := by
  have HL := _root_.Go.Lib.hid hl
  clear hl
  go_enter Try.func11, Try.ntmps11
  go_wp2_with (first | (go_at_call 15; refine (find_any _ _ (f 2) _ (by simp; omega) (by simp)).mono ?_; rw [HL.out]; rintro e w1 ⟨hb1, rfl⟩; obtain ⟨ext, d, rfl⟩ := below_grow hb1; clear hb1) | ((with_reducible apply wpList_load_at 29 Try.underlying29); rfl; exact heapA _ _ _ _ _ _; rfl; exact size29) | ((with_reducible apply wpList_store_at 29); rfl; rfl; exact heapB _ _ _ _ _ _; exact size29; rfl; rfl; (simp only [World.setRow_alloc_past, World.setRow_alloc_at, World.setRow_grow, World.size_alloc, World.size_grow, lt_add_ext, Nat.lt_add_one]; rfl)))
  refine bodyPost_ret (v := .tuple #[fileV f, .bool false]) (results_row_tmp (ty := 29) Try.results11 _ _ _ _ _ _ _ rfl (heapB _ _ _ _ _ _) Try.underlying29 rfl size29) rfl ⟨?_, ?_⟩
  · rfl
  · repeat (first | exact Below.refl _ _ | (refine Below.setCell ?_ (by simp) _) | (refine below_drewN ?_ _) | (refine Below.drew ?_) | (refine Below.alloc ?_ (by simp; try omega) _) | (refine Below.grow ?_ (by simp; try omega) _ _))


set_option maxHeartbeats 1000000 in
theorem write_no (f : Nat → Int) (n p v : Int) (w : World) (l : Loc) (hl : loc (f 2) n = some l) (hp : p < lvl n) :
    Calls Try.prog 11 #[fileV f, .int .i64 n, .int .i64 p, .int .u32 v] w fun e w' => e = .returned (.tuple #[fileV f, .bool false]) ∧ Below w.heap.size w w' := by
  have HL := _root_.Go.Lib.hid hl
  have HP := _root_.Go.Lib.hid hp
  clear hl hp
  cases l with
  | fld i r q c =>
    go_enter Try.func11, Try.ntmps11
    go_wp2_with (first | (go_at_call 15; refine (find_any _ _ (f 2) _ (by simp; omega) (by simp)).mono ?_; rw [HL.out]; rintro e w1 ⟨hb1, rfl⟩; obtain ⟨ext, d, rfl⟩ := below_grow hb1; clear hb1) | (go_at_call 16; refine (may_no _ _ _ HP.out).mono ?_; rintro e w2 ⟨rfl, rfl⟩) | ((with_reducible apply wpList_load_at 29 Try.underlying29); rfl; exact heapA _ _ _ _ _ _; rfl; exact size29) | ((with_reducible apply wpList_store_at 29); rfl; rfl; exact heapB _ _ _ _ _ _; exact size29; rfl; rfl; (simp only [World.setRow_alloc_past, World.setRow_alloc_at, World.setRow_grow, World.size_alloc, World.size_grow, lt_add_ext, Nat.lt_add_one]; rfl)))
    refine bodyPost_ret (v := .tuple #[fileV f, .bool false]) (results_row_tmp (ty := 29) Try.results11 _ _ _ _ _ _ _ rfl (heapB _ _ _ _ _ _) Try.underlying29 rfl size29) rfl ⟨?_, ?_⟩
    · rfl
    · repeat (first | exact Below.refl _ _ | (refine Below.setCell ?_ (by simp) _) | (refine below_drewN ?_ _) | (refine Below.drew ?_) | (refine Below.alloc ?_ (by simp; try omega) _) | (refine Below.grow ?_ (by simp; try omega) _ _))
  | own x r =>
    go_enter Try.func11, Try.ntmps11
    go_wp2_with (first | (go_at_call 15; (refine (find_any _ _ (f 2) _ (by simp; omega) (by simp)).mono ?_; rw [HL.out]; rintro e w1 ⟨hb1, k, hk1, hk2, hk3, rfl⟩; obtain ⟨ext, d, rfl⟩ := below_grow hb1; clear hb1; have hk1' : w.heap.size + 1 + 1 ≤ k := (by simpa only [World.size_alloc] using hk1); have hk4 : k ≠ w.heap.size := (by omega); have hk5 : k ≠ w.heap.size + 1 := (by omega); have hk6 : w.heap.size ≠ k := (by omega); have hk7 : w.heap.size + 1 ≠ k := (by omega); have hk8 : k < w.heap.size + 1 + 1 + ext.size := (by have := World.block_lt_of_cell? _ _ hk2; simpa using this))) | (go_at_call 16; refine (may_no _ _ _ HP.out).mono ?_; rintro e w2 ⟨rfl, rfl⟩) | ((with_reducible apply wpList_load_at 29 Try.underlying29); rfl; exact heapA _ _ _ _ _ _; rfl; exact size29) | ((with_reducible apply wpList_store_at 29); rfl; rfl; exact heapB _ _ _ _ _ _; exact size29; rfl; rfl; (simp only [World.setRow_alloc_past, World.setRow_alloc_at, World.setRow_grow, World.size_alloc, World.size_grow, lt_add_ext, Nat.lt_add_one]; rfl)))
    refine bodyPost_ret (v := .tuple #[fileV f, .bool false]) (results_row_tmp (ty := 29) Try.results11 _ _ _ _ _ _ _ rfl (heapB _ _ _ _ _ _) Try.underlying29 rfl size29) rfl ⟨?_, ?_⟩
    · rfl
    · repeat (first | exact Below.refl _ _ | (refine Below.setCell ?_ (by simp) _) | (refine below_drewN ?_ _) | (refine Below.drew ?_) | (refine Below.alloc ?_ (by simp; try omega) _) | (refine Below.grow ?_ (by simp; try omega) _ _))
  | cyc u =>
    go_enter Try.func11, Try.ntmps11
    go_wp2_with (first | (go_at_call 15; refine (find_any _ _ (f 2) _ (by simp; omega) (by simp)).mono ?_; rw [HL.out]; rintro e w1 ⟨hb1, rfl⟩; obtain ⟨ext, d, rfl⟩ := below_grow hb1; clear hb1) | (go_at_call 16; refine (may_no _ _ _ HP.out).mono ?_; rintro e w2 ⟨rfl, rfl⟩) | ((with_reducible apply wpList_load_at 29 Try.underlying29); rfl; exact heapA _ _ _ _ _ _; rfl; exact size29) | ((with_reducible apply wpList_store_at 29); rfl; rfl; exact heapB _ _ _ _ _ _; exact size29; rfl; rfl; (simp only [World.setRow_alloc_past, World.setRow_alloc_at, World.setRow_grow, World.size_alloc, World.size_grow, lt_add_ext, Nat.lt_add_one]; rfl)))
    refine bodyPost_ret (v := .tuple #[fileV f, .bool false]) (results_row_tmp (ty := 29) Try.results11 _ _ _ _ _ _ _ rfl (heapB _ _ _ _ _ _) Try.underlying29 rfl size29) rfl ⟨?_, ?_⟩
    · rfl
    · repeat (first | exact Below.refl _ _ | (refine Below.setCell ?_ (by simp) _) | (refine below_drewN ?_ _) | (refine Below.drew ?_) | (refine Below.alloc ?_ (by simp; try omega) _) | (refine Below.grow ?_ (by simp; try omega) _ _))
set_option maxHeartbeats 1000000 in
theorem write_top (f : Nat → Int) (n p v : Int) (w : World) (l : Loc) (hl : loc (f 2) n = some l) (hp : lvl n ≤ p) (ht : (bits .and .i64 (n / 1024) 3 == 3) = true) :
    Calls Try.prog 11 #[fileV f, .int .i64 n, .int .i64 p, .int .u32 v] w fun e w' => e = .returned (.tuple #[fileV f, .bool false]) ∧ Below w.heap.size w w' := by
  have HL := _root_.Go.Lib.hid hl
  have HP := _root_.Go.Lib.hid hp
  clear hl hp
  cases l with
  | fld i r q c =>
    go_enter Try.func11, Try.ntmps11
    go_wp2_with (first | (go_at_call 15; refine (find_any _ _ (f 2) _ (by simp; omega) (by simp)).mono ?_; rw [HL.out]; rintro e w1 ⟨hb1, rfl⟩; obtain ⟨ext, d, rfl⟩ := below_grow hb1; clear hb1) | (go_at_call 16; refine (may_yes _ _ _ HP.out).mono ?_; rintro e w2 ⟨rfl, rfl⟩) | ((with_reducible apply wpList_load_at 29 Try.underlying29); rfl; exact heapA _ _ _ _ _ _; rfl; exact size29) | ((with_reducible apply wpList_store_at 29); rfl; rfl; exact heapB _ _ _ _ _ _; exact size29; rfl; rfl; (simp only [World.setRow_alloc_past, World.setRow_alloc_at, World.setRow_grow, World.size_alloc, World.size_grow, lt_add_ext, Nat.lt_add_one]; rfl)))
    refine bodyPost_ret (v := .tuple #[fileV f, .bool false]) (results_row_tmp (ty := 29) Try.results11 _ _ _ _ _ _ _ rfl (heapB _ _ _ _ _ _) Try.underlying29 rfl size29) rfl ⟨?_, ?_⟩
    · rfl
    · repeat (first | exact Below.refl _ _ | (refine Below.setCell ?_ (by simp) _) | (refine below_drewN ?_ _) | (refine Below.drew ?_) | (refine Below.alloc ?_ (by simp; try omega) _) | (refine Below.grow ?_ (by simp; try omega) _ _))
  | own x r =>
    go_enter Try.func11, Try.ntmps11
    go_wp2_with (first | (go_at_call 15; (refine (find_any _ _ (f 2) _ (by simp; omega) (by simp)).mono ?_; rw [HL.out]; rintro e w1 ⟨hb1, k, hk1, hk2, hk3, rfl⟩; obtain ⟨ext, d, rfl⟩ := below_grow hb1; clear hb1; have hk1' : w.heap.size + 1 + 1 ≤ k := (by simpa only [World.size_alloc] using hk1); have hk4 : k ≠ w.heap.size := (by omega); have hk5 : k ≠ w.heap.size + 1 := (by omega); have hk6 : w.heap.size ≠ k := (by omega); have hk7 : w.heap.size + 1 ≠ k := (by omega); have hk8 : k < w.heap.size + 1 + 1 + ext.size := (by have := World.block_lt_of_cell? _ _ hk2; simpa using this))) | (go_at_call 16; refine (may_yes _ _ _ HP.out).mono ?_; rintro e w2 ⟨rfl, rfl⟩) | ((with_reducible apply wpList_load_at 29 Try.underlying29); rfl; exact heapA _ _ _ _ _ _; rfl; exact size29) | ((with_reducible apply wpList_store_at 29); rfl; rfl; exact heapB _ _ _ _ _ _; exact size29; rfl; rfl; (simp only [World.setRow_alloc_past, World.setRow_alloc_at, World.setRow_grow, World.size_alloc, World.size_grow, lt_add_ext, Nat.lt_add_one]; rfl)))
    refine bodyPost_ret (v := .tuple #[fileV f, .bool false]) (results_row_tmp (ty := 29) Try.results11 _ _ _ _ _ _ _ rfl (heapB _ _ _ _ _ _) Try.underlying29 rfl size29) rfl ⟨?_, ?_⟩
    · rfl
    · repeat (first | exact Below.refl _ _ | (refine Below.setCell ?_ (by simp) _) | (refine below_drewN ?_ _) | (refine Below.drew ?_) | (refine Below.alloc ?_ (by simp; try omega) _) | (refine Below.grow ?_ (by simp; try omega) _ _))
  | cyc u =>
    go_enter Try.func11, Try.ntmps11
    go_wp2_with (first | (go_at_call 15; refine (find_any _ _ (f 2) _ (by simp; omega) (by simp)).mono ?_; rw [HL.out]; rintro e w1 ⟨hb1, rfl⟩; obtain ⟨ext, d, rfl⟩ := below_grow hb1; clear hb1) | (go_at_call 16; refine (may_yes _ _ _ HP.out).mono ?_; rintro e w2 ⟨rfl, rfl⟩) | ((with_reducible apply wpList_load_at 29 Try.underlying29); rfl; exact heapA _ _ _ _ _ _; rfl; exact size29) | ((with_reducible apply wpList_store_at 29); rfl; rfl; exact heapB _ _ _ _ _ _; exact size29; rfl; rfl; (simp only [World.setRow_alloc_past, World.setRow_alloc_at, World.setRow_grow, World.size_alloc, World.size_grow, lt_add_ext, Nat.lt_add_one]; rfl)))
    refine bodyPost_ret (v := .tuple #[fileV f, .bool false]) (results_row_tmp (ty := 29) Try.results11 _ _ _ _ _ _ _ rfl (heapB _ _ _ _ _ _) Try.underlying29 rfl size29) rfl ⟨?_, ?_⟩
    · rfl
    · repeat (first | exact Below.refl _ _ | (refine Below.setCell ?_ (by simp) _) | (refine below_drewN ?_ _) | (refine Below.drew ?_) | (refine Below.alloc ?_ (by simp; try omega) _) | (refine Below.grow ?_ (by simp; try omega) _ _))
set_option maxHeartbeats 1000000 in
theorem write_cyc_true (f : Nat → Int) (n p v : Int) (w : World) (hF : Fits f) (hl : loc (f 2) n = some (.cyc true)) (hp : lvl n ≤ p) (ht : (bits .and .i64 (n / 1024) 3 == 3) = false) (hv : 0 ≤ v ∧ v < 4294967296) :
    Calls Try.prog 11 #[fileV f, .int .i64 n, .int .i64 p, .int .u32 v] w fun e w' => e = .returned (.tuple #[fileV (upd f 16 (bits .or .u64 (bits .and .u64 (f 16) 4294967295) (v * 4294967296))), .bool true]) ∧ Below w.heap.size w w' := by
  have HL := _root_.Go.Lib.hid hl
  have HP := _root_.Go.Lib.hid hp
  clear hl hp
  obtain ⟨_, f1, f2⟩ := hF
  obtain ⟨v1, v2⟩ := hv
  go_enter Try.func11, Try.ntmps11
  go_wp2_with (first | (go_at_call 15; refine (find_any _ _ (f 2) _ (by simp; omega) (by simp)).mono ?_; rw [HL.out]; rintro e w1 ⟨hb1, rfl⟩; obtain ⟨ext, d, rfl⟩ := below_grow hb1; clear hb1) | (go_at_call 16; refine (may_yes _ _ _ HP.out).mono ?_; rintro e w2 ⟨rfl, rfl⟩) | ((with_reducible apply wpList_load_at 29 Try.underlying29); rfl; exact heapA _ _ _ _ _ _; rfl; exact size29) | ((with_reducible apply wpList_store_at 29); rfl; rfl; exact heapB _ _ _ _ _ _; exact size29; rfl; rfl; (simp only [World.setRow_alloc_past, World.setRow_alloc_at, World.setRow_grow, World.size_alloc, World.size_grow, lt_add_ext, Nat.lt_add_one]; rfl)))
  refine bodyPost_ret (v := .tuple #[fileV (upd f 16 (bits .or .u64 (bits .and .u64 (f 16) 4294967295) (v * 4294967296))), .bool true]) (results_row_tmp (ty := 29) Try.results11 _ _ _ _ _ _ _ rfl (heapB _ _ _ _ _ _) Try.underlying29 rfl size29) rfl ⟨?_, ?_⟩
  · rfl
  · repeat (first | exact Below.refl _ _ | (refine Below.setCell ?_ (by simp) _) | (refine below_drewN ?_ _) | (refine Below.drew ?_) | (refine Below.alloc ?_ (by simp; try omega) _) | (refine Below.grow ?_ (by simp; try omega) _ _))
set_option maxHeartbeats 1000000 in
theorem write_cyc_false (f : Nat → Int) (n p v : Int) (w : World) (hF : Fits f) (hl : loc (f 2) n = some (.cyc false)) (hp : lvl n ≤ p) (ht : (bits .and .i64 (n / 1024) 3 == 3) = false) (hv : 0 ≤ v ∧ v < 4294967296) :
    Calls Try.prog 11 #[fileV f, .int .i64 n, .int .i64 p, .int .u32 v] w fun e w' => e = .returned (.tuple #[fileV (upd f 16 (bits .or .u64 (bits .andNot .u64 (f 16) 4294967295) v)), .bool true]) ∧ Below w.heap.size w w' := by
  have HL := _root_.Go.Lib.hid hl
  have HP := _root_.Go.Lib.hid hp
  clear hl hp
  obtain ⟨_, f1, f2⟩ := hF
  obtain ⟨v1, v2⟩ := hv
  go_enter Try.func11, Try.ntmps11
  go_wp2_with (first | (go_at_call 15; refine (find_any _ _ (f 2) _ (by simp; omega) (by simp)).mono ?_; rw [HL.out]; rintro e w1 ⟨hb1, rfl⟩; obtain ⟨ext, d, rfl⟩ := below_grow hb1; clear hb1) | (go_at_call 16; refine (may_yes _ _ _ HP.out).mono ?_; rintro e w2 ⟨rfl, rfl⟩) | ((with_reducible apply wpList_load_at 29 Try.underlying29); rfl; exact heapA _ _ _ _ _ _; rfl; exact size29) | ((with_reducible apply wpList_store_at 29); rfl; rfl; exact heapB _ _ _ _ _ _; exact size29; rfl; rfl; (simp only [World.setRow_alloc_past, World.setRow_alloc_at, World.setRow_grow, World.size_alloc, World.size_grow, lt_add_ext, Nat.lt_add_one]; rfl)))
  refine bodyPost_ret (v := .tuple #[fileV (upd f 16 (bits .or .u64 (bits .andNot .u64 (f 16) 4294967295) v)), .bool true]) (results_row_tmp (ty := 29) Try.results11 _ _ _ _ _ _ _ rfl (heapB _ _ _ _ _ _) Try.underlying29 rfl size29) rfl ⟨?_, ?_⟩
  · rfl
  · repeat (first | exact Below.refl _ _ | (refine Below.setCell ?_ (by simp) _) | (refine below_drewN ?_ _) | (refine Below.drew ?_) | (refine Below.alloc ?_ (by simp; try omega) _) | (refine Below.grow ?_ (by simp; try omega) _ _))
set_option maxHeartbeats 1000000 in
theorem write_fld_0a (f : Nat → Int) (n p v : Int) (w : World) (r q c : Int) (hl : loc (f 2) n = some (.fld 0 r q c)) (hp : lvl n ≤ p) (ht : (bits .and .i64 (n / 1024) 3 == 3) = false) (hn : (n == 768) = false) :
    Calls Try.prog 11 #[fileV f, .int .i64 n, .int .i64 p, .int .u32 v] w fun e w' => e = .returned (.tuple #[fileV (upd f 0 (bits .andNot .u32 (bits .or .u32 (bits .andNot .u32 (f 0) q) (bits .and .u32 v q)) c)), .bool true]) ∧ Below w.heap.size w w' := by
  have HL := _root_.Go.Lib.hid hl
  have HP := _root_.Go.Lib.hid hp
  clear hl hp
  go_enter Try.func11, Try.ntmps11
  go_wp2_with (first | (go_at_call 15; refine (find_any _ _ (f 2) _ (by simp; omega) (by simp)).mono ?_; rw [HL.out]; rintro e w1 ⟨hb1, rfl⟩; obtain ⟨ext, d, rfl⟩ := below_grow hb1; clear hb1) | (go_at_call 16; refine (may_yes _ _ _ HP.out).mono ?_; rintro e w2 ⟨rfl, rfl⟩) | ((with_reducible apply wpList_load_at 29 Try.underlying29); rfl; exact heapA _ _ _ _ _ _; rfl; exact size29) | ((with_reducible apply wpList_store_at 29); rfl; rfl; exact heapB _ _ _ _ _ _; exact size29; rfl; rfl; (simp only [World.setRow_alloc_past, World.setRow_alloc_at, World.setRow_grow, World.size_alloc, World.size_grow, lt_add_ext, Nat.lt_add_one]; rfl)))
  refine wp_region_quiet_tail 18 (by kernel_rfl) (by kernel_rfl) rfl ?_
  simp only [List.take_succ_cons, List.take_zero, List.drop_succ_cons, List.drop_zero]
  repeat (go_big_quiet_step (fail))
  refine wpQuiet_nil ?_
  go_wp2_with (first | ((with_reducible apply wpList_load_at 29 Try.underlying29); rfl; exact heapAd _ _ _ _ _ _; rfl; exact size29) | ((with_reducible apply wpList_store_at 29); rfl; rfl; exact heapBd _ _ _ _ _ _; exact size29; rfl; rfl; (simp only [World.setRow_drew, World.setRow_alloc_past, World.setRow_alloc_at, World.setRow_grow, World.size_alloc, World.size_grow, lt_add_ext, Nat.lt_add_one]; rfl)))
  refine bodyPost_ret (v := .tuple #[fileV (upd f 0 (bits .andNot .u32 (bits .or .u32 (bits .andNot .u32 (f 0) q) (bits .and .u32 v q)) c)), .bool true]) (results_row_tmp (ty := 29) Try.results11 _ _ _ _ _ _ _ rfl (heapBd _ _ _ _ _ _) Try.underlying29 rfl size29) rfl ⟨?_, ?_⟩
  · rfl
  · repeat (first | exact Below.refl _ _ | (refine Below.setCell ?_ (by simp) _) | (refine below_drewN ?_ _) | (refine Below.drew ?_) | (refine Below.alloc ?_ (by simp; try omega) _) | (refine Below.grow ?_ (by simp; try omega) _ _))

set_option maxHeartbeats 1000000 in
theorem write_fld_0b (f : Nat → Int) (n p v : Int) (w : World) (r q c : Int) (hl : loc (f 2) n = some (.fld 0 r q c)) (hp : lvl n ≤ p) (ht : (bits .and .i64 (n / 1024) 3 == 3) = false) (_hv0 : 0 ≤ v) (hn : (n == 768) = true) (hv : (bits .and .u32 (v / 2048) 3 == 2) = false) :
    Calls Try.prog 11 #[fileV f, .int .i64 n, .int .i64 p, .int .u32 v] w fun e w' => e = .returned (.tuple #[fileV (upd f 0 (bits .andNot .u32 (bits .or .u32 (bits .andNot .u32 (f 0) q) (bits .and .u32 v q)) c)), .bool true]) ∧ Below w.heap.size w w' := by
  have HL := _root_.Go.Lib.hid hl
  have HP := _root_.Go.Lib.hid hp
  clear hl hp
  go_enter Try.func11, Try.ntmps11
  go_wp2_with (first | (go_at_call 15; refine (find_any _ _ (f 2) _ (by simp; omega) (by simp)).mono ?_; rw [HL.out]; rintro e w1 ⟨hb1, rfl⟩; obtain ⟨ext, d, rfl⟩ := below_grow hb1; clear hb1) | (go_at_call 16; refine (may_yes _ _ _ HP.out).mono ?_; rintro e w2 ⟨rfl, rfl⟩) | ((with_reducible apply wpList_load_at 29 Try.underlying29); rfl; exact heapA _ _ _ _ _ _; rfl; exact size29) | ((with_reducible apply wpList_store_at 29); rfl; rfl; exact heapB _ _ _ _ _ _; exact size29; rfl; rfl; (simp only [World.setRow_alloc_past, World.setRow_alloc_at, World.setRow_grow, World.size_alloc, World.size_grow, lt_add_ext, Nat.lt_add_one]; rfl)))
  refine wp_region_quiet_tail 18 (by kernel_rfl) (by kernel_rfl) rfl ?_
  simp only [List.take_succ_cons, List.take_zero, List.drop_succ_cons, List.drop_zero]
  repeat (go_big_quiet_step (fail))
  refine wpQuiet_nil ?_
  go_wp2_with (first | ((with_reducible apply wpList_load_at 29 Try.underlying29); rfl; exact heapAd _ _ _ _ _ _; rfl; exact size29) | ((with_reducible apply wpList_store_at 29); rfl; rfl; exact heapBd _ _ _ _ _ _; exact size29; rfl; rfl; (simp only [World.setRow_drew, World.setRow_alloc_past, World.setRow_alloc_at, World.setRow_grow, World.size_alloc, World.size_grow, lt_add_ext, Nat.lt_add_one]; rfl)))
  refine bodyPost_ret (v := .tuple #[fileV (upd f 0 (bits .andNot .u32 (bits .or .u32 (bits .andNot .u32 (f 0) q) (bits .and .u32 v q)) c)), .bool true]) (results_row_tmp (ty := 29) Try.results11 _ _ _ _ _ _ _ rfl (heapBd _ _ _ _ _ _) Try.underlying29 rfl size29) rfl ⟨?_, ?_⟩
  · rfl
  · repeat (first | exact Below.refl _ _ | (refine Below.setCell ?_ (by simp) _) | (refine below_drewN ?_ _) | (refine Below.drew ?_) | (refine Below.alloc ?_ (by simp; try omega) _) | (refine Below.grow ?_ (by simp; try omega) _ _))

set_option maxHeartbeats 1000000 in
theorem write_fld_0c (f : Nat → Int) (n p v : Int) (w : World) (r q c : Int) (hl : loc (f 2) n = some (.fld 0 r q c)) (hp : lvl n ≤ p) (ht : (bits .and .i64 (n / 1024) 3 == 3) = false) (_hv0 : 0 ≤ v) (hn : (n == 768) = true) (hv : (bits .and .u32 (v / 2048) 3 == 2) = true) :
    Calls Try.prog 11 #[fileV f, .int .i64 n, .int .i64 p, .int .u32 v] w fun e w' => e = .returned (.tuple #[fileV (upd f 0 (bits .andNot .u32 (bits .or .u32 (bits .andNot .u32 (f 0) q) (bits .and .u32 (bits .andNot .u32 v 6144) q)) c)), .bool true]) ∧ Below w.heap.size w w' := by
  have HL := _root_.Go.Lib.hid hl
  have HP := _root_.Go.Lib.hid hp
  clear hl hp
  go_enter Try.func11, Try.ntmps11
  go_wp2_with (first | (go_at_call 15; refine (find_any _ _ (f 2) _ (by simp; omega) (by simp)).mono ?_; rw [HL.out]; rintro e w1 ⟨hb1, rfl⟩; obtain ⟨ext, d, rfl⟩ := below_grow hb1; clear hb1) | (go_at_call 16; refine (may_yes _ _ _ HP.out).mono ?_; rintro e w2 ⟨rfl, rfl⟩) | ((with_reducible apply wpList_load_at 29 Try.underlying29); rfl; exact heapA _ _ _ _ _ _; rfl; exact size29) | ((with_reducible apply wpList_store_at 29); rfl; rfl; exact heapB _ _ _ _ _ _; exact size29; rfl; rfl; (simp only [World.setRow_alloc_past, World.setRow_alloc_at, World.setRow_grow, World.size_alloc, World.size_grow, lt_add_ext, Nat.lt_add_one]; rfl)))
  refine wp_region_quiet_tail 18 (by kernel_rfl) (by kernel_rfl) rfl ?_
  simp only [List.take_succ_cons, List.take_zero, List.drop_succ_cons, List.drop_zero]
  repeat (go_big_quiet_step (fail))
  refine wpQuiet_nil ?_
  go_wp2_with (first | ((with_reducible apply wpList_load_at 29 Try.underlying29); rfl; exact heapAd _ _ _ _ _ _; rfl; exact size29) | ((with_reducible apply wpList_store_at 29); rfl; rfl; exact heapBd _ _ _ _ _ _; exact size29; rfl; rfl; (simp only [World.setRow_drew, World.setRow_alloc_past, World.setRow_alloc_at, World.setRow_grow, World.size_alloc, World.size_grow, lt_add_ext, Nat.lt_add_one]; rfl)))
  refine bodyPost_ret (v := .tuple #[fileV (upd f 0 (bits .andNot .u32 (bits .or .u32 (bits .andNot .u32 (f 0) q) (bits .and .u32 (bits .andNot .u32 v 6144) q)) c)), .bool true]) (results_row_tmp (ty := 29) Try.results11 _ _ _ _ _ _ _ rfl (heapBd _ _ _ _ _ _) Try.underlying29 rfl size29) rfl ⟨?_, ?_⟩
  · rfl
  · repeat (first | exact Below.refl _ _ | (refine Below.setCell ?_ (by simp) _) | (refine below_drewN ?_ _) | (refine Below.drew ?_) | (refine Below.alloc ?_ (by simp; try omega) _) | (refine Below.grow ?_ (by simp; try omega) _ _))

set_option maxHeartbeats 1000000 in
theorem write_fld_1a (f : Nat → Int) (n p v : Int) (w : World) (r q c : Int) (hl : loc (f 2) n = some (.fld 1 r q c)) (hp : lvl n ≤ p) (ht : (bits .and .i64 (n / 1024) 3 == 3) = false) (hn : (n == 768) = false) :
    Calls Try.prog 11 #[fileV f, .int .i64 n, .int .i64 p, .int .u32 v] w fun e w' => e = .returned (.tuple #[fileV (upd f 1 (bits .andNot .u32 (bits .or .u32 (bits .andNot .u32 (f 1) q) (bits .and .u32 v q)) c)), .bool true]) ∧ Below w.heap.size w w' := by
  have HL := _root_.Go.Lib.hid hl
  have HP := _root_.Go.Lib.hid hp
  clear hl hp
  go_enter Try.func11, Try.ntmps11
  go_wp2_with (first | (go_at_call 15; refine (find_any _ _ (f 2) _ (by simp; omega) (by simp)).mono ?_; rw [HL.out]; rintro e w1 ⟨hb1, rfl⟩; obtain ⟨ext, d, rfl⟩ := below_grow hb1; clear hb1) | (go_at_call 16; refine (may_yes _ _ _ HP.out).mono ?_; rintro e w2 ⟨rfl, rfl⟩) | ((with_reducible apply wpList_load_at 29 Try.underlying29); rfl; exact heapA _ _ _ _ _ _; rfl; exact size29) | ((with_reducible apply wpList_store_at 29); rfl; rfl; exact heapB _ _ _ _ _ _; exact size29; rfl; rfl; (simp only [World.setRow_alloc_past, World.setRow_alloc_at, World.setRow_grow, World.size_alloc, World.size_grow, lt_add_ext, Nat.lt_add_one]; rfl)))
  refine wp_region_quiet_tail 18 (by kernel_rfl) (by kernel_rfl) rfl ?_
  simp only [List.take_succ_cons, List.take_zero, List.drop_succ_cons, List.drop_zero]
  repeat (go_big_quiet_step (fail))
  refine wpQuiet_nil ?_
  go_wp2_with (first | ((with_reducible apply wpList_load_at 29 Try.underlying29); rfl; exact heapAd _ _ _ _ _ _; rfl; exact size29) | ((with_reducible apply wpList_store_at 29); rfl; rfl; exact heapBd _ _ _ _ _ _; exact size29; rfl; rfl; (simp only [World.setRow_drew, World.setRow_alloc_past, World.setRow_alloc_at, World.setRow_grow, World.size_alloc, World.size_grow, lt_add_ext, Nat.lt_add_one]; rfl)))
  refine bodyPost_ret (v := .tuple #[fileV (upd f 1 (bits .andNot .u32 (bits .or .u32 (bits .andNot .u32 (f 1) q) (bits .and .u32 v q)) c)), .bool true]) (results_row_tmp (ty := 29) Try.results11 _ _ _ _ _ _ _ rfl (heapBd _ _ _ _ _ _) Try.underlying29 rfl size29) rfl ⟨?_, ?_⟩
  · rfl
  · repeat (first | exact Below.refl _ _ | (refine Below.setCell ?_ (by simp) _) | (refine below_drewN ?_ _) | (refine Below.drew ?_) | (refine Below.alloc ?_ (by simp; try omega) _) | (refine Below.grow ?_ (by simp; try omega) _ _))

set_option maxHeartbeats 1000000 in
theorem write_fld_2a (f : Nat → Int) (n p v : Int) (w : World) (r q c : Int) (hl : loc (f 2) n = some (.fld 2 r q c)) (hp : lvl n ≤ p) (ht : (bits .and .i64 (n / 1024) 3 == 3) = false) (hn : (n == 768) = false) :
    Calls Try.prog 11 #[fileV f, .int .i64 n, .int .i64 p, .int .u32 v] w fun e w' => e = .returned (.tuple #[fileV (upd f 2 (bits .andNot .u32 (bits .or .u32 (bits .andNot .u32 (f 2) q) (bits .and .u32 v q)) c)), .bool true]) ∧ Below w.heap.size w w' := by
  have HL := _root_.Go.Lib.hid hl
  have HP := _root_.Go.Lib.hid hp
  clear hl hp
  go_enter Try.func11, Try.ntmps11
  go_wp2_with (first | (go_at_call 15; refine (find_any _ _ (f 2) _ (by simp; omega) (by simp)).mono ?_; rw [HL.out]; rintro e w1 ⟨hb1, rfl⟩; obtain ⟨ext, d, rfl⟩ := below_grow hb1; clear hb1) | (go_at_call 16; refine (may_yes _ _ _ HP.out).mono ?_; rintro e w2 ⟨rfl, rfl⟩) | ((with_reducible apply wpList_load_at 29 Try.underlying29); rfl; exact heapA _ _ _ _ _ _; rfl; exact size29) | ((with_reducible apply wpList_store_at 29); rfl; rfl; exact heapB _ _ _ _ _ _; exact size29; rfl; rfl; (simp only [World.setRow_alloc_past, World.setRow_alloc_at, World.setRow_grow, World.size_alloc, World.size_grow, lt_add_ext, Nat.lt_add_one]; rfl)))
  refine wp_region_quiet_tail 18 (by kernel_rfl) (by kernel_rfl) rfl ?_
  simp only [List.take_succ_cons, List.take_zero, List.drop_succ_cons, List.drop_zero]
  repeat (go_big_quiet_step (fail))
  refine wpQuiet_nil ?_
  go_wp2_with (first | ((with_reducible apply wpList_load_at 29 Try.underlying29); rfl; exact heapAd _ _ _ _ _ _; rfl; exact size29) | ((with_reducible apply wpList_store_at 29); rfl; rfl; exact heapBd _ _ _ _ _ _; exact size29; rfl; rfl; (simp only [World.setRow_drew, World.setRow_alloc_past, World.setRow_alloc_at, World.setRow_grow, World.size_alloc, World.size_grow, lt_add_ext, Nat.lt_add_one]; rfl)))
  refine bodyPost_ret (v := .tuple #[fileV (upd f 2 (bits .andNot .u32 (bits .or .u32 (bits .andNot .u32 (f 2) q) (bits .and .u32 v q)) c)), .bool true]) (results_row_tmp (ty := 29) Try.results11 _ _ _ _ _ _ _ rfl (heapBd _ _ _ _ _ _) Try.underlying29 rfl size29) rfl ⟨?_, ?_⟩
  · rfl
  · repeat (first | exact Below.refl _ _ | (refine Below.setCell ?_ (by simp) _) | (refine below_drewN ?_ _) | (refine Below.drew ?_) | (refine Below.alloc ?_ (by simp; try omega) _) | (refine Below.grow ?_ (by simp; try omega) _ _))

set_option maxHeartbeats 1000000 in
theorem write_fld_3a (f : Nat → Int) (n p v : Int) (w : World) (r q c : Int) (hl : loc (f 2) n = some (.fld 3 r q c)) (hp : lvl n ≤ p) (ht : (bits .and .i64 (n / 1024) 3 == 3) = false) (hn : (n == 768) = false) :
    Calls Try.prog 11 #[fileV f, .int .i64 n, .int .i64 p, .int .u32 v] w fun e w' => e = .returned (.tuple #[fileV (upd f 3 (bits .andNot .u32 (bits .or .u32 (bits .andNot .u32 (f 3) q) (bits .and .u32 v q)) c)), .bool true]) ∧ Below w.heap.size w w' := by
  have HL := _root_.Go.Lib.hid hl
  have HP := _root_.Go.Lib.hid hp
  clear hl hp
  go_enter Try.func11, Try.ntmps11
  go_wp2_with (first | (go_at_call 15; refine (find_any _ _ (f 2) _ (by simp; omega) (by simp)).mono ?_; rw [HL.out]; rintro e w1 ⟨hb1, rfl⟩; obtain ⟨ext, d, rfl⟩ := below_grow hb1; clear hb1) | (go_at_call 16; refine (may_yes _ _ _ HP.out).mono ?_; rintro e w2 ⟨rfl, rfl⟩) | ((with_reducible apply wpList_load_at 29 Try.underlying29); rfl; exact heapA _ _ _ _ _ _; rfl; exact size29) | ((with_reducible apply wpList_store_at 29); rfl; rfl; exact heapB _ _ _ _ _ _; exact size29; rfl; rfl; (simp only [World.setRow_alloc_past, World.setRow_alloc_at, World.setRow_grow, World.size_alloc, World.size_grow, lt_add_ext, Nat.lt_add_one]; rfl)))
  refine wp_region_quiet_tail 18 (by kernel_rfl) (by kernel_rfl) rfl ?_
  simp only [List.take_succ_cons, List.take_zero, List.drop_succ_cons, List.drop_zero]
  repeat (go_big_quiet_step (fail))
  refine wpQuiet_nil ?_
  go_wp2_with (first | ((with_reducible apply wpList_load_at 29 Try.underlying29); rfl; exact heapAd _ _ _ _ _ _; rfl; exact size29) | ((with_reducible apply wpList_store_at 29); rfl; rfl; exact heapBd _ _ _ _ _ _; exact size29; rfl; rfl; (simp only [World.setRow_drew, World.setRow_alloc_past, World.setRow_alloc_at, World.setRow_grow, World.size_alloc, World.size_grow, lt_add_ext, Nat.lt_add_one]; rfl)))
  refine bodyPost_ret (v := .tuple #[fileV (upd f 3 (bits .andNot .u32 (bits .or .u32 (bits .andNot .u32 (f 3) q) (bits .and .u32 v q)) c)), .bool true]) (results_row_tmp (ty := 29) Try.results11 _ _ _ _ _ _ _ rfl (heapBd _ _ _ _ _ _) Try.underlying29 rfl size29) rfl ⟨?_, ?_⟩
  · rfl
  · repeat (first | exact Below.refl _ _ | (refine Below.setCell ?_ (by simp) _) | (refine below_drewN ?_ _) | (refine Below.drew ?_) | (refine Below.alloc ?_ (by simp; try omega) _) | (refine Below.grow ?_ (by simp; try omega) _ _))

set_option maxHeartbeats 1000000 in
theorem write_fld_4a (f : Nat → Int) (n p v : Int) (w : World) (r q c : Int) (hl : loc (f 2) n = some (.fld 4 r q c)) (hp : lvl n ≤ p) (ht : (bits .and .i64 (n / 1024) 3 == 3) = false) (hn : (n == 768) = false) :
    Calls Try.prog 11 #[fileV f, .int .i64 n, .int .i64 p, .int .u32 v] w fun e w' => e = .returned (.tuple #[fileV (upd f 4 (bits .andNot .u32 (bits .or .u32 (bits .andNot .u32 (f 4) q) (bits .and .u32 v q)) c)), .bool true]) ∧ Below w.heap.size w w' := by
  have HL := _root_.Go.Lib.hid hl
  have HP := _root_.Go.Lib.hid hp
  clear hl hp
  go_enter Try.func11, Try.ntmps11
  go_wp2_with (first | (go_at_call 15; refine (find_any _ _ (f 2) _ (by simp; omega) (by simp)).mono ?_; rw [HL.out]; rintro e w1 ⟨hb1, rfl⟩; obtain ⟨ext, d, rfl⟩ := below_grow hb1; clear hb1) | (go_at_call 16; refine (may_yes _ _ _ HP.out).mono ?_; rintro e w2 ⟨rfl, rfl⟩) | ((with_reducible apply wpList_load_at 29 Try.underlying29); rfl; exact heapA _ _ _ _ _ _; rfl; exact size29) | ((with_reducible apply wpList_store_at 29); rfl; rfl; exact heapB _ _ _ _ _ _; exact size29; rfl; rfl; (simp only [World.setRow_alloc_past, World.setRow_alloc_at, World.setRow_grow, World.size_alloc, World.size_grow, lt_add_ext, Nat.lt_add_one]; rfl)))
  refine wp_region_quiet_tail 18 (by kernel_rfl) (by kernel_rfl) rfl ?_
  simp only [List.take_succ_cons, List.take_zero, List.drop_succ_cons, List.drop_zero]
  repeat (go_big_quiet_step (fail))
  refine wpQuiet_nil ?_
  go_wp2_with (first | ((with_reducible apply wpList_load_at 29 Try.underlying29); rfl; exact heapAd _ _ _ _ _ _; rfl; exact size29) | ((with_reducible apply wpList_store_at 29); rfl; rfl; exact heapBd _ _ _ _ _ _; exact size29; rfl; rfl; (simp only [World.setRow_drew, World.setRow_alloc_past, World.setRow_alloc_at, World.setRow_grow, World.size_alloc, World.size_grow, lt_add_ext, Nat.lt_add_one]; rfl)))
  refine bodyPost_ret (v := .tuple #[fileV (upd f 4 (bits .andNot .u32 (bits .or .u32 (bits .andNot .u32 (f 4) q) (bits .and .u32 v q)) c)), .bool true]) (results_row_tmp (ty := 29) Try.results11 _ _ _ _ _ _ _ rfl (heapBd _ _ _ _ _ _) Try.underlying29 rfl size29) rfl ⟨?_, ?_⟩
  · rfl
  · repeat (first | exact Below.refl _ _ | (refine Below.setCell ?_ (by simp) _) | (refine below_drewN ?_ _) | (refine Below.drew ?_) | (refine Below.alloc ?_ (by simp; try omega) _) | (refine Below.grow ?_ (by simp; try omega) _ _))

set_option maxHeartbeats 1000000 in
theorem write_fld_5a (f : Nat → Int) (n p v : Int) (w : World) (r q c : Int) (hl : loc (f 2) n = some (.fld 5 r q c)) (hp : lvl n ≤ p) (ht : (bits .and .i64 (n / 1024) 3 == 3) = false) (hn : (n == 768) = false) :
    Calls Try.prog 11 #[fileV f, .int .i64 n, .int .i64 p, .int .u32 v] w fun e w' => e = .returned (.tuple #[fileV (upd f 5 (bits .andNot .u32 (bits .or .u32 (bits .andNot .u32 (f 5) q) (bits .and .u32 v q)) c)), .bool true]) ∧ Below w.heap.size w w' := by
  have HL := _root_.Go.Lib.hid hl
  have HP := _root_.Go.Lib.hid hp
  clear hl hp
  go_enter Try.func11, Try.ntmps11
  go_wp2_with (first | (go_at_call 15; refine (find_any _ _ (f 2) _ (by simp; omega) (by simp)).mono ?_; rw [HL.out]; rintro e w1 ⟨hb1, rfl⟩; obtain ⟨ext, d, rfl⟩ := below_grow hb1; clear hb1) | (go_at_call 16; refine (may_yes _ _ _ HP.out).mono ?_; rintro e w2 ⟨rfl, rfl⟩) | ((with_reducible apply wpList_load_at 29 Try.underlying29); rfl; exact heapA _ _ _ _ _ _; rfl; exact size29) | ((with_reducible apply wpList_store_at 29); rfl; rfl; exact heapB _ _ _ _ _ _; exact size29; rfl; rfl; (simp only [World.setRow_alloc_past, World.setRow_alloc_at, World.setRow_grow, World.size_alloc, World.size_grow, lt_add_ext, Nat.lt_add_one]; rfl)))
  refine wp_region_quiet_tail 18 (by kernel_rfl) (by kernel_rfl) rfl ?_
  simp only [List.take_succ_cons, List.take_zero, List.drop_succ_cons, List.drop_zero]
  repeat (go_big_quiet_step (fail))
  refine wpQuiet_nil ?_
  go_wp2_with (first | ((with_reducible apply wpList_load_at 29 Try.underlying29); rfl; exact heapAd _ _ _ _ _ _; rfl; exact size29) | ((with_reducible apply wpList_store_at 29); rfl; rfl; exact heapBd _ _ _ _ _ _; exact size29; rfl; rfl; (simp only [World.setRow_drew, World.setRow_alloc_past, World.setRow_alloc_at, World.setRow_grow, World.size_alloc, World.size_grow, lt_add_ext, Nat.lt_add_one]; rfl)))
  refine bodyPost_ret (v := .tuple #[fileV (upd f 5 (bits .andNot .u32 (bits .or .u32 (bits .andNot .u32 (f 5) q) (bits .and .u32 v q)) c)), .bool true]) (results_row_tmp (ty := 29) Try.results11 _ _ _ _ _ _ _ rfl (heapBd _ _ _ _ _ _) Try.underlying29 rfl size29) rfl ⟨?_, ?_⟩
  · rfl
  · repeat (first | exact Below.refl _ _ | (refine Below.setCell ?_ (by simp) _) | (refine below_drewN ?_ _) | (refine Below.drew ?_) | (refine Below.alloc ?_ (by simp; try omega) _) | (refine Below.grow ?_ (by simp; try omega) _ _))

set_option maxHeartbeats 1000000 in
theorem write_fld_6a (f : Nat → Int) (n p v : Int) (w : World) (r q c : Int) (hl : loc (f 2) n = some (.fld 6 r q c)) (hp : lvl n ≤ p) (ht : (bits .and .i64 (n / 1024) 3 == 3) = false) (hn : (n == 768) = false) :
    Calls Try.prog 11 #[fileV f, .int .i64 n, .int .i64 p, .int .u32 v] w fun e w' => e = .returned (.tuple #[fileV (upd f 6 (bits .andNot .u32 (bits .or .u32 (bits .andNot .u32 (f 6) q) (bits .and .u32 v q)) c)), .bool true]) ∧ Below w.heap.size w w' := by
  have HL := _root_.Go.Lib.hid hl
  have HP := _root_.Go.Lib.hid hp
  clear hl hp
  go_enter Try.func11, Try.ntmps11
  go_wp2_with (first | (go_at_call 15; refine (find_any _ _ (f 2) _ (by simp; omega) (by simp)).mono ?_; rw [HL.out]; rintro e w1 ⟨hb1, rfl⟩; obtain ⟨ext, d, rfl⟩ := below_grow hb1; clear hb1) | (go_at_call 16; refine (may_yes _ _ _ HP.out).mono ?_; rintro e w2 ⟨rfl, rfl⟩) | ((with_reducible apply wpList_load_at 29 Try.underlying29); rfl; exact heapA _ _ _ _ _ _; rfl; exact size29) | ((with_reducible apply wpList_store_at 29); rfl; rfl; exact heapB _ _ _ _ _ _; exact size29; rfl; rfl; (simp only [World.setRow_alloc_past, World.setRow_alloc_at, World.setRow_grow, World.size_alloc, World.size_grow, lt_add_ext, Nat.lt_add_one]; rfl)))
  refine wp_region_quiet_tail 18 (by kernel_rfl) (by kernel_rfl) rfl ?_
  simp only [List.take_succ_cons, List.take_zero, List.drop_succ_cons, List.drop_zero]
  repeat (go_big_quiet_step (fail))
  refine wpQuiet_nil ?_
  go_wp2_with (first | ((with_reducible apply wpList_load_at 29 Try.underlying29); rfl; exact heapAd _ _ _ _ _ _; rfl; exact size29) | ((with_reducible apply wpList_store_at 29); rfl; rfl; exact heapBd _ _ _ _ _ _; exact size29; rfl; rfl; (simp only [World.setRow_drew, World.setRow_alloc_past, World.setRow_alloc_at, World.setRow_grow, World.size_alloc, World.size_grow, lt_add_ext, Nat.lt_add_one]; rfl)))
  refine bodyPost_ret (v := .tuple #[fileV (upd f 6 (bits .andNot .u32 (bits .or .u32 (bits .andNot .u32 (f 6) q) (bits .and .u32 v q)) c)), .bool true]) (results_row_tmp (ty := 29) Try.results11 _ _ _ _ _ _ _ rfl (heapBd _ _ _ _ _ _) Try.underlying29 rfl size29) rfl ⟨?_, ?_⟩
  · rfl
  · repeat (first | exact Below.refl _ _ | (refine Below.setCell ?_ (by simp) _) | (refine below_drewN ?_ _) | (refine Below.drew ?_) | (refine Below.alloc ?_ (by simp; try omega) _) | (refine Below.grow ?_ (by simp; try omega) _ _))

set_option maxHeartbeats 1000000 in
theorem write_fld_7a (f : Nat → Int) (n p v : Int) (w : World) (r q c : Int) (hl : loc (f 2) n = some (.fld 7 r q c)) (hp : lvl n ≤ p) (ht : (bits .and .i64 (n / 1024) 3 == 3) = false) (hn : (n == 768) = false) :
    Calls Try.prog 11 #[fileV f, .int .i64 n, .int .i64 p, .int .u32 v] w fun e w' => e = .returned (.tuple #[fileV (upd f 7 (bits .andNot .u32 (bits .or .u32 (bits .andNot .u32 (f 7) q) (bits .and .u32 v q)) c)), .bool true]) ∧ Below w.heap.size w w' := by
  have HL := _root_.Go.Lib.hid hl
  have HP := _root_.Go.Lib.hid hp
  clear hl hp
  go_enter Try.func11, Try.ntmps11
  go_wp2_with (first | (go_at_call 15; refine (find_any _ _ (f 2) _ (by simp; omega) (by simp)).mono ?_; rw [HL.out]; rintro e w1 ⟨hb1, rfl⟩; obtain ⟨ext, d, rfl⟩ := below_grow hb1; clear hb1) | (go_at_call 16; refine (may_yes _ _ _ HP.out).mono ?_; rintro e w2 ⟨rfl, rfl⟩) | ((with_reducible apply wpList_load_at 29 Try.underlying29); rfl; exact heapA _ _ _ _ _ _; rfl; exact size29) | ((with_reducible apply wpList_store_at 29); rfl; rfl; exact heapB _ _ _ _ _ _; exact size29; rfl; rfl; (simp only [World.setRow_alloc_past, World.setRow_alloc_at, World.setRow_grow, World.size_alloc, World.size_grow, lt_add_ext, Nat.lt_add_one]; rfl)))
  refine wp_region_quiet_tail 18 (by kernel_rfl) (by kernel_rfl) rfl ?_
  simp only [List.take_succ_cons, List.take_zero, List.drop_succ_cons, List.drop_zero]
  repeat (go_big_quiet_step (fail))
  refine wpQuiet_nil ?_
  go_wp2_with (first | ((with_reducible apply wpList_load_at 29 Try.underlying29); rfl; exact heapAd _ _ _ _ _ _; rfl; exact size29) | ((with_reducible apply wpList_store_at 29); rfl; rfl; exact heapBd _ _ _ _ _ _; exact size29; rfl; rfl; (simp only [World.setRow_drew, World.setRow_alloc_past, World.setRow_alloc_at, World.setRow_grow, World.size_alloc, World.size_grow, lt_add_ext, Nat.lt_add_one]; rfl)))
  refine bodyPost_ret (v := .tuple #[fileV (upd f 7 (bits .andNot .u32 (bits .or .u32 (bits .andNot .u32 (f 7) q) (bits .and .u32 v q)) c)), .bool true]) (results_row_tmp (ty := 29) Try.results11 _ _ _ _ _ _ _ rfl (heapBd _ _ _ _ _ _) Try.underlying29 rfl size29) rfl ⟨?_, ?_⟩
  · rfl
  · repeat (first | exact Below.refl _ _ | (refine Below.setCell ?_ (by simp) _) | (refine below_drewN ?_ _) | (refine Below.drew ?_) | (refine Below.alloc ?_ (by simp; try omega) _) | (refine Below.grow ?_ (by simp; try omega) _ _))

set_option maxHeartbeats 1000000 in
theorem write_fld_8a (f : Nat → Int) (n p v : Int) (w : World) (r q c : Int) (hl : loc (f 2) n = some (.fld 8 r q c)) (hp : lvl n ≤ p) (ht : (bits .and .i64 (n / 1024) 3 == 3) = false) (hn : (n == 768) = false) :
    Calls Try.prog 11 #[fileV f, .int .i64 n, .int .i64 p, .int .u32 v] w fun e w' => e = .returned (.tuple #[fileV (upd f 8 (bits .andNot .u32 (bits .or .u32 (bits .andNot .u32 (f 8) q) (bits .and .u32 v q)) c)), .bool true]) ∧ Below w.heap.size w w' := by
  have HL := _root_.Go.Lib.hid hl
  have HP := _root_.Go.Lib.hid hp
  clear hl hp
  go_enter Try.func11, Try.ntmps11
  go_wp2_with (first | (go_at_call 15; refine (find_any _ _ (f 2) _ (by simp; omega) (by simp)).mono ?_; rw [HL.out]; rintro e w1 ⟨hb1, rfl⟩; obtain ⟨ext, d, rfl⟩ := below_grow hb1; clear hb1) | (go_at_call 16; refine (may_yes _ _ _ HP.out).mono ?_; rintro e w2 ⟨rfl, rfl⟩) | ((with_reducible apply wpList_load_at 29 Try.underlying29); rfl; exact heapA _ _ _ _ _ _; rfl; exact size29) | ((with_reducible apply wpList_store_at 29); rfl; rfl; exact heapB _ _ _ _ _ _; exact size29; rfl; rfl; (simp only [World.setRow_alloc_past, World.setRow_alloc_at, World.setRow_grow, World.size_alloc, World.size_grow, lt_add_ext, Nat.lt_add_one]; rfl)))
  refine wp_region_quiet_tail 18 (by kernel_rfl) (by kernel_rfl) rfl ?_
  simp only [List.take_succ_cons, List.take_zero, List.drop_succ_cons, List.drop_zero]
  repeat (go_big_quiet_step (fail))
  refine wpQuiet_nil ?_
  go_wp2_with (first | ((with_reducible apply wpList_load_at 29 Try.underlying29); rfl; exact heapAd _ _ _ _ _ _; rfl; exact size29) | ((with_reducible apply wpList_store_at 29); rfl; rfl; exact heapBd _ _ _ _ _ _; exact size29; rfl; rfl; (simp only [World.setRow_drew, World.setRow_alloc_past, World.setRow_alloc_at, World.setRow_grow, World.size_alloc, World.size_grow, lt_add_ext, Nat.lt_add_one]; rfl)))
  refine bodyPost_ret (v := .tuple #[fileV (upd f 8 (bits .andNot .u32 (bits .or .u32 (bits .andNot .u32 (f 8) q) (bits .and .u32 v q)) c)), .bool true]) (results_row_tmp (ty := 29) Try.results11 _ _ _ _ _ _ _ rfl (heapBd _ _ _ _ _ _) Try.underlying29 rfl size29) rfl ⟨?_, ?_⟩
  · rfl
  · repeat (first | exact Below.refl _ _ | (refine Below.setCell ?_ (by simp) _) | (refine below_drewN ?_ _) | (refine Below.drew ?_) | (refine Below.alloc ?_ (by simp; try omega) _) | (refine Below.grow ?_ (by simp; try omega) _ _))

set_option maxHeartbeats 1000000 in
theorem write_fld_9a (f : Nat → Int) (n p v : Int) (w : World) (r q c : Int) (hl : loc (f 2) n = some (.fld 9 r q c)) (hp : lvl n ≤ p) (ht : (bits .and .i64 (n / 1024) 3 == 3) = false) (hn : (n == 768) = false) :
    Calls Try.prog 11 #[fileV f, .int .i64 n, .int .i64 p, .int .u32 v] w fun e w' => e = .returned (.tuple #[fileV (upd f 9 (bits .andNot .u32 (bits .or .u32 (bits .andNot .u32 (f 9) q) (bits .and .u32 v q)) c)), .bool true]) ∧ Below w.heap.size w w' := by
  have HL := _root_.Go.Lib.hid hl
  have HP := _root_.Go.Lib.hid hp
  clear hl hp
  go_enter Try.func11, Try.ntmps11
  go_wp2_with (first | (go_at_call 15; refine (find_any _ _ (f 2) _ (by simp; omega) (by simp)).mono ?_; rw [HL.out]; rintro e w1 ⟨hb1, rfl⟩; obtain ⟨ext, d, rfl⟩ := below_grow hb1; clear hb1) | (go_at_call 16; refine (may_yes _ _ _ HP.out).mono ?_; rintro e w2 ⟨rfl, rfl⟩) | ((with_reducible apply wpList_load_at 29 Try.underlying29); rfl; exact heapA _ _ _ _ _ _; rfl; exact size29) | ((with_reducible apply wpList_store_at 29); rfl; rfl; exact heapB _ _ _ _ _ _; exact size29; rfl; rfl; (simp only [World.setRow_alloc_past, World.setRow_alloc_at, World.setRow_grow, World.size_alloc, World.size_grow, lt_add_ext, Nat.lt_add_one]; rfl)))
  refine wp_region_quiet_tail 18 (by kernel_rfl) (by kernel_rfl) rfl ?_
  simp only [List.take_succ_cons, List.take_zero, List.drop_succ_cons, List.drop_zero]
  repeat (go_big_quiet_step (fail))
  refine wpQuiet_nil ?_
  go_wp2_with (first | ((with_reducible apply wpList_load_at 29 Try.underlying29); rfl; exact heapAd _ _ _ _ _ _; rfl; exact size29) | ((with_reducible apply wpList_store_at 29); rfl; rfl; exact heapBd _ _ _ _ _ _; exact size29; rfl; rfl; (simp only [World.setRow_drew, World.setRow_alloc_past, World.setRow_alloc_at, World.setRow_grow, World.size_alloc, World.size_grow, lt_add_ext, Nat.lt_add_one]; rfl)))
  refine bodyPost_ret (v := .tuple #[fileV (upd f 9 (bits .andNot .u32 (bits .or .u32 (bits .andNot .u32 (f 9) q) (bits .and .u32 v q)) c)), .bool true]) (results_row_tmp (ty := 29) Try.results11 _ _ _ _ _ _ _ rfl (heapBd _ _ _ _ _ _) Try.underlying29 rfl size29) rfl ⟨?_, ?_⟩
  · rfl
  · repeat (first | exact Below.refl _ _ | (refine Below.setCell ?_ (by simp) _) | (refine below_drewN ?_ _) | (refine Below.drew ?_) | (refine Below.alloc ?_ (by simp; try omega) _) | (refine Below.grow ?_ (by simp; try omega) _ _))

set_option maxHeartbeats 1000000 in
theorem write_fld_10a (f : Nat → Int) (n p v : Int) (w : World) (r q c : Int) (hl : loc (f 2) n = some (.fld 10 r q c)) (hp : lvl n ≤ p) (ht : (bits .and .i64 (n / 1024) 3 == 3) = false) (hn : (n == 768) = false) :
    Calls Try.prog 11 #[fileV f, .int .i64 n, .int .i64 p, .int .u32 v] w fun e w' => e = .returned (.tuple #[fileV (upd f 10 (bits .andNot .u32 (bits .or .u32 (bits .andNot .u32 (f 10) q) (bits .and .u32 v q)) c)), .bool true]) ∧ Below w.heap.size w w' := by
  have HL := _root_.Go.Lib.hid hl
  have HP := _root_.Go.Lib.hid hp
  clear hl hp
  go_enter Try.func11, Try.ntmps11
  go_wp2_with (first | (go_at_call 15; refine (find_any _ _ (f 2) _ (by simp; omega) (by simp)).mono ?_; rw [HL.out]; rintro e w1 ⟨hb1, rfl⟩; obtain ⟨ext, d, rfl⟩ := below_grow hb1; clear hb1) | (go_at_call 16; refine (may_yes _ _ _ HP.out).mono ?_; rintro e w2 ⟨rfl, rfl⟩) | ((with_reducible apply wpList_load_at 29 Try.underlying29); rfl; exact heapA _ _ _ _ _ _; rfl; exact size29) | ((with_reducible apply wpList_store_at 29); rfl; rfl; exact heapB _ _ _ _ _ _; exact size29; rfl; rfl; (simp only [World.setRow_alloc_past, World.setRow_alloc_at, World.setRow_grow, World.size_alloc, World.size_grow, lt_add_ext, Nat.lt_add_one]; rfl)))
  refine wp_region_quiet_tail 18 (by kernel_rfl) (by kernel_rfl) rfl ?_
  simp only [List.take_succ_cons, List.take_zero, List.drop_succ_cons, List.drop_zero]
  repeat (go_big_quiet_step (fail))
  refine wpQuiet_nil ?_
  go_wp2_with (first | ((with_reducible apply wpList_load_at 29 Try.underlying29); rfl; exact heapAd _ _ _ _ _ _; rfl; exact size29) | ((with_reducible apply wpList_store_at 29); rfl; rfl; exact heapBd _ _ _ _ _ _; exact size29; rfl; rfl; (simp only [World.setRow_drew, World.setRow_alloc_past, World.setRow_alloc_at, World.setRow_grow, World.size_alloc, World.size_grow, lt_add_ext, Nat.lt_add_one]; rfl)))
  refine bodyPost_ret (v := .tuple #[fileV (upd f 10 (bits .andNot .u32 (bits .or .u32 (bits .andNot .u32 (f 10) q) (bits .and .u32 v q)) c)), .bool true]) (results_row_tmp (ty := 29) Try.results11 _ _ _ _ _ _ _ rfl (heapBd _ _ _ _ _ _) Try.underlying29 rfl size29) rfl ⟨?_, ?_⟩
  · rfl
  · repeat (first | exact Below.refl _ _ | (refine Below.setCell ?_ (by simp) _) | (refine below_drewN ?_ _) | (refine Below.drew ?_) | (refine Below.alloc ?_ (by simp; try omega) _) | (refine Below.grow ?_ (by simp; try omega) _ _))

set_option maxHeartbeats 1000000 in
theorem write_fld_11a (f : Nat → Int) (n p v : Int) (w : World) (r q c : Int) (hl : loc (f 2) n = some (.fld 11 r q c)) (hp : lvl n ≤ p) (ht : (bits .and .i64 (n / 1024) 3 == 3) = false) (hn : (n == 768) = false) :
    Calls Try.prog 11 #[fileV f, .int .i64 n, .int .i64 p, .int .u32 v] w fun e w' => e = .returned (.tuple #[fileV (upd f 11 (bits .andNot .u32 (bits .or .u32 (bits .andNot .u32 (f 11) q) (bits .and .u32 v q)) c)), .bool true]) ∧ Below w.heap.size w w' := by
  have HL := _root_.Go.Lib.hid hl
  have HP := _root_.Go.Lib.hid hp
  clear hl hp
  go_enter Try.func11, Try.ntmps11
  go_wp2_with (first | (go_at_call 15; refine (find_any _ _ (f 2) _ (by simp; omega) (by simp)).mono ?_; rw [HL.out]; rintro e w1 ⟨hb1, rfl⟩; obtain ⟨ext, d, rfl⟩ := below_grow hb1; clear hb1) | (go_at_call 16; refine (may_yes _ _ _ HP.out).mono ?_; rintro e w2 ⟨rfl, rfl⟩) | ((with_reducible apply wpList_load_at 29 Try.underlying29); rfl; exact heapA _ _ _ _ _ _; rfl; exact size29) | ((with_reducible apply wpList_store_at 29); rfl; rfl; exact heapB _ _ _ _ _ _; exact size29; rfl; rfl; (simp only [World.setRow_alloc_past, World.setRow_alloc_at, World.setRow_grow, World.size_alloc, World.size_grow, lt_add_ext, Nat.lt_add_one]; rfl)))
  refine wp_region_quiet_tail 18 (by kernel_rfl) (by kernel_rfl) rfl ?_
  simp only [List.take_succ_cons, List.take_zero, List.drop_succ_cons, List.drop_zero]
  repeat (go_big_quiet_step (fail))
  refine wpQuiet_nil ?_
  go_wp2_with (first | ((with_reducible apply wpList_load_at 29 Try.underlying29); rfl; exact heapAd _ _ _ _ _ _; rfl; exact size29) | ((with_reducible apply wpList_store_at 29); rfl; rfl; exact heapBd _ _ _ _ _ _; exact size29; rfl; rfl; (simp only [World.setRow_drew, World.setRow_alloc_past, World.setRow_alloc_at, World.setRow_grow, World.size_alloc, World.size_grow, lt_add_ext, Nat.lt_add_one]; rfl)))
  refine bodyPost_ret (v := .tuple #[fileV (upd f 11 (bits .andNot .u32 (bits .or .u32 (bits .andNot .u32 (f 11) q) (bits .and .u32 v q)) c)), .bool true]) (results_row_tmp (ty := 29) Try.results11 _ _ _ _ _ _ _ rfl (heapBd _ _ _ _ _ _) Try.underlying29 rfl size29) rfl ⟨?_, ?_⟩
  · rfl
  · repeat (first | exact Below.refl _ _ | (refine Below.setCell ?_ (by simp) _) | (refine below_drewN ?_ _) | (refine Below.drew ?_) | (refine Below.alloc ?_ (by simp; try omega) _) | (refine Below.grow ?_ (by simp; try omega) _ _))

set_option maxHeartbeats 1000000 in
theorem write_fld_12a (f : Nat → Int) (n p v : Int) (w : World) (r q c : Int) (hl : loc (f 2) n = some (.fld 12 r q c)) (hp : lvl n ≤ p) (ht : (bits .and .i64 (n / 1024) 3 == 3) = false) (hn : (n == 768) = false) :
    Calls Try.prog 11 #[fileV f, .int .i64 n, .int .i64 p, .int .u32 v] w fun e w' => e = .returned (.tuple #[fileV (upd f 12 (bits .andNot .u32 (bits .or .u32 (bits .andNot .u32 (f 12) q) (bits .and .u32 v q)) c)), .bool true]) ∧ Below w.heap.size w w' := by
  have HL := _root_.Go.Lib.hid hl
  have HP := _root_.Go.Lib.hid hp
  clear hl hp
  go_enter Try.func11, Try.ntmps11
  go_wp2_with (first | (go_at_call 15; refine (find_any _ _ (f 2) _ (by simp; omega) (by simp)).mono ?_; rw [HL.out]; rintro e w1 ⟨hb1, rfl⟩; obtain ⟨ext, d, rfl⟩ := below_grow hb1; clear hb1) | (go_at_call 16; refine (may_yes _ _ _ HP.out).mono ?_; rintro e w2 ⟨rfl, rfl⟩) | ((with_reducible apply wpList_load_at 29 Try.underlying29); rfl; exact heapA _ _ _ _ _ _; rfl; exact size29) | ((with_reducible apply wpList_store_at 29); rfl; rfl; exact heapB _ _ _ _ _ _; exact size29; rfl; rfl; (simp only [World.setRow_alloc_past, World.setRow_alloc_at, World.setRow_grow, World.size_alloc, World.size_grow, lt_add_ext, Nat.lt_add_one]; rfl)))
  refine wp_region_quiet_tail 18 (by kernel_rfl) (by kernel_rfl) rfl ?_
  simp only [List.take_succ_cons, List.take_zero, List.drop_succ_cons, List.drop_zero]
  repeat (go_big_quiet_step (fail))
  refine wpQuiet_nil ?_
  go_wp2_with (first | ((with_reducible apply wpList_load_at 29 Try.underlying29); rfl; exact heapAd _ _ _ _ _ _; rfl; exact size29) | ((with_reducible apply wpList_store_at 29); rfl; rfl; exact heapBd _ _ _ _ _ _; exact size29; rfl; rfl; (simp only [World.setRow_drew, World.setRow_alloc_past, World.setRow_alloc_at, World.setRow_grow, World.size_alloc, World.size_grow, lt_add_ext, Nat.lt_add_one]; rfl)))
  refine bodyPost_ret (v := .tuple #[fileV (upd f 12 (bits .andNot .u32 (bits .or .u32 (bits .andNot .u32 (f 12) q) (bits .and .u32 v q)) c)), .bool true]) (results_row_tmp (ty := 29) Try.results11 _ _ _ _ _ _ _ rfl (heapBd _ _ _ _ _ _) Try.underlying29 rfl size29) rfl ⟨?_, ?_⟩
  · rfl
  · repeat (first | exact Below.refl _ _ | (refine Below.setCell ?_ (by simp) _) | (refine below_drewN ?_ _) | (refine Below.drew ?_) | (refine Below.alloc ?_ (by simp; try omega) _) | (refine Below.grow ?_ (by simp; try omega) _ _))

set_option maxHeartbeats 1000000 in
theorem write_fld_13a (f : Nat → Int) (n p v : Int) (w : World) (r q c : Int) (hl : loc (f 2) n = some (.fld 13 r q c)) (hp : lvl n ≤ p) (ht : (bits .and .i64 (n / 1024) 3 == 3) = false) (hn : (n == 768) = false) :
    Calls Try.prog 11 #[fileV f, .int .i64 n, .int .i64 p, .int .u32 v] w fun e w' => e = .returned (.tuple #[fileV (upd f 13 (bits .andNot .u32 (bits .or .u32 (bits .andNot .u32 (f 13) q) (bits .and .u32 v q)) c)), .bool true]) ∧ Below w.heap.size w w' := by
  have HL := _root_.Go.Lib.hid hl
  have HP := _root_.Go.Lib.hid hp
  clear hl hp
  go_enter Try.func11, Try.ntmps11
  go_wp2_with (first | (go_at_call 15; refine (find_any _ _ (f 2) _ (by simp; omega) (by simp)).mono ?_; rw [HL.out]; rintro e w1 ⟨hb1, rfl⟩; obtain ⟨ext, d, rfl⟩ := below_grow hb1; clear hb1) | (go_at_call 16; refine (may_yes _ _ _ HP.out).mono ?_; rintro e w2 ⟨rfl, rfl⟩) | ((with_reducible apply wpList_load_at 29 Try.underlying29); rfl; exact heapA _ _ _ _ _ _; rfl; exact size29) | ((with_reducible apply wpList_store_at 29); rfl; rfl; exact heapB _ _ _ _ _ _; exact size29; rfl; rfl; (simp only [World.setRow_alloc_past, World.setRow_alloc_at, World.setRow_grow, World.size_alloc, World.size_grow, lt_add_ext, Nat.lt_add_one]; rfl)))
  refine wp_region_quiet_tail 18 (by kernel_rfl) (by kernel_rfl) rfl ?_
  simp only [List.take_succ_cons, List.take_zero, List.drop_succ_cons, List.drop_zero]
  repeat (go_big_quiet_step (fail))
  refine wpQuiet_nil ?_
  go_wp2_with (first | ((with_reducible apply wpList_load_at 29 Try.underlying29); rfl; exact heapAd _ _ _ _ _ _; rfl; exact size29) | ((with_reducible apply wpList_store_at 29); rfl; rfl; exact heapBd _ _ _ _ _ _; exact size29; rfl; rfl; (simp only [World.setRow_drew, World.setRow_alloc_past, World.setRow_alloc_at, World.setRow_grow, World.size_alloc, World.size_grow, lt_add_ext, Nat.lt_add_one]; rfl)))
  refine bodyPost_ret (v := .tuple #[fileV (upd f 13 (bits .andNot .u32 (bits .or .u32 (bits .andNot .u32 (f 13) q) (bits .and .u32 v q)) c)), .bool true]) (results_row_tmp (ty := 29) Try.results11 _ _ _ _ _ _ _ rfl (heapBd _ _ _ _ _ _) Try.underlying29 rfl size29) rfl ⟨?_, ?_⟩
  · rfl
  · repeat (first | exact Below.refl _ _ | (refine Below.setCell ?_ (by simp) _) | (refine below_drewN ?_ _) | (refine Below.drew ?_) | (refine Below.alloc ?_ (by simp; try omega) _) | (refine Below.grow ?_ (by simp; try omega) _ _))

set_option maxHeartbeats 1000000 in
theorem write_fld_14a (f : Nat → Int) (n p v : Int) (w : World) (r q c : Int) (hl : loc (f 2) n = some (.fld 14 r q c)) (hp : lvl n ≤ p) (ht : (bits .and .i64 (n / 1024) 3 == 3) = false) (hn : (n == 768) = false) :
    Calls Try.prog 11 #[fileV f, .int .i64 n, .int .i64 p, .int .u32 v] w fun e w' => e = .returned (.tuple #[fileV (upd f 14 (bits .andNot .u32 (bits .or .u32 (bits .andNot .u32 (f 14) q) (bits .and .u32 v q)) c)), .bool true]) ∧ Below w.heap.size w w' := by
  have HL := _root_.Go.Lib.hid hl
  have HP := _root_.Go.Lib.hid hp
  clear hl hp
  go_enter Try.func11, Try.ntmps11
  go_wp2_with (first | (go_at_call 15; refine (find_any _ _ (f 2) _ (by simp; omega) (by simp)).mono ?_; rw [HL.out]; rintro e w1 ⟨hb1, rfl⟩; obtain ⟨ext, d, rfl⟩ := below_grow hb1; clear hb1) | (go_at_call 16; refine (may_yes _ _ _ HP.out).mono ?_; rintro e w2 ⟨rfl, rfl⟩) | ((with_reducible apply wpList_load_at 29 Try.underlying29); rfl; exact heapA _ _ _ _ _ _; rfl; exact size29) | ((with_reducible apply wpList_store_at 29); rfl; rfl; exact heapB _ _ _ _ _ _; exact size29; rfl; rfl; (simp only [World.setRow_alloc_past, World.setRow_alloc_at, World.setRow_grow, World.size_alloc, World.size_grow, lt_add_ext, Nat.lt_add_one]; rfl)))
  refine wp_region_quiet_tail 18 (by kernel_rfl) (by kernel_rfl) rfl ?_
  simp only [List.take_succ_cons, List.take_zero, List.drop_succ_cons, List.drop_zero]
  repeat (go_big_quiet_step (fail))
  refine wpQuiet_nil ?_
  go_wp2_with (first | ((with_reducible apply wpList_load_at 29 Try.underlying29); rfl; exact heapAd _ _ _ _ _ _; rfl; exact size29) | ((with_reducible apply wpList_store_at 29); rfl; rfl; exact heapBd _ _ _ _ _ _; exact size29; rfl; rfl; (simp only [World.setRow_drew, World.setRow_alloc_past, World.setRow_alloc_at, World.setRow_grow, World.size_alloc, World.size_grow, lt_add_ext, Nat.lt_add_one]; rfl)))
  refine bodyPost_ret (v := .tuple #[fileV (upd f 14 (bits .andNot .u32 (bits .or .u32 (bits .andNot .u32 (f 14) q) (bits .and .u32 v q)) c)), .bool true]) (results_row_tmp (ty := 29) Try.results11 _ _ _ _ _ _ _ rfl (heapBd _ _ _ _ _ _) Try.underlying29 rfl size29) rfl ⟨?_, ?_⟩
  · rfl
  · repeat (first | exact Below.refl _ _ | (refine Below.setCell ?_ (by simp) _) | (refine below_drewN ?_ _) | (refine Below.drew ?_) | (refine Below.alloc ?_ (by simp; try omega) _) | (refine Below.grow ?_ (by simp; try omega) _ _))

set_option maxHeartbeats 1000000 in
theorem write_fld_15a (f : Nat → Int) (n p v : Int) (w : World) (r q c : Int) (hl : loc (f 2) n = some (.fld 15 r q c)) (hp : lvl n ≤ p) (ht : (bits .and .i64 (n / 1024) 3 == 3) = false) (hn : (n == 768) = false) :
    Calls Try.prog 11 #[fileV f, .int .i64 n, .int .i64 p, .int .u32 v] w fun e w' => e = .returned (.tuple #[fileV (upd f 15 (bits .andNot .u32 (bits .or .u32 (bits .andNot .u32 (f 15) q) (bits .and .u32 v q)) c)), .bool true]) ∧ Below w.heap.size w w' := by
  have HL := _root_.Go.Lib.hid hl
  have HP := _root_.Go.Lib.hid hp
  clear hl hp
  go_enter Try.func11, Try.ntmps11
  go_wp2_with (first | (go_at_call 15; refine (find_any _ _ (f 2) _ (by simp; omega) (by simp)).mono ?_; rw [HL.out]; rintro e w1 ⟨hb1, rfl⟩; obtain ⟨ext, d, rfl⟩ := below_grow hb1; clear hb1) | (go_at_call 16; refine (may_yes _ _ _ HP.out).mono ?_; rintro e w2 ⟨rfl, rfl⟩) | ((with_reducible apply wpList_load_at 29 Try.underlying29); rfl; exact heapA _ _ _ _ _ _; rfl; exact size29) | ((with_reducible apply wpList_store_at 29); rfl; rfl; exact heapB _ _ _ _ _ _; exact size29; rfl; rfl; (simp only [World.setRow_alloc_past, World.setRow_alloc_at, World.setRow_grow, World.size_alloc, World.size_grow, lt_add_ext, Nat.lt_add_one]; rfl)))
  refine wp_region_quiet_tail 18 (by kernel_rfl) (by kernel_rfl) rfl ?_
  simp only [List.take_succ_cons, List.take_zero, List.drop_succ_cons, List.drop_zero]
  repeat (go_big_quiet_step (fail))
  refine wpQuiet_nil ?_
  go_wp2_with (first | ((with_reducible apply wpList_load_at 29 Try.underlying29); rfl; exact heapAd _ _ _ _ _ _; rfl; exact size29) | ((with_reducible apply wpList_store_at 29); rfl; rfl; exact heapBd _ _ _ _ _ _; exact size29; rfl; rfl; (simp only [World.setRow_drew, World.setRow_alloc_past, World.setRow_alloc_at, World.setRow_grow, World.size_alloc, World.size_grow, lt_add_ext, Nat.lt_add_one]; rfl)))
  refine bodyPost_ret (v := .tuple #[fileV (upd f 15 (bits .andNot .u32 (bits .or .u32 (bits .andNot .u32 (f 15) q) (bits .and .u32 v q)) c)), .bool true]) (results_row_tmp (ty := 29) Try.results11 _ _ _ _ _ _ _ rfl (heapBd _ _ _ _ _ _) Try.underlying29 rfl size29) rfl ⟨?_, ?_⟩
  · rfl
  · repeat (first | exact Below.refl _ _ | (refine Below.setCell ?_ (by simp) _) | (refine below_drewN ?_ _) | (refine Below.drew ?_) | (refine Below.alloc ?_ (by simp; try omega) _) | (refine Below.grow ?_ (by simp; try omega) _ _))

set_option maxHeartbeats 1000000 in
theorem write_own (f : Nat → Int) (n p v : Int) (w : World) (x r : Int) (hl : loc (f 2) n = some (.own x r)) (hp : lvl n ≤ p) (ht : (bits .and .i64 (n / 1024) 3 == 3) = false) (hn : (n == 768) = false) :
    Calls Try.prog 11 #[fileV f, .int .i64 n, .int .i64 p, .int .u32 v] w fun e w' => e = .returned (.tuple #[fileV f, .bool true]) ∧ Below w.heap.size w w' := by
  have HL := _root_.Go.Lib.hid hl
  have HP := _root_.Go.Lib.hid hp
  clear hl hp
  go_enter Try.func11, Try.ntmps11
  go_wp2_with (first | (go_at_call 15; (refine (find_any _ _ (f 2) _ (by simp; omega) (by simp)).mono ?_; rw [HL.out]; rintro e w1 ⟨hb1, k, hk1, hk2, hk3, rfl⟩; obtain ⟨ext, d, rfl⟩ := below_grow hb1; clear hb1; have hk1' : w.heap.size + 1 + 1 ≤ k := (by simpa only [World.size_alloc] using hk1); have hk4 : k ≠ w.heap.size := (by omega); have hk5 : k ≠ w.heap.size + 1 := (by omega); have hk6 : w.heap.size ≠ k := (by omega); have hk7 : w.heap.size + 1 ≠ k := (by omega); have hk8 : k < w.heap.size + 1 + 1 + ext.size := (by have := World.block_lt_of_cell? _ _ hk2; simpa using this))) | (go_at_call 16; refine (may_yes _ _ _ HP.out).mono ?_; rintro e w2 ⟨rfl, rfl⟩) | ((with_reducible apply wpList_load_at 29 Try.underlying29); rfl; exact heapA _ _ _ _ _ _; rfl; exact size29) | ((with_reducible apply wpList_store_at 29); rfl; rfl; exact heapB _ _ _ _ _ _; exact size29; rfl; rfl; (simp only [World.setRow_alloc_past, World.setRow_alloc_at, World.setRow_grow, World.size_alloc, World.size_grow, lt_add_ext, Nat.lt_add_one]; rfl)))
  refine wp_region_quiet_tail 18 (by kernel_rfl) (by kernel_rfl) rfl ?_
  simp only [List.take_succ_cons, List.take_zero, List.drop_succ_cons, List.drop_zero]
  repeat (go_big_quiet_step (fail))
  refine wpQuiet_nil ?_
  go_wp2_with (first | ((with_reducible apply wpList_load_at 29 Try.underlying29); rfl; exact heapAd _ _ _ _ _ _; rfl; exact size29) | ((with_reducible apply wpList_store_at 29); rfl; rfl; exact heapBd _ _ _ _ _ _; exact size29; rfl; rfl; (simp only [World.setRow_drew, World.setRow_alloc_past, World.setRow_alloc_at, World.setRow_grow, World.size_alloc, World.size_grow, lt_add_ext, Nat.lt_add_one]; rfl)))
  refine bodyPost_ret (v := .tuple #[fileV f, .bool true]) (results_row_tmp (ty := 29) Try.results11 _ _ _ _ _ _ _ rfl (heapBd _ _ _ _ _ _) Try.underlying29 rfl size29) rfl ⟨?_, ?_⟩
  · rfl
  · repeat (first | exact Below.refl _ _ | (refine Below.setCell ?_ (by simp) _) | (refine below_drewN ?_ _) | (refine Below.drew ?_) | (refine Below.alloc ?_ (by simp; try omega) _) | (refine Below.grow ?_ (by simp; try omega) _ _))

end Go.Proofs.Ytpmgdidigfincaa
