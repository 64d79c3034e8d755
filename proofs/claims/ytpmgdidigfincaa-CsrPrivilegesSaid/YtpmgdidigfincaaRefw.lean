/-
  The reference's Write and Lines (csr), and the program's Lines, walked.
-/
import Derived.Test.YtpmgdidigfincaaRef
import Derived.OpenShut
set_option linter.unusedSimpArgs false
namespace Go.Proofs.Ytpmgdidigfincaa
open Go.RowKit Go.Val Go.MapKept

/-- What is written to the status. -/
def st (o v : Int) : Int := mk o (if v / 2048 % 4 = 2 then v - 4096 else v) 924074

theorem status_any (o v : Int) (w : World) (ho : 0 ≤ o ∧ o < 4294967296) (hv : 0 ≤ v ∧ v < 4294967296) :
    Calls Try.prog 18 #[.int .u32 o, .int .u32 v] w fun e w' => e = .returned (.int .u32 (st o v)) ∧ w = w' := by
  obtain ⟨v1, v2⟩ := hv
  by_cases h : v / 2048 % 4 = 2
  · have e : st o v = mk o (v - 4096) 924074 := by simp [st, h]
    rw [e]
    have h' : (v / 2048 % 4 == 2) = true := by simpa using h
    have h4 : 4096 ≤ v := by omega
    have HO := _root_.Go.Lib.hid ho
    clear h e ho
    go_enter Try.func18, Try.ntmps18
    go_wp2_with (go_at_call 19; refine (mask_any _ _ _ _ HO.out (by omega) (by omega)).mono ?_; rintro e w1 ⟨rfl, rfl⟩)
    go_ret
    exact ⟨rfl, rfl⟩
  · have e : st o v = mk o v 924074 := by simp [st, h]
    rw [e]
    have h' : (v / 2048 % 4 == 2) = false := by simpa using h
    have HO := _root_.Go.Lib.hid ho
    clear h e ho
    go_enter Try.func18, Try.ntmps18
    go_wp2_with (go_at_call 19; refine (mask_any _ _ _ _ HO.out (by omega) (by omega)).mono ?_; rintro e w1 ⟨rfl, rfl⟩)
    go_ret
    exact ⟨rfl, rfl⟩

theorem bits_range (op : BinOp) (x y : Int) : 0 ≤ bits op .u32 x y ∧ bits op .u32 x y < 4294967296 := by
  have := bounds_u32 (wf_bits op .u32 x y)
  omega

theorem super_256 (f : Nat → Int) (v : Int) (w : World) (hF : Fits f) (hv : 0 ≤ v ∧ v < 4294967296) :
    Calls Try.prog 20 #[fileV f, .int .i64 256, .int .u32 v] w fun e w' => e = .returned (fileV (upd f 0 (mk (f 0) v 786722))) ∧ Below w.heap.size w w' := by
  have HF := _root_.Go.Lib.hid hF
  obtain ⟨v1, v2⟩ := hv
  clear hF
  go_enter Try.func20, Try.ntmps20
  go_wp2_with (first | (go_at_call 19; refine (mask_any _ _ _ _ (by first | exact HF.out.1 _ (by decide) | omega) (by first | omega | exact HF.out.1 _ (by decide)) (by first | omega | exact HF.out.1 _ (by decide) | exact bits_range _ _ _)).mono ?_; rintro e w1 ⟨rfl, rfl⟩) | ((with_reducible apply wpList_load_at 25 Try.underlying25); rfl; (first | exact heap_alloc_new _ _ | exact heapR0 _ _ _ | exact heapR1 _ _ _ | exact heapR2 _ _ _ _ _ | exact heapR3 _ _ _ _ _ | exact heapR4 _ _ _ _ _ _ _); rfl; exact size25) | ((with_reducible apply wpList_store_at 25); rfl; rfl; (first | exact heap_alloc_new _ _ | exact heapR0 _ _ _ | exact heapR1 _ _ _ | exact heapR2 _ _ _ _ _ | exact heapR3 _ _ _ _ _ | exact heapR4 _ _ _ _ _ _ _); exact size25; rfl; rfl; (simp only [World.setRow_alloc_past, World.setRow_alloc_at, World.setRow_grow, World.size_alloc, World.size_grow, lt_add_ext, Nat.lt_add_one]; rfl)))
  refine bodyPost_ret (v := fileV (upd f 0 (mk (f 0) v 786722))) (results_cell_row Try.results20 _ _ _ _ _ _ _ rfl (by (first | exact heap_alloc_new _ _ | exact heapR0 _ _ _ | exact heapR1 _ _ _ | exact heapR2 _ _ _ _ _ | exact heapR3 _ _ _ _ _ | exact heapR4 _ _ _ _ _ _ _)) Try.underlying25 rfl size25) rfl ⟨?_, ?_⟩
  · rfl
  · repeat (first | exact Below.refl _ _ | (refine Below.setCell ?_ (by simp) _) | (refine below_drewN ?_ _) | (refine Below.drew ?_) | (refine Below.alloc ?_ (by simp; try omega) _) | (refine Below.grow ?_ (by simp; try omega) _ _))

theorem super_260 (f : Nat → Int) (v : Int) (w : World) (hF : Fits f) (hv : 0 ≤ v ∧ v < 4294967296) :
    Calls Try.prog 20 #[fileV f, .int .i64 260, .int .u32 v] w fun e w' => e = .returned (fileV (upd f 3 (mk (f 3) v (f 2)))) ∧ Below w.heap.size w w' := by
  have HF := _root_.Go.Lib.hid hF
  obtain ⟨v1, v2⟩ := hv
  clear hF
  go_enter Try.func20, Try.ntmps20
  go_wp2_with (first | (go_at_call 19; refine (mask_any _ _ _ _ (by first | exact HF.out.1 _ (by decide) | omega) (by first | omega | exact HF.out.1 _ (by decide)) (by first | omega | exact HF.out.1 _ (by decide) | exact bits_range _ _ _)).mono ?_; rintro e w1 ⟨rfl, rfl⟩) | ((with_reducible apply wpList_load_at 25 Try.underlying25); rfl; (first | exact heap_alloc_new _ _ | exact heapR0 _ _ _ | exact heapR1 _ _ _ | exact heapR2 _ _ _ _ _ | exact heapR3 _ _ _ _ _ | exact heapR4 _ _ _ _ _ _ _); rfl; exact size25) | ((with_reducible apply wpList_store_at 25); rfl; rfl; (first | exact heap_alloc_new _ _ | exact heapR0 _ _ _ | exact heapR1 _ _ _ | exact heapR2 _ _ _ _ _ | exact heapR3 _ _ _ _ _ | exact heapR4 _ _ _ _ _ _ _); exact size25; rfl; rfl; (simp only [World.setRow_alloc_past, World.setRow_alloc_at, World.setRow_grow, World.size_alloc, World.size_grow, lt_add_ext, Nat.lt_add_one]; rfl)))
  refine bodyPost_ret (v := fileV (upd f 3 (mk (f 3) v (f 2)))) (results_cell_row Try.results20 _ _ _ _ _ _ _ rfl (by (first | exact heap_alloc_new _ _ | exact heapR0 _ _ _ | exact heapR1 _ _ _ | exact heapR2 _ _ _ _ _ | exact heapR3 _ _ _ _ _ | exact heapR4 _ _ _ _ _ _ _)) Try.underlying25 rfl size25) rfl ⟨?_, ?_⟩
  · rfl
  · repeat (first | exact Below.refl _ _ | (refine Below.setCell ?_ (by simp) _) | (refine below_drewN ?_ _) | (refine Below.drew ?_) | (refine Below.alloc ?_ (by simp; try omega) _) | (refine Below.grow ?_ (by simp; try omega) _ _))

theorem super_261 (f : Nat → Int) (v : Int) (w : World) (hF : Fits f) (hv : 0 ≤ v ∧ v < 4294967296) :
    Calls Try.prog 20 #[fileV f, .int .i64 261, .int .u32 v] w fun e w' => e = .returned (fileV (upd f 10 (mk v 0 2))) ∧ Below w.heap.size w w' := by
  have HF := _root_.Go.Lib.hid hF
  obtain ⟨v1, v2⟩ := hv
  clear hF
  go_enter Try.func20, Try.ntmps20
  go_wp2_with (first | (go_at_call 19; refine (mask_any _ _ _ _ (by first | exact HF.out.1 _ (by decide) | omega) (by first | omega | exact HF.out.1 _ (by decide)) (by first | omega | exact HF.out.1 _ (by decide) | exact bits_range _ _ _)).mono ?_; rintro e w1 ⟨rfl, rfl⟩) | ((with_reducible apply wpList_load_at 25 Try.underlying25); rfl; (first | exact heap_alloc_new _ _ | exact heapR0 _ _ _ | exact heapR1 _ _ _ | exact heapR2 _ _ _ _ _ | exact heapR3 _ _ _ _ _ | exact heapR4 _ _ _ _ _ _ _); rfl; exact size25) | ((with_reducible apply wpList_store_at 25); rfl; rfl; (first | exact heap_alloc_new _ _ | exact heapR0 _ _ _ | exact heapR1 _ _ _ | exact heapR2 _ _ _ _ _ | exact heapR3 _ _ _ _ _ | exact heapR4 _ _ _ _ _ _ _); exact size25; rfl; rfl; (simp only [World.setRow_alloc_past, World.setRow_alloc_at, World.setRow_grow, World.size_alloc, World.size_grow, lt_add_ext, Nat.lt_add_one]; rfl)))
  refine bodyPost_ret (v := fileV (upd f 10 (mk v 0 2))) (results_cell_row Try.results20 _ _ _ _ _ _ _ rfl (by (first | exact heap_alloc_new _ _ | exact heapR0 _ _ _ | exact heapR1 _ _ _ | exact heapR2 _ _ _ _ _ | exact heapR3 _ _ _ _ _ | exact heapR4 _ _ _ _ _ _ _)) Try.underlying25 rfl size25) rfl ⟨?_, ?_⟩
  · rfl
  · repeat (first | exact Below.refl _ _ | (refine Below.setCell ?_ (by simp) _) | (refine below_drewN ?_ _) | (refine Below.drew ?_) | (refine Below.alloc ?_ (by simp; try omega) _) | (refine Below.grow ?_ (by simp; try omega) _ _))

theorem super_320 (f : Nat → Int) (v : Int) (w : World) (hF : Fits f) (hv : 0 ≤ v ∧ v < 4294967296) :
    Calls Try.prog 20 #[fileV f, .int .i64 320, .int .u32 v] w fun e w' => e = .returned (fileV (upd f 11 (v))) ∧ Below w.heap.size w w' := by
  have HF := _root_.Go.Lib.hid hF
  obtain ⟨v1, v2⟩ := hv
  clear hF
  go_enter Try.func20, Try.ntmps20
  go_wp2_with (first | (go_at_call 19; refine (mask_any _ _ _ _ (by first | exact HF.out.1 _ (by decide) | omega) (by first | omega | exact HF.out.1 _ (by decide)) (by first | omega | exact HF.out.1 _ (by decide) | exact bits_range _ _ _)).mono ?_; rintro e w1 ⟨rfl, rfl⟩) | ((with_reducible apply wpList_load_at 25 Try.underlying25); rfl; (first | exact heap_alloc_new _ _ | exact heapR0 _ _ _ | exact heapR1 _ _ _ | exact heapR2 _ _ _ _ _ | exact heapR3 _ _ _ _ _ | exact heapR4 _ _ _ _ _ _ _); rfl; exact size25) | ((with_reducible apply wpList_store_at 25); rfl; rfl; (first | exact heap_alloc_new _ _ | exact heapR0 _ _ _ | exact heapR1 _ _ _ | exact heapR2 _ _ _ _ _ | exact heapR3 _ _ _ _ _ | exact heapR4 _ _ _ _ _ _ _); exact size25; rfl; rfl; (simp only [World.setRow_alloc_past, World.setRow_alloc_at, World.setRow_grow, World.size_alloc, World.size_grow, lt_add_ext, Nat.lt_add_one]; rfl)))
  refine bodyPost_ret (v := fileV (upd f 11 (v))) (results_cell_row Try.results20 _ _ _ _ _ _ _ rfl (by (first | exact heap_alloc_new _ _ | exact heapR0 _ _ _ | exact heapR1 _ _ _ | exact heapR2 _ _ _ _ _ | exact heapR3 _ _ _ _ _ | exact heapR4 _ _ _ _ _ _ _)) Try.underlying25 rfl size25) rfl ⟨?_, ?_⟩
  · rfl
  · repeat (first | exact Below.refl _ _ | (refine Below.setCell ?_ (by simp) _) | (refine below_drewN ?_ _) | (refine Below.drew ?_) | (refine Below.alloc ?_ (by simp; try omega) _) | (refine Below.grow ?_ (by simp; try omega) _ _))

theorem super_321 (f : Nat → Int) (v : Int) (w : World) (hF : Fits f) (hv : 0 ≤ v ∧ v < 4294967296) :
    Calls Try.prog 20 #[fileV f, .int .i64 321, .int .u32 v] w fun e w' => e = .returned (fileV (upd f 12 (v - v % 4))) ∧ Below w.heap.size w w' := by
  have HF := _root_.Go.Lib.hid hF
  obtain ⟨v1, v2⟩ := hv
  clear hF
  go_enter Try.func20, Try.ntmps20
  go_wp2_with (first | (go_at_call 19; refine (mask_any _ _ _ _ (by first | exact HF.out.1 _ (by decide) | omega) (by first | omega | exact HF.out.1 _ (by decide)) (by first | omega | exact HF.out.1 _ (by decide) | exact bits_range _ _ _)).mono ?_; rintro e w1 ⟨rfl, rfl⟩) | ((with_reducible apply wpList_load_at 25 Try.underlying25); rfl; (first | exact heap_alloc_new _ _ | exact heapR0 _ _ _ | exact heapR1 _ _ _ | exact heapR2 _ _ _ _ _ | exact heapR3 _ _ _ _ _ | exact heapR4 _ _ _ _ _ _ _); rfl; exact size25) | ((with_reducible apply wpList_store_at 25); rfl; rfl; (first | exact heap_alloc_new _ _ | exact heapR0 _ _ _ | exact heapR1 _ _ _ | exact heapR2 _ _ _ _ _ | exact heapR3 _ _ _ _ _ | exact heapR4 _ _ _ _ _ _ _); exact size25; rfl; rfl; (simp only [World.setRow_alloc_past, World.setRow_alloc_at, World.setRow_grow, World.size_alloc, World.size_grow, lt_add_ext, Nat.lt_add_one]; rfl)))
  refine bodyPost_ret (v := fileV (upd f 12 (v - v % 4))) (results_cell_row Try.results20 _ _ _ _ _ _ _ rfl (by (first | exact heap_alloc_new _ _ | exact heapR0 _ _ _ | exact heapR1 _ _ _ | exact heapR2 _ _ _ _ _ | exact heapR3 _ _ _ _ _ | exact heapR4 _ _ _ _ _ _ _)) Try.underlying25 rfl size25) rfl ⟨?_, ?_⟩
  · rfl
  · repeat (first | exact Below.refl _ _ | (refine Below.setCell ?_ (by simp) _) | (refine below_drewN ?_ _) | (refine Below.drew ?_) | (refine Below.alloc ?_ (by simp; try omega) _) | (refine Below.grow ?_ (by simp; try omega) _ _))

theorem super_322 (f : Nat → Int) (v : Int) (w : World) (hF : Fits f) (hv : 0 ≤ v ∧ v < 4294967296) :
    Calls Try.prog 20 #[fileV f, .int .i64 322, .int .u32 v] w fun e w' => e = .returned (fileV (upd f 13 (v))) ∧ Below w.heap.size w w' := by
  have HF := _root_.Go.Lib.hid hF
  obtain ⟨v1, v2⟩ := hv
  clear hF
  go_enter Try.func20, Try.ntmps20
  go_wp2_with (first | (go_at_call 19; refine (mask_any _ _ _ _ (by first | exact HF.out.1 _ (by decide) | omega) (by first | omega | exact HF.out.1 _ (by decide)) (by first | omega | exact HF.out.1 _ (by decide) | exact bits_range _ _ _)).mono ?_; rintro e w1 ⟨rfl, rfl⟩) | ((with_reducible apply wpList_load_at 25 Try.underlying25); rfl; (first | exact heap_alloc_new _ _ | exact heapR0 _ _ _ | exact heapR1 _ _ _ | exact heapR2 _ _ _ _ _ | exact heapR3 _ _ _ _ _ | exact heapR4 _ _ _ _ _ _ _); rfl; exact size25) | ((with_reducible apply wpList_store_at 25); rfl; rfl; (first | exact heap_alloc_new _ _ | exact heapR0 _ _ _ | exact heapR1 _ _ _ | exact heapR2 _ _ _ _ _ | exact heapR3 _ _ _ _ _ | exact heapR4 _ _ _ _ _ _ _); exact size25; rfl; rfl; (simp only [World.setRow_alloc_past, World.setRow_alloc_at, World.setRow_grow, World.size_alloc, World.size_grow, lt_add_ext, Nat.lt_add_one]; rfl)))
  refine bodyPost_ret (v := fileV (upd f 13 (v))) (results_cell_row Try.results20 _ _ _ _ _ _ _ rfl (by (first | exact heap_alloc_new _ _ | exact heapR0 _ _ _ | exact heapR1 _ _ _ | exact heapR2 _ _ _ _ _ | exact heapR3 _ _ _ _ _ | exact heapR4 _ _ _ _ _ _ _)) Try.underlying25 rfl size25) rfl ⟨?_, ?_⟩
  · rfl
  · repeat (first | exact Below.refl _ _ | (refine Below.setCell ?_ (by simp) _) | (refine below_drewN ?_ _) | (refine Below.drew ?_) | (refine Below.alloc ?_ (by simp; try omega) _) | (refine Below.grow ?_ (by simp; try omega) _ _))

theorem super_323 (f : Nat → Int) (v : Int) (w : World) (hF : Fits f) (hv : 0 ≤ v ∧ v < 4294967296) :
    Calls Try.prog 20 #[fileV f, .int .i64 323, .int .u32 v] w fun e w' => e = .returned (fileV (upd f 14 (v))) ∧ Below w.heap.size w w' := by
  have HF := _root_.Go.Lib.hid hF
  obtain ⟨v1, v2⟩ := hv
  clear hF
  go_enter Try.func20, Try.ntmps20
  go_wp2_with (first | (go_at_call 19; refine (mask_any _ _ _ _ (by first | exact HF.out.1 _ (by decide) | omega) (by first | omega | exact HF.out.1 _ (by decide)) (by first | omega | exact HF.out.1 _ (by decide) | exact bits_range _ _ _)).mono ?_; rintro e w1 ⟨rfl, rfl⟩) | ((with_reducible apply wpList_load_at 25 Try.underlying25); rfl; (first | exact heap_alloc_new _ _ | exact heapR0 _ _ _ | exact heapR1 _ _ _ | exact heapR2 _ _ _ _ _ | exact heapR3 _ _ _ _ _ | exact heapR4 _ _ _ _ _ _ _); rfl; exact size25) | ((with_reducible apply wpList_store_at 25); rfl; rfl; (first | exact heap_alloc_new _ _ | exact heapR0 _ _ _ | exact heapR1 _ _ _ | exact heapR2 _ _ _ _ _ | exact heapR3 _ _ _ _ _ | exact heapR4 _ _ _ _ _ _ _); exact size25; rfl; rfl; (simp only [World.setRow_alloc_past, World.setRow_alloc_at, World.setRow_grow, World.size_alloc, World.size_grow, lt_add_ext, Nat.lt_add_one]; rfl)))
  refine bodyPost_ret (v := fileV (upd f 14 (v))) (results_cell_row Try.results20 _ _ _ _ _ _ _ rfl (by (first | exact heap_alloc_new _ _ | exact heapR0 _ _ _ | exact heapR1 _ _ _ | exact heapR2 _ _ _ _ _ | exact heapR3 _ _ _ _ _ | exact heapR4 _ _ _ _ _ _ _)) Try.underlying25 rfl size25) rfl ⟨?_, ?_⟩
  · rfl
  · repeat (first | exact Below.refl _ _ | (refine Below.setCell ?_ (by simp) _) | (refine below_drewN ?_ _) | (refine Below.drew ?_) | (refine Below.alloc ?_ (by simp; try omega) _) | (refine Below.grow ?_ (by simp; try omega) _ _))

theorem super_324 (f : Nat → Int) (v : Int) (w : World) (hF : Fits f) (hv : 0 ≤ v ∧ v < 4294967296) :
    Calls Try.prog 20 #[fileV f, .int .i64 324, .int .u32 v] w fun e w' => e = .returned (fileV (upd f 4 (mk (f 4) v (bits .and .u32 (f 2) 2)))) ∧ Below w.heap.size w w' := by
  have HF := _root_.Go.Lib.hid hF
  obtain ⟨v1, v2⟩ := hv
  clear hF
  go_enter Try.func20, Try.ntmps20
  go_wp2_with (first | (go_at_call 19; refine (mask_any _ _ _ _ (by first | exact HF.out.1 _ (by decide) | omega) (by first | omega | exact HF.out.1 _ (by decide)) (by first | omega | exact HF.out.1 _ (by decide) | exact bits_range _ _ _)).mono ?_; rintro e w1 ⟨rfl, rfl⟩) | ((with_reducible apply wpList_load_at 25 Try.underlying25); rfl; (first | exact heap_alloc_new _ _ | exact heapR0 _ _ _ | exact heapR1 _ _ _ | exact heapR2 _ _ _ _ _ | exact heapR3 _ _ _ _ _ | exact heapR4 _ _ _ _ _ _ _); rfl; exact size25) | ((with_reducible apply wpList_store_at 25); rfl; rfl; (first | exact heap_alloc_new _ _ | exact heapR0 _ _ _ | exact heapR1 _ _ _ | exact heapR2 _ _ _ _ _ | exact heapR3 _ _ _ _ _ | exact heapR4 _ _ _ _ _ _ _); exact size25; rfl; rfl; (simp only [World.setRow_alloc_past, World.setRow_alloc_at, World.setRow_grow, World.size_alloc, World.size_grow, lt_add_ext, Nat.lt_add_one]; rfl)))
  refine bodyPost_ret (v := fileV (upd f 4 (mk (f 4) v (bits .and .u32 (f 2) 2)))) (results_cell_row Try.results20 _ _ _ _ _ _ _ rfl (by (first | exact heap_alloc_new _ _ | exact heapR0 _ _ _ | exact heapR1 _ _ _ | exact heapR2 _ _ _ _ _ | exact heapR3 _ _ _ _ _ | exact heapR4 _ _ _ _ _ _ _)) Try.underlying25 rfl size25) rfl ⟨?_, ?_⟩
  · rfl
  · repeat (first | exact Below.refl _ _ | (refine Below.setCell ?_ (by simp) _) | (refine below_drewN ?_ _) | (refine Below.drew ?_) | (refine Below.alloc ?_ (by simp; try omega) _) | (refine Below.grow ?_ (by simp; try omega) _ _))

theorem super_384 (f : Nat → Int) (v : Int) (w : World) (hF : Fits f) (hv : 0 ≤ v ∧ v < 4294967296) :
    Calls Try.prog 20 #[fileV f, .int .i64 384, .int .u32 v] w fun e w' => e = .returned (fileV (upd f 15 (v))) ∧ Below w.heap.size w w' := by
  have HF := _root_.Go.Lib.hid hF
  obtain ⟨v1, v2⟩ := hv
  clear hF
  go_enter Try.func20, Try.ntmps20
  go_wp2_with (first | (go_at_call 19; refine (mask_any _ _ _ _ (by first | exact HF.out.1 _ (by decide) | omega) (by first | omega | exact HF.out.1 _ (by decide)) (by first | omega | exact HF.out.1 _ (by decide) | exact bits_range _ _ _)).mono ?_; rintro e w1 ⟨rfl, rfl⟩) | ((with_reducible apply wpList_load_at 25 Try.underlying25); rfl; (first | exact heap_alloc_new _ _ | exact heapR0 _ _ _ | exact heapR1 _ _ _ | exact heapR2 _ _ _ _ _ | exact heapR3 _ _ _ _ _ | exact heapR4 _ _ _ _ _ _ _); rfl; exact size25) | ((with_reducible apply wpList_store_at 25); rfl; rfl; (first | exact heap_alloc_new _ _ | exact heapR0 _ _ _ | exact heapR1 _ _ _ | exact heapR2 _ _ _ _ _ | exact heapR3 _ _ _ _ _ | exact heapR4 _ _ _ _ _ _ _); exact size25; rfl; rfl; (simp only [World.setRow_alloc_past, World.setRow_alloc_at, World.setRow_grow, World.size_alloc, World.size_grow, lt_add_ext, Nat.lt_add_one]; rfl)))
  refine bodyPost_ret (v := fileV (upd f 15 (v))) (results_cell_row Try.results20 _ _ _ _ _ _ _ rfl (by (first | exact heap_alloc_new _ _ | exact heapR0 _ _ _ | exact heapR1 _ _ _ | exact heapR2 _ _ _ _ _ | exact heapR3 _ _ _ _ _ | exact heapR4 _ _ _ _ _ _ _)) Try.underlying25 rfl size25) rfl ⟨?_, ?_⟩
  · rfl
  · repeat (first | exact Below.refl _ _ | (refine Below.setCell ?_ (by simp) _) | (refine below_drewN ?_ _) | (refine Below.drew ?_) | (refine Below.alloc ?_ (by simp; try omega) _) | (refine Below.grow ?_ (by simp; try omega) _ _))

theorem super_other (f : Nat → Int) (n v : Int) (w : World) (h256 : (n == 256) = false) (h260 : (n == 260) = false) (h261 : (n == 261) = false) (h320 : (n == 320) = false) (h321 : (n == 321) = false) (h322 : (n == 322) = false) (h323 : (n == 323) = false) (h324 : (n == 324) = false) (h384 : (n == 384) = false) :
    Calls Try.prog 20 #[fileV f, .int .i64 n, .int .u32 v] w fun e w' => e = .returned (fileV f) ∧ Below w.heap.size w w' := by
  go_enter Try.func20, Try.ntmps20
  go_wp2_with (first | ((with_reducible apply wpList_load_at 25 Try.underlying25); rfl; (first | exact heap_alloc_new _ _ | exact heapR0 _ _ _ | exact heapR1 _ _ _ | exact heapR2 _ _ _ _ _ | exact heapR3 _ _ _ _ _ | exact heapR4 _ _ _ _ _ _ _); rfl; exact size25) | ((with_reducible apply wpList_store_at 25); rfl; rfl; (first | exact heap_alloc_new _ _ | exact heapR0 _ _ _ | exact heapR1 _ _ _ | exact heapR2 _ _ _ _ _ | exact heapR3 _ _ _ _ _ | exact heapR4 _ _ _ _ _ _ _); exact size25; rfl; rfl; (simp only [World.setRow_alloc_past, World.setRow_alloc_at, World.setRow_grow, World.size_alloc, World.size_grow, lt_add_ext, Nat.lt_add_one]; rfl)))
  refine bodyPost_ret (v := fileV f) (results_cell_row Try.results20 _ _ _ _ _ _ _ rfl (by (first | exact heap_alloc_new _ _ | exact heapR0 _ _ _ | exact heapR1 _ _ _ | exact heapR2 _ _ _ _ _ | exact heapR3 _ _ _ _ _ | exact heapR4 _ _ _ _ _ _ _)) Try.underlying25 rfl size25) rfl ⟨?_, ?_⟩
  · rfl
  · repeat (first | exact Below.refl _ _ | (refine Below.setCell ?_ (by simp) _) | (refine below_drewN ?_ _) | (refine Below.drew ?_) | (refine Below.alloc ?_ (by simp; try omega) _) | (refine Below.grow ?_ (by simp; try omega) _ _))

theorem refLines_any (f : Nat → Int) (v : Int) (w : World) (hF : Fits f) (hv : 0 ≤ v ∧ v < 4294967296) :
    Calls Try.prog 14 #[fileV f, .int .u32 v] w fun e w' => e = .returned (fileV (upd f 4 (mk (f 4) v 2184))) ∧ Below w.heap.size w w' := by
  have HF := _root_.Go.Lib.hid hF
  obtain ⟨v1, v2⟩ := hv
  clear hF
  go_enter Try.func14, Try.ntmps14
  go_wp2_with (first | (go_at_call 19; refine (mask_any _ _ _ _ (by first | exact HF.out.1 _ (by decide) | omega) (by first | omega | exact HF.out.1 _ (by decide)) (by first | omega | exact HF.out.1 _ (by decide) | exact bits_range _ _ _)).mono ?_; rintro e w1 ⟨rfl, rfl⟩) | ((with_reducible apply wpList_load_at 25 Try.underlying25); rfl; (first | exact heap_alloc_new _ _ | exact heapR0 _ _ _ | exact heapR1 _ _ _ | exact heapR2 _ _ _ _ _ | exact heapR3 _ _ _ _ _ | exact heapR4 _ _ _ _ _ _ _); rfl; exact size25) | ((with_reducible apply wpList_store_at 25); rfl; rfl; (first | exact heap_alloc_new _ _ | exact heapR0 _ _ _ | exact heapR1 _ _ _ | exact heapR2 _ _ _ _ _ | exact heapR3 _ _ _ _ _ | exact heapR4 _ _ _ _ _ _ _); exact size25; rfl; rfl; (simp only [World.setRow_alloc_past, World.setRow_alloc_at, World.setRow_grow, World.size_alloc, World.size_grow, lt_add_ext, Nat.lt_add_one]; rfl)))
  refine bodyPost_ret (v := fileV (upd f 4 (mk (f 4) v 2184))) (results_cell_row Try.results14 _ _ _ _ _ _ _ rfl (by (first | exact heap_alloc_new _ _ | exact heapR0 _ _ _ | exact heapR1 _ _ _ | exact heapR2 _ _ _ _ _ | exact heapR3 _ _ _ _ _ | exact heapR4 _ _ _ _ _ _ _)) Try.underlying25 rfl size25) rfl ⟨?_, ?_⟩
  · rfl
  · repeat (first | exact Below.refl _ _ | (refine Below.setCell ?_ (by simp) _) | (refine below_drewN ?_ _) | (refine Below.drew ?_) | (refine Below.alloc ?_ (by simp; try omega) _) | (refine Below.grow ?_ (by simp; try omega) _ _))

theorem lines_any (f : Nat → Int) (v : Int) (w : World) :
    Calls Try.prog 13 #[fileV f, .int .u32 v] w fun e w' => e = .returned (fileV (upd f 4 (bits .or .u32 (bits .andNot .u32 (f 4) 2184) (bits .and .u32 v 2184)))) ∧ Below w.heap.size w w' := by
  go_enter Try.func13, Try.ntmps13
  go_wp2_with (first | ((with_reducible apply wpList_load_at 29 Try.underlying29); rfl; (first | exact heap_alloc_new _ _ | exact heapR0 _ _ _ | exact heapR1 _ _ _ | exact heapR2 _ _ _ _ _ | exact heapR3 _ _ _ _ _ | exact heapR4 _ _ _ _ _ _ _); rfl; exact size29) | ((with_reducible apply wpList_store_at 29); rfl; rfl; (first | exact heap_alloc_new _ _ | exact heapR0 _ _ _ | exact heapR1 _ _ _ | exact heapR2 _ _ _ _ _ | exact heapR3 _ _ _ _ _ | exact heapR4 _ _ _ _ _ _ _); exact size29; rfl; rfl; (simp only [World.setRow_alloc_past, World.setRow_alloc_at, World.setRow_grow, World.size_alloc, World.size_grow, lt_add_ext, Nat.lt_add_one]; rfl)))
  refine bodyPost_ret (v := fileV (upd f 4 (bits .or .u32 (bits .andNot .u32 (f 4) 2184) (bits .and .u32 v 2184)))) (results_cell_row Try.results13 _ _ _ _ _ _ _ rfl (by (first | exact heap_alloc_new _ _ | exact heapR0 _ _ _ | exact heapR1 _ _ _ | exact heapR2 _ _ _ _ _ | exact heapR3 _ _ _ _ _ | exact heapR4 _ _ _ _ _ _ _)) Try.underlying29 rfl size29) rfl ⟨?_, ?_⟩
  · rfl
  · repeat (first | exact Below.refl _ _ | (refine Below.setCell ?_ (by simp) _) | (refine below_drewN ?_ _) | (refine Below.drew ?_) | (refine Below.alloc ?_ (by simp; try omega) _) | (refine Below.grow ?_ (by simp; try omega) _ _))

theorem refWrite_no (f : Nat → Int) (n q v : Int) (w : World) (hF : Fits f) (hB : rrB f n q = false) :
    Calls Try.prog 12 #[fileV f, .int .i64 n, .int .i64 q, .int .u32 v] w fun e w' => e = .returned (.tuple #[fileV f, .bool false]) ∧ Below w.heap.size w w' := by
  have HF := _root_.Go.Lib.hid hF
  have HB := _root_.Go.Lib.hid hB
  clear hF hB
  go_enter Try.func12, Try.ntmps12
  go_wp2_with (first | (go_at_call 10; refine (refRead_any f _ q _ HF.out).mono ?_; rw [HB.out]; rintro e w1 ⟨rfl, hb1⟩; obtain ⟨ext, d, rfl⟩ := below_grow hb1; clear hb1) | ((with_reducible apply wpList_load_at 25 Try.underlying25); rfl; (first | exact heap_alloc_new _ _ | exact heapR0 _ _ _ | exact heapR1 _ _ _ | exact heapR2 _ _ _ _ _ | exact heapR3 _ _ _ _ _ | exact heapR4 _ _ _ _ _ _ _); rfl; exact size25) | ((with_reducible apply wpList_store_at 25); rfl; rfl; (first | exact heap_alloc_new _ _ | exact heapR0 _ _ _ | exact heapR1 _ _ _ | exact heapR2 _ _ _ _ _ | exact heapR3 _ _ _ _ _ | exact heapR4 _ _ _ _ _ _ _); exact size25; rfl; rfl; (simp only [World.setRow_alloc_past, World.setRow_alloc_at, World.setRow_grow, World.size_alloc, World.size_grow, lt_add_ext, Nat.lt_add_one]; rfl)))
  refine bodyPost_ret (v := .tuple #[fileV f, .bool false]) (results_row_tmp (ty := 25) Try.results12 _ _ _ _ _ _ _ rfl (by (first | exact heap_alloc_new _ _ | exact heapR0 _ _ _ | exact heapR1 _ _ _ | exact heapR2 _ _ _ _ _ | exact heapR3 _ _ _ _ _ | exact heapR4 _ _ _ _ _ _ _)) Try.underlying25 rfl size25) rfl ⟨?_, ?_⟩
  · rfl
  · repeat (first | exact Below.refl _ _ | (refine Below.setCell ?_ (by simp) _) | (refine below_drewN ?_ _) | (refine Below.drew ?_) | (refine Below.alloc ?_ (by simp; try omega) _) | (refine Below.grow ?_ (by simp; try omega) _ _))

theorem refWrite_top (f : Nat → Int) (n q v : Int) (w : World) (hF : Fits f) (hB : rrB f n q = true) (hn : 0 ≤ n ∧ n ≤ 3860) (ht : n / 1024 % 4 = 3) :
    Calls Try.prog 12 #[fileV f, .int .i64 n, .int .i64 q, .int .u32 v] w fun e w' => e = .returned (.tuple #[fileV f, .bool false]) ∧ Below w.heap.size w w' := by
  have HF := _root_.Go.Lib.hid hF
  have HB := _root_.Go.Lib.hid hB
  obtain ⟨n1, n2⟩ := hn
  have ht' : (n / 1024 % 4 == 3) = true := by simpa using ht
  clear hF hB ht
  go_enter Try.func12, Try.ntmps12
  go_wp2_with (first | (go_at_call 10; refine (refRead_any f _ q _ HF.out).mono ?_; rw [HB.out]; rintro e w1 ⟨rfl, hb1⟩; obtain ⟨ext, d, rfl⟩ := below_grow hb1; clear hb1) | ((with_reducible apply wpList_load_at 25 Try.underlying25); rfl; (first | exact heap_alloc_new _ _ | exact heapR0 _ _ _ | exact heapR1 _ _ _ | exact heapR2 _ _ _ _ _ | exact heapR3 _ _ _ _ _ | exact heapR4 _ _ _ _ _ _ _); rfl; exact size25) | ((with_reducible apply wpList_store_at 25); rfl; rfl; (first | exact heap_alloc_new _ _ | exact heapR0 _ _ _ | exact heapR1 _ _ _ | exact heapR2 _ _ _ _ _ | exact heapR3 _ _ _ _ _ | exact heapR4 _ _ _ _ _ _ _); exact size25; rfl; rfl; (simp only [World.setRow_alloc_past, World.setRow_alloc_at, World.setRow_grow, World.size_alloc, World.size_grow, lt_add_ext, Nat.lt_add_one]; rfl)))
  refine bodyPost_ret (v := .tuple #[fileV f, .bool false]) (results_row_tmp (ty := 25) Try.results12 _ _ _ _ _ _ _ rfl (by (first | exact heap_alloc_new _ _ | exact heapR0 _ _ _ | exact heapR1 _ _ _ | exact heapR2 _ _ _ _ _ | exact heapR3 _ _ _ _ _ | exact heapR4 _ _ _ _ _ _ _)) Try.underlying25 rfl size25) rfl ⟨?_, ?_⟩
  · rfl
  · repeat (first | exact Below.refl _ _ | (refine Below.setCell ?_ (by simp) _) | (refine below_drewN ?_ _) | (refine Below.drew ?_) | (refine Below.alloc ?_ (by simp; try omega) _) | (refine Below.grow ?_ (by simp; try omega) _ _))

theorem refWrite_256 (f : Nat → Int) (q v : Int) (w : World) (hF : Fits f) (hv : 0 ≤ v ∧ v < 4294967296) (hB : rrB f 256 q = true) :
    Calls Try.prog 12 #[fileV f, .int .i64 256, .int .i64 q, .int .u32 v] w fun e w' => e = .returned (.tuple #[fileV (upd f 0 (mk (f 0) v 786722)), .bool true]) ∧ Below w.heap.size w w' := by
  have HF := _root_.Go.Lib.hid hF
  have HB := _root_.Go.Lib.hid hB
  obtain ⟨v1, v2⟩ := hv
  clear hF hB
  go_enter Try.func12, Try.ntmps12
  go_wp2_with (first | (go_at_call 10; refine (refRead_any f _ q _ HF.out).mono ?_; rw [HB.out]; rintro e w1 ⟨rfl, hb1⟩; obtain ⟨ext, d, rfl⟩ := below_grow hb1; clear hb1) | (go_at_call 20; refine (super_256 _ _ _ HF.out (by omega)).mono ?_; rintro e w1 ⟨rfl, hb1⟩; obtain ⟨ext2, d2, rfl⟩ := below_grow hb1; clear hb1) | ((with_reducible apply wpList_load_at 25 Try.underlying25); rfl; (first | exact heap_alloc_new _ _ | exact heapR0 _ _ _ | exact heapR1 _ _ _ | exact heapR2 _ _ _ _ _ | exact heapR3 _ _ _ _ _ | exact heapR4 _ _ _ _ _ _ _); rfl; exact size25) | ((with_reducible apply wpList_store_at 25); rfl; rfl; (first | exact heap_alloc_new _ _ | exact heapR0 _ _ _ | exact heapR1 _ _ _ | exact heapR2 _ _ _ _ _ | exact heapR3 _ _ _ _ _ | exact heapR4 _ _ _ _ _ _ _); exact size25; rfl; rfl; (simp only [World.setRow_alloc_past, World.setRow_alloc_at, World.setRow_grow, World.size_alloc, World.size_grow, lt_add_ext, Nat.lt_add_one]; rfl)))
  refine bodyPost_ret (v := .tuple #[fileV (upd f 0 (mk (f 0) v 786722)), .bool true]) (results_row_tmp (ty := 25) Try.results12 _ _ _ _ _ _ _ rfl (by (first | exact heap_alloc_new _ _ | exact heapR0 _ _ _ | exact heapR1 _ _ _ | exact heapR2 _ _ _ _ _ | exact heapR3 _ _ _ _ _ | exact heapR4 _ _ _ _ _ _ _)) Try.underlying25 rfl size25) rfl ⟨?_, ?_⟩
  · rfl
  · repeat (first | exact Below.refl _ _ | (refine Below.setCell ?_ (by simp) _) | (refine below_drewN ?_ _) | (refine Below.drew ?_) | (refine Below.alloc ?_ (by simp; try omega) _) | (refine Below.grow ?_ (by simp; try omega) _ _))

theorem refWrite_260 (f : Nat → Int) (q v : Int) (w : World) (hF : Fits f) (hv : 0 ≤ v ∧ v < 4294967296) (hB : rrB f 260 q = true) :
    Calls Try.prog 12 #[fileV f, .int .i64 260, .int .i64 q, .int .u32 v] w fun e w' => e = .returned (.tuple #[fileV (upd f 3 (mk (f 3) v (f 2))), .bool true]) ∧ Below w.heap.size w w' := by
  have HF := _root_.Go.Lib.hid hF
  have HB := _root_.Go.Lib.hid hB
  obtain ⟨v1, v2⟩ := hv
  clear hF hB
  go_enter Try.func12, Try.ntmps12
  go_wp2_with (first | (go_at_call 10; refine (refRead_any f _ q _ HF.out).mono ?_; rw [HB.out]; rintro e w1 ⟨rfl, hb1⟩; obtain ⟨ext, d, rfl⟩ := below_grow hb1; clear hb1) | (go_at_call 20; refine (super_260 _ _ _ HF.out (by omega)).mono ?_; rintro e w1 ⟨rfl, hb1⟩; obtain ⟨ext2, d2, rfl⟩ := below_grow hb1; clear hb1) | ((with_reducible apply wpList_load_at 25 Try.underlying25); rfl; (first | exact heap_alloc_new _ _ | exact heapR0 _ _ _ | exact heapR1 _ _ _ | exact heapR2 _ _ _ _ _ | exact heapR3 _ _ _ _ _ | exact heapR4 _ _ _ _ _ _ _); rfl; exact size25) | ((with_reducible apply wpList_store_at 25); rfl; rfl; (first | exact heap_alloc_new _ _ | exact heapR0 _ _ _ | exact heapR1 _ _ _ | exact heapR2 _ _ _ _ _ | exact heapR3 _ _ _ _ _ | exact heapR4 _ _ _ _ _ _ _); exact size25; rfl; rfl; (simp only [World.setRow_alloc_past, World.setRow_alloc_at, World.setRow_grow, World.size_alloc, World.size_grow, lt_add_ext, Nat.lt_add_one]; rfl)))
  refine bodyPost_ret (v := .tuple #[fileV (upd f 3 (mk (f 3) v (f 2))), .bool true]) (results_row_tmp (ty := 25) Try.results12 _ _ _ _ _ _ _ rfl (by (first | exact heap_alloc_new _ _ | exact heapR0 _ _ _ | exact heapR1 _ _ _ | exact heapR2 _ _ _ _ _ | exact heapR3 _ _ _ _ _ | exact heapR4 _ _ _ _ _ _ _)) Try.underlying25 rfl size25) rfl ⟨?_, ?_⟩
  · rfl
  · repeat (first | exact Below.refl _ _ | (refine Below.setCell ?_ (by simp) _) | (refine below_drewN ?_ _) | (refine Below.drew ?_) | (refine Below.alloc ?_ (by simp; try omega) _) | (refine Below.grow ?_ (by simp; try omega) _ _))

theorem refWrite_261 (f : Nat → Int) (q v : Int) (w : World) (hF : Fits f) (hv : 0 ≤ v ∧ v < 4294967296) (hB : rrB f 261 q = true) :
    Calls Try.prog 12 #[fileV f, .int .i64 261, .int .i64 q, .int .u32 v] w fun e w' => e = .returned (.tuple #[fileV (upd f 10 (mk v 0 2)), .bool true]) ∧ Below w.heap.size w w' := by
  have HF := _root_.Go.Lib.hid hF
  have HB := _root_.Go.Lib.hid hB
  obtain ⟨v1, v2⟩ := hv
  clear hF hB
  go_enter Try.func12, Try.ntmps12
  go_wp2_with (first | (go_at_call 10; refine (refRead_any f _ q _ HF.out).mono ?_; rw [HB.out]; rintro e w1 ⟨rfl, hb1⟩; obtain ⟨ext, d, rfl⟩ := below_grow hb1; clear hb1) | (go_at_call 20; refine (super_261 _ _ _ HF.out (by omega)).mono ?_; rintro e w1 ⟨rfl, hb1⟩; obtain ⟨ext2, d2, rfl⟩ := below_grow hb1; clear hb1) | ((with_reducible apply wpList_load_at 25 Try.underlying25); rfl; (first | exact heap_alloc_new _ _ | exact heapR0 _ _ _ | exact heapR1 _ _ _ | exact heapR2 _ _ _ _ _ | exact heapR3 _ _ _ _ _ | exact heapR4 _ _ _ _ _ _ _); rfl; exact size25) | ((with_reducible apply wpList_store_at 25); rfl; rfl; (first | exact heap_alloc_new _ _ | exact heapR0 _ _ _ | exact heapR1 _ _ _ | exact heapR2 _ _ _ _ _ | exact heapR3 _ _ _ _ _ | exact heapR4 _ _ _ _ _ _ _); exact size25; rfl; rfl; (simp only [World.setRow_alloc_past, World.setRow_alloc_at, World.setRow_grow, World.size_alloc, World.size_grow, lt_add_ext, Nat.lt_add_one]; rfl)))
  refine bodyPost_ret (v := .tuple #[fileV (upd f 10 (mk v 0 2)), .bool true]) (results_row_tmp (ty := 25) Try.results12 _ _ _ _ _ _ _ rfl (by (first | exact heap_alloc_new _ _ | exact heapR0 _ _ _ | exact heapR1 _ _ _ | exact heapR2 _ _ _ _ _ | exact heapR3 _ _ _ _ _ | exact heapR4 _ _ _ _ _ _ _)) Try.underlying25 rfl size25) rfl ⟨?_, ?_⟩
  · rfl
  · repeat (first | exact Below.refl _ _ | (refine Below.setCell ?_ (by simp) _) | (refine below_drewN ?_ _) | (refine Below.drew ?_) | (refine Below.alloc ?_ (by simp; try omega) _) | (refine Below.grow ?_ (by simp; try omega) _ _))

theorem refWrite_320 (f : Nat → Int) (q v : Int) (w : World) (hF : Fits f) (hv : 0 ≤ v ∧ v < 4294967296) (hB : rrB f 320 q = true) :
    Calls Try.prog 12 #[fileV f, .int .i64 320, .int .i64 q, .int .u32 v] w fun e w' => e = .returned (.tuple #[fileV (upd f 11 (v)), .bool true]) ∧ Below w.heap.size w w' := by
  have HF := _root_.Go.Lib.hid hF
  have HB := _root_.Go.Lib.hid hB
  obtain ⟨v1, v2⟩ := hv
  clear hF hB
  go_enter Try.func12, Try.ntmps12
  go_wp2_with (first | (go_at_call 10; refine (refRead_any f _ q _ HF.out).mono ?_; rw [HB.out]; rintro e w1 ⟨rfl, hb1⟩; obtain ⟨ext, d, rfl⟩ := below_grow hb1; clear hb1) | (go_at_call 20; refine (super_320 _ _ _ HF.out (by omega)).mono ?_; rintro e w1 ⟨rfl, hb1⟩; obtain ⟨ext2, d2, rfl⟩ := below_grow hb1; clear hb1) | ((with_reducible apply wpList_load_at 25 Try.underlying25); rfl; (first | exact heap_alloc_new _ _ | exact heapR0 _ _ _ | exact heapR1 _ _ _ | exact heapR2 _ _ _ _ _ | exact heapR3 _ _ _ _ _ | exact heapR4 _ _ _ _ _ _ _); rfl; exact size25) | ((with_reducible apply wpList_store_at 25); rfl; rfl; (first | exact heap_alloc_new _ _ | exact heapR0 _ _ _ | exact heapR1 _ _ _ | exact heapR2 _ _ _ _ _ | exact heapR3 _ _ _ _ _ | exact heapR4 _ _ _ _ _ _ _); exact size25; rfl; rfl; (simp only [World.setRow_alloc_past, World.setRow_alloc_at, World.setRow_grow, World.size_alloc, World.size_grow, lt_add_ext, Nat.lt_add_one]; rfl)))
  refine bodyPost_ret (v := .tuple #[fileV (upd f 11 (v)), .bool true]) (results_row_tmp (ty := 25) Try.results12 _ _ _ _ _ _ _ rfl (by (first | exact heap_alloc_new _ _ | exact heapR0 _ _ _ | exact heapR1 _ _ _ | exact heapR2 _ _ _ _ _ | exact heapR3 _ _ _ _ _ | exact heapR4 _ _ _ _ _ _ _)) Try.underlying25 rfl size25) rfl ⟨?_, ?_⟩
  · rfl
  · repeat (first | exact Below.refl _ _ | (refine Below.setCell ?_ (by simp) _) | (refine below_drewN ?_ _) | (refine Below.drew ?_) | (refine Below.alloc ?_ (by simp; try omega) _) | (refine Below.grow ?_ (by simp; try omega) _ _))

theorem refWrite_321 (f : Nat → Int) (q v : Int) (w : World) (hF : Fits f) (hv : 0 ≤ v ∧ v < 4294967296) (hB : rrB f 321 q = true) :
    Calls Try.prog 12 #[fileV f, .int .i64 321, .int .i64 q, .int .u32 v] w fun e w' => e = .returned (.tuple #[fileV (upd f 12 (v - v % 4)), .bool true]) ∧ Below w.heap.size w w' := by
  have HF := _root_.Go.Lib.hid hF
  have HB := _root_.Go.Lib.hid hB
  obtain ⟨v1, v2⟩ := hv
  clear hF hB
  go_enter Try.func12, Try.ntmps12
  go_wp2_with (first | (go_at_call 10; refine (refRead_any f _ q _ HF.out).mono ?_; rw [HB.out]; rintro e w1 ⟨rfl, hb1⟩; obtain ⟨ext, d, rfl⟩ := below_grow hb1; clear hb1) | (go_at_call 20; refine (super_321 _ _ _ HF.out (by omega)).mono ?_; rintro e w1 ⟨rfl, hb1⟩; obtain ⟨ext2, d2, rfl⟩ := below_grow hb1; clear hb1) | ((with_reducible apply wpList_load_at 25 Try.underlying25); rfl; (first | exact heap_alloc_new _ _ | exact heapR0 _ _ _ | exact heapR1 _ _ _ | exact heapR2 _ _ _ _ _ | exact heapR3 _ _ _ _ _ | exact heapR4 _ _ _ _ _ _ _); rfl; exact size25) | ((with_reducible apply wpList_store_at 25); rfl; rfl; (first | exact heap_alloc_new _ _ | exact heapR0 _ _ _ | exact heapR1 _ _ _ | exact heapR2 _ _ _ _ _ | exact heapR3 _ _ _ _ _ | exact heapR4 _ _ _ _ _ _ _); exact size25; rfl; rfl; (simp only [World.setRow_alloc_past, World.setRow_alloc_at, World.setRow_grow, World.size_alloc, World.size_grow, lt_add_ext, Nat.lt_add_one]; rfl)))
  refine bodyPost_ret (v := .tuple #[fileV (upd f 12 (v - v % 4)), .bool true]) (results_row_tmp (ty := 25) Try.results12 _ _ _ _ _ _ _ rfl (by (first | exact heap_alloc_new _ _ | exact heapR0 _ _ _ | exact heapR1 _ _ _ | exact heapR2 _ _ _ _ _ | exact heapR3 _ _ _ _ _ | exact heapR4 _ _ _ _ _ _ _)) Try.underlying25 rfl size25) rfl ⟨?_, ?_⟩
  · rfl
  · repeat (first | exact Below.refl _ _ | (refine Below.setCell ?_ (by simp) _) | (refine below_drewN ?_ _) | (refine Below.drew ?_) | (refine Below.alloc ?_ (by simp; try omega) _) | (refine Below.grow ?_ (by simp; try omega) _ _))

theorem refWrite_322 (f : Nat → Int) (q v : Int) (w : World) (hF : Fits f) (hv : 0 ≤ v ∧ v < 4294967296) (hB : rrB f 322 q = true) :
    Calls Try.prog 12 #[fileV f, .int .i64 322, .int .i64 q, .int .u32 v] w fun e w' => e = .returned (.tuple #[fileV (upd f 13 (v)), .bool true]) ∧ Below w.heap.size w w' := by
  have HF := _root_.Go.Lib.hid hF
  have HB := _root_.Go.Lib.hid hB
  obtain ⟨v1, v2⟩ := hv
  clear hF hB
  go_enter Try.func12, Try.ntmps12
  go_wp2_with (first | (go_at_call 10; refine (refRead_any f _ q _ HF.out).mono ?_; rw [HB.out]; rintro e w1 ⟨rfl, hb1⟩; obtain ⟨ext, d, rfl⟩ := below_grow hb1; clear hb1) | (go_at_call 20; refine (super_322 _ _ _ HF.out (by omega)).mono ?_; rintro e w1 ⟨rfl, hb1⟩; obtain ⟨ext2, d2, rfl⟩ := below_grow hb1; clear hb1) | ((with_reducible apply wpList_load_at 25 Try.underlying25); rfl; (first | exact heap_alloc_new _ _ | exact heapR0 _ _ _ | exact heapR1 _ _ _ | exact heapR2 _ _ _ _ _ | exact heapR3 _ _ _ _ _ | exact heapR4 _ _ _ _ _ _ _); rfl; exact size25) | ((with_reducible apply wpList_store_at 25); rfl; rfl; (first | exact heap_alloc_new _ _ | exact heapR0 _ _ _ | exact heapR1 _ _ _ | exact heapR2 _ _ _ _ _ | exact heapR3 _ _ _ _ _ | exact heapR4 _ _ _ _ _ _ _); exact size25; rfl; rfl; (simp only [World.setRow_alloc_past, World.setRow_alloc_at, World.setRow_grow, World.size_alloc, World.size_grow, lt_add_ext, Nat.lt_add_one]; rfl)))
  refine bodyPost_ret (v := .tuple #[fileV (upd f 13 (v)), .bool true]) (results_row_tmp (ty := 25) Try.results12 _ _ _ _ _ _ _ rfl (by (first | exact heap_alloc_new _ _ | exact heapR0 _ _ _ | exact heapR1 _ _ _ | exact heapR2 _ _ _ _ _ | exact heapR3 _ _ _ _ _ | exact heapR4 _ _ _ _ _ _ _)) Try.underlying25 rfl size25) rfl ⟨?_, ?_⟩
  · rfl
  · repeat (first | exact Below.refl _ _ | (refine Below.setCell ?_ (by simp) _) | (refine below_drewN ?_ _) | (refine Below.drew ?_) | (refine Below.alloc ?_ (by simp; try omega) _) | (refine Below.grow ?_ (by simp; try omega) _ _))

theorem refWrite_323 (f : Nat → Int) (q v : Int) (w : World) (hF : Fits f) (hv : 0 ≤ v ∧ v < 4294967296) (hB : rrB f 323 q = true) :
    Calls Try.prog 12 #[fileV f, .int .i64 323, .int .i64 q, .int .u32 v] w fun e w' => e = .returned (.tuple #[fileV (upd f 14 (v)), .bool true]) ∧ Below w.heap.size w w' := by
  have HF := _root_.Go.Lib.hid hF
  have HB := _root_.Go.Lib.hid hB
  obtain ⟨v1, v2⟩ := hv
  clear hF hB
  go_enter Try.func12, Try.ntmps12
  go_wp2_with (first | (go_at_call 10; refine (refRead_any f _ q _ HF.out).mono ?_; rw [HB.out]; rintro e w1 ⟨rfl, hb1⟩; obtain ⟨ext, d, rfl⟩ := below_grow hb1; clear hb1) | (go_at_call 20; refine (super_323 _ _ _ HF.out (by omega)).mono ?_; rintro e w1 ⟨rfl, hb1⟩; obtain ⟨ext2, d2, rfl⟩ := below_grow hb1; clear hb1) | ((with_reducible apply wpList_load_at 25 Try.underlying25); rfl; (first | exact heap_alloc_new _ _ | exact heapR0 _ _ _ | exact heapR1 _ _ _ | exact heapR2 _ _ _ _ _ | exact heapR3 _ _ _ _ _ | exact heapR4 _ _ _ _ _ _ _); rfl; exact size25) | ((with_reducible apply wpList_store_at 25); rfl; rfl; (first | exact heap_alloc_new _ _ | exact heapR0 _ _ _ | exact heapR1 _ _ _ | exact heapR2 _ _ _ _ _ | exact heapR3 _ _ _ _ _ | exact heapR4 _ _ _ _ _ _ _); exact size25; rfl; rfl; (simp only [World.setRow_alloc_past, World.setRow_alloc_at, World.setRow_grow, World.size_alloc, World.size_grow, lt_add_ext, Nat.lt_add_one]; rfl)))
  refine bodyPost_ret (v := .tuple #[fileV (upd f 14 (v)), .bool true]) (results_row_tmp (ty := 25) Try.results12 _ _ _ _ _ _ _ rfl (by (first | exact heap_alloc_new _ _ | exact heapR0 _ _ _ | exact heapR1 _ _ _ | exact heapR2 _ _ _ _ _ | exact heapR3 _ _ _ _ _ | exact heapR4 _ _ _ _ _ _ _)) Try.underlying25 rfl size25) rfl ⟨?_, ?_⟩
  · rfl
  · repeat (first | exact Below.refl _ _ | (refine Below.setCell ?_ (by simp) _) | (refine below_drewN ?_ _) | (refine Below.drew ?_) | (refine Below.alloc ?_ (by simp; try omega) _) | (refine Below.grow ?_ (by simp; try omega) _ _))

theorem refWrite_324 (f : Nat → Int) (q v : Int) (w : World) (hF : Fits f) (hv : 0 ≤ v ∧ v < 4294967296) (hB : rrB f 324 q = true) :
    Calls Try.prog 12 #[fileV f, .int .i64 324, .int .i64 q, .int .u32 v] w fun e w' => e = .returned (.tuple #[fileV (upd f 4 (mk (f 4) v (bits .and .u32 (f 2) 2))), .bool true]) ∧ Below w.heap.size w w' := by
  have HF := _root_.Go.Lib.hid hF
  have HB := _root_.Go.Lib.hid hB
  obtain ⟨v1, v2⟩ := hv
  clear hF hB
  go_enter Try.func12, Try.ntmps12
  go_wp2_with (first | (go_at_call 10; refine (refRead_any f _ q _ HF.out).mono ?_; rw [HB.out]; rintro e w1 ⟨rfl, hb1⟩; obtain ⟨ext, d, rfl⟩ := below_grow hb1; clear hb1) | (go_at_call 20; refine (super_324 _ _ _ HF.out (by omega)).mono ?_; rintro e w1 ⟨rfl, hb1⟩; obtain ⟨ext2, d2, rfl⟩ := below_grow hb1; clear hb1) | ((with_reducible apply wpList_load_at 25 Try.underlying25); rfl; (first | exact heap_alloc_new _ _ | exact heapR0 _ _ _ | exact heapR1 _ _ _ | exact heapR2 _ _ _ _ _ | exact heapR3 _ _ _ _ _ | exact heapR4 _ _ _ _ _ _ _); rfl; exact size25) | ((with_reducible apply wpList_store_at 25); rfl; rfl; (first | exact heap_alloc_new _ _ | exact heapR0 _ _ _ | exact heapR1 _ _ _ | exact heapR2 _ _ _ _ _ | exact heapR3 _ _ _ _ _ | exact heapR4 _ _ _ _ _ _ _); exact size25; rfl; rfl; (simp only [World.setRow_alloc_past, World.setRow_alloc_at, World.setRow_grow, World.size_alloc, World.size_grow, lt_add_ext, Nat.lt_add_one]; rfl)))
  refine bodyPost_ret (v := .tuple #[fileV (upd f 4 (mk (f 4) v (bits .and .u32 (f 2) 2))), .bool true]) (results_row_tmp (ty := 25) Try.results12 _ _ _ _ _ _ _ rfl (by (first | exact heap_alloc_new _ _ | exact heapR0 _ _ _ | exact heapR1 _ _ _ | exact heapR2 _ _ _ _ _ | exact heapR3 _ _ _ _ _ | exact heapR4 _ _ _ _ _ _ _)) Try.underlying25 rfl size25) rfl ⟨?_, ?_⟩
  · rfl
  · repeat (first | exact Below.refl _ _ | (refine Below.setCell ?_ (by simp) _) | (refine below_drewN ?_ _) | (refine Below.drew ?_) | (refine Below.alloc ?_ (by simp; try omega) _) | (refine Below.grow ?_ (by simp; try omega) _ _))

theorem refWrite_384 (f : Nat → Int) (q v : Int) (w : World) (hF : Fits f) (hv : 0 ≤ v ∧ v < 4294967296) (hB : rrB f 384 q = true) :
    Calls Try.prog 12 #[fileV f, .int .i64 384, .int .i64 q, .int .u32 v] w fun e w' => e = .returned (.tuple #[fileV (upd f 15 (v)), .bool true]) ∧ Below w.heap.size w w' := by
  have HF := _root_.Go.Lib.hid hF
  have HB := _root_.Go.Lib.hid hB
  obtain ⟨v1, v2⟩ := hv
  clear hF hB
  go_enter Try.func12, Try.ntmps12
  go_wp2_with (first | (go_at_call 10; refine (refRead_any f _ q _ HF.out).mono ?_; rw [HB.out]; rintro e w1 ⟨rfl, hb1⟩; obtain ⟨ext, d, rfl⟩ := below_grow hb1; clear hb1) | (go_at_call 20; refine (super_384 _ _ _ HF.out (by omega)).mono ?_; rintro e w1 ⟨rfl, hb1⟩; obtain ⟨ext2, d2, rfl⟩ := below_grow hb1; clear hb1) | ((with_reducible apply wpList_load_at 25 Try.underlying25); rfl; (first | exact heap_alloc_new _ _ | exact heapR0 _ _ _ | exact heapR1 _ _ _ | exact heapR2 _ _ _ _ _ | exact heapR3 _ _ _ _ _ | exact heapR4 _ _ _ _ _ _ _); rfl; exact size25) | ((with_reducible apply wpList_store_at 25); rfl; rfl; (first | exact heap_alloc_new _ _ | exact heapR0 _ _ _ | exact heapR1 _ _ _ | exact heapR2 _ _ _ _ _ | exact heapR3 _ _ _ _ _ | exact heapR4 _ _ _ _ _ _ _); exact size25; rfl; rfl; (simp only [World.setRow_alloc_past, World.setRow_alloc_at, World.setRow_grow, World.size_alloc, World.size_grow, lt_add_ext, Nat.lt_add_one]; rfl)))
  refine bodyPost_ret (v := .tuple #[fileV (upd f 15 (v)), .bool true]) (results_row_tmp (ty := 25) Try.results12 _ _ _ _ _ _ _ rfl (by (first | exact heap_alloc_new _ _ | exact heapR0 _ _ _ | exact heapR1 _ _ _ | exact heapR2 _ _ _ _ _ | exact heapR3 _ _ _ _ _ | exact heapR4 _ _ _ _ _ _ _)) Try.underlying25 rfl size25) rfl ⟨?_, ?_⟩
  · rfl
  · repeat (first | exact Below.refl _ _ | (refine Below.setCell ?_ (by simp) _) | (refine below_drewN ?_ _) | (refine Below.drew ?_) | (refine Below.alloc ?_ (by simp; try omega) _) | (refine Below.grow ?_ (by simp; try omega) _ _))

theorem refWrite_768 (f : Nat → Int) (q v : Int) (w : World) (hF : Fits f) (hv : 0 ≤ v ∧ v < 4294967296) (hB : rrB f 768 q = true) :
    Calls Try.prog 12 #[fileV f, .int .i64 768, .int .i64 q, .int .u32 v] w fun e w' => e = .returned (.tuple #[fileV (upd f 0 (st (f 0) v)), .bool true]) ∧ Below w.heap.size w w' := by
  have HF := _root_.Go.Lib.hid hF
  have HB := _root_.Go.Lib.hid hB
  obtain ⟨v1, v2⟩ := hv
  clear hF hB
  go_enter Try.func12, Try.ntmps12
  go_wp2_with (first | (go_at_call 10; refine (refRead_any f _ q _ HF.out).mono ?_; rw [HB.out]; rintro e w1 ⟨rfl, hb1⟩; obtain ⟨ext, d, rfl⟩ := below_grow hb1; clear hb1) | (go_at_call 20; refine (super_other (upd f 0 (st (f 0) v)) 768 _ _ rfl rfl rfl rfl rfl rfl rfl rfl rfl).mono ?_; rintro e w1 ⟨rfl, hb1⟩; obtain ⟨ext2, d2, rfl⟩ := below_grow hb1; clear hb1) | (go_at_call 18; refine (status_any _ _ _ (HF.out.1 _ (by decide)) (by omega)).mono ?_; rintro e w1 ⟨rfl, rfl⟩) | (go_at_call 19; refine (mask_any _ _ _ _ (by first | exact HF.out.1 _ (by decide) | omega) (by first | omega | exact HF.out.1 _ (by decide)) (by first | omega | exact HF.out.1 _ (by decide) | exact bits_range _ _ _)).mono ?_; rintro e w1 ⟨rfl, rfl⟩) | ((with_reducible apply wpList_load_at 25 Try.underlying25); rfl; (first | exact heap_alloc_new _ _ | exact heapR0 _ _ _ | exact heapR1 _ _ _ | exact heapR2 _ _ _ _ _ | exact heapR3 _ _ _ _ _ | exact heapR4 _ _ _ _ _ _ _); rfl; exact size25) | ((with_reducible apply wpList_store_at 25); rfl; rfl; (first | exact heap_alloc_new _ _ | exact heapR0 _ _ _ | exact heapR1 _ _ _ | exact heapR2 _ _ _ _ _ | exact heapR3 _ _ _ _ _ | exact heapR4 _ _ _ _ _ _ _); exact size25; rfl; rfl; (simp only [World.setRow_alloc_past, World.setRow_alloc_at, World.setRow_grow, World.size_alloc, World.size_grow, lt_add_ext, Nat.lt_add_one]; rfl)))
  refine bodyPost_ret (v := .tuple #[fileV (upd f 0 (st (f 0) v)), .bool true]) (results_row_tmp (ty := 25) Try.results12 _ _ _ _ _ _ _ rfl (by (first | exact heap_alloc_new _ _ | exact heapR0 _ _ _ | exact heapR1 _ _ _ | exact heapR2 _ _ _ _ _ | exact heapR3 _ _ _ _ _ | exact heapR4 _ _ _ _ _ _ _)) Try.underlying25 rfl size25) rfl ⟨?_, ?_⟩
  · rfl
  · repeat (first | exact Below.refl _ _ | (refine Below.setCell ?_ (by simp) _) | (refine below_drewN ?_ _) | (refine Below.drew ?_) | (refine Below.alloc ?_ (by simp; try omega) _) | (refine Below.grow ?_ (by simp; try omega) _ _))

theorem refWrite_770 (f : Nat → Int) (q v : Int) (w : World) (hF : Fits f) (hv : 0 ≤ v ∧ v < 4294967296) (hB : rrB f 770 q = true) :
    Calls Try.prog 12 #[fileV f, .int .i64 770, .int .i64 q, .int .u32 v] w fun e w' => e = .returned (.tuple #[fileV (upd f 1 (mk (f 1) v 46079)), .bool true]) ∧ Below w.heap.size w w' := by
  have HF := _root_.Go.Lib.hid hF
  have HB := _root_.Go.Lib.hid hB
  obtain ⟨v1, v2⟩ := hv
  clear hF hB
  go_enter Try.func12, Try.ntmps12
  go_wp2_with (first | (go_at_call 10; refine (refRead_any f _ q _ HF.out).mono ?_; rw [HB.out]; rintro e w1 ⟨rfl, hb1⟩; obtain ⟨ext, d, rfl⟩ := below_grow hb1; clear hb1) | (go_at_call 20; refine (super_other (upd f 1 (mk (f 1) v 46079)) 770 _ _ rfl rfl rfl rfl rfl rfl rfl rfl rfl).mono ?_; rintro e w1 ⟨rfl, hb1⟩; obtain ⟨ext2, d2, rfl⟩ := below_grow hb1; clear hb1) | (go_at_call 18; refine (status_any _ _ _ (HF.out.1 _ (by decide)) (by omega)).mono ?_; rintro e w1 ⟨rfl, rfl⟩) | (go_at_call 19; refine (mask_any _ _ _ _ (by first | exact HF.out.1 _ (by decide) | omega) (by first | omega | exact HF.out.1 _ (by decide)) (by first | omega | exact HF.out.1 _ (by decide) | exact bits_range _ _ _)).mono ?_; rintro e w1 ⟨rfl, rfl⟩) | ((with_reducible apply wpList_load_at 25 Try.underlying25); rfl; (first | exact heap_alloc_new _ _ | exact heapR0 _ _ _ | exact heapR1 _ _ _ | exact heapR2 _ _ _ _ _ | exact heapR3 _ _ _ _ _ | exact heapR4 _ _ _ _ _ _ _); rfl; exact size25) | ((with_reducible apply wpList_store_at 25); rfl; rfl; (first | exact heap_alloc_new _ _ | exact heapR0 _ _ _ | exact heapR1 _ _ _ | exact heapR2 _ _ _ _ _ | exact heapR3 _ _ _ _ _ | exact heapR4 _ _ _ _ _ _ _); exact size25; rfl; rfl; (simp only [World.setRow_alloc_past, World.setRow_alloc_at, World.setRow_grow, World.size_alloc, World.size_grow, lt_add_ext, Nat.lt_add_one]; rfl)))
  refine bodyPost_ret (v := .tuple #[fileV (upd f 1 (mk (f 1) v 46079)), .bool true]) (results_row_tmp (ty := 25) Try.results12 _ _ _ _ _ _ _ rfl (by (first | exact heap_alloc_new _ _ | exact heapR0 _ _ _ | exact heapR1 _ _ _ | exact heapR2 _ _ _ _ _ | exact heapR3 _ _ _ _ _ | exact heapR4 _ _ _ _ _ _ _)) Try.underlying25 rfl size25) rfl ⟨?_, ?_⟩
  · rfl
  · repeat (first | exact Below.refl _ _ | (refine Below.setCell ?_ (by simp) _) | (refine below_drewN ?_ _) | (refine Below.drew ?_) | (refine Below.alloc ?_ (by simp; try omega) _) | (refine Below.grow ?_ (by simp; try omega) _ _))

theorem refWrite_771 (f : Nat → Int) (q v : Int) (w : World) (hF : Fits f) (hv : 0 ≤ v ∧ v < 4294967296) (hB : rrB f 771 q = true) :
    Calls Try.prog 12 #[fileV f, .int .i64 771, .int .i64 q, .int .u32 v] w fun e w' => e = .returned (.tuple #[fileV (upd f 2 (mk (f 2) v 546)), .bool true]) ∧ Below w.heap.size w w' := by
  have HF := _root_.Go.Lib.hid hF
  have HB := _root_.Go.Lib.hid hB
  obtain ⟨v1, v2⟩ := hv
  clear hF hB
  go_enter Try.func12, Try.ntmps12
  go_wp2_with (first | (go_at_call 10; refine (refRead_any f _ q _ HF.out).mono ?_; rw [HB.out]; rintro e w1 ⟨rfl, hb1⟩; obtain ⟨ext, d, rfl⟩ := below_grow hb1; clear hb1) | (go_at_call 20; refine (super_other (upd f 2 (mk (f 2) v 546)) 771 _ _ rfl rfl rfl rfl rfl rfl rfl rfl rfl).mono ?_; rintro e w1 ⟨rfl, hb1⟩; obtain ⟨ext2, d2, rfl⟩ := below_grow hb1; clear hb1) | (go_at_call 18; refine (status_any _ _ _ (HF.out.1 _ (by decide)) (by omega)).mono ?_; rintro e w1 ⟨rfl, rfl⟩) | (go_at_call 19; refine (mask_any _ _ _ _ (by first | exact HF.out.1 _ (by decide) | omega) (by first | omega | exact HF.out.1 _ (by decide)) (by first | omega | exact HF.out.1 _ (by decide) | exact bits_range _ _ _)).mono ?_; rintro e w1 ⟨rfl, rfl⟩) | ((with_reducible apply wpList_load_at 25 Try.underlying25); rfl; (first | exact heap_alloc_new _ _ | exact heapR0 _ _ _ | exact heapR1 _ _ _ | exact heapR2 _ _ _ _ _ | exact heapR3 _ _ _ _ _ | exact heapR4 _ _ _ _ _ _ _); rfl; exact size25) | ((with_reducible apply wpList_store_at 25); rfl; rfl; (first | exact heap_alloc_new _ _ | exact heapR0 _ _ _ | exact heapR1 _ _ _ | exact heapR2 _ _ _ _ _ | exact heapR3 _ _ _ _ _ | exact heapR4 _ _ _ _ _ _ _); exact size25; rfl; rfl; (simp only [World.setRow_alloc_past, World.setRow_alloc_at, World.setRow_grow, World.size_alloc, World.size_grow, lt_add_ext, Nat.lt_add_one]; rfl)))
  refine bodyPost_ret (v := .tuple #[fileV (upd f 2 (mk (f 2) v 546)), .bool true]) (results_row_tmp (ty := 25) Try.results12 _ _ _ _ _ _ _ rfl (by (first | exact heap_alloc_new _ _ | exact heapR0 _ _ _ | exact heapR1 _ _ _ | exact heapR2 _ _ _ _ _ | exact heapR3 _ _ _ _ _ | exact heapR4 _ _ _ _ _ _ _)) Try.underlying25 rfl size25) rfl ⟨?_, ?_⟩
  · rfl
  · repeat (first | exact Below.refl _ _ | (refine Below.setCell ?_ (by simp) _) | (refine below_drewN ?_ _) | (refine Below.drew ?_) | (refine Below.alloc ?_ (by simp; try omega) _) | (refine Below.grow ?_ (by simp; try omega) _ _))

theorem refWrite_772 (f : Nat → Int) (q v : Int) (w : World) (hF : Fits f) (hv : 0 ≤ v ∧ v < 4294967296) (hB : rrB f 772 q = true) :
    Calls Try.prog 12 #[fileV f, .int .i64 772, .int .i64 q, .int .u32 v] w fun e w' => e = .returned (.tuple #[fileV (upd f 3 (mk (f 3) v 2730)), .bool true]) ∧ Below w.heap.size w w' := by
  have HF := _root_.Go.Lib.hid hF
  have HB := _root_.Go.Lib.hid hB
  obtain ⟨v1, v2⟩ := hv
  clear hF hB
  go_enter Try.func12, Try.ntmps12
  go_wp2_with (first | (go_at_call 10; refine (refRead_any f _ q _ HF.out).mono ?_; rw [HB.out]; rintro e w1 ⟨rfl, hb1⟩; obtain ⟨ext, d, rfl⟩ := below_grow hb1; clear hb1) | (go_at_call 20; refine (super_other (upd f 3 (mk (f 3) v 2730)) 772 _ _ rfl rfl rfl rfl rfl rfl rfl rfl rfl).mono ?_; rintro e w1 ⟨rfl, hb1⟩; obtain ⟨ext2, d2, rfl⟩ := below_grow hb1; clear hb1) | (go_at_call 18; refine (status_any _ _ _ (HF.out.1 _ (by decide)) (by omega)).mono ?_; rintro e w1 ⟨rfl, rfl⟩) | (go_at_call 19; refine (mask_any _ _ _ _ (by first | exact HF.out.1 _ (by decide) | omega) (by first | omega | exact HF.out.1 _ (by decide)) (by first | omega | exact HF.out.1 _ (by decide) | exact bits_range _ _ _)).mono ?_; rintro e w1 ⟨rfl, rfl⟩) | ((with_reducible apply wpList_load_at 25 Try.underlying25); rfl; (first | exact heap_alloc_new _ _ | exact heapR0 _ _ _ | exact heapR1 _ _ _ | exact heapR2 _ _ _ _ _ | exact heapR3 _ _ _ _ _ | exact heapR4 _ _ _ _ _ _ _); rfl; exact size25) | ((with_reducible apply wpList_store_at 25); rfl; rfl; (first | exact heap_alloc_new _ _ | exact heapR0 _ _ _ | exact heapR1 _ _ _ | exact heapR2 _ _ _ _ _ | exact heapR3 _ _ _ _ _ | exact heapR4 _ _ _ _ _ _ _); exact size25; rfl; rfl; (simp only [World.setRow_alloc_past, World.setRow_alloc_at, World.setRow_grow, World.size_alloc, World.size_grow, lt_add_ext, Nat.lt_add_one]; rfl)))
  refine bodyPost_ret (v := .tuple #[fileV (upd f 3 (mk (f 3) v 2730)), .bool true]) (results_row_tmp (ty := 25) Try.results12 _ _ _ _ _ _ _ rfl (by (first | exact heap_alloc_new _ _ | exact heapR0 _ _ _ | exact heapR1 _ _ _ | exact heapR2 _ _ _ _ _ | exact heapR3 _ _ _ _ _ | exact heapR4 _ _ _ _ _ _ _)) Try.underlying25 rfl size25) rfl ⟨?_, ?_⟩
  · rfl
  · repeat (first | exact Below.refl _ _ | (refine Below.setCell ?_ (by simp) _) | (refine below_drewN ?_ _) | (refine Below.drew ?_) | (refine Below.alloc ?_ (by simp; try omega) _) | (refine Below.grow ?_ (by simp; try omega) _ _))

theorem refWrite_773 (f : Nat → Int) (q v : Int) (w : World) (hF : Fits f) (hv : 0 ≤ v ∧ v < 4294967296) (hB : rrB f 773 q = true) :
    Calls Try.prog 12 #[fileV f, .int .i64 773, .int .i64 q, .int .u32 v] w fun e w' => e = .returned (.tuple #[fileV (upd f 5 (mk v 0 2)), .bool true]) ∧ Below w.heap.size w w' := by
  have HF := _root_.Go.Lib.hid hF
  have HB := _root_.Go.Lib.hid hB
  obtain ⟨v1, v2⟩ := hv
  clear hF hB
  go_enter Try.func12, Try.ntmps12
  go_wp2_with (first | (go_at_call 10; refine (refRead_any f _ q _ HF.out).mono ?_; rw [HB.out]; rintro e w1 ⟨rfl, hb1⟩; obtain ⟨ext, d, rfl⟩ := below_grow hb1; clear hb1) | (go_at_call 20; refine (super_other (upd f 5 (mk v 0 2)) 773 _ _ rfl rfl rfl rfl rfl rfl rfl rfl rfl).mono ?_; rintro e w1 ⟨rfl, hb1⟩; obtain ⟨ext2, d2, rfl⟩ := below_grow hb1; clear hb1) | (go_at_call 18; refine (status_any _ _ _ (HF.out.1 _ (by decide)) (by omega)).mono ?_; rintro e w1 ⟨rfl, rfl⟩) | (go_at_call 19; refine (mask_any _ _ _ _ (by first | exact HF.out.1 _ (by decide) | omega) (by first | omega | exact HF.out.1 _ (by decide)) (by first | omega | exact HF.out.1 _ (by decide) | exact bits_range _ _ _)).mono ?_; rintro e w1 ⟨rfl, rfl⟩) | ((with_reducible apply wpList_load_at 25 Try.underlying25); rfl; (first | exact heap_alloc_new _ _ | exact heapR0 _ _ _ | exact heapR1 _ _ _ | exact heapR2 _ _ _ _ _ | exact heapR3 _ _ _ _ _ | exact heapR4 _ _ _ _ _ _ _); rfl; exact size25) | ((with_reducible apply wpList_store_at 25); rfl; rfl; (first | exact heap_alloc_new _ _ | exact heapR0 _ _ _ | exact heapR1 _ _ _ | exact heapR2 _ _ _ _ _ | exact heapR3 _ _ _ _ _ | exact heapR4 _ _ _ _ _ _ _); exact size25; rfl; rfl; (simp only [World.setRow_alloc_past, World.setRow_alloc_at, World.setRow_grow, World.size_alloc, World.size_grow, lt_add_ext, Nat.lt_add_one]; rfl)))
  refine bodyPost_ret (v := .tuple #[fileV (upd f 5 (mk v 0 2)), .bool true]) (results_row_tmp (ty := 25) Try.results12 _ _ _ _ _ _ _ rfl (by (first | exact heap_alloc_new _ _ | exact heapR0 _ _ _ | exact heapR1 _ _ _ | exact heapR2 _ _ _ _ _ | exact heapR3 _ _ _ _ _ | exact heapR4 _ _ _ _ _ _ _)) Try.underlying25 rfl size25) rfl ⟨?_, ?_⟩
  · rfl
  · repeat (first | exact Below.refl _ _ | (refine Below.setCell ?_ (by simp) _) | (refine below_drewN ?_ _) | (refine Below.drew ?_) | (refine Below.alloc ?_ (by simp; try omega) _) | (refine Below.grow ?_ (by simp; try omega) _ _))

theorem refWrite_832 (f : Nat → Int) (q v : Int) (w : World) (hF : Fits f) (hv : 0 ≤ v ∧ v < 4294967296) (hB : rrB f 832 q = true) :
    Calls Try.prog 12 #[fileV f, .int .i64 832, .int .i64 q, .int .u32 v] w fun e w' => e = .returned (.tuple #[fileV (upd f 6 (v)), .bool true]) ∧ Below w.heap.size w w' := by
  have HF := _root_.Go.Lib.hid hF
  have HB := _root_.Go.Lib.hid hB
  obtain ⟨v1, v2⟩ := hv
  clear hF hB
  go_enter Try.func12, Try.ntmps12
  go_wp2_with (first | (go_at_call 10; refine (refRead_any f _ q _ HF.out).mono ?_; rw [HB.out]; rintro e w1 ⟨rfl, hb1⟩; obtain ⟨ext, d, rfl⟩ := below_grow hb1; clear hb1) | (go_at_call 20; refine (super_other (upd f 6 (v)) 832 _ _ rfl rfl rfl rfl rfl rfl rfl rfl rfl).mono ?_; rintro e w1 ⟨rfl, hb1⟩; obtain ⟨ext2, d2, rfl⟩ := below_grow hb1; clear hb1) | (go_at_call 18; refine (status_any _ _ _ (HF.out.1 _ (by decide)) (by omega)).mono ?_; rintro e w1 ⟨rfl, rfl⟩) | (go_at_call 19; refine (mask_any _ _ _ _ (by first | exact HF.out.1 _ (by decide) | omega) (by first | omega | exact HF.out.1 _ (by decide)) (by first | omega | exact HF.out.1 _ (by decide) | exact bits_range _ _ _)).mono ?_; rintro e w1 ⟨rfl, rfl⟩) | ((with_reducible apply wpList_load_at 25 Try.underlying25); rfl; (first | exact heap_alloc_new _ _ | exact heapR0 _ _ _ | exact heapR1 _ _ _ | exact heapR2 _ _ _ _ _ | exact heapR3 _ _ _ _ _ | exact heapR4 _ _ _ _ _ _ _); rfl; exact size25) | ((with_reducible apply wpList_store_at 25); rfl; rfl; (first | exact heap_alloc_new _ _ | exact heapR0 _ _ _ | exact heapR1 _ _ _ | exact heapR2 _ _ _ _ _ | exact heapR3 _ _ _ _ _ | exact heapR4 _ _ _ _ _ _ _); exact size25; rfl; rfl; (simp only [World.setRow_alloc_past, World.setRow_alloc_at, World.setRow_grow, World.size_alloc, World.size_grow, lt_add_ext, Nat.lt_add_one]; rfl)))
  refine bodyPost_ret (v := .tuple #[fileV (upd f 6 (v)), .bool true]) (results_row_tmp (ty := 25) Try.results12 _ _ _ _ _ _ _ rfl (by (first | exact heap_alloc_new _ _ | exact heapR0 _ _ _ | exact heapR1 _ _ _ | exact heapR2 _ _ _ _ _ | exact heapR3 _ _ _ _ _ | exact heapR4 _ _ _ _ _ _ _)) Try.underlying25 rfl size25) rfl ⟨?_, ?_⟩
  · rfl
  · repeat (first | exact Below.refl _ _ | (refine Below.setCell ?_ (by simp) _) | (refine below_drewN ?_ _) | (refine Below.drew ?_) | (refine Below.alloc ?_ (by simp; try omega) _) | (refine Below.grow ?_ (by simp; try omega) _ _))

theorem refWrite_833 (f : Nat → Int) (q v : Int) (w : World) (hF : Fits f) (hv : 0 ≤ v ∧ v < 4294967296) (hB : rrB f 833 q = true) :
    Calls Try.prog 12 #[fileV f, .int .i64 833, .int .i64 q, .int .u32 v] w fun e w' => e = .returned (.tuple #[fileV (upd f 7 (v - v % 4)), .bool true]) ∧ Below w.heap.size w w' := by
  have HF := _root_.Go.Lib.hid hF
  have HB := _root_.Go.Lib.hid hB
  obtain ⟨v1, v2⟩ := hv
  clear hF hB
  go_enter Try.func12, Try.ntmps12
  go_wp2_with (first | (go_at_call 10; refine (refRead_any f _ q _ HF.out).mono ?_; rw [HB.out]; rintro e w1 ⟨rfl, hb1⟩; obtain ⟨ext, d, rfl⟩ := below_grow hb1; clear hb1) | (go_at_call 20; refine (super_other (upd f 7 (v - v % 4)) 833 _ _ rfl rfl rfl rfl rfl rfl rfl rfl rfl).mono ?_; rintro e w1 ⟨rfl, hb1⟩; obtain ⟨ext2, d2, rfl⟩ := below_grow hb1; clear hb1) | (go_at_call 18; refine (status_any _ _ _ (HF.out.1 _ (by decide)) (by omega)).mono ?_; rintro e w1 ⟨rfl, rfl⟩) | (go_at_call 19; refine (mask_any _ _ _ _ (by first | exact HF.out.1 _ (by decide) | omega) (by first | omega | exact HF.out.1 _ (by decide)) (by first | omega | exact HF.out.1 _ (by decide) | exact bits_range _ _ _)).mono ?_; rintro e w1 ⟨rfl, rfl⟩) | ((with_reducible apply wpList_load_at 25 Try.underlying25); rfl; (first | exact heap_alloc_new _ _ | exact heapR0 _ _ _ | exact heapR1 _ _ _ | exact heapR2 _ _ _ _ _ | exact heapR3 _ _ _ _ _ | exact heapR4 _ _ _ _ _ _ _); rfl; exact size25) | ((with_reducible apply wpList_store_at 25); rfl; rfl; (first | exact heap_alloc_new _ _ | exact heapR0 _ _ _ | exact heapR1 _ _ _ | exact heapR2 _ _ _ _ _ | exact heapR3 _ _ _ _ _ | exact heapR4 _ _ _ _ _ _ _); exact size25; rfl; rfl; (simp only [World.setRow_alloc_past, World.setRow_alloc_at, World.setRow_grow, World.size_alloc, World.size_grow, lt_add_ext, Nat.lt_add_one]; rfl)))
  refine bodyPost_ret (v := .tuple #[fileV (upd f 7 (v - v % 4)), .bool true]) (results_row_tmp (ty := 25) Try.results12 _ _ _ _ _ _ _ rfl (by (first | exact heap_alloc_new _ _ | exact heapR0 _ _ _ | exact heapR1 _ _ _ | exact heapR2 _ _ _ _ _ | exact heapR3 _ _ _ _ _ | exact heapR4 _ _ _ _ _ _ _)) Try.underlying25 rfl size25) rfl ⟨?_, ?_⟩
  · rfl
  · repeat (first | exact Below.refl _ _ | (refine Below.setCell ?_ (by simp) _) | (refine below_drewN ?_ _) | (refine Below.drew ?_) | (refine Below.alloc ?_ (by simp; try omega) _) | (refine Below.grow ?_ (by simp; try omega) _ _))

theorem refWrite_834 (f : Nat → Int) (q v : Int) (w : World) (hF : Fits f) (hv : 0 ≤ v ∧ v < 4294967296) (hB : rrB f 834 q = true) :
    Calls Try.prog 12 #[fileV f, .int .i64 834, .int .i64 q, .int .u32 v] w fun e w' => e = .returned (.tuple #[fileV (upd f 8 (v)), .bool true]) ∧ Below w.heap.size w w' := by
  have HF := _root_.Go.Lib.hid hF
  have HB := _root_.Go.Lib.hid hB
  obtain ⟨v1, v2⟩ := hv
  clear hF hB
  go_enter Try.func12, Try.ntmps12
  go_wp2_with (first | (go_at_call 10; refine (refRead_any f _ q _ HF.out).mono ?_; rw [HB.out]; rintro e w1 ⟨rfl, hb1⟩; obtain ⟨ext, d, rfl⟩ := below_grow hb1; clear hb1) | (go_at_call 20; refine (super_other (upd f 8 (v)) 834 _ _ rfl rfl rfl rfl rfl rfl rfl rfl rfl).mono ?_; rintro e w1 ⟨rfl, hb1⟩; obtain ⟨ext2, d2, rfl⟩ := below_grow hb1; clear hb1) | (go_at_call 18; refine (status_any _ _ _ (HF.out.1 _ (by decide)) (by omega)).mono ?_; rintro e w1 ⟨rfl, rfl⟩) | (go_at_call 19; refine (mask_any _ _ _ _ (by first | exact HF.out.1 _ (by decide) | omega) (by first | omega | exact HF.out.1 _ (by decide)) (by first | omega | exact HF.out.1 _ (by decide) | exact bits_range _ _ _)).mono ?_; rintro e w1 ⟨rfl, rfl⟩) | ((with_reducible apply wpList_load_at 25 Try.underlying25); rfl; (first | exact heap_alloc_new _ _ | exact heapR0 _ _ _ | exact heapR1 _ _ _ | exact heapR2 _ _ _ _ _ | exact heapR3 _ _ _ _ _ | exact heapR4 _ _ _ _ _ _ _); rfl; exact size25) | ((with_reducible apply wpList_store_at 25); rfl; rfl; (first | exact heap_alloc_new _ _ | exact heapR0 _ _ _ | exact heapR1 _ _ _ | exact heapR2 _ _ _ _ _ | exact heapR3 _ _ _ _ _ | exact heapR4 _ _ _ _ _ _ _); exact size25; rfl; rfl; (simp only [World.setRow_alloc_past, World.setRow_alloc_at, World.setRow_grow, World.size_alloc, World.size_grow, lt_add_ext, Nat.lt_add_one]; rfl)))
  refine bodyPost_ret (v := .tuple #[fileV (upd f 8 (v)), .bool true]) (results_row_tmp (ty := 25) Try.results12 _ _ _ _ _ _ _ rfl (by (first | exact heap_alloc_new _ _ | exact heapR0 _ _ _ | exact heapR1 _ _ _ | exact heapR2 _ _ _ _ _ | exact heapR3 _ _ _ _ _ | exact heapR4 _ _ _ _ _ _ _)) Try.underlying25 rfl size25) rfl ⟨?_, ?_⟩
  · rfl
  · repeat (first | exact Below.refl _ _ | (refine Below.setCell ?_ (by simp) _) | (refine below_drewN ?_ _) | (refine Below.drew ?_) | (refine Below.alloc ?_ (by simp; try omega) _) | (refine Below.grow ?_ (by simp; try omega) _ _))

theorem refWrite_835 (f : Nat → Int) (q v : Int) (w : World) (hF : Fits f) (hv : 0 ≤ v ∧ v < 4294967296) (hB : rrB f 835 q = true) :
    Calls Try.prog 12 #[fileV f, .int .i64 835, .int .i64 q, .int .u32 v] w fun e w' => e = .returned (.tuple #[fileV (upd f 9 (v)), .bool true]) ∧ Below w.heap.size w w' := by
  have HF := _root_.Go.Lib.hid hF
  have HB := _root_.Go.Lib.hid hB
  obtain ⟨v1, v2⟩ := hv
  clear hF hB
  go_enter Try.func12, Try.ntmps12
  go_wp2_with (first | (go_at_call 10; refine (refRead_any f _ q _ HF.out).mono ?_; rw [HB.out]; rintro e w1 ⟨rfl, hb1⟩; obtain ⟨ext, d, rfl⟩ := below_grow hb1; clear hb1) | (go_at_call 20; refine (super_other (upd f 9 (v)) 835 _ _ rfl rfl rfl rfl rfl rfl rfl rfl rfl).mono ?_; rintro e w1 ⟨rfl, hb1⟩; obtain ⟨ext2, d2, rfl⟩ := below_grow hb1; clear hb1) | (go_at_call 18; refine (status_any _ _ _ (HF.out.1 _ (by decide)) (by omega)).mono ?_; rintro e w1 ⟨rfl, rfl⟩) | (go_at_call 19; refine (mask_any _ _ _ _ (by first | exact HF.out.1 _ (by decide) | omega) (by first | omega | exact HF.out.1 _ (by decide)) (by first | omega | exact HF.out.1 _ (by decide) | exact bits_range _ _ _)).mono ?_; rintro e w1 ⟨rfl, rfl⟩) | ((with_reducible apply wpList_load_at 25 Try.underlying25); rfl; (first | exact heap_alloc_new _ _ | exact heapR0 _ _ _ | exact heapR1 _ _ _ | exact heapR2 _ _ _ _ _ | exact heapR3 _ _ _ _ _ | exact heapR4 _ _ _ _ _ _ _); rfl; exact size25) | ((with_reducible apply wpList_store_at 25); rfl; rfl; (first | exact heap_alloc_new _ _ | exact heapR0 _ _ _ | exact heapR1 _ _ _ | exact heapR2 _ _ _ _ _ | exact heapR3 _ _ _ _ _ | exact heapR4 _ _ _ _ _ _ _); exact size25; rfl; rfl; (simp only [World.setRow_alloc_past, World.setRow_alloc_at, World.setRow_grow, World.size_alloc, World.size_grow, lt_add_ext, Nat.lt_add_one]; rfl)))
  refine bodyPost_ret (v := .tuple #[fileV (upd f 9 (v)), .bool true]) (results_row_tmp (ty := 25) Try.results12 _ _ _ _ _ _ _ rfl (by (first | exact heap_alloc_new _ _ | exact heapR0 _ _ _ | exact heapR1 _ _ _ | exact heapR2 _ _ _ _ _ | exact heapR3 _ _ _ _ _ | exact heapR4 _ _ _ _ _ _ _)) Try.underlying25 rfl size25) rfl ⟨?_, ?_⟩
  · rfl
  · repeat (first | exact Below.refl _ _ | (refine Below.setCell ?_ (by simp) _) | (refine below_drewN ?_ _) | (refine Below.drew ?_) | (refine Below.alloc ?_ (by simp; try omega) _) | (refine Below.grow ?_ (by simp; try omega) _ _))

theorem refWrite_836 (f : Nat → Int) (q v : Int) (w : World) (hF : Fits f) (hv : 0 ≤ v ∧ v < 4294967296) (hB : rrB f 836 q = true) :
    Calls Try.prog 12 #[fileV f, .int .i64 836, .int .i64 q, .int .u32 v] w fun e w' => e = .returned (.tuple #[fileV (upd f 4 (mk (f 4) v 546)), .bool true]) ∧ Below w.heap.size w w' := by
  have HF := _root_.Go.Lib.hid hF
  have HB := _root_.Go.Lib.hid hB
  obtain ⟨v1, v2⟩ := hv
  clear hF hB
  go_enter Try.func12, Try.ntmps12
  go_wp2_with (first | (go_at_call 10; refine (refRead_any f _ q _ HF.out).mono ?_; rw [HB.out]; rintro e w1 ⟨rfl, hb1⟩; obtain ⟨ext, d, rfl⟩ := below_grow hb1; clear hb1) | (go_at_call 20; refine (super_other (upd f 4 (mk (f 4) v 546)) 836 _ _ rfl rfl rfl rfl rfl rfl rfl rfl rfl).mono ?_; rintro e w1 ⟨rfl, hb1⟩; obtain ⟨ext2, d2, rfl⟩ := below_grow hb1; clear hb1) | (go_at_call 18; refine (status_any _ _ _ (HF.out.1 _ (by decide)) (by omega)).mono ?_; rintro e w1 ⟨rfl, rfl⟩) | (go_at_call 19; refine (mask_any _ _ _ _ (by first | exact HF.out.1 _ (by decide) | omega) (by first | omega | exact HF.out.1 _ (by decide)) (by first | omega | exact HF.out.1 _ (by decide) | exact bits_range _ _ _)).mono ?_; rintro e w1 ⟨rfl, rfl⟩) | ((with_reducible apply wpList_load_at 25 Try.underlying25); rfl; (first | exact heap_alloc_new _ _ | exact heapR0 _ _ _ | exact heapR1 _ _ _ | exact heapR2 _ _ _ _ _ | exact heapR3 _ _ _ _ _ | exact heapR4 _ _ _ _ _ _ _); rfl; exact size25) | ((with_reducible apply wpList_store_at 25); rfl; rfl; (first | exact heap_alloc_new _ _ | exact heapR0 _ _ _ | exact heapR1 _ _ _ | exact heapR2 _ _ _ _ _ | exact heapR3 _ _ _ _ _ | exact heapR4 _ _ _ _ _ _ _); exact size25; rfl; rfl; (simp only [World.setRow_alloc_past, World.setRow_alloc_at, World.setRow_grow, World.size_alloc, World.size_grow, lt_add_ext, Nat.lt_add_one]; rfl)))
  refine bodyPost_ret (v := .tuple #[fileV (upd f 4 (mk (f 4) v 546)), .bool true]) (results_row_tmp (ty := 25) Try.results12 _ _ _ _ _ _ _ rfl (by (first | exact heap_alloc_new _ _ | exact heapR0 _ _ _ | exact heapR1 _ _ _ | exact heapR2 _ _ _ _ _ | exact heapR3 _ _ _ _ _ | exact heapR4 _ _ _ _ _ _ _)) Try.underlying25 rfl size25) rfl ⟨?_, ?_⟩
  · rfl
  · repeat (first | exact Below.refl _ _ | (refine Below.setCell ?_ (by simp) _) | (refine below_drewN ?_ _) | (refine Below.drew ?_) | (refine Below.alloc ?_ (by simp; try omega) _) | (refine Below.grow ?_ (by simp; try omega) _ _))

theorem refWrite_2816 (f : Nat → Int) (q v : Int) (w : World) (hF : Fits f) (hv : 0 ≤ v ∧ v < 4294967296) (hB : rrB f 2816 q = true) :
    Calls Try.prog 12 #[fileV f, .int .i64 2816, .int .i64 q, .int .u32 v] w fun e w' => e = .returned (.tuple #[fileV (upd f 16 (f 16 - f 16 % 4294967296 + v)), .bool true]) ∧ Below w.heap.size w w' := by
  have hf16 := hF.2
  obtain ⟨f1, f2⟩ := hf16
  have HF := _root_.Go.Lib.hid hF
  have HB := _root_.Go.Lib.hid hB
  obtain ⟨v1, v2⟩ := hv
  clear hF hB
  go_enter Try.func12, Try.ntmps12
  go_wp2_with (first | (go_at_call 10; refine (refRead_any f _ q _ HF.out).mono ?_; rw [HB.out]; rintro e w1 ⟨rfl, hb1⟩; obtain ⟨ext, d, rfl⟩ := below_grow hb1; clear hb1) | (go_at_call 20; refine (super_other (upd f 16 (f 16 - f 16 % 4294967296 + v)) 2816 _ _ rfl rfl rfl rfl rfl rfl rfl rfl rfl).mono ?_; rintro e w1 ⟨rfl, hb1⟩; obtain ⟨ext2, d2, rfl⟩ := below_grow hb1; clear hb1) | (go_at_call 18; refine (status_any _ _ _ (HF.out.1 _ (by decide)) (by omega)).mono ?_; rintro e w1 ⟨rfl, rfl⟩) | (go_at_call 19; refine (mask_any _ _ _ _ (by first | exact HF.out.1 _ (by decide) | omega) (by first | omega | exact HF.out.1 _ (by decide)) (by first | omega | exact HF.out.1 _ (by decide) | exact bits_range _ _ _)).mono ?_; rintro e w1 ⟨rfl, rfl⟩) | ((with_reducible apply wpList_load_at 25 Try.underlying25); rfl; (first | exact heap_alloc_new _ _ | exact heapR0 _ _ _ | exact heapR1 _ _ _ | exact heapR2 _ _ _ _ _ | exact heapR3 _ _ _ _ _ | exact heapR4 _ _ _ _ _ _ _); rfl; exact size25) | ((with_reducible apply wpList_store_at 25); rfl; rfl; (first | exact heap_alloc_new _ _ | exact heapR0 _ _ _ | exact heapR1 _ _ _ | exact heapR2 _ _ _ _ _ | exact heapR3 _ _ _ _ _ | exact heapR4 _ _ _ _ _ _ _); exact size25; rfl; rfl; (simp only [World.setRow_alloc_past, World.setRow_alloc_at, World.setRow_grow, World.size_alloc, World.size_grow, lt_add_ext, Nat.lt_add_one]; rfl)))
  refine bodyPost_ret (v := .tuple #[fileV (upd f 16 (f 16 - f 16 % 4294967296 + v)), .bool true]) (results_row_tmp (ty := 25) Try.results12 _ _ _ _ _ _ _ rfl (by (first | exact heap_alloc_new _ _ | exact heapR0 _ _ _ | exact heapR1 _ _ _ | exact heapR2 _ _ _ _ _ | exact heapR3 _ _ _ _ _ | exact heapR4 _ _ _ _ _ _ _)) Try.underlying25 rfl size25) rfl ⟨?_, ?_⟩
  · rfl
  · repeat (first | exact Below.refl _ _ | (refine Below.setCell ?_ (by simp) _) | (refine below_drewN ?_ _) | (refine Below.drew ?_) | (refine Below.alloc ?_ (by simp; try omega) _) | (refine Below.grow ?_ (by simp; try omega) _ _))

theorem refWrite_2944 (f : Nat → Int) (q v : Int) (w : World) (hF : Fits f) (hv : 0 ≤ v ∧ v < 4294967296) (hB : rrB f 2944 q = true) :
    Calls Try.prog 12 #[fileV f, .int .i64 2944, .int .i64 q, .int .u32 v] w fun e w' => e = .returned (.tuple #[fileV (upd f 16 (f 16 % 4294967296 + v * 4294967296)), .bool true]) ∧ Below w.heap.size w w' := by
  have hf16 := hF.2
  obtain ⟨f1, f2⟩ := hf16
  have HF := _root_.Go.Lib.hid hF
  have HB := _root_.Go.Lib.hid hB
  obtain ⟨v1, v2⟩ := hv
  clear hF hB
  go_enter Try.func12, Try.ntmps12
  go_wp2_with (first | (go_at_call 10; refine (refRead_any f _ q _ HF.out).mono ?_; rw [HB.out]; rintro e w1 ⟨rfl, hb1⟩; obtain ⟨ext, d, rfl⟩ := below_grow hb1; clear hb1) | (go_at_call 20; refine (super_other (upd f 16 (f 16 % 4294967296 + v * 4294967296)) 2944 _ _ rfl rfl rfl rfl rfl rfl rfl rfl rfl).mono ?_; rintro e w1 ⟨rfl, hb1⟩; obtain ⟨ext2, d2, rfl⟩ := below_grow hb1; clear hb1) | (go_at_call 18; refine (status_any _ _ _ (HF.out.1 _ (by decide)) (by omega)).mono ?_; rintro e w1 ⟨rfl, rfl⟩) | (go_at_call 19; refine (mask_any _ _ _ _ (by first | exact HF.out.1 _ (by decide) | omega) (by first | omega | exact HF.out.1 _ (by decide)) (by first | omega | exact HF.out.1 _ (by decide) | exact bits_range _ _ _)).mono ?_; rintro e w1 ⟨rfl, rfl⟩) | ((with_reducible apply wpList_load_at 25 Try.underlying25); rfl; (first | exact heap_alloc_new _ _ | exact heapR0 _ _ _ | exact heapR1 _ _ _ | exact heapR2 _ _ _ _ _ | exact heapR3 _ _ _ _ _ | exact heapR4 _ _ _ _ _ _ _); rfl; exact size25) | ((with_reducible apply wpList_store_at 25); rfl; rfl; (first | exact heap_alloc_new _ _ | exact heapR0 _ _ _ | exact heapR1 _ _ _ | exact heapR2 _ _ _ _ _ | exact heapR3 _ _ _ _ _ | exact heapR4 _ _ _ _ _ _ _); exact size25; rfl; rfl; (simp only [World.setRow_alloc_past, World.setRow_alloc_at, World.setRow_grow, World.size_alloc, World.size_grow, lt_add_ext, Nat.lt_add_one]; rfl)))
  refine bodyPost_ret (v := .tuple #[fileV (upd f 16 (f 16 % 4294967296 + v * 4294967296)), .bool true]) (results_row_tmp (ty := 25) Try.results12 _ _ _ _ _ _ _ rfl (by (first | exact heap_alloc_new _ _ | exact heapR0 _ _ _ | exact heapR1 _ _ _ | exact heapR2 _ _ _ _ _ | exact heapR3 _ _ _ _ _ | exact heapR4 _ _ _ _ _ _ _)) Try.underlying25 rfl size25) rfl ⟨?_, ?_⟩
  · rfl
  · repeat (first | exact Below.refl _ _ | (refine Below.setCell ?_ (by simp) _) | (refine below_drewN ?_ _) | (refine Below.drew ?_) | (refine Below.alloc ?_ (by simp; try omega) _) | (refine Below.grow ?_ (by simp; try omega) _ _))

theorem refWrite_769 (f : Nat → Int) (q v : Int) (w : World) (hF : Fits f) (hv : 0 ≤ v ∧ v < 4294967296) (hB : rrB f 769 q = true) :
    Calls Try.prog 12 #[fileV f, .int .i64 769, .int .i64 q, .int .u32 v] w fun e w' => e = .returned (.tuple #[fileV f, .bool true]) ∧ Below w.heap.size w w' := by
  have HF := _root_.Go.Lib.hid hF
  have HB := _root_.Go.Lib.hid hB
  obtain ⟨v1, v2⟩ := hv
  clear hF hB
  go_enter Try.func12, Try.ntmps12
  go_wp2_with (first | (go_at_call 10; refine (refRead_any f _ q _ HF.out).mono ?_; rw [HB.out]; rintro e w1 ⟨rfl, hb1⟩; obtain ⟨ext, d, rfl⟩ := below_grow hb1; clear hb1) | (go_at_call 20; refine (super_other f 769 _ _ rfl rfl rfl rfl rfl rfl rfl rfl rfl).mono ?_; rintro e w1 ⟨rfl, hb1⟩; obtain ⟨ext2, d2, rfl⟩ := below_grow hb1; clear hb1) | ((with_reducible apply wpList_load_at 25 Try.underlying25); rfl; (first | exact heap_alloc_new _ _ | exact heapR0 _ _ _ | exact heapR1 _ _ _ | exact heapR2 _ _ _ _ _ | exact heapR3 _ _ _ _ _ | exact heapR4 _ _ _ _ _ _ _); rfl; exact size25) | ((with_reducible apply wpList_store_at 25); rfl; rfl; (first | exact heap_alloc_new _ _ | exact heapR0 _ _ _ | exact heapR1 _ _ _ | exact heapR2 _ _ _ _ _ | exact heapR3 _ _ _ _ _ | exact heapR4 _ _ _ _ _ _ _); exact size25; rfl; rfl; (simp only [World.setRow_alloc_past, World.setRow_alloc_at, World.setRow_grow, World.size_alloc, World.size_grow, lt_add_ext, Nat.lt_add_one]; rfl)))
  refine bodyPost_ret (v := .tuple #[fileV f, .bool true]) (results_row_tmp (ty := 25) Try.results12 _ _ _ _ _ _ _ rfl (by (first | exact heap_alloc_new _ _ | exact heapR0 _ _ _ | exact heapR1 _ _ _ | exact heapR2 _ _ _ _ _ | exact heapR3 _ _ _ _ _ | exact heapR4 _ _ _ _ _ _ _)) Try.underlying25 rfl size25) rfl ⟨?_, ?_⟩
  · rfl
  · repeat (first | exact Below.refl _ _ | (refine Below.setCell ?_ (by simp) _) | (refine below_drewN ?_ _) | (refine Below.drew ?_) | (refine Below.alloc ?_ (by simp; try omega) _) | (refine Below.grow ?_ (by simp; try omega) _ _))

end Go.Proofs.Ytpmgdidigfincaa
