/-
  The reference's Read, Write and Lines (csr), walked.
-/
import Derived.Test.YtpmgdidigfincaaWrite
namespace Go.Proofs.Ytpmgdidigfincaa
open Go.RowKit Go.Val Go.MapKept

theorem size25 : (Try.prog.info? 25).map (·.size) = some 17 := by kernel_rfl
theorem heapR0 (w : World) (A B : Obj) : ((w.alloc A).alloc B).heap[w.heap.size]? = some A := by
  rw [World.heap_alloc_past _ _ _ (by simp), World.heap_alloc_at _ _ _ rfl]
theorem heapR1 (w : World) (A B : Obj) : ((w.alloc A).alloc B).heap[w.heap.size + 1]? = some B := World.heap_alloc_at _ _ _ (by simp)
theorem heapR2 (w : World) (A B : Obj) (ext : Array Obj) (d : Nat) : (((w.alloc A).alloc B).grow ext d).heap[w.heap.size]? = some A := by
  rw [World.heap_grow_old _ _ _ _ (by simp; omega)]; exact heapR0 w A B
theorem heapR3 (w : World) (A B : Obj) (ext : Array Obj) (d : Nat) : (((w.alloc A).alloc B).grow ext d).heap[w.heap.size + 1]? = some B := by
  rw [World.heap_grow_old _ _ _ _ (by simp)]; exact heapR1 w A B
theorem heapR4 (w : World) (A B : Obj) (ext : Array Obj) (d : Nat) (ext' : Array Obj) (d' : Nat) : ((((w.alloc A).alloc B).grow ext d).grow ext' d').heap[w.heap.size + 1]? = some B := by
  rw [World.heap_grow_old _ _ _ _ (by simp; omega)]; exact heapR3 w A B ext d

/-- The reference's mask. -/
def mk (o v m : Int) : Int := (bits .and .u32 o (4294967295 - m) + bits .and .u32 v m) % 4294967296

theorem mask_any (o v m : Int) (w : World) (ho : 0 ≤ o ∧ o < 4294967296) (hv : 0 ≤ v ∧ v < 4294967296) (hm : 0 ≤ m ∧ m < 4294967296) :
    Calls Try.prog 19 #[.int .u32 o, .int .u32 v, .int .u32 m] w fun e w' => e = .returned (.int .u32 (mk o v m)) ∧ w = w' := by
  obtain ⟨_, _⟩ := ho; obtain ⟨_, _⟩ := hv; obtain ⟨_, _⟩ := hm
  go_enter Try.func19, Try.ntmps19
  go_wp2
  go_ret
  exact ⟨rfl, rfl⟩

/-- What is known of a register. -/
def kn (f : Nat → Int) (n : Int) : Option Int :=
  if n = 256 then some (bits .and .u32 (f 0) 786722) else
  if n = 260 then some (bits .and .u32 (f 3) (f 2)) else
  if n = 261 then some (f 10) else
  if n = 320 then some (f 11) else
  if n = 321 then some (f 12) else
  if n = 322 then some (f 13) else
  if n = 323 then some (f 14) else
  if n = 324 then some (bits .and .u32 (f 4) (f 2)) else
  if n = 384 then some (f 15) else
  if n = 768 then some (f 0) else
  if n = 769 then some (1075056897) else
  if n = 770 then some (f 1) else
  if n = 771 then some (f 2) else
  if n = 772 then some (f 3) else
  if n = 773 then some (f 5) else
  if n = 832 then some (f 6) else
  if n = 833 then some (f 7) else
  if n = 834 then some (f 8) else
  if n = 835 then some (f 9) else
  if n = 836 then some (f 4) else
  if n = 2816 then some (f 16 % 4294967296) else
  if n = 3072 then some (f 16 % 4294967296) else
  if n = 2944 then some (f 16 / 4294967296) else
  if n = 3200 then some (f 16 / 4294967296) else
  if n = 3857 then some (0) else
  if n = 3858 then some (0) else
  if n = 3859 then some (0) else
  if n = 3860 then some (0) else
  none

theorem known_256 (f : Nat → Int) (w : World) :
    Calls Try.prog 17 #[fileV f, .int .i64 256] w fun e w' => e = .returned (.tuple #[.int .u32 (bits .and .u32 (f 0) 786722), .bool true]) ∧ Below w.heap.size w w' := by
  go_enter Try.func17, Try.ntmps17
  go_wp2_with (first | go_in | ((with_reducible apply wpList_load_at 25 Try.underlying25); rfl; (first | exact heap_alloc_new _ _ | exact heapR0 _ _ _ | exact heapR1 _ _ _ | exact heapR2 _ _ _ _ _ | exact heapR3 _ _ _ _ _ | exact heapR4 _ _ _ _ _ _ _); rfl; exact size25))
  go_ret2
  exact ⟨rfl, by repeat (first | exact Below.refl _ _ | (refine Below.setCell ?_ (by simp) _) | (refine below_drewN ?_ _) | (refine Below.drew ?_) | (refine Below.alloc ?_ (by simp; try omega) _) | (refine Below.grow ?_ (by simp; try omega) _ _))⟩

theorem known_260 (f : Nat → Int) (w : World) :
    Calls Try.prog 17 #[fileV f, .int .i64 260] w fun e w' => e = .returned (.tuple #[.int .u32 (bits .and .u32 (f 3) (f 2)), .bool true]) ∧ Below w.heap.size w w' := by
  go_enter Try.func17, Try.ntmps17
  go_wp2_with (first | go_in | ((with_reducible apply wpList_load_at 25 Try.underlying25); rfl; (first | exact heap_alloc_new _ _ | exact heapR0 _ _ _ | exact heapR1 _ _ _ | exact heapR2 _ _ _ _ _ | exact heapR3 _ _ _ _ _ | exact heapR4 _ _ _ _ _ _ _); rfl; exact size25))
  go_ret2
  exact ⟨rfl, by repeat (first | exact Below.refl _ _ | (refine Below.setCell ?_ (by simp) _) | (refine below_drewN ?_ _) | (refine Below.drew ?_) | (refine Below.alloc ?_ (by simp; try omega) _) | (refine Below.grow ?_ (by simp; try omega) _ _))⟩

theorem known_261 (f : Nat → Int) (w : World) :
    Calls Try.prog 17 #[fileV f, .int .i64 261] w fun e w' => e = .returned (.tuple #[.int .u32 (f 10), .bool true]) ∧ Below w.heap.size w w' := by
  go_enter Try.func17, Try.ntmps17
  go_wp2_with (first | go_in | ((with_reducible apply wpList_load_at 25 Try.underlying25); rfl; (first | exact heap_alloc_new _ _ | exact heapR0 _ _ _ | exact heapR1 _ _ _ | exact heapR2 _ _ _ _ _ | exact heapR3 _ _ _ _ _ | exact heapR4 _ _ _ _ _ _ _); rfl; exact size25))
  go_ret2
  exact ⟨rfl, by repeat (first | exact Below.refl _ _ | (refine Below.setCell ?_ (by simp) _) | (refine below_drewN ?_ _) | (refine Below.drew ?_) | (refine Below.alloc ?_ (by simp; try omega) _) | (refine Below.grow ?_ (by simp; try omega) _ _))⟩

theorem known_320 (f : Nat → Int) (w : World) :
    Calls Try.prog 17 #[fileV f, .int .i64 320] w fun e w' => e = .returned (.tuple #[.int .u32 (f 11), .bool true]) ∧ Below w.heap.size w w' := by
  go_enter Try.func17, Try.ntmps17
  go_wp2_with (first | go_in | ((with_reducible apply wpList_load_at 25 Try.underlying25); rfl; (first | exact heap_alloc_new _ _ | exact heapR0 _ _ _ | exact heapR1 _ _ _ | exact heapR2 _ _ _ _ _ | exact heapR3 _ _ _ _ _ | exact heapR4 _ _ _ _ _ _ _); rfl; exact size25))
  go_ret2
  exact ⟨rfl, by repeat (first | exact Below.refl _ _ | (refine Below.setCell ?_ (by simp) _) | (refine below_drewN ?_ _) | (refine Below.drew ?_) | (refine Below.alloc ?_ (by simp; try omega) _) | (refine Below.grow ?_ (by simp; try omega) _ _))⟩

theorem known_321 (f : Nat → Int) (w : World) :
    Calls Try.prog 17 #[fileV f, .int .i64 321] w fun e w' => e = .returned (.tuple #[.int .u32 (f 12), .bool true]) ∧ Below w.heap.size w w' := by
  go_enter Try.func17, Try.ntmps17
  go_wp2_with (first | go_in | ((with_reducible apply wpList_load_at 25 Try.underlying25); rfl; (first | exact heap_alloc_new _ _ | exact heapR0 _ _ _ | exact heapR1 _ _ _ | exact heapR2 _ _ _ _ _ | exact heapR3 _ _ _ _ _ | exact heapR4 _ _ _ _ _ _ _); rfl; exact size25))
  go_ret2
  exact ⟨rfl, by repeat (first | exact Below.refl _ _ | (refine Below.setCell ?_ (by simp) _) | (refine below_drewN ?_ _) | (refine Below.drew ?_) | (refine Below.alloc ?_ (by simp; try omega) _) | (refine Below.grow ?_ (by simp; try omega) _ _))⟩

theorem known_322 (f : Nat → Int) (w : World) :
    Calls Try.prog 17 #[fileV f, .int .i64 322] w fun e w' => e = .returned (.tuple #[.int .u32 (f 13), .bool true]) ∧ Below w.heap.size w w' := by
  go_enter Try.func17, Try.ntmps17
  go_wp2_with (first | go_in | ((with_reducible apply wpList_load_at 25 Try.underlying25); rfl; (first | exact heap_alloc_new _ _ | exact heapR0 _ _ _ | exact heapR1 _ _ _ | exact heapR2 _ _ _ _ _ | exact heapR3 _ _ _ _ _ | exact heapR4 _ _ _ _ _ _ _); rfl; exact size25))
  go_ret2
  exact ⟨rfl, by repeat (first | exact Below.refl _ _ | (refine Below.setCell ?_ (by simp) _) | (refine below_drewN ?_ _) | (refine Below.drew ?_) | (refine Below.alloc ?_ (by simp; try omega) _) | (refine Below.grow ?_ (by simp; try omega) _ _))⟩

theorem known_323 (f : Nat → Int) (w : World) :
    Calls Try.prog 17 #[fileV f, .int .i64 323] w fun e w' => e = .returned (.tuple #[.int .u32 (f 14), .bool true]) ∧ Below w.heap.size w w' := by
  go_enter Try.func17, Try.ntmps17
  go_wp2_with (first | go_in | ((with_reducible apply wpList_load_at 25 Try.underlying25); rfl; (first | exact heap_alloc_new _ _ | exact heapR0 _ _ _ | exact heapR1 _ _ _ | exact heapR2 _ _ _ _ _ | exact heapR3 _ _ _ _ _ | exact heapR4 _ _ _ _ _ _ _); rfl; exact size25))
  go_ret2
  exact ⟨rfl, by repeat (first | exact Below.refl _ _ | (refine Below.setCell ?_ (by simp) _) | (refine below_drewN ?_ _) | (refine Below.drew ?_) | (refine Below.alloc ?_ (by simp; try omega) _) | (refine Below.grow ?_ (by simp; try omega) _ _))⟩

theorem known_324 (f : Nat → Int) (w : World) :
    Calls Try.prog 17 #[fileV f, .int .i64 324] w fun e w' => e = .returned (.tuple #[.int .u32 (bits .and .u32 (f 4) (f 2)), .bool true]) ∧ Below w.heap.size w w' := by
  go_enter Try.func17, Try.ntmps17
  go_wp2_with (first | go_in | ((with_reducible apply wpList_load_at 25 Try.underlying25); rfl; (first | exact heap_alloc_new _ _ | exact heapR0 _ _ _ | exact heapR1 _ _ _ | exact heapR2 _ _ _ _ _ | exact heapR3 _ _ _ _ _ | exact heapR4 _ _ _ _ _ _ _); rfl; exact size25))
  go_ret2
  exact ⟨rfl, by repeat (first | exact Below.refl _ _ | (refine Below.setCell ?_ (by simp) _) | (refine below_drewN ?_ _) | (refine Below.drew ?_) | (refine Below.alloc ?_ (by simp; try omega) _) | (refine Below.grow ?_ (by simp; try omega) _ _))⟩

theorem known_384 (f : Nat → Int) (w : World) :
    Calls Try.prog 17 #[fileV f, .int .i64 384] w fun e w' => e = .returned (.tuple #[.int .u32 (f 15), .bool true]) ∧ Below w.heap.size w w' := by
  go_enter Try.func17, Try.ntmps17
  go_wp2_with (first | go_in | ((with_reducible apply wpList_load_at 25 Try.underlying25); rfl; (first | exact heap_alloc_new _ _ | exact heapR0 _ _ _ | exact heapR1 _ _ _ | exact heapR2 _ _ _ _ _ | exact heapR3 _ _ _ _ _ | exact heapR4 _ _ _ _ _ _ _); rfl; exact size25))
  go_ret2
  exact ⟨rfl, by repeat (first | exact Below.refl _ _ | (refine Below.setCell ?_ (by simp) _) | (refine below_drewN ?_ _) | (refine Below.drew ?_) | (refine Below.alloc ?_ (by simp; try omega) _) | (refine Below.grow ?_ (by simp; try omega) _ _))⟩

theorem known_768 (f : Nat → Int) (w : World) :
    Calls Try.prog 17 #[fileV f, .int .i64 768] w fun e w' => e = .returned (.tuple #[.int .u32 (f 0), .bool true]) ∧ Below w.heap.size w w' := by
  go_enter Try.func17, Try.ntmps17
  go_wp2_with (first | go_in | ((with_reducible apply wpList_load_at 25 Try.underlying25); rfl; (first | exact heap_alloc_new _ _ | exact heapR0 _ _ _ | exact heapR1 _ _ _ | exact heapR2 _ _ _ _ _ | exact heapR3 _ _ _ _ _ | exact heapR4 _ _ _ _ _ _ _); rfl; exact size25))
  go_ret2
  exact ⟨rfl, by repeat (first | exact Below.refl _ _ | (refine Below.setCell ?_ (by simp) _) | (refine below_drewN ?_ _) | (refine Below.drew ?_) | (refine Below.alloc ?_ (by simp; try omega) _) | (refine Below.grow ?_ (by simp; try omega) _ _))⟩

theorem known_769 (f : Nat → Int) (w : World) :
    Calls Try.prog 17 #[fileV f, .int .i64 769] w fun e w' => e = .returned (.tuple #[.int .u32 (1075056897), .bool true]) ∧ Below w.heap.size w w' := by
  go_enter Try.func17, Try.ntmps17
  go_wp2_with (first | go_in | ((with_reducible apply wpList_load_at 25 Try.underlying25); rfl; (first | exact heap_alloc_new _ _ | exact heapR0 _ _ _ | exact heapR1 _ _ _ | exact heapR2 _ _ _ _ _ | exact heapR3 _ _ _ _ _ | exact heapR4 _ _ _ _ _ _ _); rfl; exact size25))
  go_ret2
  exact ⟨rfl, by repeat (first | exact Below.refl _ _ | (refine Below.setCell ?_ (by simp) _) | (refine below_drewN ?_ _) | (refine Below.drew ?_) | (refine Below.alloc ?_ (by simp; try omega) _) | (refine Below.grow ?_ (by simp; try omega) _ _))⟩

theorem known_770 (f : Nat → Int) (w : World) :
    Calls Try.prog 17 #[fileV f, .int .i64 770] w fun e w' => e = .returned (.tuple #[.int .u32 (f 1), .bool true]) ∧ Below w.heap.size w w' := by
  go_enter Try.func17, Try.ntmps17
  go_wp2_with (first | go_in | ((with_reducible apply wpList_load_at 25 Try.underlying25); rfl; (first | exact heap_alloc_new _ _ | exact heapR0 _ _ _ | exact heapR1 _ _ _ | exact heapR2 _ _ _ _ _ | exact heapR3 _ _ _ _ _ | exact heapR4 _ _ _ _ _ _ _); rfl; exact size25))
  go_ret2
  exact ⟨rfl, by repeat (first | exact Below.refl _ _ | (refine Below.setCell ?_ (by simp) _) | (refine below_drewN ?_ _) | (refine Below.drew ?_) | (refine Below.alloc ?_ (by simp; try omega) _) | (refine Below.grow ?_ (by simp; try omega) _ _))⟩

theorem known_771 (f : Nat → Int) (w : World) :
    Calls Try.prog 17 #[fileV f, .int .i64 771] w fun e w' => e = .returned (.tuple #[.int .u32 (f 2), .bool true]) ∧ Below w.heap.size w w' := by
  go_enter Try.func17, Try.ntmps17
  go_wp2_with (first | go_in | ((with_reducible apply wpList_load_at 25 Try.underlying25); rfl; (first | exact heap_alloc_new _ _ | exact heapR0 _ _ _ | exact heapR1 _ _ _ | exact heapR2 _ _ _ _ _ | exact heapR3 _ _ _ _ _ | exact heapR4 _ _ _ _ _ _ _); rfl; exact size25))
  go_ret2
  exact ⟨rfl, by repeat (first | exact Below.refl _ _ | (refine Below.setCell ?_ (by simp) _) | (refine below_drewN ?_ _) | (refine Below.drew ?_) | (refine Below.alloc ?_ (by simp; try omega) _) | (refine Below.grow ?_ (by simp; try omega) _ _))⟩

theorem known_772 (f : Nat → Int) (w : World) :
    Calls Try.prog 17 #[fileV f, .int .i64 772] w fun e w' => e = .returned (.tuple #[.int .u32 (f 3), .bool true]) ∧ Below w.heap.size w w' := by
  go_enter Try.func17, Try.ntmps17
  go_wp2_with (first | go_in | ((with_reducible apply wpList_load_at 25 Try.underlying25); rfl; (first | exact heap_alloc_new _ _ | exact heapR0 _ _ _ | exact heapR1 _ _ _ | exact heapR2 _ _ _ _ _ | exact heapR3 _ _ _ _ _ | exact heapR4 _ _ _ _ _ _ _); rfl; exact size25))
  go_ret2
  exact ⟨rfl, by repeat (first | exact Below.refl _ _ | (refine Below.setCell ?_ (by simp) _) | (refine below_drewN ?_ _) | (refine Below.drew ?_) | (refine Below.alloc ?_ (by simp; try omega) _) | (refine Below.grow ?_ (by simp; try omega) _ _))⟩

theorem known_773 (f : Nat → Int) (w : World) :
    Calls Try.prog 17 #[fileV f, .int .i64 773] w fun e w' => e = .returned (.tuple #[.int .u32 (f 5), .bool true]) ∧ Below w.heap.size w w' := by
  go_enter Try.func17, Try.ntmps17
  go_wp2_with (first | go_in | ((with_reducible apply wpList_load_at 25 Try.underlying25); rfl; (first | exact heap_alloc_new _ _ | exact heapR0 _ _ _ | exact heapR1 _ _ _ | exact heapR2 _ _ _ _ _ | exact heapR3 _ _ _ _ _ | exact heapR4 _ _ _ _ _ _ _); rfl; exact size25))
  go_ret2
  exact ⟨rfl, by repeat (first | exact Below.refl _ _ | (refine Below.setCell ?_ (by simp) _) | (refine below_drewN ?_ _) | (refine Below.drew ?_) | (refine Below.alloc ?_ (by simp; try omega) _) | (refine Below.grow ?_ (by simp; try omega) _ _))⟩

theorem known_832 (f : Nat → Int) (w : World) :
    Calls Try.prog 17 #[fileV f, .int .i64 832] w fun e w' => e = .returned (.tuple #[.int .u32 (f 6), .bool true]) ∧ Below w.heap.size w w' := by
  go_enter Try.func17, Try.ntmps17
  go_wp2_with (first | go_in | ((with_reducible apply wpList_load_at 25 Try.underlying25); rfl; (first | exact heap_alloc_new _ _ | exact heapR0 _ _ _ | exact heapR1 _ _ _ | exact heapR2 _ _ _ _ _ | exact heapR3 _ _ _ _ _ | exact heapR4 _ _ _ _ _ _ _); rfl; exact size25))
  go_ret2
  exact ⟨rfl, by repeat (first | exact Below.refl _ _ | (refine Below.setCell ?_ (by simp) _) | (refine below_drewN ?_ _) | (refine Below.drew ?_) | (refine Below.alloc ?_ (by simp; try omega) _) | (refine Below.grow ?_ (by simp; try omega) _ _))⟩

theorem known_833 (f : Nat → Int) (w : World) :
    Calls Try.prog 17 #[fileV f, .int .i64 833] w fun e w' => e = .returned (.tuple #[.int .u32 (f 7), .bool true]) ∧ Below w.heap.size w w' := by
  go_enter Try.func17, Try.ntmps17
  go_wp2_with (first | go_in | ((with_reducible apply wpList_load_at 25 Try.underlying25); rfl; (first | exact heap_alloc_new _ _ | exact heapR0 _ _ _ | exact heapR1 _ _ _ | exact heapR2 _ _ _ _ _ | exact heapR3 _ _ _ _ _ | exact heapR4 _ _ _ _ _ _ _); rfl; exact size25))
  go_ret2
  exact ⟨rfl, by repeat (first | exact Below.refl _ _ | (refine Below.setCell ?_ (by simp) _) | (refine below_drewN ?_ _) | (refine Below.drew ?_) | (refine Below.alloc ?_ (by simp; try omega) _) | (refine Below.grow ?_ (by simp; try omega) _ _))⟩

theorem known_834 (f : Nat → Int) (w : World) :
    Calls Try.prog 17 #[fileV f, .int .i64 834] w fun e w' => e = .returned (.tuple #[.int .u32 (f 8), .bool true]) ∧ Below w.heap.size w w' := by
  go_enter Try.func17, Try.ntmps17
  go_wp2_with (first | go_in | ((with_reducible apply wpList_load_at 25 Try.underlying25); rfl; (first | exact heap_alloc_new _ _ | exact heapR0 _ _ _ | exact heapR1 _ _ _ | exact heapR2 _ _ _ _ _ | exact heapR3 _ _ _ _ _ | exact heapR4 _ _ _ _ _ _ _); rfl; exact size25))
  go_ret2
  exact ⟨rfl, by repeat (first | exact Below.refl _ _ | (refine Below.setCell ?_ (by simp) _) | (refine below_drewN ?_ _) | (refine Below.drew ?_) | (refine Below.alloc ?_ (by simp; try omega) _) | (refine Below.grow ?_ (by simp; try omega) _ _))⟩

theorem known_835 (f : Nat → Int) (w : World) :
    Calls Try.prog 17 #[fileV f, .int .i64 835] w fun e w' => e = .returned (.tuple #[.int .u32 (f 9), .bool true]) ∧ Below w.heap.size w w' := by
  go_enter Try.func17, Try.ntmps17
  go_wp2_with (first | go_in | ((with_reducible apply wpList_load_at 25 Try.underlying25); rfl; (first | exact heap_alloc_new _ _ | exact heapR0 _ _ _ | exact heapR1 _ _ _ | exact heapR2 _ _ _ _ _ | exact heapR3 _ _ _ _ _ | exact heapR4 _ _ _ _ _ _ _); rfl; exact size25))
  go_ret2
  exact ⟨rfl, by repeat (first | exact Below.refl _ _ | (refine Below.setCell ?_ (by simp) _) | (refine below_drewN ?_ _) | (refine Below.drew ?_) | (refine Below.alloc ?_ (by simp; try omega) _) | (refine Below.grow ?_ (by simp; try omega) _ _))⟩

theorem known_836 (f : Nat → Int) (w : World) :
    Calls Try.prog 17 #[fileV f, .int .i64 836] w fun e w' => e = .returned (.tuple #[.int .u32 (f 4), .bool true]) ∧ Below w.heap.size w w' := by
  go_enter Try.func17, Try.ntmps17
  go_wp2_with (first | go_in | ((with_reducible apply wpList_load_at 25 Try.underlying25); rfl; (first | exact heap_alloc_new _ _ | exact heapR0 _ _ _ | exact heapR1 _ _ _ | exact heapR2 _ _ _ _ _ | exact heapR3 _ _ _ _ _ | exact heapR4 _ _ _ _ _ _ _); rfl; exact size25))
  go_ret2
  exact ⟨rfl, by repeat (first | exact Below.refl _ _ | (refine Below.setCell ?_ (by simp) _) | (refine below_drewN ?_ _) | (refine Below.drew ?_) | (refine Below.alloc ?_ (by simp; try omega) _) | (refine Below.grow ?_ (by simp; try omega) _ _))⟩

theorem known_2816 (f : Nat → Int) (w : World) (h1 : 0 ≤ f 16) (h2 : f 16 < 18446744073709551616) :
    Calls Try.prog 17 #[fileV f, .int .i64 2816] w fun e w' => e = .returned (.tuple #[.int .u32 (f 16 % 4294967296), .bool true]) ∧ Below w.heap.size w w' := by
  go_enter Try.func17, Try.ntmps17
  go_wp2_with (first | go_in | ((with_reducible apply wpList_load_at 25 Try.underlying25); rfl; (first | exact heap_alloc_new _ _ | exact heapR0 _ _ _ | exact heapR1 _ _ _ | exact heapR2 _ _ _ _ _ | exact heapR3 _ _ _ _ _ | exact heapR4 _ _ _ _ _ _ _); rfl; exact size25))
  go_ret2
  exact ⟨rfl, by repeat (first | exact Below.refl _ _ | (refine Below.setCell ?_ (by simp) _) | (refine below_drewN ?_ _) | (refine Below.drew ?_) | (refine Below.alloc ?_ (by simp; try omega) _) | (refine Below.grow ?_ (by simp; try omega) _ _))⟩

theorem known_3072 (f : Nat → Int) (w : World) (h1 : 0 ≤ f 16) (h2 : f 16 < 18446744073709551616) :
    Calls Try.prog 17 #[fileV f, .int .i64 3072] w fun e w' => e = .returned (.tuple #[.int .u32 (f 16 % 4294967296), .bool true]) ∧ Below w.heap.size w w' := by
  go_enter Try.func17, Try.ntmps17
  go_wp2_with (first | go_in | ((with_reducible apply wpList_load_at 25 Try.underlying25); rfl; (first | exact heap_alloc_new _ _ | exact heapR0 _ _ _ | exact heapR1 _ _ _ | exact heapR2 _ _ _ _ _ | exact heapR3 _ _ _ _ _ | exact heapR4 _ _ _ _ _ _ _); rfl; exact size25))
  go_ret2
  exact ⟨rfl, by repeat (first | exact Below.refl _ _ | (refine Below.setCell ?_ (by simp) _) | (refine below_drewN ?_ _) | (refine Below.drew ?_) | (refine Below.alloc ?_ (by simp; try omega) _) | (refine Below.grow ?_ (by simp; try omega) _ _))⟩

theorem known_2944 (f : Nat → Int) (w : World) (h1 : 0 ≤ f 16) (h2 : f 16 < 18446744073709551616) :
    Calls Try.prog 17 #[fileV f, .int .i64 2944] w fun e w' => e = .returned (.tuple #[.int .u32 (f 16 / 4294967296), .bool true]) ∧ Below w.heap.size w w' := by
  go_enter Try.func17, Try.ntmps17
  go_wp2_with (first | go_in | ((with_reducible apply wpList_load_at 25 Try.underlying25); rfl; (first | exact heap_alloc_new _ _ | exact heapR0 _ _ _ | exact heapR1 _ _ _ | exact heapR2 _ _ _ _ _ | exact heapR3 _ _ _ _ _ | exact heapR4 _ _ _ _ _ _ _); rfl; exact size25))
  go_ret2
  exact ⟨rfl, by repeat (first | exact Below.refl _ _ | (refine Below.setCell ?_ (by simp) _) | (refine below_drewN ?_ _) | (refine Below.drew ?_) | (refine Below.alloc ?_ (by simp; try omega) _) | (refine Below.grow ?_ (by simp; try omega) _ _))⟩

theorem known_3200 (f : Nat → Int) (w : World) (h1 : 0 ≤ f 16) (h2 : f 16 < 18446744073709551616) :
    Calls Try.prog 17 #[fileV f, .int .i64 3200] w fun e w' => e = .returned (.tuple #[.int .u32 (f 16 / 4294967296), .bool true]) ∧ Below w.heap.size w w' := by
  go_enter Try.func17, Try.ntmps17
  go_wp2_with (first | go_in | ((with_reducible apply wpList_load_at 25 Try.underlying25); rfl; (first | exact heap_alloc_new _ _ | exact heapR0 _ _ _ | exact heapR1 _ _ _ | exact heapR2 _ _ _ _ _ | exact heapR3 _ _ _ _ _ | exact heapR4 _ _ _ _ _ _ _); rfl; exact size25))
  go_ret2
  exact ⟨rfl, by repeat (first | exact Below.refl _ _ | (refine Below.setCell ?_ (by simp) _) | (refine below_drewN ?_ _) | (refine Below.drew ?_) | (refine Below.alloc ?_ (by simp; try omega) _) | (refine Below.grow ?_ (by simp; try omega) _ _))⟩

theorem known_3857 (f : Nat → Int) (w : World) :
    Calls Try.prog 17 #[fileV f, .int .i64 3857] w fun e w' => e = .returned (.tuple #[.int .u32 (0), .bool true]) ∧ Below w.heap.size w w' := by
  go_enter Try.func17, Try.ntmps17
  go_wp2_with (first | go_in | ((with_reducible apply wpList_load_at 25 Try.underlying25); rfl; (first | exact heap_alloc_new _ _ | exact heapR0 _ _ _ | exact heapR1 _ _ _ | exact heapR2 _ _ _ _ _ | exact heapR3 _ _ _ _ _ | exact heapR4 _ _ _ _ _ _ _); rfl; exact size25))
  go_ret2
  exact ⟨rfl, by repeat (first | exact Below.refl _ _ | (refine Below.setCell ?_ (by simp) _) | (refine below_drewN ?_ _) | (refine Below.drew ?_) | (refine Below.alloc ?_ (by simp; try omega) _) | (refine Below.grow ?_ (by simp; try omega) _ _))⟩

theorem known_3858 (f : Nat → Int) (w : World) :
    Calls Try.prog 17 #[fileV f, .int .i64 3858] w fun e w' => e = .returned (.tuple #[.int .u32 (0), .bool true]) ∧ Below w.heap.size w w' := by
  go_enter Try.func17, Try.ntmps17
  go_wp2_with (first | go_in | ((with_reducible apply wpList_load_at 25 Try.underlying25); rfl; (first | exact heap_alloc_new _ _ | exact heapR0 _ _ _ | exact heapR1 _ _ _ | exact heapR2 _ _ _ _ _ | exact heapR3 _ _ _ _ _ | exact heapR4 _ _ _ _ _ _ _); rfl; exact size25))
  go_ret2
  exact ⟨rfl, by repeat (first | exact Below.refl _ _ | (refine Below.setCell ?_ (by simp) _) | (refine below_drewN ?_ _) | (refine Below.drew ?_) | (refine Below.alloc ?_ (by simp; try omega) _) | (refine Below.grow ?_ (by simp; try omega) _ _))⟩

theorem known_3859 (f : Nat → Int) (w : World) :
    Calls Try.prog 17 #[fileV f, .int .i64 3859] w fun e w' => e = .returned (.tuple #[.int .u32 (0), .bool true]) ∧ Below w.heap.size w w' := by
  go_enter Try.func17, Try.ntmps17
  go_wp2_with (first | go_in | ((with_reducible apply wpList_load_at 25 Try.underlying25); rfl; (first | exact heap_alloc_new _ _ | exact heapR0 _ _ _ | exact heapR1 _ _ _ | exact heapR2 _ _ _ _ _ | exact heapR3 _ _ _ _ _ | exact heapR4 _ _ _ _ _ _ _); rfl; exact size25))
  go_ret2
  exact ⟨rfl, by repeat (first | exact Below.refl _ _ | (refine Below.setCell ?_ (by simp) _) | (refine below_drewN ?_ _) | (refine Below.drew ?_) | (refine Below.alloc ?_ (by simp; try omega) _) | (refine Below.grow ?_ (by simp; try omega) _ _))⟩

theorem known_3860 (f : Nat → Int) (w : World) :
    Calls Try.prog 17 #[fileV f, .int .i64 3860] w fun e w' => e = .returned (.tuple #[.int .u32 (0), .bool true]) ∧ Below w.heap.size w w' := by
  go_enter Try.func17, Try.ntmps17
  go_wp2_with (first | go_in | ((with_reducible apply wpList_load_at 25 Try.underlying25); rfl; (first | exact heap_alloc_new _ _ | exact heapR0 _ _ _ | exact heapR1 _ _ _ | exact heapR2 _ _ _ _ _ | exact heapR3 _ _ _ _ _ | exact heapR4 _ _ _ _ _ _ _); rfl; exact size25))
  go_ret2
  exact ⟨rfl, by repeat (first | exact Below.refl _ _ | (refine Below.setCell ?_ (by simp) _) | (refine below_drewN ?_ _) | (refine Below.drew ?_) | (refine Below.alloc ?_ (by simp; try omega) _) | (refine Below.grow ?_ (by simp; try omega) _ _))⟩

theorem known_other (f : Nat → Int) (n : Int) (w : World) (h256 : (n == 256) = false) (h260 : (n == 260) = false) (h261 : (n == 261) = false) (h320 : (n == 320) = false) (h321 : (n == 321) = false) (h322 : (n == 322) = false) (h323 : (n == 323) = false) (h324 : (n == 324) = false) (h384 : (n == 384) = false) (h768 : (n == 768) = false) (h769 : (n == 769) = false) (h770 : (n == 770) = false) (h771 : (n == 771) = false) (h772 : (n == 772) = false) (h773 : (n == 773) = false) (h832 : (n == 832) = false) (h833 : (n == 833) = false) (h834 : (n == 834) = false) (h835 : (n == 835) = false) (h836 : (n == 836) = false) (h2816 : (n == 2816) = false) (h3072 : (n == 3072) = false) (h2944 : (n == 2944) = false) (h3200 : (n == 3200) = false) (h3857 : (n == 3857) = false) (h3858 : (n == 3858) = false) (h3859 : (n == 3859) = false) (h3860 : (n == 3860) = false) :
    Calls Try.prog 17 #[fileV f, .int .i64 n] w fun e w' => e = .returned (.tuple #[.int .u32 0, .bool false]) ∧ Below w.heap.size w w' := by
  go_enter Try.func17, Try.ntmps17
  go_wp2_with (first | go_in | ((with_reducible apply wpList_load_at 25 Try.underlying25); rfl; (first | exact heap_alloc_new _ _ | exact heapR0 _ _ _ | exact heapR1 _ _ _ | exact heapR2 _ _ _ _ _ | exact heapR3 _ _ _ _ _ | exact heapR4 _ _ _ _ _ _ _); rfl; exact size25))
  go_ret2
  exact ⟨rfl, by repeat (first | exact Below.refl _ _ | (refine Below.setCell ?_ (by simp) _) | (refine below_drewN ?_ _) | (refine Below.drew ?_) | (refine Below.alloc ?_ (by simp; try omega) _) | (refine Below.grow ?_ (by simp; try omega) _ _))⟩

theorem known_any (f : Nat → Int) (n : Int) (w : World) (hF : Fits f) :
    Calls Try.prog 17 #[fileV f, .int .i64 n] w fun e w' => e = .returned (.tuple #[.int .u32 ((kn f n).getD 0), .bool (kn f n).isSome]) ∧ Below w.heap.size w w' := by
  obtain ⟨_, f1, f2⟩ := hF
  by_cases h256 : n = 256
  · have e : kn f n = some (bits .and .u32 (f 0) 786722) := by simp [kn, h256]
    rw [e, h256]
    exact known_256 f w
  by_cases h260 : n = 260
  · have e : kn f n = some (bits .and .u32 (f 3) (f 2)) := by simp [kn, h260]
    rw [e, h260]
    exact known_260 f w
  by_cases h261 : n = 261
  · have e : kn f n = some (f 10) := by simp [kn, h261]
    rw [e, h261]
    exact known_261 f w
  by_cases h320 : n = 320
  · have e : kn f n = some (f 11) := by simp [kn, h320]
    rw [e, h320]
    exact known_320 f w
  by_cases h321 : n = 321
  · have e : kn f n = some (f 12) := by simp [kn, h321]
    rw [e, h321]
    exact known_321 f w
  by_cases h322 : n = 322
  · have e : kn f n = some (f 13) := by simp [kn, h322]
    rw [e, h322]
    exact known_322 f w
  by_cases h323 : n = 323
  · have e : kn f n = some (f 14) := by simp [kn, h323]
    rw [e, h323]
    exact known_323 f w
  by_cases h324 : n = 324
  · have e : kn f n = some (bits .and .u32 (f 4) (f 2)) := by simp [kn, h324]
    rw [e, h324]
    exact known_324 f w
  by_cases h384 : n = 384
  · have e : kn f n = some (f 15) := by simp [kn, h384]
    rw [e, h384]
    exact known_384 f w
  by_cases h768 : n = 768
  · have e : kn f n = some (f 0) := by simp [kn, h768]
    rw [e, h768]
    exact known_768 f w
  by_cases h769 : n = 769
  · have e : kn f n = some (1075056897) := by simp [kn, h769]
    rw [e, h769]
    exact known_769 f w
  by_cases h770 : n = 770
  · have e : kn f n = some (f 1) := by simp [kn, h770]
    rw [e, h770]
    exact known_770 f w
  by_cases h771 : n = 771
  · have e : kn f n = some (f 2) := by simp [kn, h771]
    rw [e, h771]
    exact known_771 f w
  by_cases h772 : n = 772
  · have e : kn f n = some (f 3) := by simp [kn, h772]
    rw [e, h772]
    exact known_772 f w
  by_cases h773 : n = 773
  · have e : kn f n = some (f 5) := by simp [kn, h773]
    rw [e, h773]
    exact known_773 f w
  by_cases h832 : n = 832
  · have e : kn f n = some (f 6) := by simp [kn, h832]
    rw [e, h832]
    exact known_832 f w
  by_cases h833 : n = 833
  · have e : kn f n = some (f 7) := by simp [kn, h833]
    rw [e, h833]
    exact known_833 f w
  by_cases h834 : n = 834
  · have e : kn f n = some (f 8) := by simp [kn, h834]
    rw [e, h834]
    exact known_834 f w
  by_cases h835 : n = 835
  · have e : kn f n = some (f 9) := by simp [kn, h835]
    rw [e, h835]
    exact known_835 f w
  by_cases h836 : n = 836
  · have e : kn f n = some (f 4) := by simp [kn, h836]
    rw [e, h836]
    exact known_836 f w
  by_cases h2816 : n = 2816
  · have e : kn f n = some (f 16 % 4294967296) := by simp [kn, h2816]
    rw [e, h2816]
    exact known_2816 f w f1 f2
  by_cases h3072 : n = 3072
  · have e : kn f n = some (f 16 % 4294967296) := by simp [kn, h3072]
    rw [e, h3072]
    exact known_3072 f w f1 f2
  by_cases h2944 : n = 2944
  · have e : kn f n = some (f 16 / 4294967296) := by simp [kn, h2944]
    rw [e, h2944]
    exact known_2944 f w f1 f2
  by_cases h3200 : n = 3200
  · have e : kn f n = some (f 16 / 4294967296) := by simp [kn, h3200]
    rw [e, h3200]
    exact known_3200 f w f1 f2
  by_cases h3857 : n = 3857
  · have e : kn f n = some (0) := by simp [kn, h3857]
    rw [e, h3857]
    exact known_3857 f w
  by_cases h3858 : n = 3858
  · have e : kn f n = some (0) := by simp [kn, h3858]
    rw [e, h3858]
    exact known_3858 f w
  by_cases h3859 : n = 3859
  · have e : kn f n = some (0) := by simp [kn, h3859]
    rw [e, h3859]
    exact known_3859 f w
  by_cases h3860 : n = 3860
  · have e : kn f n = some (0) := by simp [kn, h3860]
    rw [e, h3860]
    exact known_3860 f w
  have e : kn f n = none := by simp [kn, h256, h260, h261, h320, h321, h322, h323, h324, h384, h768, h769, h770, h771, h772, h773, h832, h833, h834, h835, h836, h2816, h3072, h2944, h3200, h3857, h3858, h3859, h3860]
  rw [e]
  exact known_other f n w (by simpa using h256) (by simpa using h260) (by simpa using h261) (by simpa using h320) (by simpa using h321) (by simpa using h322) (by simpa using h323) (by simpa using h324) (by simpa using h384) (by simpa using h768) (by simpa using h769) (by simpa using h770) (by simpa using h771) (by simpa using h772) (by simpa using h773) (by simpa using h832) (by simpa using h833) (by simpa using h834) (by simpa using h835) (by simpa using h836) (by simpa using h2816) (by simpa using h3072) (by simpa using h2944) (by simpa using h3200) (by simpa using h3857) (by simpa using h3858) (by simpa using h3859) (by simpa using h3860)

theorem kn_nonneg {f : Nat → Int} {n v : Int} (h : kn f n = some v) : 0 ≤ n ∧ n ≤ 3860 := by
  unfold kn at h
  by_cases h256 : n = 256
  · omega
  rw [if_neg h256] at h
  by_cases h260 : n = 260
  · omega
  rw [if_neg h260] at h
  by_cases h261 : n = 261
  · omega
  rw [if_neg h261] at h
  by_cases h320 : n = 320
  · omega
  rw [if_neg h320] at h
  by_cases h321 : n = 321
  · omega
  rw [if_neg h321] at h
  by_cases h322 : n = 322
  · omega
  rw [if_neg h322] at h
  by_cases h323 : n = 323
  · omega
  rw [if_neg h323] at h
  by_cases h324 : n = 324
  · omega
  rw [if_neg h324] at h
  by_cases h384 : n = 384
  · omega
  rw [if_neg h384] at h
  by_cases h768 : n = 768
  · omega
  rw [if_neg h768] at h
  by_cases h769 : n = 769
  · omega
  rw [if_neg h769] at h
  by_cases h770 : n = 770
  · omega
  rw [if_neg h770] at h
  by_cases h771 : n = 771
  · omega
  rw [if_neg h771] at h
  by_cases h772 : n = 772
  · omega
  rw [if_neg h772] at h
  by_cases h773 : n = 773
  · omega
  rw [if_neg h773] at h
  by_cases h832 : n = 832
  · omega
  rw [if_neg h832] at h
  by_cases h833 : n = 833
  · omega
  rw [if_neg h833] at h
  by_cases h834 : n = 834
  · omega
  rw [if_neg h834] at h
  by_cases h835 : n = 835
  · omega
  rw [if_neg h835] at h
  by_cases h836 : n = 836
  · omega
  rw [if_neg h836] at h
  by_cases h2816 : n = 2816
  · omega
  rw [if_neg h2816] at h
  by_cases h3072 : n = 3072
  · omega
  rw [if_neg h3072] at h
  by_cases h2944 : n = 2944
  · omega
  rw [if_neg h2944] at h
  by_cases h3200 : n = 3200
  · omega
  rw [if_neg h3200] at h
  by_cases h3857 : n = 3857
  · omega
  rw [if_neg h3857] at h
  by_cases h3858 : n = 3858
  · omega
  rw [if_neg h3858] at h
  by_cases h3859 : n = 3859
  · omega
  rw [if_neg h3859] at h
  by_cases h3860 : n = 3860
  · omega
  rw [if_neg h3860] at h
  cases h

/-- The reference's Read. -/
def rrB (f : Nat → Int) (n q : Int) : Bool := (kn f n).isSome && decide (n / 256 % 4 ≤ q)
def rrV (f : Nat → Int) (n q : Int) : Int := if rrB f n q = true then (kn f n).getD 0 else 0

theorem refRead_any (f : Nat → Int) (n q : Int) (w : World) (hF : Fits f) :
    Calls Try.prog 10 #[fileV f, .int .i64 n, .int .i64 q] w fun e w' => e = .returned (.tuple #[.int .u32 (rrV f n q), .bool (rrB f n q)]) ∧ Below w.heap.size w w' := by
  cases hk : kn f n with
  | none =>
    have e1 : rrB f n q = false := by simp [rrB, hk]
    have e2 : rrV f n q = 0 := by simp [rrV, e1]
    rw [e1, e2]
    have HK := _root_.Go.Lib.hid hk
    have HF := _root_.Go.Lib.hid hF
    clear hk hF e1 e2
    go_enter Try.func10, Try.ntmps10
    go_wp2_with (first | (go_at_call 17; refine (known_any f n _ HF.out).mono ?_; rw [HK.out]; rintro e w1 ⟨rfl, hb1⟩; obtain ⟨ext, d, rfl⟩ := below_grow hb1; clear hb1) | ((with_reducible apply wpList_load_at 25 Try.underlying25); rfl; (first | exact heap_alloc_new _ _ | exact heapR0 _ _ _ | exact heapR1 _ _ _ | exact heapR2 _ _ _ _ _ | exact heapR3 _ _ _ _ _ | exact heapR4 _ _ _ _ _ _ _); rfl; exact size25))
    go_ret2
    exact ⟨rfl, by repeat (first | exact Below.refl _ _ | (refine Below.setCell ?_ (by simp) _) | (refine below_drewN ?_ _) | (refine Below.drew ?_) | (refine Below.alloc ?_ (by simp; try omega) _) | (refine Below.grow ?_ (by simp; try omega) _ _))⟩
  | some v =>
    obtain ⟨hn, hn'⟩ := kn_nonneg hk
    by_cases hq : n / 256 % 4 ≤ q
    · have e1 : rrB f n q = true := by simp [rrB, hk, hq]
      have e2 : rrV f n q = v := by simp [rrV, e1, hk]
      rw [e1, e2]
      have HK := _root_.Go.Lib.hid hk
      have HF := _root_.Go.Lib.hid hF
      clear hk hF e1 e2
      go_enter Try.func10, Try.ntmps10
      go_wp2_with (first | (go_at_call 17; refine (known_any f n _ HF.out).mono ?_; rw [HK.out]; rintro e w1 ⟨rfl, hb1⟩; obtain ⟨ext, d, rfl⟩ := below_grow hb1; clear hb1) | ((with_reducible apply wpList_load_at 25 Try.underlying25); rfl; (first | exact heap_alloc_new _ _ | exact heapR0 _ _ _ | exact heapR1 _ _ _ | exact heapR2 _ _ _ _ _ | exact heapR3 _ _ _ _ _ | exact heapR4 _ _ _ _ _ _ _); rfl; exact size25))
      go_ret2
      exact ⟨rfl, by repeat (first | exact Below.refl _ _ | (refine Below.setCell ?_ (by simp) _) | (refine below_drewN ?_ _) | (refine Below.drew ?_) | (refine Below.alloc ?_ (by simp; try omega) _) | (refine Below.grow ?_ (by simp; try omega) _ _))⟩
    · have e1 : rrB f n q = false := by simp [rrB, hq]
      have hq' : q < n / 256 % 4 := by omega
      clear hq
      have e2 : rrV f n q = 0 := by simp [rrV, e1]
      rw [e1, e2]
      have HK := _root_.Go.Lib.hid hk
      have HF := _root_.Go.Lib.hid hF
      clear hk hF e1 e2
      go_enter Try.func10, Try.ntmps10
      go_wp2_with (first | (go_at_call 17; refine (known_any f n _ HF.out).mono ?_; rw [HK.out]; rintro e w1 ⟨rfl, hb1⟩; obtain ⟨ext, d, rfl⟩ := below_grow hb1; clear hb1) | ((with_reducible apply wpList_load_at 25 Try.underlying25); rfl; (first | exact heap_alloc_new _ _ | exact heapR0 _ _ _ | exact heapR1 _ _ _ | exact heapR2 _ _ _ _ _ | exact heapR3 _ _ _ _ _ | exact heapR4 _ _ _ _ _ _ _); rfl; exact size25))
      go_ret2
      exact ⟨rfl, by repeat (first | exact Below.refl _ _ | (refine Below.setCell ?_ (by simp) _) | (refine below_drewN ?_ _) | (refine Below.drew ?_) | (refine Below.alloc ?_ (by simp; try omega) _) | (refine Below.grow ?_ (by simp; try omega) _ _))⟩

end Go.Proofs.Ytpmgdidigfincaa
