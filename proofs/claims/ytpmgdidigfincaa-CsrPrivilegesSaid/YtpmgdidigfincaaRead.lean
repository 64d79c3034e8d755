/-
  csr.Read: what is read of a register, from a privilege.
-/
import Derived.Test.YtpmgdidigfincaaFind
import Derived.Deep.QuietTactic
import Derived.BigQuiet
namespace Go.Proofs.Ytpmgdidigfincaa
open Go.RowKit Go.Val Go.MapKept

/-- The privilege that a register's number asks for. -/
def lvl (n : Int) : Int := bits .and .i64 (n / 256) 3

theorem may_any (n p : Int) (w : World) : Calls Try.prog 16 #[.int .i64 n, .int .i64 p] w fun e w' => e = .returned (.bool (decide (lvl n ≤ p))) ∧ w = w' := by
  go_enter Try.func16, Try.ntmps16
  go_wp2
  go_ret
  exact ⟨rfl, rfl⟩

theorem may_yes (n p : Int) (w : World) (h : lvl n ≤ p) : Calls Try.prog 16 #[.int .i64 n, .int .i64 p] w fun e w' => e = .returned (.bool true) ∧ w = w' :=
  (may_any n p w).mono fun e w' ⟨h1, h2⟩ => ⟨by rw [h1, decide_eq_true h], h2⟩
theorem may_no (n p : Int) (w : World) (h : p < lvl n) : Calls Try.prog 16 #[.int .i64 n, .int .i64 p] w fun e w' => e = .returned (.bool false) ∧ w = w' :=
  (may_any n p w).mono fun e w' ⟨h1, h2⟩ => ⟨by rw [h1, decide_eq_false (by omega)], h2⟩

abbrev fileV (f : Nat → Int) : Value := .agg #[.int .u32 (f 0), .int .u32 (f 1), .int .u32 (f 2), .int .u32 (f 3), .int .u32 (f 4), .int .u32 (f 5), .int .u32 (f 6), .int .u32 (f 7), .int .u32 (f 8), .int .u32 (f 9), .int .u32 (f 10), .int .u32 (f 11), .int .u32 (f 12), .int .u32 (f 13), .int .u32 (f 14), .int .u32 (f 15), .int .u64 (f 16)]

/-- A file's fields, each of its kind. -/
def Fits (f : Nat → Int) : Prop := (∀ i, i < 16 → 0 ≤ f i ∧ f i < 4294967296) ∧ 0 ≤ f 16 ∧ f 16 < 18446744073709551616

/-- What is read. -/
def rdv (f : Nat → Int) : Loc → Int
  | .fld i r _ _ => bits .and .u32 (f i) r
  | .own v r => bits .and .u32 v r
  | .cyc true => f 16 / 4294967296
  | .cyc false => f 16 % 4294967296

/-- A register lies in the file. -/
def Loc.ok : Loc → Prop
  | .fld i _ _ _ => i < 16
  | _ => True

set_option maxHeartbeats 1000000 in
theorem read_none (f : Nat → Int) (n p : Int) (w : World) (hl : loc (f 2) n = none) :
    Calls Try.prog 9 #[fileV f, .int .i64 n, .int .i64 p] w fun e w' => e = .returned (.tuple #[.int .u32 0, .bool false]) ∧ Below w.heap.size w w' := by
  have HL := _root_.Go.Lib.hid hl
  clear hl
  go_enter Try.func9, Try.ntmps9
  go_wp2_with (go_at_call 15; refine (find_any _ _ (f 2) _ (by simp) (by simp)).mono ?_; rw [HL.out]; rintro e w1 ⟨hb1, rfl⟩)
  go_ret2
  exact ⟨rfl, ((((Below.refl _ _).alloc (Nat.le_refl _) _).trans (hb1.mono (by simp))).alloc (by have := hb1.size; simp at this; omega) _)⟩

set_option maxHeartbeats 1000000 in
theorem read_no (f : Nat → Int) (n p : Int) (w : World) (l : Loc) (hl : loc (f 2) n = some l) (hp : p < lvl n) :
    Calls Try.prog 9 #[fileV f, .int .i64 n, .int .i64 p] w fun e w' => e = .returned (.tuple #[.int .u32 0, .bool false]) ∧ Below w.heap.size w w' := by
  have HL := _root_.Go.Lib.hid hl
  have HP := _root_.Go.Lib.hid hp
  clear hl hp
  cases l with
  | fld i r q c =>
    go_enter Try.func9, Try.ntmps9
    go_wp2_with (first | (go_at_call 15; refine (find_any _ _ (f 2) _ (by simp) (by simp)).mono ?_; rw [HL.out]; rintro e w1 ⟨hb1, rfl⟩) | (go_at_call 16; refine (may_no _ _ _ HP.out).mono ?_; rintro e w2 ⟨rfl, rfl⟩))
    go_ret2
    exact ⟨rfl, ((((Below.refl _ _).alloc (Nat.le_refl _) _).trans (hb1.mono (by simp))).alloc (by have := hb1.size; simp at this; omega) _)⟩
  | own v r =>
    go_enter Try.func9, Try.ntmps9
    go_wp2_with (first | (go_at_call 15; refine (find_any _ _ (f 2) _ (by simp) (by simp)).mono ?_; rw [HL.out]; rintro e w1 ⟨hb1, k, hk1, hk2, hk3, rfl⟩) | (go_at_call 16; refine (may_no _ _ _ HP.out).mono ?_; rintro e w2 ⟨rfl, rfl⟩))
    go_ret2
    exact ⟨rfl, ((((Below.refl _ _).alloc (Nat.le_refl _) _).trans (hb1.mono (by simp))).alloc (by have := hb1.size; simp at this; omega) _)⟩
  | cyc u =>
    go_enter Try.func9, Try.ntmps9
    go_wp2_with (first | (go_at_call 15; refine (find_any _ _ (f 2) _ (by simp) (by simp)).mono ?_; rw [HL.out]; rintro e w1 ⟨hb1, rfl⟩) | (go_at_call 16; refine (may_no _ _ _ HP.out).mono ?_; rintro e w2 ⟨rfl, rfl⟩))
    go_ret2
    exact ⟨rfl, ((((Below.refl _ _).alloc (Nat.le_refl _) _).trans (hb1.mono (by simp))).alloc (by have := hb1.size; simp at this; omega) _)⟩

/-- The file's block, behind find. -/
theorem file_kept {w w1 : World} {f : Nat → Int} {t : TypeId} (hb : Below (w.alloc (.cells #[.int .u32 (f 0), .int .u32 (f 1), .int .u32 (f 2), .int .u32 (f 3), .int .u32 (f 4), .int .u32 (f 5), .int .u32 (f 6), .int .u32 (f 7), .int .u32 (f 8), .int .u32 (f 9), .int .u32 (f 10), .int .u32 (f 11), .int .u32 (f 12), .int .u32 (f 13), .int .u32 (f 14), .int .u32 (f 15), .int .u64 (f 16)] t)).heap.size
    (w.alloc (.cells #[.int .u32 (f 0), .int .u32 (f 1), .int .u32 (f 2), .int .u32 (f 3), .int .u32 (f 4), .int .u32 (f 5), .int .u32 (f 6), .int .u32 (f 7), .int .u32 (f 8), .int .u32 (f 9), .int .u32 (f 10), .int .u32 (f 11), .int .u32 (f 12), .int .u32 (f 13), .int .u32 (f 14), .int .u32 (f 15), .int .u64 (f 16)] t)) w1) :
    (∀ i, i < 16 → w1.cell? ⟨w.heap.size, i, none⟩ = some (.int .u32 (f i))) ∧ w1.cell? ⟨w.heap.size, 16, none⟩ = some (.int .u64 (f 16)) ∧ (∀ i, w1.frozen? ⟨w.heap.size, i, none⟩ = false) ∧ w.heap.size < w1.heap.size := by
  refine ⟨fun i hi => ?_, (hb.cell (p := ⟨w.heap.size, 16, none⟩) (by simp)).trans (by simp), fun i => (hb.frozen (p := ⟨w.heap.size, i, none⟩) (by simp)).trans (by simp), by have := hb.size; simp at this; omega⟩
  refine (hb.cell (p := ⟨w.heap.size, i, none⟩) (by simp)).trans ?_
  rw [World.cell?_alloc_new]
  match i, hi with
  | 0, _ => rfl
  | 1, _ => rfl
  | 2, _ => rfl
  | 3, _ => rfl
  | 4, _ => rfl
  | 5, _ => rfl
  | 6, _ => rfl
  | 7, _ => rfl
  | 8, _ => rfl
  | 9, _ => rfl
  | 10, _ => rfl
  | 11, _ => rfl
  | 12, _ => rfl
  | 13, _ => rfl
  | 14, _ => rfl
  | 15, _ => rfl
  | k + 16, hi => exact absurd hi (by omega)

set_option maxHeartbeats 1000000 in
theorem read_yes (f : Nat → Int) (n p : Int) (w : World) (l : Loc) (hF : Fits f) (hl : loc (f 2) n = some l) (hok : l.ok) (hp : lvl n ≤ p) :
    Calls Try.prog 9 #[fileV f, .int .i64 n, .int .i64 p] w fun e w' => e = .returned (.tuple #[.int .u32 (rdv f l), .bool true]) ∧ Below w.heap.size w w' := by
  have HL := _root_.Go.Lib.hid hl
  have HP := _root_.Go.Lib.hid hp
  obtain ⟨_, f1, f2⟩ := hF
  clear hl hp
  cases l with
  | fld i r q c =>
    have hi : i < 16 := hok
    go_enter Try.func9, Try.ntmps9
    go_wp2_with (first | (go_at_call 15; refine (find_any _ _ (f 2) _ (by simp) (by simp)).mono ?_; rw [HL.out]; rintro e w1 ⟨hb1, rfl⟩; obtain ⟨k1, k2, k3, k4⟩ := file_kept hb1; have c0 := (World.cell?_alloc_lt w1 · _ k4 |>.trans (k1 i hi))) | (go_at_call 16; refine (may_yes _ _ _ HP.out).mono ?_; rintro e w2 ⟨rfl, rfl⟩))
    go_quiet (fail)
    go_wp2
    go_ret2
    have hz := hb1.size
    simp at hz
    exact ⟨rfl, by repeat (first | exact ((Below.refl _ _).alloc (Nat.le_refl _) _).trans (hb1.mono (by simp)) | (refine below_drewN ?_ _) | (refine Below.drew ?_) | (refine Below.alloc ?_ (by omega) _))⟩
  | own v r =>
    go_enter Try.func9, Try.ntmps9
    go_wp2_with (first | (go_at_call 15; refine (find_any _ _ (f 2) _ (by simp) (by simp)).mono ?_; rw [HL.out]; rintro e w1 ⟨hb1, k, hk1, hk2, hk3, rfl⟩; have c0 := (World.cell?_alloc_lt w1 · _ (World.block_lt_of_cell? _ _ hk2) |>.trans hk2)) | (go_at_call 16; refine (may_yes _ _ _ HP.out).mono ?_; rintro e w2 ⟨rfl, rfl⟩))
    go_quiet (fail)
    go_wp2
    go_ret2
    have hz := hb1.size
    simp at hz
    exact ⟨rfl, by repeat (first | exact ((Below.refl _ _).alloc (Nat.le_refl _) _).trans (hb1.mono (by simp)) | (refine below_drewN ?_ _) | (refine Below.drew ?_) | (refine Below.alloc ?_ (by omega) _))⟩
  | cyc u =>
    cases u
    all_goals
      go_enter Try.func9, Try.ntmps9
      go_wp2_with (first | (go_at_call 15; refine (find_any _ _ (f 2) _ (by simp) (by simp)).mono ?_; rw [HL.out]; rintro e w1 ⟨hb1, rfl⟩; obtain ⟨k1, k2, k3, k4⟩ := file_kept hb1; have c0 := (World.cell?_alloc_lt w1 · _ k4 |>.trans k2)) | (go_at_call 16; refine (may_yes _ _ _ HP.out).mono ?_; rintro e w2 ⟨rfl, rfl⟩))
      go_ret2
      exact ⟨rfl, by repeat (first | exact ((Below.refl _ _).alloc (Nat.le_refl _) _).trans (hb1.mono (by simp)) | (refine below_drewN ?_ _) | (refine Below.drew ?_) | (refine Below.alloc ?_ (by omega) _))⟩

end Go.Proofs.Ytpmgdidigfincaa
