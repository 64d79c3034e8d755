/-
  csr.File.find: where a register is, what is read of it and what may be written.
-/
import Derived.Test.YtpmgdidigfincaaPlain
namespace Go.Proofs.Ytpmgdidigfincaa
open Go.RowKit Go.Val Go.MapKept

theorem bcell {W w1 : World} (hb : Below W.heap.size W w1) : (∀ b o, b < W.heap.size → w1.cell? ⟨b, o, none⟩ = W.cell? ⟨b, o, none⟩) ∧ (∀ b o, b < W.heap.size → w1.frozen? ⟨b, o, none⟩ = W.frozen? ⟨b, o, none⟩) :=
  ⟨fun b o h => hb.cell (p := ⟨b, o, none⟩) h, fun b o h => hb.frozen (p := ⟨b, o, none⟩) h⟩

theorem own0 {w w1 : World} {v0 v1 v2 v3 v4 : Value} {t : TypeId} (hb : Below (w.alloc (.cells #[v0, v1, v2, v3, v4] t)).heap.size (w.alloc (.cells #[v0, v1, v2, v3, v4] t)) w1) : w1.cell? ⟨w.heap.size, 0, none⟩ = some v0 := (hb.cell (p := ⟨w.heap.size, 0, none⟩) (by simp)).trans (by simp)
theorem own1 {w w1 : World} {v0 v1 v2 v3 v4 : Value} {t : TypeId} (hb : Below (w.alloc (.cells #[v0, v1, v2, v3, v4] t)).heap.size (w.alloc (.cells #[v0, v1, v2, v3, v4] t)) w1) : w1.cell? ⟨w.heap.size, 1, none⟩ = some v1 := (hb.cell (p := ⟨w.heap.size, 1, none⟩) (by simp)).trans (by simp)
theorem own2 {w w1 : World} {v0 v1 v2 v3 v4 : Value} {t : TypeId} (hb : Below (w.alloc (.cells #[v0, v1, v2, v3, v4] t)).heap.size (w.alloc (.cells #[v0, v1, v2, v3, v4] t)) w1) : w1.cell? ⟨w.heap.size, 2, none⟩ = some v2 := (hb.cell (p := ⟨w.heap.size, 2, none⟩) (by simp)).trans (by simp)
theorem own3 {w w1 : World} {v0 v1 v2 v3 v4 : Value} {t : TypeId} (hb : Below (w.alloc (.cells #[v0, v1, v2, v3, v4] t)).heap.size (w.alloc (.cells #[v0, v1, v2, v3, v4] t)) w1) : w1.cell? ⟨w.heap.size, 3, none⟩ = some v3 := (hb.cell (p := ⟨w.heap.size, 3, none⟩) (by simp)).trans (by simp)
theorem own4 {w w1 : World} {v0 v1 v2 v3 v4 : Value} {t : TypeId} (hb : Below (w.alloc (.cells #[v0, v1, v2, v3, v4] t)).heap.size (w.alloc (.cells #[v0, v1, v2, v3, v4] t)) w1) : w1.cell? ⟨w.heap.size, 4, none⟩ = some v4 := (hb.cell (p := ⟨w.heap.size, 4, none⟩) (by simp)).trans (by simp)

/-- Where a register is: a field of the file (what is read, what is put, what is cleared); a constant; a half of the counter. -/
inductive Loc where
  | fld (i : Nat) (r p c : Int)
  | own (v r : Int)
  | cyc (u : Bool)

def loc (md n : Int) : Option Loc :=
  if n = 256 then some (.fld 0 786722 786722 0) else
  if n = 260 then some (.fld 3 md md 0) else
  if n = 324 then some (.fld 4 md (bits .and .u32 md 2) 0) else
  if n = 768 then some (.fld 0 4294967295 924074 0) else
  if n = 770 then some (.fld 1 4294967295 46079 0) else
  if n = 771 then some (.fld 2 4294967295 546 0) else
  if n = 772 then some (.fld 3 4294967295 2730 0) else
  if n = 836 then some (.fld 4 4294967295 546 0) else
  if n = 769 then some (.own 1075056897 4294967295) else
  if n = 2816 then some (.cyc false) else
  if n = 3072 then some (.cyc false) else
  if n = 2944 then some (.cyc true) else
  if n = 3200 then some (.cyc true) else
  if n = 3857 then some (.own 0 0) else
  if n = 3858 then some (.own 0 0) else
  if n = 3859 then some (.own 0 0) else
  if n = 3860 then some (.own 0 0) else
  (look 0 n).map fun a => .fld a.off 4294967295 4294967295 (clr n)

/-- What find hands back, and leaves. -/
def Found (b : Nat) (w : World) (l : Option Loc) (e : Ending) (w' : World) : Prop :=
  Below w.heap.size w w' ∧ match l with
  | some (.fld i r p c) => e = .returned (.tuple #[.agg #[.pointer (some ⟨b, i, none⟩), .int .u32 r, .int .u32 p, .int .u32 c, .bool false], .bool true])
  | some (.own v r) => ∃ k, w.heap.size ≤ k ∧ w'.cell? ⟨k, 0, none⟩ = some (.int .u32 v) ∧ w'.frozen? ⟨k, 0, none⟩ = false ∧ e = .returned (.tuple #[.agg #[.pointer (some ⟨k, 0, none⟩), .int .u32 r, .int .u32 0, .int .u32 0, .bool false], .bool true])
  | some (.cyc u) => e = .returned (.tuple #[.agg #[.pointer none, .int .u32 0, .int .u32 0, .int .u32 0, .bool u], .bool true])
  | none => e = .returned (.tuple #[.agg #[.pointer none, .int .u32 4294967295, .int .u32 4294967295, .int .u32 0, .bool false], .bool false])

theorem find_256 (b : Nat) (w : World) :
    Calls Try.prog 15 #[.pointer (some ⟨b, 0, none⟩), .int .i64 256] w fun e w' => e = .returned (.tuple #[.agg #[.pointer (some ⟨b, 0, none⟩), .int .u32 786722, .int .u32 786722, .int .u32 0, .bool false], .bool true]) ∧ Below w.heap.size w w' := by
  go_enter Try.func15, Try.ntmps15
  go_wp2
  refine bodyPost_ret (v := .tuple #[.agg #[.pointer (some ⟨b, 0, none⟩), .int .u32 786722, .int .u32 786722, .int .u32 0, .bool false], .bool true]) (by simp [results, Try.results15, go_sem]) rfl ⟨rfl, ?_⟩
  repeat (first | exact Below.refl _ _ | (refine Below.drew ?_) | (refine Below.setCell ?_ (by simp) _) | (refine Below.alloc ?_ (by simp; try omega) _))

theorem find_260 (b : Nat) (w : World) (md : Int) (hb : b < w.heap.size) (h2 : w.cell? ⟨b, 2, none⟩ = some (.int .u32 md)) :
    Calls Try.prog 15 #[.pointer (some ⟨b, 0, none⟩), .int .i64 260] w fun e w' => e = .returned (.tuple #[.agg #[.pointer (some ⟨b, 3, none⟩), .int .u32 md, .int .u32 md, .int .u32 0, .bool false], .bool true]) ∧ Below w.heap.size w w' := by
  have h2' : ∀ o, (w.alloc o).cell? ⟨b, 2, none⟩ = some (.int .u32 md) := fun o => (World.cell?_alloc_lt w o _ hb).trans h2
  go_enter Try.func15, Try.ntmps15
  go_wp2
  go_region
  all_goals go_wp2
  refine bodyPost_ret (v := .tuple #[.agg #[.pointer (some ⟨b, 3, none⟩), .int .u32 md, .int .u32 md, .int .u32 0, .bool false], .bool true]) (by simp [results, Try.results15, go_sem]) rfl ⟨rfl, ?_⟩
  repeat (first | exact Below.refl _ _ | (refine Below.drew ?_) | (refine Below.setCell ?_ (by simp) _) | (refine Below.alloc ?_ (by simp; try omega) _))

theorem find_324 (b : Nat) (w : World) (md : Int) (hb : b < w.heap.size) (h2 : w.cell? ⟨b, 2, none⟩ = some (.int .u32 md)) :
    Calls Try.prog 15 #[.pointer (some ⟨b, 0, none⟩), .int .i64 324] w fun e w' => e = .returned (.tuple #[.agg #[.pointer (some ⟨b, 4, none⟩), .int .u32 md, .int .u32 (bits .and .u32 md 2), .int .u32 0, .bool false], .bool true]) ∧ Below w.heap.size w w' := by
  have h2' : ∀ o, (w.alloc o).cell? ⟨b, 2, none⟩ = some (.int .u32 md) := fun o => (World.cell?_alloc_lt w o _ hb).trans h2
  go_enter Try.func15, Try.ntmps15
  go_wp2
  go_region
  all_goals go_wp2
  refine bodyPost_ret (v := .tuple #[.agg #[.pointer (some ⟨b, 4, none⟩), .int .u32 md, .int .u32 (bits .and .u32 md 2), .int .u32 0, .bool false], .bool true]) (by simp [results, Try.results15, go_sem]) rfl ⟨rfl, ?_⟩
  repeat (first | exact Below.refl _ _ | (refine Below.drew ?_) | (refine Below.setCell ?_ (by simp) _) | (refine Below.alloc ?_ (by simp; try omega) _))

theorem find_768 (b : Nat) (w : World) :
    Calls Try.prog 15 #[.pointer (some ⟨b, 0, none⟩), .int .i64 768] w fun e w' => e = .returned (.tuple #[.agg #[.pointer (some ⟨b, 0, none⟩), .int .u32 4294967295, .int .u32 924074, .int .u32 0, .bool false], .bool true]) ∧ Below w.heap.size w w' := by
  go_enter Try.func15, Try.ntmps15
  go_wp2
  refine bodyPost_ret (v := .tuple #[.agg #[.pointer (some ⟨b, 0, none⟩), .int .u32 4294967295, .int .u32 924074, .int .u32 0, .bool false], .bool true]) (by simp [results, Try.results15, go_sem]) rfl ⟨rfl, ?_⟩
  repeat (first | exact Below.refl _ _ | (refine Below.drew ?_) | (refine Below.setCell ?_ (by simp) _) | (refine Below.alloc ?_ (by simp; try omega) _))

theorem find_770 (b : Nat) (w : World) :
    Calls Try.prog 15 #[.pointer (some ⟨b, 0, none⟩), .int .i64 770] w fun e w' => e = .returned (.tuple #[.agg #[.pointer (some ⟨b, 1, none⟩), .int .u32 4294967295, .int .u32 46079, .int .u32 0, .bool false], .bool true]) ∧ Below w.heap.size w w' := by
  go_enter Try.func15, Try.ntmps15
  go_wp2
  refine bodyPost_ret (v := .tuple #[.agg #[.pointer (some ⟨b, 1, none⟩), .int .u32 4294967295, .int .u32 46079, .int .u32 0, .bool false], .bool true]) (by simp [results, Try.results15, go_sem]) rfl ⟨rfl, ?_⟩
  repeat (first | exact Below.refl _ _ | (refine Below.drew ?_) | (refine Below.setCell ?_ (by simp) _) | (refine Below.alloc ?_ (by simp; try omega) _))

theorem find_771 (b : Nat) (w : World) :
    Calls Try.prog 15 #[.pointer (some ⟨b, 0, none⟩), .int .i64 771] w fun e w' => e = .returned (.tuple #[.agg #[.pointer (some ⟨b, 2, none⟩), .int .u32 4294967295, .int .u32 546, .int .u32 0, .bool false], .bool true]) ∧ Below w.heap.size w w' := by
  go_enter Try.func15, Try.ntmps15
  go_wp2
  refine bodyPost_ret (v := .tuple #[.agg #[.pointer (some ⟨b, 2, none⟩), .int .u32 4294967295, .int .u32 546, .int .u32 0, .bool false], .bool true]) (by simp [results, Try.results15, go_sem]) rfl ⟨rfl, ?_⟩
  repeat (first | exact Below.refl _ _ | (refine Below.drew ?_) | (refine Below.setCell ?_ (by simp) _) | (refine Below.alloc ?_ (by simp; try omega) _))

theorem find_772 (b : Nat) (w : World) :
    Calls Try.prog 15 #[.pointer (some ⟨b, 0, none⟩), .int .i64 772] w fun e w' => e = .returned (.tuple #[.agg #[.pointer (some ⟨b, 3, none⟩), .int .u32 4294967295, .int .u32 2730, .int .u32 0, .bool false], .bool true]) ∧ Below w.heap.size w w' := by
  go_enter Try.func15, Try.ntmps15
  go_wp2
  refine bodyPost_ret (v := .tuple #[.agg #[.pointer (some ⟨b, 3, none⟩), .int .u32 4294967295, .int .u32 2730, .int .u32 0, .bool false], .bool true]) (by simp [results, Try.results15, go_sem]) rfl ⟨rfl, ?_⟩
  repeat (first | exact Below.refl _ _ | (refine Below.drew ?_) | (refine Below.setCell ?_ (by simp) _) | (refine Below.alloc ?_ (by simp; try omega) _))

theorem find_836 (b : Nat) (w : World) :
    Calls Try.prog 15 #[.pointer (some ⟨b, 0, none⟩), .int .i64 836] w fun e w' => e = .returned (.tuple #[.agg #[.pointer (some ⟨b, 4, none⟩), .int .u32 4294967295, .int .u32 546, .int .u32 0, .bool false], .bool true]) ∧ Below w.heap.size w w' := by
  go_enter Try.func15, Try.ntmps15
  go_wp2
  refine bodyPost_ret (v := .tuple #[.agg #[.pointer (some ⟨b, 4, none⟩), .int .u32 4294967295, .int .u32 546, .int .u32 0, .bool false], .bool true]) (by simp [results, Try.results15, go_sem]) rfl ⟨rfl, ?_⟩
  repeat (first | exact Below.refl _ _ | (refine Below.drew ?_) | (refine Below.setCell ?_ (by simp) _) | (refine Below.alloc ?_ (by simp; try omega) _))

theorem find_769 (b : Nat) (w : World) :
    Calls Try.prog 15 #[.pointer (some ⟨b, 0, none⟩), .int .i64 769] w fun e w' => ∃ k, w.heap.size ≤ k ∧ w'.cell? ⟨k, 0, none⟩ = some (.int .u32 1075056897) ∧ w'.frozen? ⟨k, 0, none⟩ = false ∧ e = .returned (.tuple #[.agg #[.pointer (some ⟨k, 0, none⟩), .int .u32 4294967295, .int .u32 0, .int .u32 0, .bool false], .bool true]) ∧ Below w.heap.size w w' := by
  go_enter Try.func15, Try.ntmps15
  go_wp2
  refine bodyPost_ret (v := .tuple #[.agg #[.pointer (some ⟨w.heap.size + 1, 0, none⟩), .int .u32 4294967295, .int .u32 0, .int .u32 0, .bool false], .bool true]) (by simp [results, Try.results15, go_sem]) rfl ⟨w.heap.size + 1, by omega, by simp [go_sem], by simp [go_sem], rfl, ?_⟩
  repeat (first | exact Below.refl _ _ | (refine Below.drew ?_) | (refine Below.setCell ?_ (by simp) _) | (refine Below.alloc ?_ (by simp; try omega) _))

theorem find_2816 (b : Nat) (w : World) :
    Calls Try.prog 15 #[.pointer (some ⟨b, 0, none⟩), .int .i64 2816] w fun e w' => e = .returned (.tuple #[.agg #[.pointer none, .int .u32 0, .int .u32 0, .int .u32 0, .bool false], .bool true]) ∧ Below w.heap.size w w' := by
  have e1 : bits .and .i64 2816 128 = 0 := by kernel_rfl
  go_enter Try.func15, Try.ntmps15
  go_wp2
  refine bodyPost_ret (v := .tuple #[.agg #[.pointer none, .int .u32 0, .int .u32 0, .int .u32 0, .bool false], .bool true]) (by simp [results, Try.results15, go_sem]) rfl ⟨rfl, ?_⟩
  repeat (first | exact Below.refl _ _ | (refine Below.drew ?_) | (refine Below.setCell ?_ (by simp) _) | (refine Below.alloc ?_ (by simp; try omega) _))

theorem find_3072 (b : Nat) (w : World) :
    Calls Try.prog 15 #[.pointer (some ⟨b, 0, none⟩), .int .i64 3072] w fun e w' => e = .returned (.tuple #[.agg #[.pointer none, .int .u32 0, .int .u32 0, .int .u32 0, .bool false], .bool true]) ∧ Below w.heap.size w w' := by
  have e1 : bits .and .i64 3072 128 = 0 := by kernel_rfl
  go_enter Try.func15, Try.ntmps15
  go_wp2
  refine bodyPost_ret (v := .tuple #[.agg #[.pointer none, .int .u32 0, .int .u32 0, .int .u32 0, .bool false], .bool true]) (by simp [results, Try.results15, go_sem]) rfl ⟨rfl, ?_⟩
  repeat (first | exact Below.refl _ _ | (refine Below.drew ?_) | (refine Below.setCell ?_ (by simp) _) | (refine Below.alloc ?_ (by simp; try omega) _))

theorem find_2944 (b : Nat) (w : World) :
    Calls Try.prog 15 #[.pointer (some ⟨b, 0, none⟩), .int .i64 2944] w fun e w' => e = .returned (.tuple #[.agg #[.pointer none, .int .u32 0, .int .u32 0, .int .u32 0, .bool true], .bool true]) ∧ Below w.heap.size w w' := by
  have e1 : bits .and .i64 2944 128 = 128 := by kernel_rfl
  go_enter Try.func15, Try.ntmps15
  go_wp2
  refine bodyPost_ret (v := .tuple #[.agg #[.pointer none, .int .u32 0, .int .u32 0, .int .u32 0, .bool true], .bool true]) (by simp [results, Try.results15, go_sem]) rfl ⟨rfl, ?_⟩
  repeat (first | exact Below.refl _ _ | (refine Below.drew ?_) | (refine Below.setCell ?_ (by simp) _) | (refine Below.alloc ?_ (by simp; try omega) _))

theorem find_3200 (b : Nat) (w : World) :
    Calls Try.prog 15 #[.pointer (some ⟨b, 0, none⟩), .int .i64 3200] w fun e w' => e = .returned (.tuple #[.agg #[.pointer none, .int .u32 0, .int .u32 0, .int .u32 0, .bool true], .bool true]) ∧ Below w.heap.size w w' := by
  have e1 : bits .and .i64 3200 128 = 128 := by kernel_rfl
  go_enter Try.func15, Try.ntmps15
  go_wp2
  refine bodyPost_ret (v := .tuple #[.agg #[.pointer none, .int .u32 0, .int .u32 0, .int .u32 0, .bool true], .bool true]) (by simp [results, Try.results15, go_sem]) rfl ⟨rfl, ?_⟩
  repeat (first | exact Below.refl _ _ | (refine Below.drew ?_) | (refine Below.setCell ?_ (by simp) _) | (refine Below.alloc ?_ (by simp; try omega) _))

theorem find_3857 (b : Nat) (w : World) :
    Calls Try.prog 15 #[.pointer (some ⟨b, 0, none⟩), .int .i64 3857] w fun e w' => ∃ k, w.heap.size ≤ k ∧ w'.cell? ⟨k, 0, none⟩ = some (.int .u32 0) ∧ w'.frozen? ⟨k, 0, none⟩ = false ∧ e = .returned (.tuple #[.agg #[.pointer (some ⟨k, 0, none⟩), .int .u32 0, .int .u32 0, .int .u32 0, .bool false], .bool true]) ∧ Below w.heap.size w w' := by
  go_enter Try.func15, Try.ntmps15
  go_wp2
  refine bodyPost_ret (v := .tuple #[.agg #[.pointer (some ⟨w.heap.size + 1, 0, none⟩), .int .u32 0, .int .u32 0, .int .u32 0, .bool false], .bool true]) (by simp [results, Try.results15, go_sem]) rfl ⟨w.heap.size + 1, by omega, by simp [go_sem], by simp [go_sem], rfl, ?_⟩
  repeat (first | exact Below.refl _ _ | (refine Below.drew ?_) | (refine Below.setCell ?_ (by simp) _) | (refine Below.alloc ?_ (by simp; try omega) _))

theorem find_3858 (b : Nat) (w : World) :
    Calls Try.prog 15 #[.pointer (some ⟨b, 0, none⟩), .int .i64 3858] w fun e w' => ∃ k, w.heap.size ≤ k ∧ w'.cell? ⟨k, 0, none⟩ = some (.int .u32 0) ∧ w'.frozen? ⟨k, 0, none⟩ = false ∧ e = .returned (.tuple #[.agg #[.pointer (some ⟨k, 0, none⟩), .int .u32 0, .int .u32 0, .int .u32 0, .bool false], .bool true]) ∧ Below w.heap.size w w' := by
  go_enter Try.func15, Try.ntmps15
  go_wp2
  refine bodyPost_ret (v := .tuple #[.agg #[.pointer (some ⟨w.heap.size + 1, 0, none⟩), .int .u32 0, .int .u32 0, .int .u32 0, .bool false], .bool true]) (by simp [results, Try.results15, go_sem]) rfl ⟨w.heap.size + 1, by omega, by simp [go_sem], by simp [go_sem], rfl, ?_⟩
  repeat (first | exact Below.refl _ _ | (refine Below.drew ?_) | (refine Below.setCell ?_ (by simp) _) | (refine Below.alloc ?_ (by simp; try omega) _))

theorem find_3859 (b : Nat) (w : World) :
    Calls Try.prog 15 #[.pointer (some ⟨b, 0, none⟩), .int .i64 3859] w fun e w' => ∃ k, w.heap.size ≤ k ∧ w'.cell? ⟨k, 0, none⟩ = some (.int .u32 0) ∧ w'.frozen? ⟨k, 0, none⟩ = false ∧ e = .returned (.tuple #[.agg #[.pointer (some ⟨k, 0, none⟩), .int .u32 0, .int .u32 0, .int .u32 0, .bool false], .bool true]) ∧ Below w.heap.size w w' := by
  go_enter Try.func15, Try.ntmps15
  go_wp2
  refine bodyPost_ret (v := .tuple #[.agg #[.pointer (some ⟨w.heap.size + 1, 0, none⟩), .int .u32 0, .int .u32 0, .int .u32 0, .bool false], .bool true]) (by simp [results, Try.results15, go_sem]) rfl ⟨w.heap.size + 1, by omega, by simp [go_sem], by simp [go_sem], rfl, ?_⟩
  repeat (first | exact Below.refl _ _ | (refine Below.drew ?_) | (refine Below.setCell ?_ (by simp) _) | (refine Below.alloc ?_ (by simp; try omega) _))

theorem find_3860 (b : Nat) (w : World) :
    Calls Try.prog 15 #[.pointer (some ⟨b, 0, none⟩), .int .i64 3860] w fun e w' => ∃ k, w.heap.size ≤ k ∧ w'.cell? ⟨k, 0, none⟩ = some (.int .u32 0) ∧ w'.frozen? ⟨k, 0, none⟩ = false ∧ e = .returned (.tuple #[.agg #[.pointer (some ⟨k, 0, none⟩), .int .u32 0, .int .u32 0, .int .u32 0, .bool false], .bool true]) ∧ Below w.heap.size w w' := by
  go_enter Try.func15, Try.ntmps15
  go_wp2
  refine bodyPost_ret (v := .tuple #[.agg #[.pointer (some ⟨w.heap.size + 1, 0, none⟩), .int .u32 0, .int .u32 0, .int .u32 0, .bool false], .bool true]) (by simp [results, Try.results15, go_sem]) rfl ⟨w.heap.size + 1, by omega, by simp [go_sem], by simp [go_sem], rfl, ?_⟩
  repeat (first | exact Below.refl _ _ | (refine Below.drew ?_) | (refine Below.setCell ?_ (by simp) _) | (refine Below.alloc ?_ (by simp; try omega) _))

theorem find_other_some (b : Nat) (n : Int) (w : World) (a : Addr) (hl : look b n = some a) (h256 : (n == 256) = false) (h260 : (n == 260) = false) (h324 : (n == 324) = false) (h768 : (n == 768) = false) (h770 : (n == 770) = false) (h771 : (n == 771) = false) (h772 : (n == 772) = false) (h836 : (n == 836) = false) (h769 : (n == 769) = false) (h2816 : (n == 2816) = false) (h3072 : (n == 3072) = false) (h2944 : (n == 2944) = false) (h3200 : (n == 3200) = false) (h3857 : (n == 3857) = false) (h3858 : (n == 3858) = false) (h3859 : (n == 3859) = false) (h3860 : (n == 3860) = false) :
    Calls Try.prog 15 #[.pointer (some ⟨b, 0, none⟩), .int .i64 n] w fun e w' => e = .returned (.tuple #[.agg #[.pointer (some a), .int .u32 4294967295, .int .u32 4294967295, .int .u32 (clr n), .bool false], .bool true]) ∧ Below w.heap.size w w' := by
  have HL := _root_.Go.Lib.hid hl
  clear hl
  go_enter Try.func15, Try.ntmps15
  go_wp2_with (go_at_call 21; refine (plain_some _ _ _ _ HL.out).mono ?_; rintro e w1 ⟨rfl, hb1⟩; have hf := (bcell hb1).2; have c0 := own0 hb1; have c1 := own1 hb1; have c2 := own2 hb1; have c3 := own3 hb1; have c4 := own4 hb1; have hz : w.heap.size < w1.heap.size := by have := hb1.size; simp at this; omega)
  refine bodyPost_ret (v := .tuple #[.agg #[.pointer (some a), .int .u32 4294967295, .int .u32 4294967295, .int .u32 (clr n), .bool false], .bool true]) (by simp [results, Try.results15, go_sem, c0, c1, c2, c3, c4]) rfl ⟨rfl, ?_⟩
  repeat (refine Below.setCell ?_ (by simp) _)
  exact ((Below.refl _ _).alloc (Nat.le_refl _) _).trans (hb1.mono (by simp))

theorem find_other_none (b : Nat) (n : Int) (w : World) (hl : look b n = none) (h256 : (n == 256) = false) (h260 : (n == 260) = false) (h324 : (n == 324) = false) (h768 : (n == 768) = false) (h770 : (n == 770) = false) (h771 : (n == 771) = false) (h772 : (n == 772) = false) (h836 : (n == 836) = false) (h769 : (n == 769) = false) (h2816 : (n == 2816) = false) (h3072 : (n == 3072) = false) (h2944 : (n == 2944) = false) (h3200 : (n == 3200) = false) (h3857 : (n == 3857) = false) (h3858 : (n == 3858) = false) (h3859 : (n == 3859) = false) (h3860 : (n == 3860) = false) :
    Calls Try.prog 15 #[.pointer (some ⟨b, 0, none⟩), .int .i64 n] w fun e w' => e = .returned (.tuple #[.agg #[.pointer none, .int .u32 4294967295, .int .u32 4294967295, .int .u32 0, .bool false], .bool false]) ∧ Below w.heap.size w w' := by
  have HL := _root_.Go.Lib.hid hl
  clear hl
  go_enter Try.func15, Try.ntmps15
  go_wp2_with (go_at_call 21; refine (plain_none _ _ _ HL.out).mono ?_; rintro e w1 ⟨rfl, hb1⟩; have hf := (bcell hb1).2; have c0 := own0 hb1; have c1 := own1 hb1; have c2 := own2 hb1; have c3 := own3 hb1; have c4 := own4 hb1; have hz : w.heap.size < w1.heap.size := by have := hb1.size; simp at this; omega)
  refine bodyPost_ret (v := .tuple #[.agg #[.pointer none, .int .u32 4294967295, .int .u32 4294967295, .int .u32 0, .bool false], .bool false]) (by simp [results, Try.results15, go_sem, c0, c1, c2, c3, c4]) rfl ⟨rfl, ?_⟩
  repeat (refine Below.setCell ?_ (by simp) _)
  exact ((Below.refl _ _).alloc (Nat.le_refl _) _).trans (hb1.mono (by simp))

theorem look_at (b : Nat) (n : Int) : look b n = (look 0 n).map fun a => ⟨b, a.off, none⟩ := by
  unfold look
  cases plainKeys.find? fun p => p.1 == n <;> rfl

/-- FIND, whatever the number. -/
theorem find_any (b : Nat) (n md : Int) (w : World) (hb : b < w.heap.size) (h2 : w.cell? ⟨b, 2, none⟩ = some (.int .u32 md)) :
    Calls Try.prog 15 #[.pointer (some ⟨b, 0, none⟩), .int .i64 n] w (Found b w (loc md n)) := by
  by_cases h256 : n = 256
  · have e : loc md n = some (.fld 0 786722 786722 0) := by simp [loc, h256]
    rw [e, h256]
    exact (find_256 b w).mono fun e w' ⟨h1, h2⟩ => ⟨h2, h1⟩
  by_cases h260 : n = 260
  · have e : loc md n = some (.fld 3 md md 0) := by simp [loc, h260]
    rw [e, h260]
    exact (find_260 b w md hb h2).mono fun e w' ⟨h1, h2⟩ => ⟨h2, h1⟩
  by_cases h324 : n = 324
  · have e : loc md n = some (.fld 4 md (bits .and .u32 md 2) 0) := by simp [loc, h324]
    rw [e, h324]
    exact (find_324 b w md hb h2).mono fun e w' ⟨h1, h2⟩ => ⟨h2, h1⟩
  by_cases h768 : n = 768
  · have e : loc md n = some (.fld 0 4294967295 924074 0) := by simp [loc, h768]
    rw [e, h768]
    exact (find_768 b w).mono fun e w' ⟨h1, h2⟩ => ⟨h2, h1⟩
  by_cases h770 : n = 770
  · have e : loc md n = some (.fld 1 4294967295 46079 0) := by simp [loc, h770]
    rw [e, h770]
    exact (find_770 b w).mono fun e w' ⟨h1, h2⟩ => ⟨h2, h1⟩
  by_cases h771 : n = 771
  · have e : loc md n = some (.fld 2 4294967295 546 0) := by simp [loc, h771]
    rw [e, h771]
    exact (find_771 b w).mono fun e w' ⟨h1, h2⟩ => ⟨h2, h1⟩
  by_cases h772 : n = 772
  · have e : loc md n = some (.fld 3 4294967295 2730 0) := by simp [loc, h772]
    rw [e, h772]
    exact (find_772 b w).mono fun e w' ⟨h1, h2⟩ => ⟨h2, h1⟩
  by_cases h836 : n = 836
  · have e : loc md n = some (.fld 4 4294967295 546 0) := by simp [loc, h836]
    rw [e, h836]
    exact (find_836 b w).mono fun e w' ⟨h1, h2⟩ => ⟨h2, h1⟩
  by_cases h769 : n = 769
  · have e : loc md n = some (.own 1075056897 4294967295) := by simp [loc, h769]
    rw [e, h769]
    exact (find_769 b w).mono fun e w' ⟨k, h1, h2, h3, h4, h5⟩ => ⟨h5, k, h1, h2, h3, h4⟩
  by_cases h2816 : n = 2816
  · have e : loc md n = some (.cyc false) := by simp [loc, h2816]
    rw [e, h2816]
    exact (find_2816 b w).mono fun e w' ⟨h1, h2⟩ => ⟨h2, h1⟩
  by_cases h3072 : n = 3072
  · have e : loc md n = some (.cyc false) := by simp [loc, h3072]
    rw [e, h3072]
    exact (find_3072 b w).mono fun e w' ⟨h1, h2⟩ => ⟨h2, h1⟩
  by_cases h2944 : n = 2944
  · have e : loc md n = some (.cyc true) := by simp [loc, h2944]
    rw [e, h2944]
    exact (find_2944 b w).mono fun e w' ⟨h1, h2⟩ => ⟨h2, h1⟩
  by_cases h3200 : n = 3200
  · have e : loc md n = some (.cyc true) := by simp [loc, h3200]
    rw [e, h3200]
    exact (find_3200 b w).mono fun e w' ⟨h1, h2⟩ => ⟨h2, h1⟩
  by_cases h3857 : n = 3857
  · have e : loc md n = some (.own 0 0) := by simp [loc, h3857]
    rw [e, h3857]
    exact (find_3857 b w).mono fun e w' ⟨k, h1, h2, h3, h4, h5⟩ => ⟨h5, k, h1, h2, h3, h4⟩
  by_cases h3858 : n = 3858
  · have e : loc md n = some (.own 0 0) := by simp [loc, h3858]
    rw [e, h3858]
    exact (find_3858 b w).mono fun e w' ⟨k, h1, h2, h3, h4, h5⟩ => ⟨h5, k, h1, h2, h3, h4⟩
  by_cases h3859 : n = 3859
  · have e : loc md n = some (.own 0 0) := by simp [loc, h3859]
    rw [e, h3859]
    exact (find_3859 b w).mono fun e w' ⟨k, h1, h2, h3, h4, h5⟩ => ⟨h5, k, h1, h2, h3, h4⟩
  by_cases h3860 : n = 3860
  · have e : loc md n = some (.own 0 0) := by simp [loc, h3860]
    rw [e, h3860]
    exact (find_3860 b w).mono fun e w' ⟨k, h1, h2, h3, h4, h5⟩ => ⟨h5, k, h1, h2, h3, h4⟩
  have e : loc md n = (look 0 n).map fun a => .fld a.off 4294967295 4294967295 (clr n) := by simp [loc, h256, h260, h324, h768, h770, h771, h772, h836, h769, h2816, h3072, h2944, h3200, h3857, h3858, h3859, h3860]
  rw [e]
  cases hl : look 0 n with
  | none =>
    exact (find_other_none b n w (by rw [look_at, hl]; rfl) (by simpa using h256) (by simpa using h260) (by simpa using h324) (by simpa using h768) (by simpa using h770) (by simpa using h771) (by simpa using h772) (by simpa using h836) (by simpa using h769) (by simpa using h2816) (by simpa using h3072) (by simpa using h2944) (by simpa using h3200) (by simpa using h3857) (by simpa using h3858) (by simpa using h3859) (by simpa using h3860)).mono fun e w' ⟨h1, h2⟩ => ⟨h2, h1⟩
  | some a =>
    exact (find_other_some b n w ⟨b, a.off, none⟩ (by rw [look_at, hl]; rfl) (by simpa using h256) (by simpa using h260) (by simpa using h324) (by simpa using h768) (by simpa using h770) (by simpa using h771) (by simpa using h772) (by simpa using h836) (by simpa using h769) (by simpa using h2816) (by simpa using h3072) (by simpa using h2944) (by simpa using h3200) (by simpa using h3857) (by simpa using h3858) (by simpa using h3859) (by simpa using h3860)).mono fun e w' ⟨h1, h2⟩ => ⟨h2, h1⟩

end Go.Proofs.Ytpmgdidigfincaa
