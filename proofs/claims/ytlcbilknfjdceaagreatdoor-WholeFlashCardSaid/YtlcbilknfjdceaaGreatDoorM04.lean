/-
  WholeFlash, part 4 of 44: Norc.
-/
import Derived.Deep.LoopGhost
import Derived.Deep.Cut
import Derived.Test.YtlcbilknfjdceaaGreatDoorM03
section
/-
  A chip of five blocks: what its changes do.
-/
set_option linter.unusedVariables false
set_option linter.unusedSimpArgs false
namespace Go.Proofs.YtlcbilknfjdceaaGreatDoor
open Go.RowKit Go.Lib
theorem p1_calls (x v : Int) (b : Nat) (w : World) (hv : w.cell? ⟨b, 0, none⟩ = some (.int .u32 v)) : Calls Tryz.prog 233 #[.int .u32 x, .pointer (some ⟨b, 0, none⟩)] w fun e w' => e = .returned (.int .u32 (bits .and .u32 x v)) ∧ w = w' := by
  go_enter Tryz.func233, Tryz.ntmps233
  go_wp2
  go_ret
  exact ⟨rfl, rfl⟩
theorem e1_calls (x : Int) (w : World) : Calls Tryz.prog 234 #[.int .u32 x] w fun e w' => e = .returned (.int .u32 4294967295) ∧ w = w' := by
  go_enter Tryz.func234, Tryz.ntmps234
  go_wp2
  go_ret
  exact ⟨rfl, rfl⟩
section
variable {B : Nat} {W w : World} {K : Blocks} {C : Ch} {a : At}
set_option maxRecDepth 100000 in
theorem changeP_calls (v : Int) (b : Nat) (h : KW B W (chK C a ++ (b, .cells #[.int .u32 v] 38) :: K) w) (ho : C.Ok) (ha : 320 ≤ a.n) (i n : Nat) (hn : 0 < n) (hi : i + n ≤ 320)  :
    Calls Tryz.prog 232 #[.pointer (some ⟨a.c, 0, none⟩), .int .i64 (i : Int), .int .i64 (n : Int), .func (.func 233) #[] #[.pointer (some ⟨b, 0, none⟩)]] w fun e w' => e = .returned (.int .i64 0) ∧ KW B W (chK (C.put (chg (fun x => bits .and .u32 x v) C.ws i n)) a ++ (b, .cells #[.int .u32 v] 38) :: K) w' := by
  have m3 : w.cell? ⟨a.c, 3, none⟩ = some (.int .i64 0) := cell_at (h.get (g := a.c) (o := chO C a) (by simp)) 3
  have f3 : w.frozen? ⟨a.c, 3, none⟩ = false := free_at (h.get (g := a.c) (o := chO C a) (by simp)) 3
  have m0 : w.cell? ⟨a.c, 0, none⟩ = some (.slice (some ⟨a.w, 0, none⟩) 320 a.n) := cell_at (h.get (g := a.c) (o := chO C a) (by simp)) 0
  have H := _root_.Go.Lib.hid h
  have HH := _root_.Go.Lib.hid (And.intro ho (And.intro hi trivial))
  clear h ho hi
  go_enter Tryz.func232, Tryz.ntmps232
  go_upto_region 3 with fail
  have h1 := KW.cell (i := 3) (x := .int .i64 0) (vs := #[.slice (some ⟨a.w, 0, none⟩) 320 a.n, .slice (some ⟨a.v, 0, none⟩) 5 a.m, .int .i64 C.endure, .int .i64 0, .int .u32 0, .bool false]) H.out rfl
  generalize World.setCell _ _ _ = w1 at h1 ⊢
  clear m3 f3 m0 H
  have m0 : w1.cell? ⟨a.c, 0, none⟩ = some (.slice (some ⟨a.w, 0, none⟩) 320 a.n) := cell_at (h1.get (g := a.c) (o := chO C a) (by simp)) 0
  have H := _root_.Go.Lib.hid h1
  clear h1
  have hb1 := HH.out.2.1
  have e1 : wrap64 ((i : Int) + (n : Int)) = (i : Int) + (n : Int) := by unfold wrap64; omega
  have b1 : i ≤ a.n := by omega
  have b2 : i + n ≤ a.n := by omega
  have b3 : i ≤ i + n := by omega
  have b4 : (a.n = i) = False := eq_false (by omega)
  have b5 : i + n - i = n := by omega
  go_wp2_with fail
  have HB := _root_.Go.Lib.hid (And.intro b1 (And.intro b2 (And.intro b4 hb1)))
  clear b1 b2 b3 b4 b5 e1 m0
  simp only [Nat.add_sub_cancel_left]
  go_loopg [37] n (fun k i' wr => ∃ j : Nat, j + k = n ∧ i' = .int .i64 (j : Int) ∧ KW B W (chK (C.put (chg (fun x => bits .and .u32 x v) C.ws i j)) a ++ (b, .cells #[.int .u32 v] 38) :: K) wr)
  case atStart => exact ⟨0, by omega, rfl, H.out⟩
  case round =>
    clear H
    obtain ⟨j, hj, rfl, hk⟩ := hrel
    by_cases hjn : j < n
    · have x1 : wr.cell? ⟨a.w, i + j, none⟩ = some (.int .u32 (C.ws.getD (i + j) 0)) := by
        rw [cell_at (hk.get (g := a.w) (o := .cells (ints .u32 (chg (fun x => bits .and .u32 x v) C.ws i j) ++ a.sp) 38) (by simp)) (i + j)]
        rw [ints_at' (by rw [chg_len, HH.out.1.hw]; have := HB.out.2.2.2; omega), chg_past (fun x => bits .and .u32 x v) C.ws i j (i + j) (by omega)]
      have x2 : wr.frozen? ⟨a.w, i + j, none⟩ = false := free_at (hk.get (g := a.w) (o := .cells (ints .u32 (chg (fun x => bits .and .u32 x v) C.ws i j) ++ a.sp) 38) (by simp)) (i + j)
      have m0 : wr.cell? ⟨a.c, 0, none⟩ = some (.slice (some ⟨a.w, 0, none⟩) 320 a.n) := cell_at (hk.get (g := a.c) (o := chO C a) (by simp)) 0
      have hlt : i + j < 320 := by have := HB.out.2.2.2; omega
      have e1 : wrap64 ((i : Int) + (j : Int)) = (i : Int) + (j : Int) := by unfold wrap64; omega
      have HK := _root_.Go.Lib.hid hk
      have HJ := _root_.Go.Lib.hid hj
      clear hk hj
      have hv : wr.cell? ⟨b, 0, none⟩ = some (.int .u32 v) := cell_at (HK.out.get (g := b) (o := .cells #[.int .u32 v] 38) (by simp)) 0
      go_wp2_with (go_at_call 233; refine (p1_calls _ v b _ hv).mono ?_; rintro e w' ⟨rfl, rfl⟩)
      go_roundg (n - (j + 1))
      case measure => have := HJ.out; omega
      case rel => exact ⟨j + 1, by have := HJ.out; omega, by first | rfl | go_num, (KW.second (vs := ints .u32 (chg (fun x => bits .and .u32 x v) C.ws i (j + 1)) ++ a.sp) HK.out (by rw [show chg (fun x => bits .and .u32 x v) C.ws i (j + 1) = (chg (fun x => bits .and .u32 x v) C.ws i j).set (i + j) ((fun x => bits .and .u32 x v) (C.ws.getD (i + j) 0)) from rfl, ← ints_set' (by rw [chg_len, HH.out.1.hw]; exact hlt)]; try rw [List.getD_eq_getElem?_getD]))⟩
    · have e : j = n := by omega
      subst e
      have HK := _root_.Go.Lib.hid hk
      clear hk hj
      go_wp2_with fail
      go_ret
      exact ⟨rfl, HK.out⟩
set_option maxRecDepth 100000 in
theorem changeE_calls  (h : KW B W (chK C a ++ K) w) (ho : C.Ok) (ha : 320 ≤ a.n) (i n : Nat) (hn : 0 < n) (hi : i + n ≤ 320)  :
    Calls Tryz.prog 232 #[.pointer (some ⟨a.c, 0, none⟩), .int .i64 (i : Int), .int .i64 (n : Int), .func (.func 234) #[] #[]] w fun e w' => e = .returned (.int .i64 0) ∧ KW B W (chK (C.put (chg (fun _ => 4294967295) C.ws i n)) a ++ K) w' := by
  have m3 : w.cell? ⟨a.c, 3, none⟩ = some (.int .i64 0) := cell_at (h.get (g := a.c) (o := chO C a) (by simp)) 3
  have f3 : w.frozen? ⟨a.c, 3, none⟩ = false := free_at (h.get (g := a.c) (o := chO C a) (by simp)) 3
  have m0 : w.cell? ⟨a.c, 0, none⟩ = some (.slice (some ⟨a.w, 0, none⟩) 320 a.n) := cell_at (h.get (g := a.c) (o := chO C a) (by simp)) 0
  have H := _root_.Go.Lib.hid h
  have HH := _root_.Go.Lib.hid (And.intro ho (And.intro hi trivial))
  clear h ho hi
  go_enter Tryz.func232, Tryz.ntmps232
  go_upto_region 3 with fail
  have h1 := KW.cell (i := 3) (x := .int .i64 0) (vs := #[.slice (some ⟨a.w, 0, none⟩) 320 a.n, .slice (some ⟨a.v, 0, none⟩) 5 a.m, .int .i64 C.endure, .int .i64 0, .int .u32 0, .bool false]) H.out rfl
  generalize World.setCell _ _ _ = w1 at h1 ⊢
  clear m3 f3 m0 H
  have m0 : w1.cell? ⟨a.c, 0, none⟩ = some (.slice (some ⟨a.w, 0, none⟩) 320 a.n) := cell_at (h1.get (g := a.c) (o := chO C a) (by simp)) 0
  have H := _root_.Go.Lib.hid h1
  clear h1
  have hb1 := HH.out.2.1
  have e1 : wrap64 ((i : Int) + (n : Int)) = (i : Int) + (n : Int) := by unfold wrap64; omega
  have b1 : i ≤ a.n := by omega
  have b2 : i + n ≤ a.n := by omega
  have b3 : i ≤ i + n := by omega
  have b4 : (a.n = i) = False := eq_false (by omega)
  have b5 : i + n - i = n := by omega
  go_wp2_with fail
  have HB := _root_.Go.Lib.hid (And.intro b1 (And.intro b2 (And.intro b4 hb1)))
  clear b1 b2 b3 b4 b5 e1 m0
  simp only [Nat.add_sub_cancel_left]
  go_loopg [37] n (fun k i' wr => ∃ j : Nat, j + k = n ∧ i' = .int .i64 (j : Int) ∧ KW B W (chK (C.put (chg (fun _ => 4294967295) C.ws i j)) a ++ K) wr)
  case atStart => exact ⟨0, by omega, rfl, H.out⟩
  case round =>
    clear H
    obtain ⟨j, hj, rfl, hk⟩ := hrel
    by_cases hjn : j < n
    · have x1 : wr.cell? ⟨a.w, i + j, none⟩ = some (.int .u32 (C.ws.getD (i + j) 0)) := by
        rw [cell_at (hk.get (g := a.w) (o := .cells (ints .u32 (chg (fun _ => 4294967295) C.ws i j) ++ a.sp) 38) (by simp)) (i + j)]
        rw [ints_at' (by rw [chg_len, HH.out.1.hw]; have := HB.out.2.2.2; omega), chg_past (fun _ => 4294967295) C.ws i j (i + j) (by omega)]
      have x2 : wr.frozen? ⟨a.w, i + j, none⟩ = false := free_at (hk.get (g := a.w) (o := .cells (ints .u32 (chg (fun _ => 4294967295) C.ws i j) ++ a.sp) 38) (by simp)) (i + j)
      have m0 : wr.cell? ⟨a.c, 0, none⟩ = some (.slice (some ⟨a.w, 0, none⟩) 320 a.n) := cell_at (hk.get (g := a.c) (o := chO C a) (by simp)) 0
      have hlt : i + j < 320 := by have := HB.out.2.2.2; omega
      have e1 : wrap64 ((i : Int) + (j : Int)) = (i : Int) + (j : Int) := by unfold wrap64; omega
      have HK := _root_.Go.Lib.hid hk
      have HJ := _root_.Go.Lib.hid hj
      clear hk hj
      go_wp2_with (go_at_call 234; refine (e1_calls _ _).mono ?_; rintro e w' ⟨rfl, rfl⟩)
      go_roundg (n - (j + 1))
      case measure => have := HJ.out; omega
      case rel => exact ⟨j + 1, by have := HJ.out; omega, by first | rfl | go_num, (KW.second (vs := ints .u32 (chg (fun _ => 4294967295) C.ws i (j + 1)) ++ a.sp) HK.out (by rw [show chg (fun _ => 4294967295) C.ws i (j + 1) = (chg (fun _ => 4294967295) C.ws i j).set (i + j) ((fun _ => 4294967295) (C.ws.getD (i + j) 0)) from rfl, ← ints_set' (by rw [chg_len, HH.out.1.hw]; exact hlt)]; try rw [List.getD_eq_getElem?_getD]))⟩
    · have e : j = n := by omega
      subst e
      have HK := _root_.Go.Lib.hid hk
      clear hk hj
      go_wp2_with fail
      go_ret
      exact ⟨rfl, HK.out⟩
end
end Go.Proofs.YtlcbilknfjdceaaGreatDoor
end
