/-
  Pending.
-/
import Derived.Test.YtkebphpfedgokaaDoorPend0
import Derived.Deep.Cut
set_option linter.unusedVariables false
set_option linter.unusedSimpArgs false
namespace Go.Proofs.YtkebphpfedgokaaDoor
open Go.RowKit Go.Lib
set_option maxRecDepth 100000 in
set_option maxHeartbeats 1600000 in
theorem pend_3t (s : St) (hp : s.p = 3) (hc : tHas s.x0 8 = true) (w : World) (hT : Tab w) : Calls Tryd.prog 12 #[.agg s.r] w fun e w' => e = .returned (.tuple #[.int .u32 (sPend s).1, .bool (sPend s).2]) ∧ Below w.heap.size w w' := by
  have HC := _root_.Go.Lib.hid hc
  clear hc
  have HT := _root_.Go.Lib.hid hT
  clear hT
  obtain ⟨x0, x1, x2, x3, x4, x5, x6, x7, x8, x9, x10, x11, x12, x13, x14, x15, x16, p, pc⟩ := s
  obtain rfl : p = 3 := hp
  try clear hp
  go_enter Tryd.func12, Tryd.ntmps12
  have hp1 := (KW.start (Below.refl w.heap.size w) (Nat.le_refl _)).push (St.o ⟨x0, x1, x2, x3, x4, x5, x6, x7, x8, x9, x10, x11, x12, x13, x14, x15, x16, 3, pc⟩)
  have e6 : (w.alloc (St.o ⟨x0, x1, x2, x3, x4, x5, x6, x7, x8, x9, x10, x11, x12, x13, x14, x15, x16, 3, pc⟩)).heap.size = w.heap.size + 1 := by rw [World.size_alloc]
  have hp2 := hp1.push fileZ
  rw [e6] at hp2
  clear e6
  have HP := _root_.Go.Lib.hid hp1
  have HQ := _root_.Go.Lib.hid hp2
  clear hp1 hp2
  go_upto_region 2 with (first | ((with_reducible apply Go.Mem.wpList_load_part 30 (vs := #[.int .u32 x0, .int .u32 x1, .int .u32 x2, .int .u32 x3, .int .u32 x4, .int .u32 x5, .int .u32 x6, .int .u32 x7, .int .u32 x8, .int .u32 x9, .int .u32 x10, .int .u32 x11, .int .u32 x12, .int .u32 x13, .int .u32 x14, .int .u32 x15, .int .u64 x16]) Tryd.underlying30); rfl; rfl; (exact HP.out.get (g := w.heap.size) (o := St.o ⟨x0, x1, x2, x3, x4, x5, x6, x7, x8, x9, x10, x11, x12, x13, x14, x15, x16, 3, pc⟩) (by simp)); exact size30; rfl) | ((with_reducible apply wpList_store_at 30); rfl; rfl; (exact HQ.out.get (g := w.heap.size + 1) (o := fileZ) (by simp)); exact size30; rfl; rfl; rfl; (have h2 := KW.row (vs := #[.int .u32 x0, .int .u32 x1, .int .u32 x2, .int .u32 x3, .int .u32 x4, .int .u32 x5, .int .u32 x6, .int .u32 x7, .int .u32 x8, .int .u32 x9, .int .u32 x10, .int .u32 x11, .int .u32 x12, .int .u32 x13, .int .u32 x14, .int .u32 x15, .int .u64 x16]) HQ.out); (generalize World.setRow _ (w.heap.size + 1) _ = wc at h2 ⊢)))
  clear HP HQ
  generalize hbb : w.heap.size = b at h2 ⊢
  generalize hbb2 : b + 1 = fb at h2 ⊢
  have H2 := _root_.Go.Lib.hid h2
  clear h2
  have m17 : wc.cell? ⟨b, 17, none⟩ = some (.int .i64 3) := cell_at (H2.out.get (g := b) (o := St.o ⟨x0, x1, x2, x3, x4, x5, x6, x7, x8, x9, x10, x11, x12, x13, x14, x15, x16, 3, pc⟩) (by simp)) 17
  have n0 : wc.cell? ⟨fb, 0, none⟩ = some (.int .u32 x0) := cell_at (H2.out.get (g := fb) (o := .cells #[.int .u32 x0, .int .u32 x1, .int .u32 x2, .int .u32 x3, .int .u32 x4, .int .u32 x5, .int .u32 x6, .int .u32 x7, .int .u32 x8, .int .u32 x9, .int .u32 x10, .int .u32 x11, .int .u32 x12, .int .u32 x13, .int .u32 x14, .int .u32 x15, .int .u64 x16] 30) (by simp)) 0
  have n2 : wc.cell? ⟨fb, 2, none⟩ = some (.int .u32 x2) := cell_at (H2.out.get (g := fb) (o := .cells #[.int .u32 x0, .int .u32 x1, .int .u32 x2, .int .u32 x3, .int .u32 x4, .int .u32 x5, .int .u32 x6, .int .u32 x7, .int .u32 x8, .int .u32 x9, .int .u32 x10, .int .u32 x11, .int .u32 x12, .int .u32 x13, .int .u32 x14, .int .u32 x15, .int .u64 x16] 30) (by simp)) 2
  have n3 : wc.cell? ⟨fb, 3, none⟩ = some (.int .u32 x3) := cell_at (H2.out.get (g := fb) (o := .cells #[.int .u32 x0, .int .u32 x1, .int .u32 x2, .int .u32 x3, .int .u32 x4, .int .u32 x5, .int .u32 x6, .int .u32 x7, .int .u32 x8, .int .u32 x9, .int .u32 x10, .int .u32 x11, .int .u32 x12, .int .u32 x13, .int .u32 x14, .int .u32 x15, .int .u64 x16] 30) (by simp)) 3
  have n4 : wc.cell? ⟨fb, 4, none⟩ = some (.int .u32 x4) := cell_at (H2.out.get (g := fb) (o := .cells #[.int .u32 x0, .int .u32 x1, .int .u32 x2, .int .u32 x3, .int .u32 x4, .int .u32 x5, .int .u32 x6, .int .u32 x7, .int .u32 x8, .int .u32 x9, .int .u32 x10, .int .u32 x11, .int .u32 x12, .int .u32 x13, .int .u32 x14, .int .u32 x15, .int .u64 x16] 30) (by simp)) 4
  go_upto_region 8 with ((go_at_call 19; refine (has_calls x0 8 _).mono ?_; rw [HC.out]; rintro e wq ⟨rfl, rfl⟩))
  clear m17 n0 n2 n3 n4
  have hs : sPend ⟨x0, x1, x2, x3, x4, x5, x6, x7, x8, x9, x10, x11, x12, x13, x14, x15, x16, 3, pc⟩ = pTell (bits .andNot .u32 (bits .and .u32 x4 x3) x2) 0 := by unfold sPend sHigh sLow sAsks; simp only [HC.out]; rfl
  have belf : Below w.heap.size w wc := by rw [hbb]; exact H2.out.bel
  obtain ⟨tt, ff, htc⟩ := HT.out.below H2.out.bel (by have := HT.out.pos; omega)
  have HTC := _root_.Go.Lib.hid htc
  have HB := _root_.Go.Lib.hid belf
  clear htc belf HT H2
  obtain ⟨A, ha⟩ : ∃ A : Int, A = (bits .andNot .u32 (bits .and .u32 x4 x3) x2) := ⟨_, rfl⟩
  obtain ⟨B, hB⟩ : ∃ B : Int, B = 0 := ⟨_, rfl⟩
  have hs2 : sPend ⟨x0, x1, x2, x3, x4, x5, x6, x7, x8, x9, x10, x11, x12, x13, x14, x15, x16, 3, pc⟩ = pTell A B := by rw [ha, hB]; exact hs
  have HS := _root_.Go.Lib.hid hs2
  clear hs2
  clear hs
  go_cut [50, 51] from 8 (fun s50 s51 wx => s50 = .agg #[.int .u32 A, .int .u32 B] ∧ s51 = .int .i64 0 ∧ wc = wx)
  case first =>
    go_wp2_with fail
    go_meet
    case rel => exact ⟨by rw [ha, hB], rfl, rfl⟩
  case rest =>
    obtain ⟨rfl, rfl, rfl⟩ := hcut
    clear ha hB
    have I0 := ix46_0 (.int .u32 A) (.int .u32 B)
    have I1 := ix46_1 (.int .u32 A) (.int .u32 B)
    have J0 := ix47_0
    have J1 := ix47_1
    have J2 := ix47_2
    have J3 := ix47_3
    have J4 := ix47_4
    have J5 := ix47_5
    go_wp2_with fail
    go_loopg [51] 2 (fun k i wr => ((k = 2 ∧ i = .int .i64 0) ∨ (k = 1 ∧ i = .int .i64 1 ∧ pFirst A = none) ∨ (k = 0 ∧ i = .int .i64 2 ∧ pFirst A = none ∧ pFirst B = none)) ∧ wc = wr)
    case atStart => exact ⟨.inl ⟨rfl, rfl⟩, rfl⟩
    case round =>
      obtain ⟨h, rfl⟩ := hrel
      rcases h with ⟨rfl, rfl⟩ | ⟨rfl, rfl, hn⟩ | ⟨rfl, rfl, hn, hn2⟩
      · go_wp2_with ((with_reducible apply wpList_load_at 47 Tryd.underlying47); rfl; exact HTC.out; rfl; exact size47)
        go_loopg [55] 6 (fun k i wr => ∃ j : Nat, j + k = 6 ∧ i = .int .i64 (j : Int) ∧ ((0 < j → tHas A 2048 = false) ∧ (1 < j → tHas A 8 = false) ∧ (2 < j → tHas A 128 = false) ∧ (3 < j → tHas A 512 = false) ∧ (4 < j → tHas A 2 = false) ∧ (5 < j → tHas A 32 = false)) ∧ wc = wr)
        case atStart => exact ⟨0, rfl, rfl, ⟨fun h => by omega, fun h => by omega, fun h => by omega, fun h => by omega, fun h => by omega, fun h => by omega⟩, rfl⟩
        case round =>
          obtain ⟨j, hj, rfl, ⟨h0, h1, h2, h3, h4, h5⟩, rfl⟩ := hrel
          rcases (show j = 0 ∨ j = 1 ∨ j = 2 ∨ j = 3 ∨ j = 4 ∨ j = 5 ∨ j = 6 by omega) with rfl | rfl | rfl | rfl | rfl | rfl | rfl
          · have HJ := _root_.Go.Lib.hid (And.intro hj (And.intro h0 (And.intro h1 (And.intro h2 (And.intro h3 (And.intro h4 h5))))))
            clear hj h0 h1 h2 h3 h4 h5
            rcases hv : tHas A 2048 with _ | _
            · have HV := _root_.Go.Lib.hid hv
              clear hv
              go_wp2_with (go_at_call 19; refine (has_calls A 2048 _).mono ?_; rw [HV.out]; rintro e wq ⟨rfl, rfl⟩)
              go_roundg 5
              case measure => have := HJ.out.1; omega
              case rel => exact ⟨1, rfl, by first | rfl | go_num, ⟨fun _ => HV.out, fun h => by omega, fun h => by omega, fun h => by omega, fun h => by omega, fun h => by omega⟩, rfl⟩
            · have HV := _root_.Go.Lib.hid hv
              clear hv
              go_wp2_with (go_at_call 19; refine (has_calls A 2048 _).mono ?_; rw [HV.out]; rintro e wq ⟨rfl, rfl⟩)
              obtain ⟨_, h0, h1, h2, h3, h4, h5⟩ := HJ.out
              refine bodyPost_ret (results_two Tryd.results12 _ _ _) rfl ⟨?_, (by first | exact HB.out | simpa using HB.out)⟩
              rw [HS.out]
              have e : pFirst A = some 11 := by unfold pFirst; simp only [HV.out]; rfl
              unfold pTell
              simp only [e]
              rfl
          · have HJ := _root_.Go.Lib.hid (And.intro hj (And.intro h0 (And.intro h1 (And.intro h2 (And.intro h3 (And.intro h4 h5))))))
            clear hj h0 h1 h2 h3 h4 h5
            rcases hv : tHas A 8 with _ | _
            · have HV := _root_.Go.Lib.hid hv
              clear hv
              go_wp2_with (go_at_call 19; refine (has_calls A 8 _).mono ?_; rw [HV.out]; rintro e wq ⟨rfl, rfl⟩)
              go_roundg 4
              case measure => have := HJ.out.1; omega
              case rel => exact ⟨2, rfl, by first | rfl | go_num, ⟨fun _ => HJ.out.2.1 (by decide), fun _ => HV.out, fun h => by omega, fun h => by omega, fun h => by omega, fun h => by omega⟩, rfl⟩
            · have HV := _root_.Go.Lib.hid hv
              clear hv
              go_wp2_with (go_at_call 19; refine (has_calls A 8 _).mono ?_; rw [HV.out]; rintro e wq ⟨rfl, rfl⟩)
              obtain ⟨_, h0, h1, h2, h3, h4, h5⟩ := HJ.out
              refine bodyPost_ret (results_two Tryd.results12 _ _ _) rfl ⟨?_, (by first | exact HB.out | simpa using HB.out)⟩
              rw [HS.out]
              have e : pFirst A = some 3 := by unfold pFirst; simp only [HV.out, h0 (by omega)]; rfl
              unfold pTell
              simp only [e]
              rfl
          · have HJ := _root_.Go.Lib.hid (And.intro hj (And.intro h0 (And.intro h1 (And.intro h2 (And.intro h3 (And.intro h4 h5))))))
            clear hj h0 h1 h2 h3 h4 h5
            rcases hv : tHas A 128 with _ | _
            · have HV := _root_.Go.Lib.hid hv
              clear hv
              go_wp2_with (go_at_call 19; refine (has_calls A 128 _).mono ?_; rw [HV.out]; rintro e wq ⟨rfl, rfl⟩)
              go_roundg 3
              case measure => have := HJ.out.1; omega
              case rel => exact ⟨3, rfl, by first | rfl | go_num, ⟨fun _ => HJ.out.2.1 (by decide), fun _ => HJ.out.2.2.1 (by decide), fun _ => HV.out, fun h => by omega, fun h => by omega, fun h => by omega⟩, rfl⟩
            · have HV := _root_.Go.Lib.hid hv
              clear hv
              go_wp2_with (go_at_call 19; refine (has_calls A 128 _).mono ?_; rw [HV.out]; rintro e wq ⟨rfl, rfl⟩)
              obtain ⟨_, h0, h1, h2, h3, h4, h5⟩ := HJ.out
              refine bodyPost_ret (results_two Tryd.results12 _ _ _) rfl ⟨?_, (by first | exact HB.out | simpa using HB.out)⟩
              rw [HS.out]
              have e : pFirst A = some 7 := by unfold pFirst; simp only [HV.out, h0 (by omega), h1 (by omega)]; rfl
              unfold pTell
              simp only [e]
              rfl
          · have HJ := _root_.Go.Lib.hid (And.intro hj (And.intro h0 (And.intro h1 (And.intro h2 (And.intro h3 (And.intro h4 h5))))))
            clear hj h0 h1 h2 h3 h4 h5
            rcases hv : tHas A 512 with _ | _
            · have HV := _root_.Go.Lib.hid hv
              clear hv
              go_wp2_with (go_at_call 19; refine (has_calls A 512 _).mono ?_; rw [HV.out]; rintro e wq ⟨rfl, rfl⟩)
              go_roundg 2
              case measure => have := HJ.out.1; omega
              case rel => exact ⟨4, rfl, by first | rfl | go_num, ⟨fun _ => HJ.out.2.1 (by decide), fun _ => HJ.out.2.2.1 (by decide), fun _ => HJ.out.2.2.2.1 (by decide), fun _ => HV.out, fun h => by omega, fun h => by omega⟩, rfl⟩
            · have HV := _root_.Go.Lib.hid hv
              clear hv
              go_wp2_with (go_at_call 19; refine (has_calls A 512 _).mono ?_; rw [HV.out]; rintro e wq ⟨rfl, rfl⟩)
              obtain ⟨_, h0, h1, h2, h3, h4, h5⟩ := HJ.out
              refine bodyPost_ret (results_two Tryd.results12 _ _ _) rfl ⟨?_, (by first | exact HB.out | simpa using HB.out)⟩
              rw [HS.out]
              have e : pFirst A = some 9 := by unfold pFirst; simp only [HV.out, h0 (by omega), h1 (by omega), h2 (by omega)]; rfl
              unfold pTell
              simp only [e]
              rfl
          · have HJ := _root_.Go.Lib.hid (And.intro hj (And.intro h0 (And.intro h1 (And.intro h2 (And.intro h3 (And.intro h4 h5))))))
            clear hj h0 h1 h2 h3 h4 h5
            rcases hv : tHas A 2 with _ | _
            · have HV := _root_.Go.Lib.hid hv
              clear hv
              go_wp2_with (go_at_call 19; refine (has_calls A 2 _).mono ?_; rw [HV.out]; rintro e wq ⟨rfl, rfl⟩)
              go_roundg 1
              case measure => have := HJ.out.1; omega
              case rel => exact ⟨5, rfl, by first | rfl | go_num, ⟨fun _ => HJ.out.2.1 (by decide), fun _ => HJ.out.2.2.1 (by decide), fun _ => HJ.out.2.2.2.1 (by decide), fun _ => HJ.out.2.2.2.2.1 (by decide), fun _ => HV.out, fun h => by omega⟩, rfl⟩
            · have HV := _root_.Go.Lib.hid hv
              clear hv
              go_wp2_with (go_at_call 19; refine (has_calls A 2 _).mono ?_; rw [HV.out]; rintro e wq ⟨rfl, rfl⟩)
              obtain ⟨_, h0, h1, h2, h3, h4, h5⟩ := HJ.out
              refine bodyPost_ret (results_two Tryd.results12 _ _ _) rfl ⟨?_, (by first | exact HB.out | simpa using HB.out)⟩
              rw [HS.out]
              have e : pFirst A = some 1 := by unfold pFirst; simp only [HV.out, h0 (by omega), h1 (by omega), h2 (by omega), h3 (by omega)]; rfl
              unfold pTell
              simp only [e]
              rfl
          · have HJ := _root_.Go.Lib.hid (And.intro hj (And.intro h0 (And.intro h1 (And.intro h2 (And.intro h3 (And.intro h4 h5))))))
            clear hj h0 h1 h2 h3 h4 h5
            rcases hv : tHas A 32 with _ | _
            · have HV := _root_.Go.Lib.hid hv
              clear hv
              go_wp2_with (go_at_call 19; refine (has_calls A 32 _).mono ?_; rw [HV.out]; rintro e wq ⟨rfl, rfl⟩)
              go_roundg 0
              case measure => have := HJ.out.1; omega
              case rel => exact ⟨6, rfl, by first | rfl | go_num, ⟨fun _ => HJ.out.2.1 (by decide), fun _ => HJ.out.2.2.1 (by decide), fun _ => HJ.out.2.2.2.1 (by decide), fun _ => HJ.out.2.2.2.2.1 (by decide), fun _ => HJ.out.2.2.2.2.2.1 (by decide), fun _ => HV.out⟩, rfl⟩
            · have HV := _root_.Go.Lib.hid hv
              clear hv
              go_wp2_with (go_at_call 19; refine (has_calls A 32 _).mono ?_; rw [HV.out]; rintro e wq ⟨rfl, rfl⟩)
              obtain ⟨_, h0, h1, h2, h3, h4, h5⟩ := HJ.out
              refine bodyPost_ret (results_two Tryd.results12 _ _ _) rfl ⟨?_, (by first | exact HB.out | simpa using HB.out)⟩
              rw [HS.out]
              have e : pFirst A = some 5 := by unfold pFirst; simp only [HV.out, h0 (by omega), h1 (by omega), h2 (by omega), h3 (by omega), h4 (by omega)]; rfl
              unfold pTell
              simp only [e]
              rfl
          · have e : pFirst A = none := by unfold pFirst; simp only [h0 (by omega), h1 (by omega), h2 (by omega), h3 (by omega), h4 (by omega), h5 (by omega)]; rfl
            have HE := _root_.Go.Lib.hid e
            clear e hj h0 h1 h2 h3 h4 h5
            go_wp2_with fail
            go_roundg 1
            case measure => omega
            case rel => exact ⟨.inr (.inl ⟨rfl, by first | rfl | go_num, HE.out⟩), rfl⟩
      · have HN := _root_.Go.Lib.hid hn
        clear hn
        go_wp2_with ((with_reducible apply wpList_load_at 47 Tryd.underlying47); rfl; exact HTC.out; rfl; exact size47)
        go_loopg [55] 6 (fun k i wr => ∃ j : Nat, j + k = 6 ∧ i = .int .i64 (j : Int) ∧ ((0 < j → tHas B 2048 = false) ∧ (1 < j → tHas B 8 = false) ∧ (2 < j → tHas B 128 = false) ∧ (3 < j → tHas B 512 = false) ∧ (4 < j → tHas B 2 = false) ∧ (5 < j → tHas B 32 = false)) ∧ wc = wr)
        case atStart => exact ⟨0, rfl, rfl, ⟨fun h => by omega, fun h => by omega, fun h => by omega, fun h => by omega, fun h => by omega, fun h => by omega⟩, rfl⟩
        case round =>
          obtain ⟨j, hj, rfl, ⟨h0, h1, h2, h3, h4, h5⟩, rfl⟩ := hrel
          rcases (show j = 0 ∨ j = 1 ∨ j = 2 ∨ j = 3 ∨ j = 4 ∨ j = 5 ∨ j = 6 by omega) with rfl | rfl | rfl | rfl | rfl | rfl | rfl
          · have HJ := _root_.Go.Lib.hid (And.intro hj (And.intro h0 (And.intro h1 (And.intro h2 (And.intro h3 (And.intro h4 h5))))))
            clear hj h0 h1 h2 h3 h4 h5
            rcases hv : tHas B 2048 with _ | _
            · have HV := _root_.Go.Lib.hid hv
              clear hv
              go_wp2_with (go_at_call 19; refine (has_calls B 2048 _).mono ?_; rw [HV.out]; rintro e wq ⟨rfl, rfl⟩)
              go_roundg 5
              case measure => have := HJ.out.1; omega
              case rel => exact ⟨1, rfl, by first | rfl | go_num, ⟨fun _ => HV.out, fun h => by omega, fun h => by omega, fun h => by omega, fun h => by omega, fun h => by omega⟩, rfl⟩
            · have HV := _root_.Go.Lib.hid hv
              clear hv
              go_wp2_with (go_at_call 19; refine (has_calls B 2048 _).mono ?_; rw [HV.out]; rintro e wq ⟨rfl, rfl⟩)
              obtain ⟨_, h0, h1, h2, h3, h4, h5⟩ := HJ.out
              refine bodyPost_ret (results_two Tryd.results12 _ _ _) rfl ⟨?_, (by first | exact HB.out | simpa using HB.out)⟩
              rw [HS.out]
              have e : pFirst B = some 11 := by unfold pFirst; simp only [HV.out]; rfl
              unfold pTell
              simp only [HN.out, e]
              rfl
          · have HJ := _root_.Go.Lib.hid (And.intro hj (And.intro h0 (And.intro h1 (And.intro h2 (And.intro h3 (And.intro h4 h5))))))
            clear hj h0 h1 h2 h3 h4 h5
            rcases hv : tHas B 8 with _ | _
            · have HV := _root_.Go.Lib.hid hv
              clear hv
              go_wp2_with (go_at_call 19; refine (has_calls B 8 _).mono ?_; rw [HV.out]; rintro e wq ⟨rfl, rfl⟩)
              go_roundg 4
              case measure => have := HJ.out.1; omega
              case rel => exact ⟨2, rfl, by first | rfl | go_num, ⟨fun _ => HJ.out.2.1 (by decide), fun _ => HV.out, fun h => by omega, fun h => by omega, fun h => by omega, fun h => by omega⟩, rfl⟩
            · have HV := _root_.Go.Lib.hid hv
              clear hv
              go_wp2_with (go_at_call 19; refine (has_calls B 8 _).mono ?_; rw [HV.out]; rintro e wq ⟨rfl, rfl⟩)
              obtain ⟨_, h0, h1, h2, h3, h4, h5⟩ := HJ.out
              refine bodyPost_ret (results_two Tryd.results12 _ _ _) rfl ⟨?_, (by first | exact HB.out | simpa using HB.out)⟩
              rw [HS.out]
              have e : pFirst B = some 3 := by unfold pFirst; simp only [HV.out, h0 (by omega)]; rfl
              unfold pTell
              simp only [HN.out, e]
              rfl
          · have HJ := _root_.Go.Lib.hid (And.intro hj (And.intro h0 (And.intro h1 (And.intro h2 (And.intro h3 (And.intro h4 h5))))))
            clear hj h0 h1 h2 h3 h4 h5
            rcases hv : tHas B 128 with _ | _
            · have HV := _root_.Go.Lib.hid hv
              clear hv
              go_wp2_with (go_at_call 19; refine (has_calls B 128 _).mono ?_; rw [HV.out]; rintro e wq ⟨rfl, rfl⟩)
              go_roundg 3
              case measure => have := HJ.out.1; omega
              case rel => exact ⟨3, rfl, by first | rfl | go_num, ⟨fun _ => HJ.out.2.1 (by decide), fun _ => HJ.out.2.2.1 (by decide), fun _ => HV.out, fun h => by omega, fun h => by omega, fun h => by omega⟩, rfl⟩
            · have HV := _root_.Go.Lib.hid hv
              clear hv
              go_wp2_with (go_at_call 19; refine (has_calls B 128 _).mono ?_; rw [HV.out]; rintro e wq ⟨rfl, rfl⟩)
              obtain ⟨_, h0, h1, h2, h3, h4, h5⟩ := HJ.out
              refine bodyPost_ret (results_two Tryd.results12 _ _ _) rfl ⟨?_, (by first | exact HB.out | simpa using HB.out)⟩
              rw [HS.out]
              have e : pFirst B = some 7 := by unfold pFirst; simp only [HV.out, h0 (by omega), h1 (by omega)]; rfl
              unfold pTell
              simp only [HN.out, e]
              rfl
          · have HJ := _root_.Go.Lib.hid (And.intro hj (And.intro h0 (And.intro h1 (And.intro h2 (And.intro h3 (And.intro h4 h5))))))
            clear hj h0 h1 h2 h3 h4 h5
            rcases hv : tHas B 512 with _ | _
            · have HV := _root_.Go.Lib.hid hv
              clear hv
              go_wp2_with (go_at_call 19; refine (has_calls B 512 _).mono ?_; rw [HV.out]; rintro e wq ⟨rfl, rfl⟩)
              go_roundg 2
              case measure => have := HJ.out.1; omega
              case rel => exact ⟨4, rfl, by first | rfl | go_num, ⟨fun _ => HJ.out.2.1 (by decide), fun _ => HJ.out.2.2.1 (by decide), fun _ => HJ.out.2.2.2.1 (by decide), fun _ => HV.out, fun h => by omega, fun h => by omega⟩, rfl⟩
            · have HV := _root_.Go.Lib.hid hv
              clear hv
              go_wp2_with (go_at_call 19; refine (has_calls B 512 _).mono ?_; rw [HV.out]; rintro e wq ⟨rfl, rfl⟩)
              obtain ⟨_, h0, h1, h2, h3, h4, h5⟩ := HJ.out
              refine bodyPost_ret (results_two Tryd.results12 _ _ _) rfl ⟨?_, (by first | exact HB.out | simpa using HB.out)⟩
              rw [HS.out]
              have e : pFirst B = some 9 := by unfold pFirst; simp only [HV.out, h0 (by omega), h1 (by omega), h2 (by omega)]; rfl
              unfold pTell
              simp only [HN.out, e]
              rfl
          · have HJ := _root_.Go.Lib.hid (And.intro hj (And.intro h0 (And.intro h1 (And.intro h2 (And.intro h3 (And.intro h4 h5))))))
            clear hj h0 h1 h2 h3 h4 h5
            rcases hv : tHas B 2 with _ | _
            · have HV := _root_.Go.Lib.hid hv
              clear hv
              go_wp2_with (go_at_call 19; refine (has_calls B 2 _).mono ?_; rw [HV.out]; rintro e wq ⟨rfl, rfl⟩)
              go_roundg 1
              case measure => have := HJ.out.1; omega
              case rel => exact ⟨5, rfl, by first | rfl | go_num, ⟨fun _ => HJ.out.2.1 (by decide), fun _ => HJ.out.2.2.1 (by decide), fun _ => HJ.out.2.2.2.1 (by decide), fun _ => HJ.out.2.2.2.2.1 (by decide), fun _ => HV.out, fun h => by omega⟩, rfl⟩
            · have HV := _root_.Go.Lib.hid hv
              clear hv
              go_wp2_with (go_at_call 19; refine (has_calls B 2 _).mono ?_; rw [HV.out]; rintro e wq ⟨rfl, rfl⟩)
              obtain ⟨_, h0, h1, h2, h3, h4, h5⟩ := HJ.out
              refine bodyPost_ret (results_two Tryd.results12 _ _ _) rfl ⟨?_, (by first | exact HB.out | simpa using HB.out)⟩
              rw [HS.out]
              have e : pFirst B = some 1 := by unfold pFirst; simp only [HV.out, h0 (by omega), h1 (by omega), h2 (by omega), h3 (by omega)]; rfl
              unfold pTell
              simp only [HN.out, e]
              rfl
          · have HJ := _root_.Go.Lib.hid (And.intro hj (And.intro h0 (And.intro h1 (And.intro h2 (And.intro h3 (And.intro h4 h5))))))
            clear hj h0 h1 h2 h3 h4 h5
            rcases hv : tHas B 32 with _ | _
            · have HV := _root_.Go.Lib.hid hv
              clear hv
              go_wp2_with (go_at_call 19; refine (has_calls B 32 _).mono ?_; rw [HV.out]; rintro e wq ⟨rfl, rfl⟩)
              go_roundg 0
              case measure => have := HJ.out.1; omega
              case rel => exact ⟨6, rfl, by first | rfl | go_num, ⟨fun _ => HJ.out.2.1 (by decide), fun _ => HJ.out.2.2.1 (by decide), fun _ => HJ.out.2.2.2.1 (by decide), fun _ => HJ.out.2.2.2.2.1 (by decide), fun _ => HJ.out.2.2.2.2.2.1 (by decide), fun _ => HV.out⟩, rfl⟩
            · have HV := _root_.Go.Lib.hid hv
              clear hv
              go_wp2_with (go_at_call 19; refine (has_calls B 32 _).mono ?_; rw [HV.out]; rintro e wq ⟨rfl, rfl⟩)
              obtain ⟨_, h0, h1, h2, h3, h4, h5⟩ := HJ.out
              refine bodyPost_ret (results_two Tryd.results12 _ _ _) rfl ⟨?_, (by first | exact HB.out | simpa using HB.out)⟩
              rw [HS.out]
              have e : pFirst B = some 5 := by unfold pFirst; simp only [HV.out, h0 (by omega), h1 (by omega), h2 (by omega), h3 (by omega), h4 (by omega)]; rfl
              unfold pTell
              simp only [HN.out, e]
              rfl
          · have e : pFirst B = none := by unfold pFirst; simp only [h0 (by omega), h1 (by omega), h2 (by omega), h3 (by omega), h4 (by omega), h5 (by omega)]; rfl
            have HE := _root_.Go.Lib.hid e
            clear e hj h0 h1 h2 h3 h4 h5
            go_wp2_with fail
            go_roundg 0
            case measure => omega
            case rel => exact ⟨.inr (.inr ⟨rfl, by first | rfl | go_num, HN.out, HE.out⟩), rfl⟩
      · have HN := _root_.Go.Lib.hid (And.intro hn hn2)
        clear hn hn2
        go_wp2_with fail
        refine bodyPost_ret (results_two Tryd.results12 _ _ _) rfl ⟨?_, (by first | exact HB.out | simpa using HB.out)⟩
        rw [HS.out]
        unfold pTell
        simp only [HN.out.1, HN.out.2]
        rfl
end Go.Proofs.YtkebphpfedgokaaDoor
