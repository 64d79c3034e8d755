/-
  The reference's Take: u1t, u1f.
-/
import Derived.Test.YtkebphpfedgokaaDoorRefk
set_option linter.unusedVariables false
set_option linter.unusedSimpArgs false
namespace Go.Proofs.YtkebphpfedgokaaDoor
open Go.RowKit Go.Lib Go.Val
set_option maxRecDepth 100000 in
set_option maxHeartbeats 1600000 in
theorem rtake_u1t (s : St) (c v : Int) (hp : s.p = 1) (hF : Wf s) (hc : W32 c) (hd : sDown s c = false) (hi : tInt c = true) (w : World) : Calls Tryd.prog 16 #[.agg s.r, .int .u32 c, .int .u32 v] w fun e w' => e = .returned (.agg (sTake s c v).r) ∧ Below w.heap.size w w' := by
  obtain ⟨C, rfl⟩ : ∃ n : Nat, c = n := ⟨c.toNat, by have := hc.1; omega⟩
  have hC : C < 4294967296 := by have := hc.2; omega
  obtain ⟨x0, x1, x2, x3, x4, x5, x6, x7, x8, x9, x10, x11, x12, x13, x14, x15, x16, p, pc⟩ := s
  obtain rfl : p = 1 := hp
  have hbk : hb x2 (C % 32) = false := by
    rw [down_hb _ C hC, hi] at hd
    exact hd
  have cb : ∀ w, Calls Tryd.prog 20 #[.int .u32 x2, .int .i64 ((C : Int) % 32)] w fun e w' => e = .returned (.int .u32 0) ∧ w = w' := by
    intro w
    have h := rbit_calls x2 hF.h2 (C % 32) (by omega) w
    rw [hbk] at h
    have e : ((C % 32 : Nat) : Int) = (C : Int) % 32 := by omega
    rw [e] at h
    exact h
  have CB := _root_.Go.Lib.hid cb
  clear cb hbk
  rw [int_ge _ hc] at hi
  have gi : ((C : Int) ≥ 2147483648) = True := eq_true (of_decide_eq_true hi)
  have gi2 : (2147483648 ≤ (C : Int)) = True := gi
  have gi3 : (2147483648 ≤ C) = True := by
    have := gi2
    exact eq_true (by have h : (2147483648 : Int) ≤ (C : Int) := of_eq_true this; omega)
  obtain ⟨v1, hv1⟩ : ∃ v : Int, v = if hb x0 3 then 1 else 0 := ⟨_, rfl⟩
  obtain ⟨y1, hy1⟩ : ∃ y : Int, y = tSet x0 128 (hb x0 3) := ⟨_, rfl⟩
  obtain ⟨y2, hy2⟩ : ∃ y : Int, y = tSet y1 8 false := ⟨_, rfl⟩
  have wy1 : W32 y1 := by rw [hy1]; exact w32_tSet _ _ _
  have wy2 : W32 y2 := by rw [hy2]; exact w32_tSet _ _ _
  have c1 : ∀ w, Calls Tryd.prog 20 #[.int .u32 x0, .int .i64 3] w fun e w' => e = .returned (.int .u32 v1) ∧ w = w' := fun w => by rw [hv1]; exact rbit_calls x0 hF.h0 3 (by decide) w
  have c2 : ∀ w, Calls Tryd.prog 25 #[.int .u32 x0, .int .i64 7, .int .u32 v1] w fun e w' => e = .returned (.int .u32 y1) ∧ w = w' := fun w => by rw [hy1]; exact rput_calls x0 hF.h0 7 (by decide) 128 rfl v1 (hb x0 3) hv1 w
  have c3 : ∀ w, Calls Tryd.prog 25 #[.int .u32 y1, .int .i64 3, .int .u32 0] w fun e w' => e = .returned (.int .u32 y2) ∧ w = w' := fun w => by rw [hy2]; exact rput_calls y1 wy1 3 (by decide) 8 rfl 0 false rfl w
  obtain ⟨y3, hy3⟩ : ∃ y : Int, y = tSet (tSet y2 2048 (true)) 4096 (false) := ⟨_, rfl⟩
  have c4 : ∀ w, Calls Tryd.prog 27 #[.int .u32 y2, .int .i64 11, .int .i64 2, .int .u32 1] w fun e w' => e = .returned (.int .u32 y3) ∧ w = w' := fun w => by rw [hy3]; exact put_two' y2 wy2 1 (by decide) w
  have hst : sTake ⟨x0, x1, x2, x3, x4, x5, x6, x7, x8, x9, x10, x11, x12, x13, x14, x15, x16, 1, pc⟩ (C : Int) v = ⟨y3, x1, x2, x3, x4, x5, x6, pc, (C : Int), v, x10, x11, x12, x13, x14, x15, x16, 3, (tTarget x5 (C : Int))⟩ := by
    unfold sTake
    rw [hd]
    show takeUp _ _ _ = _
    unfold takeUp
    rw [hy3, hy2, hy1]
    have h := up_status (tSet x0 128 (hb x0 3)) 1 (by decide)
    have e : ((1 : Int) == 1 || (1 : Int) == 3) = true := rfl
    have e2 : ((1 : Int) == 3) = false := rfl
    rw [e, e2] at h
    simp only [has8, and_p 1 (by decide)]
    rw [← h]
  rw [hst]
  have CS := _root_.Go.Lib.hid (And.intro c1 (And.intro c2 (And.intro c3 c4)))
  have HW := _root_.Go.Lib.hid (And.intro hF.h5 hc)
  clear c1 c2 c3 c4 hst hd hi hv1 hy1 hy2 hy3 wy1 wy2 hF hc hC
  have hp1 := (KW.start (Below.refl w.heap.size w) (Nat.le_refl _)).push (St.q ⟨x0, x1, x2, x3, x4, x5, x6, x7, x8, x9, x10, x11, x12, x13, x14, x15, x16, 1, pc⟩)
  have e6 : (w.alloc (St.q ⟨x0, x1, x2, x3, x4, x5, x6, x7, x8, x9, x10, x11, x12, x13, x14, x15, x16, 1, pc⟩)).heap.size = w.heap.size + 1 := by rw [World.size_alloc]
  have hp2 := hp1.push resR
  rw [e6] at hp2
  have e7 : ((w.alloc (St.q ⟨x0, x1, x2, x3, x4, x5, x6, x7, x8, x9, x10, x11, x12, x13, x14, x15, x16, 1, pc⟩)).alloc resR).heap.size = w.heap.size + 1 + 1 := by rw [World.size_alloc, World.size_alloc]
  have hp3 := hp2.push fileY
  rw [e7] at hp3
  clear e6 e7 hp1
  have HP := _root_.Go.Lib.hid hp2
  have HQ := _root_.Go.Lib.hid hp3
  clear hp2 hp3
  go_enter Tryd.func16, Tryd.ntmps16
  go_upto_region 2 with (first | ((with_reducible apply Go.Mem.wpList_load_part 25 (vs := #[.int .u32 x0, .int .u32 x1, .int .u32 x2, .int .u32 x3, .int .u32 x4, .int .u32 x5, .int .u32 x6, .int .u32 x7, .int .u32 x8, .int .u32 x9, .int .u32 x10, .int .u32 x11, .int .u32 x12, .int .u32 x13, .int .u32 x14, .int .u32 x15, .int .u64 x16]) Tryd.underlying25); rfl; rfl; (exact HP.out.get (g := w.heap.size) (o := St.q ⟨x0, x1, x2, x3, x4, x5, x6, x7, x8, x9, x10, x11, x12, x13, x14, x15, x16, 1, pc⟩) (by simp)); exact size25; rfl) | ((with_reducible apply wpList_store_at 25); rfl; rfl; (exact HQ.out.get (g := w.heap.size + 1 + 1) (o := fileY) (by simp)); exact size25; rfl; rfl; rfl; (have h2 := KW.row (vs := #[.int .u32 x0, .int .u32 x1, .int .u32 x2, .int .u32 x3, .int .u32 x4, .int .u32 x5, .int .u32 x6, .int .u32 x7, .int .u32 x8, .int .u32 x9, .int .u32 x10, .int .u32 x11, .int .u32 x12, .int .u32 x13, .int .u32 x14, .int .u32 x15, .int .u64 x16]) HQ.out); (generalize World.setRow _ (w.heap.size + 1 + 1) _ = w0 at h2 ⊢)))
  clear HP HQ
  generalize hbb : w.heap.size = b at h2 ⊢
  generalize hbb2 : b + 1 = rb at h2 ⊢
  generalize hbb3 : rb + 1 = fb at h2 ⊢
  have H0 := _root_.Go.Lib.hid h2
  clear h2
  have n1 : w0.cell? ⟨fb, 1, none⟩ = some (.int .u32 x1) := cell_at (H0.out.get (g := fb) (o := .cells (#[.int .u32 x0, .int .u32 x1, .int .u32 x2, .int .u32 x3, .int .u32 x4, .int .u32 x5, .int .u32 x6, .int .u32 x7, .int .u32 x8, .int .u32 x9, .int .u32 x10, .int .u32 x11, .int .u32 x12, .int .u32 x13, .int .u32 x14, .int .u32 x15, .int .u64 x16]) 25) (by simp)) 1
  have n2 : w0.cell? ⟨fb, 2, none⟩ = some (.int .u32 x2) := cell_at (H0.out.get (g := fb) (o := .cells (#[.int .u32 x0, .int .u32 x1, .int .u32 x2, .int .u32 x3, .int .u32 x4, .int .u32 x5, .int .u32 x6, .int .u32 x7, .int .u32 x8, .int .u32 x9, .int .u32 x10, .int .u32 x11, .int .u32 x12, .int .u32 x13, .int .u32 x14, .int .u32 x15, .int .u64 x16]) 25) (by simp)) 2
  have n8 : w0.cell? ⟨fb, 8, none⟩ = some (.int .u32 x8) := cell_at (H0.out.get (g := fb) (o := .cells (#[.int .u32 x0, .int .u32 x1, .int .u32 x2, .int .u32 x3, .int .u32 x4, .int .u32 x5, .int .u32 x6, .int .u32 x7, .int .u32 x8, .int .u32 x9, .int .u32 x10, .int .u32 x11, .int .u32 x12, .int .u32 x13, .int .u32 x14, .int .u32 x15, .int .u64 x16]) 25) (by simp)) 8
  have n7 : w0.cell? ⟨fb, 7, none⟩ = some (.int .u32 x7) := cell_at (H0.out.get (g := fb) (o := .cells (#[.int .u32 x0, .int .u32 x1, .int .u32 x2, .int .u32 x3, .int .u32 x4, .int .u32 x5, .int .u32 x6, .int .u32 x7, .int .u32 x8, .int .u32 x9, .int .u32 x10, .int .u32 x11, .int .u32 x12, .int .u32 x13, .int .u32 x14, .int .u32 x15, .int .u64 x16]) 25) (by simp)) 7
  have n9 : w0.cell? ⟨fb, 9, none⟩ = some (.int .u32 x9) := cell_at (H0.out.get (g := fb) (o := .cells (#[.int .u32 x0, .int .u32 x1, .int .u32 x2, .int .u32 x3, .int .u32 x4, .int .u32 x5, .int .u32 x6, .int .u32 x7, .int .u32 x8, .int .u32 x9, .int .u32 x10, .int .u32 x11, .int .u32 x12, .int .u32 x13, .int .u32 x14, .int .u32 x15, .int .u64 x16]) 25) (by simp)) 9
  have f8 : w0.frozen? ⟨fb, 8, none⟩ = false := free_at (H0.out.get (g := fb) (o := .cells (#[.int .u32 x0, .int .u32 x1, .int .u32 x2, .int .u32 x3, .int .u32 x4, .int .u32 x5, .int .u32 x6, .int .u32 x7, .int .u32 x8, .int .u32 x9, .int .u32 x10, .int .u32 x11, .int .u32 x12, .int .u32 x13, .int .u32 x14, .int .u32 x15, .int .u64 x16]) 25) (by simp)) 8
  have f7 : w0.frozen? ⟨fb, 7, none⟩ = false := free_at (H0.out.get (g := fb) (o := .cells (#[.int .u32 x0, .int .u32 x1, .int .u32 x2, .int .u32 x3, .int .u32 x4, .int .u32 x5, .int .u32 x6, .int .u32 x7, .int .u32 x8, .int .u32 x9, .int .u32 x10, .int .u32 x11, .int .u32 x12, .int .u32 x13, .int .u32 x14, .int .u32 x15, .int .u64 x16]) 25) (by simp)) 7
  have f9 : w0.frozen? ⟨fb, 9, none⟩ = false := free_at (H0.out.get (g := fb) (o := .cells (#[.int .u32 x0, .int .u32 x1, .int .u32 x2, .int .u32 x3, .int .u32 x4, .int .u32 x5, .int .u32 x6, .int .u32 x7, .int .u32 x8, .int .u32 x9, .int .u32 x10, .int .u32 x11, .int .u32 x12, .int .u32 x13, .int .u32 x14, .int .u32 x15, .int .u64 x16]) 25) (by simp)) 9
  have m17 : w0.cell? ⟨b, 17, none⟩ = some (.int .i64 1) := cell_at (H0.out.get (g := b) (o := St.q ⟨x0, x1, x2, x3, x4, x5, x6, x7, x8, x9, x10, x11, x12, x13, x14, x15, x16, 1, pc⟩) (by simp)) 17
  have m18 : w0.cell? ⟨b, 18, none⟩ = some (.int .u32 pc) := cell_at (H0.out.get (g := b) (o := St.q ⟨x0, x1, x2, x3, x4, x5, x6, x7, x8, x9, x10, x11, x12, x13, x14, x15, x16, 1, pc⟩) (by simp)) 18
  go_upto_region 15 with (go_at_call 20; refine (CB.out _).mono ?_; rintro e wq ⟨rfl, rfl⟩)
  have k := (KW.cell (i := 9) (x := .int .u32 v) (vs := #[.int .u32 x0, .int .u32 x1, .int .u32 x2, .int .u32 x3, .int .u32 x4, .int .u32 x5, .int .u32 x6, .int .u32 pc, .int .u32 (C : Int), .int .u32 v, .int .u32 x10, .int .u32 x11, .int .u32 x12, .int .u32 x13, .int .u32 x14, .int .u32 x15, .int .u64 x16]) (KW.cell (i := 7) (x := .int .u32 pc) (vs := #[.int .u32 x0, .int .u32 x1, .int .u32 x2, .int .u32 x3, .int .u32 x4, .int .u32 x5, .int .u32 x6, .int .u32 pc, .int .u32 (C : Int), .int .u32 x9, .int .u32 x10, .int .u32 x11, .int .u32 x12, .int .u32 x13, .int .u32 x14, .int .u32 x15, .int .u64 x16]) (KW.cell (i := 8) (x := .int .u32 (C : Int)) (vs := #[.int .u32 x0, .int .u32 x1, .int .u32 x2, .int .u32 x3, .int .u32 x4, .int .u32 x5, .int .u32 x6, .int .u32 x7, .int .u32 (C : Int), .int .u32 x9, .int .u32 x10, .int .u32 x11, .int .u32 x12, .int .u32 x13, .int .u32 x14, .int .u32 x15, .int .u64 x16]) H0.out rfl) rfl) rfl)
  generalize World.setCell _ _ _ = w1 at k ⊢
  clear n1 n2 n8 n7 n9 f8 f7 f9 m17 m18 H0
  have H1 := _root_.Go.Lib.hid k
  clear k gi gi2 gi3
  have n0 : w1.cell? ⟨fb, 0, none⟩ = some (.int .u32 x0) := cell_at (H1.out.get (g := fb) (o := .cells (#[.int .u32 x0, .int .u32 x1, .int .u32 x2, .int .u32 x3, .int .u32 x4, .int .u32 x5, .int .u32 x6, .int .u32 pc, .int .u32 (C : Int), .int .u32 v, .int .u32 x10, .int .u32 x11, .int .u32 x12, .int .u32 x13, .int .u32 x14, .int .u32 x15, .int .u64 x16]) 25) (by simp)) 0
  have f0 : w1.frozen? ⟨fb, 0, none⟩ = false := free_at (H1.out.get (g := fb) (o := .cells (#[.int .u32 x0, .int .u32 x1, .int .u32 x2, .int .u32 x3, .int .u32 x4, .int .u32 x5, .int .u32 x6, .int .u32 pc, .int .u32 (C : Int), .int .u32 v, .int .u32 x10, .int .u32 x11, .int .u32 x12, .int .u32 x13, .int .u32 x14, .int .u32 x15, .int .u64 x16]) 25) (by simp)) 0
  go_cut [] from 9 (fun wx => KW b w [(fb, .cells (#[.int .u32 y2, .int .u32 x1, .int .u32 x2, .int .u32 x3, .int .u32 x4, .int .u32 x5, .int .u32 x6, .int .u32 pc, .int .u32 (C : Int), .int .u32 v, .int .u32 x10, .int .u32 x11, .int .u32 x12, .int .u32 x13, .int .u32 x14, .int .u32 x15, .int .u64 x16]) 25), (rb, resR), (b, St.q ⟨x0, x1, x2, x3, x4, x5, x6, x7, x8, x9, x10, x11, x12, x13, x14, x15, x16, 1, pc⟩)] wx)
  case first =>
    focus go_region_with (first | (go_at_call 20; refine (CS.out.1 _).mono ?_; rintro e wq ⟨rfl, rfl⟩) | (go_at_call_of 25 (Value.int IntKind.i64 7); refine (CS.out.2.1 _).mono ?_; rintro e wq ⟨rfl, rfl⟩) | (go_at_call_of 25 (Value.int IntKind.i64 3); refine (CS.out.2.2.1 _).mono ?_; rintro e wq ⟨rfl, rfl⟩))
    all_goals
      go_wp2
      go_meet
      case rel => exact (KW.cell (i := 0) (x := .int .u32 y2) (vs := #[.int .u32 y2, .int .u32 x1, .int .u32 x2, .int .u32 x3, .int .u32 x4, .int .u32 x5, .int .u32 x6, .int .u32 pc, .int .u32 (C : Int), .int .u32 v, .int .u32 x10, .int .u32 x11, .int .u32 x12, .int .u32 x13, .int .u32 x14, .int .u32 x15, .int .u64 x16]) H1.out rfl).drew
  clear n0 f0 H1
  have H2 := _root_.Go.Lib.hid hcut
  clear hcut
  have n0 : wc.cell? ⟨fb, 0, none⟩ = some (.int .u32 y2) := cell_at (H2.out.get (g := fb) (o := .cells (#[.int .u32 y2, .int .u32 x1, .int .u32 x2, .int .u32 x3, .int .u32 x4, .int .u32 x5, .int .u32 x6, .int .u32 pc, .int .u32 (C : Int), .int .u32 v, .int .u32 x10, .int .u32 x11, .int .u32 x12, .int .u32 x13, .int .u32 x14, .int .u32 x15, .int .u64 x16]) 25) (by simp)) 0
  have f0 : wc.frozen? ⟨fb, 0, none⟩ = false := free_at (H2.out.get (g := fb) (o := .cells (#[.int .u32 y2, .int .u32 x1, .int .u32 x2, .int .u32 x3, .int .u32 x4, .int .u32 x5, .int .u32 x6, .int .u32 pc, .int .u32 (C : Int), .int .u32 v, .int .u32 x10, .int .u32 x11, .int .u32 x12, .int .u32 x13, .int .u32 x14, .int .u32 x15, .int .u64 x16]) 25) (by simp)) 0
  have m17 : wc.cell? ⟨b, 17, none⟩ = some (.int .i64 1) := cell_at (H2.out.get (g := b) (o := St.q ⟨x0, x1, x2, x3, x4, x5, x6, x7, x8, x9, x10, x11, x12, x13, x14, x15, x16, 1, pc⟩) (by simp)) 17
  have m18 : wc.cell? ⟨b, 18, none⟩ = some (.int .u32 pc) := cell_at (H2.out.get (g := b) (o := St.q ⟨x0, x1, x2, x3, x4, x5, x6, x7, x8, x9, x10, x11, x12, x13, x14, x15, x16, 1, pc⟩) (by simp)) 18
  go_upto_region 17 with (go_at_call 27; refine (CS.out.2.2.2 _).mono ?_; rintro e wq ⟨rfl, rfl⟩)
  have k := KW.cell (i := 0) (x := .int .u32 y3) (vs := #[.int .u32 y3, .int .u32 x1, .int .u32 x2, .int .u32 x3, .int .u32 x4, .int .u32 x5, .int .u32 x6, .int .u32 pc, .int .u32 (C : Int), .int .u32 v, .int .u32 x10, .int .u32 x11, .int .u32 x12, .int .u32 x13, .int .u32 x14, .int .u32 x15, .int .u64 x16]) H2.out rfl
  generalize World.setCell _ _ _ = w3 at k ⊢
  clear n0 f0 m17 m18 H2
  have H3 := _root_.Go.Lib.hid k
  clear k
  refine reg_tk17 (by kernel_rfl) ⟨y3, x1, x2, x3, x4, x5, x6, pc, (C : Int), v, x10, x11, x12, x13, x14, x15, x16, 1, pc⟩ fb rb (C : Int) _ _ ?ga ?gb ?gc ?gd ?ge ?gf ?gg ?gh ?gi
  case ga => rfl
  case gb => rfl
  case gc => rfl
  case gd => rfl
  case ge => exact HW.out.1
  case gf => exact HW.out.2
  case gg => exact H3.out.get (g := fb) (o := .cells (#[.int .u32 y3, .int .u32 x1, .int .u32 x2, .int .u32 x3, .int .u32 x4, .int .u32 x5, .int .u32 x6, .int .u32 pc, .int .u32 (C : Int), .int .u32 v, .int .u32 x10, .int .u32 x11, .int .u32 x12, .int .u32 x13, .int .u32 x14, .int .u32 x15, .int .u64 x16]) 25) (by simp)
  case gh => exact H3.out.get (g := rb) (o := resR) (by simp)
  have h5 := KW.row (vs := St.r ⟨y3, x1, x2, x3, x4, x5, x6, pc, (C : Int), v, x10, x11, x12, x13, x14, x15, x16, 3, (tTarget x5 (C : Int))⟩) (KW.swap H3.out.drew)
  generalize World.setRow _ rb _ = wz at h5 ⊢
  go_wp2
  refine bodyPost_ret (v := .agg (St.r ⟨y3, x1, x2, x3, x4, x5, x6, pc, (C : Int), v, x10, x11, x12, x13, x14, x15, x16, 3, (tTarget x5 (C : Int))⟩)) ?ga ?gb ⟨?gc, ?gd⟩
  case gb => rfl
  case gc => rfl
  case gd => first | exact h5.bel | (rw [hbb]; exact h5.bel)
  case ga =>
    have hg := h5.get (g := rb) (o := St.q ⟨y3, x1, x2, x3, x4, x5, x6, pc, (C : Int), v, x10, x11, x12, x13, x14, x15, x16, 3, (tTarget x5 (C : Int))⟩) (by simp)
    exact results_cell_row (ty := 27) Tryd.results16 _ _ _ _ _ _ _ (by simp [Act.put]) hg Tryd.underlying27 rfl size27
set_option maxRecDepth 100000 in
set_option maxHeartbeats 1600000 in
theorem rtake_u1f (s : St) (c v : Int) (hp : s.p = 1) (hF : Wf s) (hc : W32 c) (hd : sDown s c = false) (hi : tInt c = false) (w : World) : Calls Tryd.prog 16 #[.agg s.r, .int .u32 c, .int .u32 v] w fun e w' => e = .returned (.agg (sTake s c v).r) ∧ Below w.heap.size w w' := by
  obtain ⟨C, rfl⟩ : ∃ n : Nat, c = n := ⟨c.toNat, by have := hc.1; omega⟩
  have hC : C < 4294967296 := by have := hc.2; omega
  obtain ⟨x0, x1, x2, x3, x4, x5, x6, x7, x8, x9, x10, x11, x12, x13, x14, x15, x16, p, pc⟩ := s
  obtain rfl : p = 1 := hp
  have hbk : hb x1 (C % 32) = false := by
    rw [down_hb _ C hC, hi] at hd
    exact hd
  have cb : ∀ w, Calls Tryd.prog 20 #[.int .u32 x1, .int .i64 ((C : Int) % 32)] w fun e w' => e = .returned (.int .u32 0) ∧ w = w' := by
    intro w
    have h := rbit_calls x1 hF.h1 (C % 32) (by omega) w
    rw [hbk] at h
    have e : ((C % 32 : Nat) : Int) = (C : Int) % 32 := by omega
    rw [e] at h
    exact h
  have CB := _root_.Go.Lib.hid cb
  clear cb hbk
  rw [int_ge _ hc] at hi
  have gi : ((C : Int) ≥ 2147483648) = False := eq_false (of_decide_eq_false hi)
  have gi2 : (2147483648 ≤ (C : Int)) = False := gi
  have gi3 : (2147483648 ≤ C) = False := by
    have := gi2
    exact eq_false (by have h : ¬ (2147483648 : Int) ≤ (C : Int) := of_eq_false this; omega)
  obtain ⟨v1, hv1⟩ : ∃ v : Int, v = if hb x0 3 then 1 else 0 := ⟨_, rfl⟩
  obtain ⟨y1, hy1⟩ : ∃ y : Int, y = tSet x0 128 (hb x0 3) := ⟨_, rfl⟩
  obtain ⟨y2, hy2⟩ : ∃ y : Int, y = tSet y1 8 false := ⟨_, rfl⟩
  have wy1 : W32 y1 := by rw [hy1]; exact w32_tSet _ _ _
  have wy2 : W32 y2 := by rw [hy2]; exact w32_tSet _ _ _
  have c1 : ∀ w, Calls Tryd.prog 20 #[.int .u32 x0, .int .i64 3] w fun e w' => e = .returned (.int .u32 v1) ∧ w = w' := fun w => by rw [hv1]; exact rbit_calls x0 hF.h0 3 (by decide) w
  have c2 : ∀ w, Calls Tryd.prog 25 #[.int .u32 x0, .int .i64 7, .int .u32 v1] w fun e w' => e = .returned (.int .u32 y1) ∧ w = w' := fun w => by rw [hy1]; exact rput_calls x0 hF.h0 7 (by decide) 128 rfl v1 (hb x0 3) hv1 w
  have c3 : ∀ w, Calls Tryd.prog 25 #[.int .u32 y1, .int .i64 3, .int .u32 0] w fun e w' => e = .returned (.int .u32 y2) ∧ w = w' := fun w => by rw [hy2]; exact rput_calls y1 wy1 3 (by decide) 8 rfl 0 false rfl w
  obtain ⟨y3, hy3⟩ : ∃ y : Int, y = tSet (tSet y2 2048 (true)) 4096 (false) := ⟨_, rfl⟩
  have c4 : ∀ w, Calls Tryd.prog 27 #[.int .u32 y2, .int .i64 11, .int .i64 2, .int .u32 1] w fun e w' => e = .returned (.int .u32 y3) ∧ w = w' := fun w => by rw [hy3]; exact put_two' y2 wy2 1 (by decide) w
  have hst : sTake ⟨x0, x1, x2, x3, x4, x5, x6, x7, x8, x9, x10, x11, x12, x13, x14, x15, x16, 1, pc⟩ (C : Int) v = ⟨y3, x1, x2, x3, x4, x5, x6, pc, (C : Int), v, x10, x11, x12, x13, x14, x15, x16, 3, (tTarget x5 (C : Int))⟩ := by
    unfold sTake
    rw [hd]
    show takeUp _ _ _ = _
    unfold takeUp
    rw [hy3, hy2, hy1]
    have h := up_status (tSet x0 128 (hb x0 3)) 1 (by decide)
    have e : ((1 : Int) == 1 || (1 : Int) == 3) = true := rfl
    have e2 : ((1 : Int) == 3) = false := rfl
    rw [e, e2] at h
    simp only [has8, and_p 1 (by decide)]
    rw [← h]
  rw [hst]
  have CS := _root_.Go.Lib.hid (And.intro c1 (And.intro c2 (And.intro c3 c4)))
  have HW := _root_.Go.Lib.hid (And.intro hF.h5 hc)
  clear c1 c2 c3 c4 hst hd hi hv1 hy1 hy2 hy3 wy1 wy2 hF hc hC
  have hp1 := (KW.start (Below.refl w.heap.size w) (Nat.le_refl _)).push (St.q ⟨x0, x1, x2, x3, x4, x5, x6, x7, x8, x9, x10, x11, x12, x13, x14, x15, x16, 1, pc⟩)
  have e6 : (w.alloc (St.q ⟨x0, x1, x2, x3, x4, x5, x6, x7, x8, x9, x10, x11, x12, x13, x14, x15, x16, 1, pc⟩)).heap.size = w.heap.size + 1 := by rw [World.size_alloc]
  have hp2 := hp1.push resR
  rw [e6] at hp2
  have e7 : ((w.alloc (St.q ⟨x0, x1, x2, x3, x4, x5, x6, x7, x8, x9, x10, x11, x12, x13, x14, x15, x16, 1, pc⟩)).alloc resR).heap.size = w.heap.size + 1 + 1 := by rw [World.size_alloc, World.size_alloc]
  have hp3 := hp2.push fileY
  rw [e7] at hp3
  clear e6 e7 hp1
  have HP := _root_.Go.Lib.hid hp2
  have HQ := _root_.Go.Lib.hid hp3
  clear hp2 hp3
  go_enter Tryd.func16, Tryd.ntmps16
  go_upto_region 2 with (first | ((with_reducible apply Go.Mem.wpList_load_part 25 (vs := #[.int .u32 x0, .int .u32 x1, .int .u32 x2, .int .u32 x3, .int .u32 x4, .int .u32 x5, .int .u32 x6, .int .u32 x7, .int .u32 x8, .int .u32 x9, .int .u32 x10, .int .u32 x11, .int .u32 x12, .int .u32 x13, .int .u32 x14, .int .u32 x15, .int .u64 x16]) Tryd.underlying25); rfl; rfl; (exact HP.out.get (g := w.heap.size) (o := St.q ⟨x0, x1, x2, x3, x4, x5, x6, x7, x8, x9, x10, x11, x12, x13, x14, x15, x16, 1, pc⟩) (by simp)); exact size25; rfl) | ((with_reducible apply wpList_store_at 25); rfl; rfl; (exact HQ.out.get (g := w.heap.size + 1 + 1) (o := fileY) (by simp)); exact size25; rfl; rfl; rfl; (have h2 := KW.row (vs := #[.int .u32 x0, .int .u32 x1, .int .u32 x2, .int .u32 x3, .int .u32 x4, .int .u32 x5, .int .u32 x6, .int .u32 x7, .int .u32 x8, .int .u32 x9, .int .u32 x10, .int .u32 x11, .int .u32 x12, .int .u32 x13, .int .u32 x14, .int .u32 x15, .int .u64 x16]) HQ.out); (generalize World.setRow _ (w.heap.size + 1 + 1) _ = w0 at h2 ⊢)))
  clear HP HQ
  generalize hbb : w.heap.size = b at h2 ⊢
  generalize hbb2 : b + 1 = rb at h2 ⊢
  generalize hbb3 : rb + 1 = fb at h2 ⊢
  have H0 := _root_.Go.Lib.hid h2
  clear h2
  have n1 : w0.cell? ⟨fb, 1, none⟩ = some (.int .u32 x1) := cell_at (H0.out.get (g := fb) (o := .cells (#[.int .u32 x0, .int .u32 x1, .int .u32 x2, .int .u32 x3, .int .u32 x4, .int .u32 x5, .int .u32 x6, .int .u32 x7, .int .u32 x8, .int .u32 x9, .int .u32 x10, .int .u32 x11, .int .u32 x12, .int .u32 x13, .int .u32 x14, .int .u32 x15, .int .u64 x16]) 25) (by simp)) 1
  have n2 : w0.cell? ⟨fb, 2, none⟩ = some (.int .u32 x2) := cell_at (H0.out.get (g := fb) (o := .cells (#[.int .u32 x0, .int .u32 x1, .int .u32 x2, .int .u32 x3, .int .u32 x4, .int .u32 x5, .int .u32 x6, .int .u32 x7, .int .u32 x8, .int .u32 x9, .int .u32 x10, .int .u32 x11, .int .u32 x12, .int .u32 x13, .int .u32 x14, .int .u32 x15, .int .u64 x16]) 25) (by simp)) 2
  have n8 : w0.cell? ⟨fb, 8, none⟩ = some (.int .u32 x8) := cell_at (H0.out.get (g := fb) (o := .cells (#[.int .u32 x0, .int .u32 x1, .int .u32 x2, .int .u32 x3, .int .u32 x4, .int .u32 x5, .int .u32 x6, .int .u32 x7, .int .u32 x8, .int .u32 x9, .int .u32 x10, .int .u32 x11, .int .u32 x12, .int .u32 x13, .int .u32 x14, .int .u32 x15, .int .u64 x16]) 25) (by simp)) 8
  have n7 : w0.cell? ⟨fb, 7, none⟩ = some (.int .u32 x7) := cell_at (H0.out.get (g := fb) (o := .cells (#[.int .u32 x0, .int .u32 x1, .int .u32 x2, .int .u32 x3, .int .u32 x4, .int .u32 x5, .int .u32 x6, .int .u32 x7, .int .u32 x8, .int .u32 x9, .int .u32 x10, .int .u32 x11, .int .u32 x12, .int .u32 x13, .int .u32 x14, .int .u32 x15, .int .u64 x16]) 25) (by simp)) 7
  have n9 : w0.cell? ⟨fb, 9, none⟩ = some (.int .u32 x9) := cell_at (H0.out.get (g := fb) (o := .cells (#[.int .u32 x0, .int .u32 x1, .int .u32 x2, .int .u32 x3, .int .u32 x4, .int .u32 x5, .int .u32 x6, .int .u32 x7, .int .u32 x8, .int .u32 x9, .int .u32 x10, .int .u32 x11, .int .u32 x12, .int .u32 x13, .int .u32 x14, .int .u32 x15, .int .u64 x16]) 25) (by simp)) 9
  have f8 : w0.frozen? ⟨fb, 8, none⟩ = false := free_at (H0.out.get (g := fb) (o := .cells (#[.int .u32 x0, .int .u32 x1, .int .u32 x2, .int .u32 x3, .int .u32 x4, .int .u32 x5, .int .u32 x6, .int .u32 x7, .int .u32 x8, .int .u32 x9, .int .u32 x10, .int .u32 x11, .int .u32 x12, .int .u32 x13, .int .u32 x14, .int .u32 x15, .int .u64 x16]) 25) (by simp)) 8
  have f7 : w0.frozen? ⟨fb, 7, none⟩ = false := free_at (H0.out.get (g := fb) (o := .cells (#[.int .u32 x0, .int .u32 x1, .int .u32 x2, .int .u32 x3, .int .u32 x4, .int .u32 x5, .int .u32 x6, .int .u32 x7, .int .u32 x8, .int .u32 x9, .int .u32 x10, .int .u32 x11, .int .u32 x12, .int .u32 x13, .int .u32 x14, .int .u32 x15, .int .u64 x16]) 25) (by simp)) 7
  have f9 : w0.frozen? ⟨fb, 9, none⟩ = false := free_at (H0.out.get (g := fb) (o := .cells (#[.int .u32 x0, .int .u32 x1, .int .u32 x2, .int .u32 x3, .int .u32 x4, .int .u32 x5, .int .u32 x6, .int .u32 x7, .int .u32 x8, .int .u32 x9, .int .u32 x10, .int .u32 x11, .int .u32 x12, .int .u32 x13, .int .u32 x14, .int .u32 x15, .int .u64 x16]) 25) (by simp)) 9
  have m17 : w0.cell? ⟨b, 17, none⟩ = some (.int .i64 1) := cell_at (H0.out.get (g := b) (o := St.q ⟨x0, x1, x2, x3, x4, x5, x6, x7, x8, x9, x10, x11, x12, x13, x14, x15, x16, 1, pc⟩) (by simp)) 17
  have m18 : w0.cell? ⟨b, 18, none⟩ = some (.int .u32 pc) := cell_at (H0.out.get (g := b) (o := St.q ⟨x0, x1, x2, x3, x4, x5, x6, x7, x8, x9, x10, x11, x12, x13, x14, x15, x16, 1, pc⟩) (by simp)) 18
  go_upto_region 15 with (go_at_call 20; refine (CB.out _).mono ?_; rintro e wq ⟨rfl, rfl⟩)
  have k := (KW.cell (i := 9) (x := .int .u32 v) (vs := #[.int .u32 x0, .int .u32 x1, .int .u32 x2, .int .u32 x3, .int .u32 x4, .int .u32 x5, .int .u32 x6, .int .u32 pc, .int .u32 (C : Int), .int .u32 v, .int .u32 x10, .int .u32 x11, .int .u32 x12, .int .u32 x13, .int .u32 x14, .int .u32 x15, .int .u64 x16]) (KW.cell (i := 7) (x := .int .u32 pc) (vs := #[.int .u32 x0, .int .u32 x1, .int .u32 x2, .int .u32 x3, .int .u32 x4, .int .u32 x5, .int .u32 x6, .int .u32 pc, .int .u32 (C : Int), .int .u32 x9, .int .u32 x10, .int .u32 x11, .int .u32 x12, .int .u32 x13, .int .u32 x14, .int .u32 x15, .int .u64 x16]) (KW.cell (i := 8) (x := .int .u32 (C : Int)) (vs := #[.int .u32 x0, .int .u32 x1, .int .u32 x2, .int .u32 x3, .int .u32 x4, .int .u32 x5, .int .u32 x6, .int .u32 x7, .int .u32 (C : Int), .int .u32 x9, .int .u32 x10, .int .u32 x11, .int .u32 x12, .int .u32 x13, .int .u32 x14, .int .u32 x15, .int .u64 x16]) H0.out rfl) rfl) rfl)
  generalize World.setCell _ _ _ = w1 at k ⊢
  clear n1 n2 n8 n7 n9 f8 f7 f9 m17 m18 H0
  have H1 := _root_.Go.Lib.hid k
  clear k gi gi2 gi3
  have n0 : w1.cell? ⟨fb, 0, none⟩ = some (.int .u32 x0) := cell_at (H1.out.get (g := fb) (o := .cells (#[.int .u32 x0, .int .u32 x1, .int .u32 x2, .int .u32 x3, .int .u32 x4, .int .u32 x5, .int .u32 x6, .int .u32 pc, .int .u32 (C : Int), .int .u32 v, .int .u32 x10, .int .u32 x11, .int .u32 x12, .int .u32 x13, .int .u32 x14, .int .u32 x15, .int .u64 x16]) 25) (by simp)) 0
  have f0 : w1.frozen? ⟨fb, 0, none⟩ = false := free_at (H1.out.get (g := fb) (o := .cells (#[.int .u32 x0, .int .u32 x1, .int .u32 x2, .int .u32 x3, .int .u32 x4, .int .u32 x5, .int .u32 x6, .int .u32 pc, .int .u32 (C : Int), .int .u32 v, .int .u32 x10, .int .u32 x11, .int .u32 x12, .int .u32 x13, .int .u32 x14, .int .u32 x15, .int .u64 x16]) 25) (by simp)) 0
  go_cut [] from 9 (fun wx => KW b w [(fb, .cells (#[.int .u32 y2, .int .u32 x1, .int .u32 x2, .int .u32 x3, .int .u32 x4, .int .u32 x5, .int .u32 x6, .int .u32 pc, .int .u32 (C : Int), .int .u32 v, .int .u32 x10, .int .u32 x11, .int .u32 x12, .int .u32 x13, .int .u32 x14, .int .u32 x15, .int .u64 x16]) 25), (rb, resR), (b, St.q ⟨x0, x1, x2, x3, x4, x5, x6, x7, x8, x9, x10, x11, x12, x13, x14, x15, x16, 1, pc⟩)] wx)
  case first =>
    focus go_region_with (first | (go_at_call 20; refine (CS.out.1 _).mono ?_; rintro e wq ⟨rfl, rfl⟩) | (go_at_call_of 25 (Value.int IntKind.i64 7); refine (CS.out.2.1 _).mono ?_; rintro e wq ⟨rfl, rfl⟩) | (go_at_call_of 25 (Value.int IntKind.i64 3); refine (CS.out.2.2.1 _).mono ?_; rintro e wq ⟨rfl, rfl⟩))
    all_goals
      go_wp2
      go_meet
      case rel => exact (KW.cell (i := 0) (x := .int .u32 y2) (vs := #[.int .u32 y2, .int .u32 x1, .int .u32 x2, .int .u32 x3, .int .u32 x4, .int .u32 x5, .int .u32 x6, .int .u32 pc, .int .u32 (C : Int), .int .u32 v, .int .u32 x10, .int .u32 x11, .int .u32 x12, .int .u32 x13, .int .u32 x14, .int .u32 x15, .int .u64 x16]) H1.out rfl).drew
  clear n0 f0 H1
  have H2 := _root_.Go.Lib.hid hcut
  clear hcut
  have n0 : wc.cell? ⟨fb, 0, none⟩ = some (.int .u32 y2) := cell_at (H2.out.get (g := fb) (o := .cells (#[.int .u32 y2, .int .u32 x1, .int .u32 x2, .int .u32 x3, .int .u32 x4, .int .u32 x5, .int .u32 x6, .int .u32 pc, .int .u32 (C : Int), .int .u32 v, .int .u32 x10, .int .u32 x11, .int .u32 x12, .int .u32 x13, .int .u32 x14, .int .u32 x15, .int .u64 x16]) 25) (by simp)) 0
  have f0 : wc.frozen? ⟨fb, 0, none⟩ = false := free_at (H2.out.get (g := fb) (o := .cells (#[.int .u32 y2, .int .u32 x1, .int .u32 x2, .int .u32 x3, .int .u32 x4, .int .u32 x5, .int .u32 x6, .int .u32 pc, .int .u32 (C : Int), .int .u32 v, .int .u32 x10, .int .u32 x11, .int .u32 x12, .int .u32 x13, .int .u32 x14, .int .u32 x15, .int .u64 x16]) 25) (by simp)) 0
  have m17 : wc.cell? ⟨b, 17, none⟩ = some (.int .i64 1) := cell_at (H2.out.get (g := b) (o := St.q ⟨x0, x1, x2, x3, x4, x5, x6, x7, x8, x9, x10, x11, x12, x13, x14, x15, x16, 1, pc⟩) (by simp)) 17
  have m18 : wc.cell? ⟨b, 18, none⟩ = some (.int .u32 pc) := cell_at (H2.out.get (g := b) (o := St.q ⟨x0, x1, x2, x3, x4, x5, x6, x7, x8, x9, x10, x11, x12, x13, x14, x15, x16, 1, pc⟩) (by simp)) 18
  go_upto_region 17 with (go_at_call 27; refine (CS.out.2.2.2 _).mono ?_; rintro e wq ⟨rfl, rfl⟩)
  have k := KW.cell (i := 0) (x := .int .u32 y3) (vs := #[.int .u32 y3, .int .u32 x1, .int .u32 x2, .int .u32 x3, .int .u32 x4, .int .u32 x5, .int .u32 x6, .int .u32 pc, .int .u32 (C : Int), .int .u32 v, .int .u32 x10, .int .u32 x11, .int .u32 x12, .int .u32 x13, .int .u32 x14, .int .u32 x15, .int .u64 x16]) H2.out rfl
  generalize World.setCell _ _ _ = w3 at k ⊢
  clear n0 f0 m17 m18 H2
  have H3 := _root_.Go.Lib.hid k
  clear k
  refine reg_tk17 (by kernel_rfl) ⟨y3, x1, x2, x3, x4, x5, x6, pc, (C : Int), v, x10, x11, x12, x13, x14, x15, x16, 1, pc⟩ fb rb (C : Int) _ _ ?ga ?gb ?gc ?gd ?ge ?gf ?gg ?gh ?gi
  case ga => rfl
  case gb => rfl
  case gc => rfl
  case gd => rfl
  case ge => exact HW.out.1
  case gf => exact HW.out.2
  case gg => exact H3.out.get (g := fb) (o := .cells (#[.int .u32 y3, .int .u32 x1, .int .u32 x2, .int .u32 x3, .int .u32 x4, .int .u32 x5, .int .u32 x6, .int .u32 pc, .int .u32 (C : Int), .int .u32 v, .int .u32 x10, .int .u32 x11, .int .u32 x12, .int .u32 x13, .int .u32 x14, .int .u32 x15, .int .u64 x16]) 25) (by simp)
  case gh => exact H3.out.get (g := rb) (o := resR) (by simp)
  have h5 := KW.row (vs := St.r ⟨y3, x1, x2, x3, x4, x5, x6, pc, (C : Int), v, x10, x11, x12, x13, x14, x15, x16, 3, (tTarget x5 (C : Int))⟩) (KW.swap H3.out.drew)
  generalize World.setRow _ rb _ = wz at h5 ⊢
  go_wp2
  refine bodyPost_ret (v := .agg (St.r ⟨y3, x1, x2, x3, x4, x5, x6, pc, (C : Int), v, x10, x11, x12, x13, x14, x15, x16, 3, (tTarget x5 (C : Int))⟩)) ?ga ?gb ⟨?gc, ?gd⟩
  case gb => rfl
  case gc => rfl
  case gd => first | exact h5.bel | (rw [hbb]; exact h5.bel)
  case ga =>
    have hg := h5.get (g := rb) (o := St.q ⟨y3, x1, x2, x3, x4, x5, x6, pc, (C : Int), v, x10, x11, x12, x13, x14, x15, x16, 3, (tTarget x5 (C : Int))⟩) (by simp)
    exact results_cell_row (ty := 27) Tryd.results16 _ _ _ _ _ _ _ (by simp [Act.put]) hg Tryd.underlying27 rfl size27
end Go.Proofs.YtkebphpfedgokaaDoor
