/-
  The reference's Back: u0, u1.
-/
import Derived.Test.YtkebphpfedgokaaDoorRefq
set_option linter.unusedVariables false
set_option linter.unusedSimpArgs false
namespace Go.Proofs.YtkebphpfedgokaaDoor
open Go.RowKit Go.Lib Go.Val
set_option maxRecDepth 100000 in
set_option maxHeartbeats 1600000 in
theorem rback_u0 (s : St) (hF : Wf s) (hq : hb s.x0 8 = false) (w : World) : Calls Tryd.prog 18 #[.agg s.r, .bool false] w fun e w' => e = .returned (.agg (sBack s false).r) ∧ Below w.heap.size w w' := by
  obtain ⟨x0, x1, x2, x3, x4, x5, x6, x7, x8, x9, x10, x11, x12, x13, x14, x15, x16, p, pc⟩ := s
  have hx0 : W32 x0 := hF.h0
  clear hF
  have c0 : ∀ w, Calls Tryd.prog 20 #[.int .u32 x0, .int .i64 8] w fun e w' => e = .returned (.int .u32 0) ∧ w = w' := fun w => by have h := rbit_calls x0 hx0 8 (by decide) w; rw [hq] at h; exact h
  obtain ⟨v1, hv1⟩ : ∃ v : Int, v = if hb x0 5 then 1 else 0 := ⟨_, rfl⟩
  obtain ⟨y1, hy1⟩ : ∃ y : Int, y = tSet x0 2 (hb x0 5) := ⟨_, rfl⟩
  obtain ⟨y2, hy2⟩ : ∃ y : Int, y = tSet y1 32 true := ⟨_, rfl⟩
  obtain ⟨y3, hy3⟩ : ∃ y : Int, y = tSet y2 256 false := ⟨_, rfl⟩
  obtain ⟨y4, hy4⟩ : ∃ y : Int, y = tSet y3 131072 false := ⟨_, rfl⟩
  have wy1 : W32 y1 := by rw [hy1]; exact w32_tSet _ _ _
  have wy2 : W32 y2 := by rw [hy2]; exact w32_tSet _ _ _
  have wy3 : W32 y3 := by rw [hy3]; exact w32_tSet _ _ _
  have c1 : ∀ w, Calls Tryd.prog 20 #[.int .u32 x0, .int .i64 5] w fun e w' => e = .returned (.int .u32 v1) ∧ w = w' := fun w => by rw [hv1]; exact rbit_calls x0 hx0 5 (by decide) w
  have c2 : ∀ w, Calls Tryd.prog 25 #[.int .u32 x0, .int .i64 1, .int .u32 v1] w fun e w' => e = .returned (.int .u32 y1) ∧ w = w' := fun w => by rw [hy1]; exact rput_calls x0 hx0 1 (by decide) 2 rfl v1 (hb x0 5) hv1 w
  have c3 : ∀ w, Calls Tryd.prog 25 #[.int .u32 y1, .int .i64 5, .int .u32 1] w fun e w' => e = .returned (.int .u32 y2) ∧ w = w' := fun w => by rw [hy2]; exact rput_calls y1 wy1 5 (by decide) 32 rfl 1 true rfl w
  have c4 : ∀ w, Calls Tryd.prog 25 #[.int .u32 y2, .int .i64 8, .int .u32 0] w fun e w' => e = .returned (.int .u32 y3) ∧ w = w' := fun w => by rw [hy3]; exact rput_calls y2 wy2 8 (by decide) 256 rfl 0 false rfl w
  have c5 : ∀ w, Calls Tryd.prog 25 #[.int .u32 y3, .int .i64 17, .int .u32 0] w fun e w' => e = .returned (.int .u32 y4) ∧ w = w' := fun w => by rw [hy4]; exact rput_calls y3 wy3 17 (by decide) 131072 rfl 0 false rfl w
  have c6 : True := trivial
  have hst : sBack ⟨x0, x1, x2, x3, x4, x5, x6, x7, x8, x9, x10, x11, x12, x13, x14, x15, x16, p, pc⟩ false = ⟨y4, x1, x2, x3, x4, x5, x6, x7, x8, x9, x10, x11, x12, x13, x14, x15, x16, 0, x12⟩ := by
    show backU _ = _
    unfold backU sUser
    have hq2 : tHas x0 256 = false := by rw [has256]; exact hq
    simp only [hq2]
    rw [hy4, hy3, hy2, hy1]
    simp only [has32]
    rfl
  rw [hst]
  have CS := _root_.Go.Lib.hid (And.intro c0 (And.intro c1 (And.intro c2 (And.intro c3 (And.intro c4 (And.intro c5 c6))))))
  clear c0 c1 c2 c3 c4 c5 c6 hst hv1 hy1 hy2 hy3 hy4 wy1 wy2 wy3 hx0 hq 
  have hp1 := (KW.start (Below.refl w.heap.size w) (Nat.le_refl _)).push (St.q ⟨x0, x1, x2, x3, x4, x5, x6, x7, x8, x9, x10, x11, x12, x13, x14, x15, x16, p, pc⟩)
  have e6 : (w.alloc (St.q ⟨x0, x1, x2, x3, x4, x5, x6, x7, x8, x9, x10, x11, x12, x13, x14, x15, x16, p, pc⟩)).heap.size = w.heap.size + 1 := by rw [World.size_alloc]
  have hp2 := hp1.push resR
  rw [e6] at hp2
  have e7 : ((w.alloc (St.q ⟨x0, x1, x2, x3, x4, x5, x6, x7, x8, x9, x10, x11, x12, x13, x14, x15, x16, p, pc⟩)).alloc resR).heap.size = w.heap.size + 1 + 1 := by rw [World.size_alloc, World.size_alloc]
  have hp3 := hp2.push fileY
  rw [e7] at hp3
  clear e6 e7 hp1
  have HP := _root_.Go.Lib.hid hp2
  have HQ := _root_.Go.Lib.hid hp3
  clear hp2 hp3
  go_enter Tryd.func18, Tryd.ntmps18
  go_upto_region 2 with (first | ((with_reducible apply Go.Mem.wpList_load_part 25 (vs := #[.int .u32 x0, .int .u32 x1, .int .u32 x2, .int .u32 x3, .int .u32 x4, .int .u32 x5, .int .u32 x6, .int .u32 x7, .int .u32 x8, .int .u32 x9, .int .u32 x10, .int .u32 x11, .int .u32 x12, .int .u32 x13, .int .u32 x14, .int .u32 x15, .int .u64 x16]) Tryd.underlying25); rfl; rfl; (exact HP.out.get (g := w.heap.size) (o := St.q ⟨x0, x1, x2, x3, x4, x5, x6, x7, x8, x9, x10, x11, x12, x13, x14, x15, x16, p, pc⟩) (by simp)); exact size25; rfl) | ((with_reducible apply wpList_store_at 25); rfl; rfl; (exact HQ.out.get (g := w.heap.size + 1 + 1) (o := fileY) (by simp)); exact size25; rfl; rfl; rfl; (have h2 := KW.row (vs := #[.int .u32 x0, .int .u32 x1, .int .u32 x2, .int .u32 x3, .int .u32 x4, .int .u32 x5, .int .u32 x6, .int .u32 x7, .int .u32 x8, .int .u32 x9, .int .u32 x10, .int .u32 x11, .int .u32 x12, .int .u32 x13, .int .u32 x14, .int .u32 x15, .int .u64 x16]) HQ.out); (generalize World.setRow _ (w.heap.size + 1 + 1) _ = w0 at h2 ⊢)))
  clear HP HQ
  generalize hbb : w.heap.size = b at h2 ⊢
  generalize hbb2 : b + 1 = rb at h2 ⊢
  generalize hbb3 : rb + 1 = fb at h2 ⊢
  have H0 := _root_.Go.Lib.hid h2
  clear h2
  have n0 : w0.cell? ⟨fb, 0, none⟩ = some (.int .u32 x0) := cell_at (H0.out.get (g := fb) (o := .cells (#[.int .u32 x0, .int .u32 x1, .int .u32 x2, .int .u32 x3, .int .u32 x4, .int .u32 x5, .int .u32 x6, .int .u32 x7, .int .u32 x8, .int .u32 x9, .int .u32 x10, .int .u32 x11, .int .u32 x12, .int .u32 x13, .int .u32 x14, .int .u32 x15, .int .u64 x16]) 25) (by simp)) 0
  have n12 : w0.cell? ⟨fb, 12, none⟩ = some (.int .u32 x12) := cell_at (H0.out.get (g := fb) (o := .cells (#[.int .u32 x0, .int .u32 x1, .int .u32 x2, .int .u32 x3, .int .u32 x4, .int .u32 x5, .int .u32 x6, .int .u32 x7, .int .u32 x8, .int .u32 x9, .int .u32 x10, .int .u32 x11, .int .u32 x12, .int .u32 x13, .int .u32 x14, .int .u32 x15, .int .u64 x16]) 25) (by simp)) 12
  go_upto_region 9 with (go_at_call 20; refine (CS.out.1 _).mono ?_; rintro e wq ⟨rfl, rfl⟩)
  clear n0 n12
  have H1 := H0
  clear H0
  generalize w0 = w1 at H1 ⊢
  have n0 : w1.cell? ⟨fb, 0, none⟩ = some (.int .u32 x0) := cell_at (H1.out.get (g := fb) (o := .cells (#[.int .u32 x0, .int .u32 x1, .int .u32 x2, .int .u32 x3, .int .u32 x4, .int .u32 x5, .int .u32 x6, .int .u32 x7, .int .u32 x8, .int .u32 x9, .int .u32 x10, .int .u32 x11, .int .u32 x12, .int .u32 x13, .int .u32 x14, .int .u32 x15, .int .u64 x16]) 25) (by simp)) 0
  have f0 : w1.frozen? ⟨fb, 0, none⟩ = false := free_at (H1.out.get (g := fb) (o := .cells (#[.int .u32 x0, .int .u32 x1, .int .u32 x2, .int .u32 x3, .int .u32 x4, .int .u32 x5, .int .u32 x6, .int .u32 x7, .int .u32 x8, .int .u32 x9, .int .u32 x10, .int .u32 x11, .int .u32 x12, .int .u32 x13, .int .u32 x14, .int .u32 x15, .int .u64 x16]) 25) (by simp)) 0
  go_cut [] from 8 (fun wx => KW b w [(fb, .cells (#[.int .u32 y2, .int .u32 x1, .int .u32 x2, .int .u32 x3, .int .u32 x4, .int .u32 x5, .int .u32 x6, .int .u32 x7, .int .u32 x8, .int .u32 x9, .int .u32 x10, .int .u32 x11, .int .u32 x12, .int .u32 x13, .int .u32 x14, .int .u32 x15, .int .u64 x16]) 25), (rb, resR), (b, St.q ⟨x0, x1, x2, x3, x4, x5, x6, x7, x8, x9, x10, x11, x12, x13, x14, x15, x16, p, pc⟩)] wx)
  case first =>
    focus go_region_with (first | (go_at_call 20; refine (CS.out.2.1 _).mono ?_; rintro e wq ⟨rfl, rfl⟩) | (go_at_call_of 25 (Value.int IntKind.i64 1); refine (CS.out.2.2.1 _).mono ?_; rintro e wq ⟨rfl, rfl⟩) | (go_at_call_of 25 (Value.int IntKind.i64 5); refine (CS.out.2.2.2.1 _).mono ?_; rintro e wq ⟨rfl, rfl⟩))
    all_goals
      go_wp2
      go_meet
      case rel => exact (KW.cell (i := 0) (x := .int .u32 y2) (vs := #[.int .u32 y2, .int .u32 x1, .int .u32 x2, .int .u32 x3, .int .u32 x4, .int .u32 x5, .int .u32 x6, .int .u32 x7, .int .u32 x8, .int .u32 x9, .int .u32 x10, .int .u32 x11, .int .u32 x12, .int .u32 x13, .int .u32 x14, .int .u32 x15, .int .u64 x16]) H1.out rfl).drew
  clear n0 f0 H1
  have H2 := _root_.Go.Lib.hid hcut
  clear hcut
  have n0 : wc.cell? ⟨fb, 0, none⟩ = some (.int .u32 y2) := cell_at (H2.out.get (g := fb) (o := .cells (#[.int .u32 y2, .int .u32 x1, .int .u32 x2, .int .u32 x3, .int .u32 x4, .int .u32 x5, .int .u32 x6, .int .u32 x7, .int .u32 x8, .int .u32 x9, .int .u32 x10, .int .u32 x11, .int .u32 x12, .int .u32 x13, .int .u32 x14, .int .u32 x15, .int .u64 x16]) 25) (by simp)) 0
  have f0 : wc.frozen? ⟨fb, 0, none⟩ = false := free_at (H2.out.get (g := fb) (o := .cells (#[.int .u32 y2, .int .u32 x1, .int .u32 x2, .int .u32 x3, .int .u32 x4, .int .u32 x5, .int .u32 x6, .int .u32 x7, .int .u32 x8, .int .u32 x9, .int .u32 x10, .int .u32 x11, .int .u32 x12, .int .u32 x13, .int .u32 x14, .int .u32 x15, .int .u64 x16]) 25) (by simp)) 0
  go_upto_region 13 with (first | (go_at_call_of 25 (Value.int IntKind.i64 8); refine (CS.out.2.2.2.2.1 _).mono ?_; rintro e wq ⟨rfl, rfl⟩) | (go_at_call_of 25 (Value.int IntKind.i64 17); refine (CS.out.2.2.2.2.2.1 _).mono ?_; rintro e wq ⟨rfl, rfl⟩))
  have k := (KW.cell (i := 0) (x := .int .u32 y4) (vs := #[.int .u32 y4, .int .u32 x1, .int .u32 x2, .int .u32 x3, .int .u32 x4, .int .u32 x5, .int .u32 x6, .int .u32 x7, .int .u32 x8, .int .u32 x9, .int .u32 x10, .int .u32 x11, .int .u32 x12, .int .u32 x13, .int .u32 x14, .int .u32 x15, .int .u64 x16]) (KW.cell (i := 0) (x := .int .u32 y3) (vs := #[.int .u32 y3, .int .u32 x1, .int .u32 x2, .int .u32 x3, .int .u32 x4, .int .u32 x5, .int .u32 x6, .int .u32 x7, .int .u32 x8, .int .u32 x9, .int .u32 x10, .int .u32 x11, .int .u32 x12, .int .u32 x13, .int .u32 x14, .int .u32 x15, .int .u64 x16]) H2.out rfl) rfl)
  generalize World.setCell _ _ _ = w3 at k ⊢
  clear n0 f0 H2
  have H3 := _root_.Go.Lib.hid k
  clear k
  go_wp2_with (first | ((with_reducible apply wpList_load_at 25 Tryd.underlying25); rfl; exact H3.out.get (g := fb) (o := .cells (#[.int .u32 y4, .int .u32 x1, .int .u32 x2, .int .u32 x3, .int .u32 x4, .int .u32 x5, .int .u32 x6, .int .u32 x7, .int .u32 x8, .int .u32 x9, .int .u32 x10, .int .u32 x11, .int .u32 x12, .int .u32 x13, .int .u32 x14, .int .u32 x15, .int .u64 x16]) 25) (by simp); rfl; exact size25) | ((with_reducible apply wpList_store_at 27); rfl; rfl; (exact H3.out.get (g := rb) (o := resR) (by simp)); exact size27; rfl; rfl; rfl; (have h5 := KW.row (vs := St.r ⟨y4, x1, x2, x3, x4, x5, x6, x7, x8, x9, x10, x11, x12, x13, x14, x15, x16, 0, x12⟩) (KW.swap H3.out)); (generalize World.setRow _ rb _ = wz at h5 ⊢)))
  refine bodyPost_ret (v := .agg (St.r ⟨y4, x1, x2, x3, x4, x5, x6, x7, x8, x9, x10, x11, x12, x13, x14, x15, x16, 0, x12⟩)) ?ga ?gb ⟨?gc, ?gd⟩
  case gb => rfl
  case gc => rfl
  case gd => first | exact h5.bel | (rw [hbb]; exact h5.bel)
  case ga =>
    have hg := h5.get (g := rb) (o := St.q ⟨y4, x1, x2, x3, x4, x5, x6, x7, x8, x9, x10, x11, x12, x13, x14, x15, x16, 0, x12⟩) (by simp)
    exact results_cell_row (ty := 27) Tryd.results18 _ _ _ _ _ _ _ rfl hg Tryd.underlying27 rfl size27
set_option maxRecDepth 100000 in
set_option maxHeartbeats 1600000 in
theorem rback_u1 (s : St) (hF : Wf s) (hq : hb s.x0 8 = true) (w : World) : Calls Tryd.prog 18 #[.agg s.r, .bool false] w fun e w' => e = .returned (.agg (sBack s false).r) ∧ Below w.heap.size w w' := by
  obtain ⟨x0, x1, x2, x3, x4, x5, x6, x7, x8, x9, x10, x11, x12, x13, x14, x15, x16, p, pc⟩ := s
  have hx0 : W32 x0 := hF.h0
  clear hF
  have c0 : ∀ w, Calls Tryd.prog 20 #[.int .u32 x0, .int .i64 8] w fun e w' => e = .returned (.int .u32 1) ∧ w = w' := fun w => by have h := rbit_calls x0 hx0 8 (by decide) w; rw [hq] at h; exact h
  obtain ⟨v1, hv1⟩ : ∃ v : Int, v = if hb x0 5 then 1 else 0 := ⟨_, rfl⟩
  obtain ⟨y1, hy1⟩ : ∃ y : Int, y = tSet x0 2 (hb x0 5) := ⟨_, rfl⟩
  obtain ⟨y2, hy2⟩ : ∃ y : Int, y = tSet y1 32 true := ⟨_, rfl⟩
  obtain ⟨y3, hy3⟩ : ∃ y : Int, y = tSet y2 256 false := ⟨_, rfl⟩
  obtain ⟨y4, hy4⟩ : ∃ y : Int, y = tSet y3 131072 false := ⟨_, rfl⟩
  have wy1 : W32 y1 := by rw [hy1]; exact w32_tSet _ _ _
  have wy2 : W32 y2 := by rw [hy2]; exact w32_tSet _ _ _
  have wy3 : W32 y3 := by rw [hy3]; exact w32_tSet _ _ _
  have c1 : ∀ w, Calls Tryd.prog 20 #[.int .u32 x0, .int .i64 5] w fun e w' => e = .returned (.int .u32 v1) ∧ w = w' := fun w => by rw [hv1]; exact rbit_calls x0 hx0 5 (by decide) w
  have c2 : ∀ w, Calls Tryd.prog 25 #[.int .u32 x0, .int .i64 1, .int .u32 v1] w fun e w' => e = .returned (.int .u32 y1) ∧ w = w' := fun w => by rw [hy1]; exact rput_calls x0 hx0 1 (by decide) 2 rfl v1 (hb x0 5) hv1 w
  have c3 : ∀ w, Calls Tryd.prog 25 #[.int .u32 y1, .int .i64 5, .int .u32 1] w fun e w' => e = .returned (.int .u32 y2) ∧ w = w' := fun w => by rw [hy2]; exact rput_calls y1 wy1 5 (by decide) 32 rfl 1 true rfl w
  have c4 : ∀ w, Calls Tryd.prog 25 #[.int .u32 y2, .int .i64 8, .int .u32 0] w fun e w' => e = .returned (.int .u32 y3) ∧ w = w' := fun w => by rw [hy3]; exact rput_calls y2 wy2 8 (by decide) 256 rfl 0 false rfl w
  have c5 : ∀ w, Calls Tryd.prog 25 #[.int .u32 y3, .int .i64 17, .int .u32 0] w fun e w' => e = .returned (.int .u32 y4) ∧ w = w' := fun w => by rw [hy4]; exact rput_calls y3 wy3 17 (by decide) 131072 rfl 0 false rfl w
  have c6 : True := trivial
  have hst : sBack ⟨x0, x1, x2, x3, x4, x5, x6, x7, x8, x9, x10, x11, x12, x13, x14, x15, x16, p, pc⟩ false = ⟨y4, x1, x2, x3, x4, x5, x6, x7, x8, x9, x10, x11, x12, x13, x14, x15, x16, 1, x12⟩ := by
    show backU _ = _
    unfold backU sUser
    have hq2 : tHas x0 256 = true := by rw [has256]; exact hq
    simp only [hq2]
    rw [hy4, hy3, hy2, hy1]
    simp only [has32]
    rfl
  rw [hst]
  have CS := _root_.Go.Lib.hid (And.intro c0 (And.intro c1 (And.intro c2 (And.intro c3 (And.intro c4 (And.intro c5 c6))))))
  clear c0 c1 c2 c3 c4 c5 c6 hst hv1 hy1 hy2 hy3 hy4 wy1 wy2 wy3 hx0 hq 
  have hp1 := (KW.start (Below.refl w.heap.size w) (Nat.le_refl _)).push (St.q ⟨x0, x1, x2, x3, x4, x5, x6, x7, x8, x9, x10, x11, x12, x13, x14, x15, x16, p, pc⟩)
  have e6 : (w.alloc (St.q ⟨x0, x1, x2, x3, x4, x5, x6, x7, x8, x9, x10, x11, x12, x13, x14, x15, x16, p, pc⟩)).heap.size = w.heap.size + 1 := by rw [World.size_alloc]
  have hp2 := hp1.push resR
  rw [e6] at hp2
  have e7 : ((w.alloc (St.q ⟨x0, x1, x2, x3, x4, x5, x6, x7, x8, x9, x10, x11, x12, x13, x14, x15, x16, p, pc⟩)).alloc resR).heap.size = w.heap.size + 1 + 1 := by rw [World.size_alloc, World.size_alloc]
  have hp3 := hp2.push fileY
  rw [e7] at hp3
  clear e6 e7 hp1
  have HP := _root_.Go.Lib.hid hp2
  have HQ := _root_.Go.Lib.hid hp3
  clear hp2 hp3
  go_enter Tryd.func18, Tryd.ntmps18
  go_upto_region 2 with (first | ((with_reducible apply Go.Mem.wpList_load_part 25 (vs := #[.int .u32 x0, .int .u32 x1, .int .u32 x2, .int .u32 x3, .int .u32 x4, .int .u32 x5, .int .u32 x6, .int .u32 x7, .int .u32 x8, .int .u32 x9, .int .u32 x10, .int .u32 x11, .int .u32 x12, .int .u32 x13, .int .u32 x14, .int .u32 x15, .int .u64 x16]) Tryd.underlying25); rfl; rfl; (exact HP.out.get (g := w.heap.size) (o := St.q ⟨x0, x1, x2, x3, x4, x5, x6, x7, x8, x9, x10, x11, x12, x13, x14, x15, x16, p, pc⟩) (by simp)); exact size25; rfl) | ((with_reducible apply wpList_store_at 25); rfl; rfl; (exact HQ.out.get (g := w.heap.size + 1 + 1) (o := fileY) (by simp)); exact size25; rfl; rfl; rfl; (have h2 := KW.row (vs := #[.int .u32 x0, .int .u32 x1, .int .u32 x2, .int .u32 x3, .int .u32 x4, .int .u32 x5, .int .u32 x6, .int .u32 x7, .int .u32 x8, .int .u32 x9, .int .u32 x10, .int .u32 x11, .int .u32 x12, .int .u32 x13, .int .u32 x14, .int .u32 x15, .int .u64 x16]) HQ.out); (generalize World.setRow _ (w.heap.size + 1 + 1) _ = w0 at h2 ⊢)))
  clear HP HQ
  generalize hbb : w.heap.size = b at h2 ⊢
  generalize hbb2 : b + 1 = rb at h2 ⊢
  generalize hbb3 : rb + 1 = fb at h2 ⊢
  have H0 := _root_.Go.Lib.hid h2
  clear h2
  have n0 : w0.cell? ⟨fb, 0, none⟩ = some (.int .u32 x0) := cell_at (H0.out.get (g := fb) (o := .cells (#[.int .u32 x0, .int .u32 x1, .int .u32 x2, .int .u32 x3, .int .u32 x4, .int .u32 x5, .int .u32 x6, .int .u32 x7, .int .u32 x8, .int .u32 x9, .int .u32 x10, .int .u32 x11, .int .u32 x12, .int .u32 x13, .int .u32 x14, .int .u32 x15, .int .u64 x16]) 25) (by simp)) 0
  have n12 : w0.cell? ⟨fb, 12, none⟩ = some (.int .u32 x12) := cell_at (H0.out.get (g := fb) (o := .cells (#[.int .u32 x0, .int .u32 x1, .int .u32 x2, .int .u32 x3, .int .u32 x4, .int .u32 x5, .int .u32 x6, .int .u32 x7, .int .u32 x8, .int .u32 x9, .int .u32 x10, .int .u32 x11, .int .u32 x12, .int .u32 x13, .int .u32 x14, .int .u32 x15, .int .u64 x16]) 25) (by simp)) 12
  go_upto_region 9 with (go_at_call 20; refine (CS.out.1 _).mono ?_; rintro e wq ⟨rfl, rfl⟩)
  clear n0 n12
  have H1 := H0
  clear H0
  generalize w0 = w1 at H1 ⊢
  have n0 : w1.cell? ⟨fb, 0, none⟩ = some (.int .u32 x0) := cell_at (H1.out.get (g := fb) (o := .cells (#[.int .u32 x0, .int .u32 x1, .int .u32 x2, .int .u32 x3, .int .u32 x4, .int .u32 x5, .int .u32 x6, .int .u32 x7, .int .u32 x8, .int .u32 x9, .int .u32 x10, .int .u32 x11, .int .u32 x12, .int .u32 x13, .int .u32 x14, .int .u32 x15, .int .u64 x16]) 25) (by simp)) 0
  have f0 : w1.frozen? ⟨fb, 0, none⟩ = false := free_at (H1.out.get (g := fb) (o := .cells (#[.int .u32 x0, .int .u32 x1, .int .u32 x2, .int .u32 x3, .int .u32 x4, .int .u32 x5, .int .u32 x6, .int .u32 x7, .int .u32 x8, .int .u32 x9, .int .u32 x10, .int .u32 x11, .int .u32 x12, .int .u32 x13, .int .u32 x14, .int .u32 x15, .int .u64 x16]) 25) (by simp)) 0
  go_cut [] from 8 (fun wx => KW b w [(fb, .cells (#[.int .u32 y2, .int .u32 x1, .int .u32 x2, .int .u32 x3, .int .u32 x4, .int .u32 x5, .int .u32 x6, .int .u32 x7, .int .u32 x8, .int .u32 x9, .int .u32 x10, .int .u32 x11, .int .u32 x12, .int .u32 x13, .int .u32 x14, .int .u32 x15, .int .u64 x16]) 25), (rb, resR), (b, St.q ⟨x0, x1, x2, x3, x4, x5, x6, x7, x8, x9, x10, x11, x12, x13, x14, x15, x16, p, pc⟩)] wx)
  case first =>
    focus go_region_with (first | (go_at_call 20; refine (CS.out.2.1 _).mono ?_; rintro e wq ⟨rfl, rfl⟩) | (go_at_call_of 25 (Value.int IntKind.i64 1); refine (CS.out.2.2.1 _).mono ?_; rintro e wq ⟨rfl, rfl⟩) | (go_at_call_of 25 (Value.int IntKind.i64 5); refine (CS.out.2.2.2.1 _).mono ?_; rintro e wq ⟨rfl, rfl⟩))
    all_goals
      go_wp2
      go_meet
      case rel => exact (KW.cell (i := 0) (x := .int .u32 y2) (vs := #[.int .u32 y2, .int .u32 x1, .int .u32 x2, .int .u32 x3, .int .u32 x4, .int .u32 x5, .int .u32 x6, .int .u32 x7, .int .u32 x8, .int .u32 x9, .int .u32 x10, .int .u32 x11, .int .u32 x12, .int .u32 x13, .int .u32 x14, .int .u32 x15, .int .u64 x16]) H1.out rfl).drew
  clear n0 f0 H1
  have H2 := _root_.Go.Lib.hid hcut
  clear hcut
  have n0 : wc.cell? ⟨fb, 0, none⟩ = some (.int .u32 y2) := cell_at (H2.out.get (g := fb) (o := .cells (#[.int .u32 y2, .int .u32 x1, .int .u32 x2, .int .u32 x3, .int .u32 x4, .int .u32 x5, .int .u32 x6, .int .u32 x7, .int .u32 x8, .int .u32 x9, .int .u32 x10, .int .u32 x11, .int .u32 x12, .int .u32 x13, .int .u32 x14, .int .u32 x15, .int .u64 x16]) 25) (by simp)) 0
  have f0 : wc.frozen? ⟨fb, 0, none⟩ = false := free_at (H2.out.get (g := fb) (o := .cells (#[.int .u32 y2, .int .u32 x1, .int .u32 x2, .int .u32 x3, .int .u32 x4, .int .u32 x5, .int .u32 x6, .int .u32 x7, .int .u32 x8, .int .u32 x9, .int .u32 x10, .int .u32 x11, .int .u32 x12, .int .u32 x13, .int .u32 x14, .int .u32 x15, .int .u64 x16]) 25) (by simp)) 0
  go_upto_region 13 with (first | (go_at_call_of 25 (Value.int IntKind.i64 8); refine (CS.out.2.2.2.2.1 _).mono ?_; rintro e wq ⟨rfl, rfl⟩) | (go_at_call_of 25 (Value.int IntKind.i64 17); refine (CS.out.2.2.2.2.2.1 _).mono ?_; rintro e wq ⟨rfl, rfl⟩))
  have k := (KW.cell (i := 0) (x := .int .u32 y4) (vs := #[.int .u32 y4, .int .u32 x1, .int .u32 x2, .int .u32 x3, .int .u32 x4, .int .u32 x5, .int .u32 x6, .int .u32 x7, .int .u32 x8, .int .u32 x9, .int .u32 x10, .int .u32 x11, .int .u32 x12, .int .u32 x13, .int .u32 x14, .int .u32 x15, .int .u64 x16]) (KW.cell (i := 0) (x := .int .u32 y3) (vs := #[.int .u32 y3, .int .u32 x1, .int .u32 x2, .int .u32 x3, .int .u32 x4, .int .u32 x5, .int .u32 x6, .int .u32 x7, .int .u32 x8, .int .u32 x9, .int .u32 x10, .int .u32 x11, .int .u32 x12, .int .u32 x13, .int .u32 x14, .int .u32 x15, .int .u64 x16]) H2.out rfl) rfl)
  generalize World.setCell _ _ _ = w3 at k ⊢
  clear n0 f0 H2
  have H3 := _root_.Go.Lib.hid k
  clear k
  go_wp2_with (first | ((with_reducible apply wpList_load_at 25 Tryd.underlying25); rfl; exact H3.out.get (g := fb) (o := .cells (#[.int .u32 y4, .int .u32 x1, .int .u32 x2, .int .u32 x3, .int .u32 x4, .int .u32 x5, .int .u32 x6, .int .u32 x7, .int .u32 x8, .int .u32 x9, .int .u32 x10, .int .u32 x11, .int .u32 x12, .int .u32 x13, .int .u32 x14, .int .u32 x15, .int .u64 x16]) 25) (by simp); rfl; exact size25) | ((with_reducible apply wpList_store_at 27); rfl; rfl; (exact H3.out.get (g := rb) (o := resR) (by simp)); exact size27; rfl; rfl; rfl; (have h5 := KW.row (vs := St.r ⟨y4, x1, x2, x3, x4, x5, x6, x7, x8, x9, x10, x11, x12, x13, x14, x15, x16, 1, x12⟩) (KW.swap H3.out)); (generalize World.setRow _ rb _ = wz at h5 ⊢)))
  refine bodyPost_ret (v := .agg (St.r ⟨y4, x1, x2, x3, x4, x5, x6, x7, x8, x9, x10, x11, x12, x13, x14, x15, x16, 1, x12⟩)) ?ga ?gb ⟨?gc, ?gd⟩
  case gb => rfl
  case gc => rfl
  case gd => first | exact h5.bel | (rw [hbb]; exact h5.bel)
  case ga =>
    have hg := h5.get (g := rb) (o := St.q ⟨y4, x1, x2, x3, x4, x5, x6, x7, x8, x9, x10, x11, x12, x13, x14, x15, x16, 1, x12⟩) (by simp)
    exact results_cell_row (ty := 27) Tryd.results18 _ _ _ _ _ _ _ rfl hg Tryd.underlying27 rfl size27
end Go.Proofs.YtkebphpfedgokaaDoor
