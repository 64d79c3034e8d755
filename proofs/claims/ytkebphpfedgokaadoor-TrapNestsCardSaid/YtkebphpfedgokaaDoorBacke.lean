/-
  trap.Back.
-/
import Derived.Test.YtkebphpfedgokaaDoorState
import Derived.Test.YtkebphpfedgokaaDoorBack
import Derived.Deep.RegionWith
import Derived.Deep.Cut
set_option linter.unusedVariables false
set_option linter.unusedSimpArgs false
namespace Go.Proofs.YtkebphpfedgokaaDoor
open Go.RowKit Go.Lib

set_option maxRecDepth 100000 in
set_option maxHeartbeats 1600000 in
theorem back_u0 (s : St) (hq : tHas s.x0 256 = false) (w : World) : Calls Tryd.prog 17 #[.agg s.r, .bool false] w fun e w' => e = .returned (.agg (St.r { s with x0 := sUser s.x0, p := 0, pc := s.x12 })) ∧ Below w.heap.size w w' := by
  have HQ := _root_.Go.Lib.hid hq
  clear hq
  go_enter Tryd.func17, Tryd.ntmps17
  have hp := ((KW.start (Below.refl w.heap.size w) (Nat.le_refl _)).push s.o).push resO
  have e6 : (w.alloc s.o).heap.size = w.heap.size + 1 := by rw [World.size_alloc]
  rw [e6] at hp
  clear e6
  obtain ⟨x0, x1, x2, x3, x4, x5, x6, x7, x8, x9, x10, x11, x12, x13, x14, x15, x16, p, pc⟩ := s
  have hp2 := hp.swap
  have HP := _root_.Go.Lib.hid hp2
  clear hp hp2
  go_upto_region 2 with fail
  generalize hbb : w.heap.size = b at HP ⊢
  generalize hbb2 : b + 1 = rb at HP ⊢
  generalize World.alloc _ resO = wc at HP ⊢
  have H2 := HP
  clear HP
  have m0 : wc.cell? ⟨b, 0, none⟩ = some (.int .u32 x0) := cell_at (H2.out.get (g := b) (o := St.o ⟨x0, x1, x2, x3, x4, x5, x6, x7, x8, x9, x10, x11, x12, x13, x14, x15, x16, p, pc⟩) (by simp)) 0
  have m12 : wc.cell? ⟨b, 12, none⟩ = some (.int .u32 x12) := cell_at (H2.out.get (g := b) (o := St.o ⟨x0, x1, x2, x3, x4, x5, x6, x7, x8, x9, x10, x11, x12, x13, x14, x15, x16, p, pc⟩) (by simp)) 12
  have m17 : wc.cell? ⟨b, 17, none⟩ = some (.int .i64 p) := cell_at (H2.out.get (g := b) (o := St.o ⟨x0, x1, x2, x3, x4, x5, x6, x7, x8, x9, x10, x11, x12, x13, x14, x15, x16, p, pc⟩) (by simp)) 17
  have m18 : wc.cell? ⟨b, 18, none⟩ = some (.int .u32 pc) := cell_at (H2.out.get (g := b) (o := St.o ⟨x0, x1, x2, x3, x4, x5, x6, x7, x8, x9, x10, x11, x12, x13, x14, x15, x16, p, pc⟩) (by simp)) 18
  have f17 : wc.frozen? ⟨b, 17, none⟩ = false := free_at (H2.out.get (g := b) (o := St.o ⟨x0, x1, x2, x3, x4, x5, x6, x7, x8, x9, x10, x11, x12, x13, x14, x15, x16, p, pc⟩) (by simp)) 17
  have f18 : wc.frozen? ⟨b, 18, none⟩ = false := free_at (H2.out.get (g := b) (o := St.o ⟨x0, x1, x2, x3, x4, x5, x6, x7, x8, x9, x10, x11, x12, x13, x14, x15, x16, p, pc⟩) (by simp)) 18
  go_wp2_with (go_at_call 19; refine (has_calls x0 256 _).mono ?_; rw [HQ.out]; rintro e wq ⟨rfl, rfl⟩)
  have h3 := (KW.cell (i := 18) (x := .int .u32 x12) (vs := St.r ⟨x0, x1, x2, x3, x4, x5, x6, x7, x8, x9, x10, x11, x12, x13, x14, x15, x16, 0, x12⟩) (KW.cell (i := 17) (x := .int .i64 0) (vs := St.r ⟨x0, x1, x2, x3, x4, x5, x6, x7, x8, x9, x10, x11, x12, x13, x14, x15, x16, 0, pc⟩) H2.out rfl) rfl)
  generalize World.setCell _ ⟨b, 18, none⟩ _ = wd at h3 ⊢
  clear m0 m12 m17 m18 f17 f18 H2 wc
  rename _root_.Go.World => wc
  have H3 := _root_.Go.Lib.hid h3
  clear h3
  have m0 : wc.cell? ⟨b, 0, none⟩ = some (.int .u32 x0) := cell_at (H3.out.get (g := b) (o := St.o ⟨x0, x1, x2, x3, x4, x5, x6, x7, x8, x9, x10, x11, x12, x13, x14, x15, x16, 0, x12⟩) (by simp)) 0
  have f0 : wc.frozen? ⟨b, 0, none⟩ = false := free_at (H3.out.get (g := b) (o := St.o ⟨x0, x1, x2, x3, x4, x5, x6, x7, x8, x9, x10, x11, x12, x13, x14, x15, x16, 0, x12⟩) (by simp)) 0
  go_cut [] from 6 (fun wx => KW b w [(b, St.o ⟨(bits .or .u32 (tSet x0 2 (tHas x0 32)) 32), x1, x2, x3, x4, x5, x6, x7, x8, x9, x10, x11, x12, x13, x14, x15, x16, 0, x12⟩), (rb, resO)] wx)
  case first =>
    focus go_region_with (first | (go_at_call 19; refine (has_calls x0 32 _).mono ?_; rintro e wq ⟨rfl, rfl⟩) | (go_at_call 23; refine (set_calls x0 2 (tHas x0 32) _).mono ?_; rintro e wq ⟨rfl, rfl⟩))
    all_goals
      go_wp2
      go_meet
      case rel => exact ((KW.cell (i := 0) (x := .int .u32 (bits .or .u32 (tSet x0 2 (tHas x0 32)) 32)) (vs := St.r ⟨(bits .or .u32 (tSet x0 2 (tHas x0 32)) 32), x1, x2, x3, x4, x5, x6, x7, x8, x9, x10, x11, x12, x13, x14, x15, x16, 0, x12⟩) H3.out rfl)).drew
  clear m0 f0 H3
  have H4 := _root_.Go.Lib.hid hcut
  clear hcut
  have m0 : wc.cell? ⟨b, 0, none⟩ = some (.int .u32 (bits .or .u32 (tSet x0 2 (tHas x0 32)) 32)) := cell_at (H4.out.get (g := b) (o := St.o ⟨(bits .or .u32 (tSet x0 2 (tHas x0 32)) 32), x1, x2, x3, x4, x5, x6, x7, x8, x9, x10, x11, x12, x13, x14, x15, x16, 0, x12⟩) (by simp)) 0
  have m17 : wc.cell? ⟨b, 17, none⟩ = some (.int .i64 0) := cell_at (H4.out.get (g := b) (o := St.o ⟨(bits .or .u32 (tSet x0 2 (tHas x0 32)) 32), x1, x2, x3, x4, x5, x6, x7, x8, x9, x10, x11, x12, x13, x14, x15, x16, 0, x12⟩) (by simp)) 17
  have f0 : wc.frozen? ⟨b, 0, none⟩ = false := free_at (H4.out.get (g := b) (o := St.o ⟨(bits .or .u32 (tSet x0 2 (tHas x0 32)) 32), x1, x2, x3, x4, x5, x6, x7, x8, x9, x10, x11, x12, x13, x14, x15, x16, 0, x12⟩) (by simp)) 0
  go_wp2_with (first | ((with_reducible apply wpList_load_at 32 Tryd.underlying32); rfl; exact ((KW.cell (i := 0) (x := .int .u32 (bits .andNot .u32 (bits .andNot .u32 (bits .or .u32 (tSet x0 2 (tHas x0 32)) 32) 256) 131072)) (vs := St.r ⟨(bits .andNot .u32 (bits .andNot .u32 (bits .or .u32 (tSet x0 2 (tHas x0 32)) 32) 256) 131072), x1, x2, x3, x4, x5, x6, x7, x8, x9, x10, x11, x12, x13, x14, x15, x16, 0, x12⟩) (KW.cell (i := 0) (x := .int .u32 (bits .andNot .u32 (bits .or .u32 (tSet x0 2 (tHas x0 32)) 32) 256)) (vs := St.r ⟨(bits .andNot .u32 (bits .or .u32 (tSet x0 2 (tHas x0 32)) 32) 256), x1, x2, x3, x4, x5, x6, x7, x8, x9, x10, x11, x12, x13, x14, x15, x16, 0, x12⟩) H4.out rfl) rfl)).get (g := b) (o := St.o ⟨(bits .andNot .u32 (bits .andNot .u32 (bits .or .u32 (tSet x0 2 (tHas x0 32)) 32) 256) 131072), x1, x2, x3, x4, x5, x6, x7, x8, x9, x10, x11, x12, x13, x14, x15, x16, 0, x12⟩) (by simp); rfl; exact size32) | ((with_reducible apply wpList_store_at 32); rfl; rfl; (exact ((KW.cell (i := 0) (x := .int .u32 (bits .andNot .u32 (bits .andNot .u32 (bits .or .u32 (tSet x0 2 (tHas x0 32)) 32) 256) 131072)) (vs := St.r ⟨(bits .andNot .u32 (bits .andNot .u32 (bits .or .u32 (tSet x0 2 (tHas x0 32)) 32) 256) 131072), x1, x2, x3, x4, x5, x6, x7, x8, x9, x10, x11, x12, x13, x14, x15, x16, 0, x12⟩) (KW.cell (i := 0) (x := .int .u32 (bits .andNot .u32 (bits .or .u32 (tSet x0 2 (tHas x0 32)) 32) 256)) (vs := St.r ⟨(bits .andNot .u32 (bits .or .u32 (tSet x0 2 (tHas x0 32)) 32) 256), x1, x2, x3, x4, x5, x6, x7, x8, x9, x10, x11, x12, x13, x14, x15, x16, 0, x12⟩) H4.out rfl) rfl)).get (g := rb) (o := resO) (by simp)); exact size32; rfl; rfl; rfl; (have h5 := KW.row (vs := St.r ⟨(bits .andNot .u32 (bits .andNot .u32 (bits .or .u32 (tSet x0 2 (tHas x0 32)) 32) 256) 131072), x1, x2, x3, x4, x5, x6, x7, x8, x9, x10, x11, x12, x13, x14, x15, x16, 0, x12⟩) (KW.swap (KW.cell (i := 0) (x := .int .u32 (bits .andNot .u32 (bits .andNot .u32 (bits .or .u32 (tSet x0 2 (tHas x0 32)) 32) 256) 131072)) (vs := St.r ⟨(bits .andNot .u32 (bits .andNot .u32 (bits .or .u32 (tSet x0 2 (tHas x0 32)) 32) 256) 131072), x1, x2, x3, x4, x5, x6, x7, x8, x9, x10, x11, x12, x13, x14, x15, x16, 0, x12⟩) (KW.cell (i := 0) (x := .int .u32 (bits .andNot .u32 (bits .or .u32 (tSet x0 2 (tHas x0 32)) 32) 256)) (vs := St.r ⟨(bits .andNot .u32 (bits .or .u32 (tSet x0 2 (tHas x0 32)) 32) 256), x1, x2, x3, x4, x5, x6, x7, x8, x9, x10, x11, x12, x13, x14, x15, x16, 0, x12⟩) H4.out rfl) rfl))); (generalize World.setRow _ rb _ = wz at h5 ⊢)))
  refine bodyPost_ret (v := .agg (St.r ⟨(bits .andNot .u32 (bits .andNot .u32 (bits .or .u32 (tSet x0 2 (tHas x0 32)) 32) 256) 131072), x1, x2, x3, x4, x5, x6, x7, x8, x9, x10, x11, x12, x13, x14, x15, x16, 0, x12⟩)) (results_cell_row (ty := 32) Tryd.results17 _ _ _ _ _ _ _ rfl (h5.get (g := rb) (o := St.o ⟨(bits .andNot .u32 (bits .andNot .u32 (bits .or .u32 (tSet x0 2 (tHas x0 32)) 32) 256) 131072), x1, x2, x3, x4, x5, x6, x7, x8, x9, x10, x11, x12, x13, x14, x15, x16, 0, x12⟩) (by simp)) Tryd.underlying32 rfl size32) rfl ⟨rfl, ?_⟩
  first | exact h5.bel | (rw [hbb]; exact h5.bel) | (rw [← hbb]; exact h5.bel)
end Go.Proofs.YtkebphpfedgokaaDoor
