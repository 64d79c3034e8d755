/-
  trap.Take.
-/
import Derived.Test.YtkebphpfedgokaaDoorState
import Derived.Test.YtkebphpfedgokaaDoorGrow
import Derived.Deep.RegionWith
import Derived.Deep.Cut
set_option linter.unusedVariables false
set_option linter.unusedSimpArgs false
namespace Go.Proofs.YtkebphpfedgokaaDoor
open Go.RowKit Go.Lib

abbrev resO : Obj := .cells #[.int .u32 0, .int .u32 0, .int .u32 0, .int .u32 0, .int .u32 0, .int .u32 0, .int .u32 0, .int .u32 0, .int .u32 0, .int .u32 0, .int .u32 0, .int .u32 0, .int .u32 0, .int .u32 0, .int .u32 0, .int .u32 0, .int .u64 0, .int .i64 0, .int .u32 0] 32
def takeDown (s : St) (c v : Int) : St := { s with x0 := tSet (bits .andNot .u32 (tSet s.x0 32 (tHas s.x0 2)) 2) 256 (s.p == 1), x13 := c, x12 := s.pc, x14 := v, p := 1, pc := tTarget s.x10 c }

set_option maxRecDepth 100000 in
set_option maxHeartbeats 1600000 in
theorem take_down (s : St) (c v : Int) (hd : sDown s c = true) (w : World) : Calls Tryd.prog 15 #[.agg s.r, .int .u32 c, .int .u32 v] w fun e w' => e = .returned (.agg (takeDown s c v).r) ∧ Below w.heap.size w w' := by
  have HD := _root_.Go.Lib.hid hd
  clear hd
  go_enter Tryd.func15, Tryd.ntmps15
  have hrow : ∀ o, ((w.alloc (.cells s.r 32)).alloc o).heap[w.heap.size]? = some (.cells s.r 32) := fun o => by
    rw [Below.heap_alloc _ _ _ (by rw [World.size_alloc]; omega)]; exact heap_alloc_new w _
  have HR := _root_.Go.Lib.hid hrow
  clear hrow
  go_wp2_with ((with_reducible apply wpList_load_at 32 Tryd.underlying32); rfl; exact HR.out _; rfl; exact size32)
  refine (down_calls s c _).mono ?_
  rw [HD.out]
  rintro e w1 ⟨rfl, hb⟩
  have hp := KW.grown (((KW.start (Below.refl w.heap.size w) (Nat.le_refl _)).push s.o).push resO) hb
  have e6 : (w.alloc s.o).heap.size = w.heap.size + 1 := by rw [World.size_alloc]
  rw [e6] at hp
  clear hb e6 HR HD
  obtain ⟨x0, x1, x2, x3, x4, x5, x6, x7, x8, x9, x10, x11, x12, x13, x14, x15, x16, p, pc⟩ := s
  have hp2 := hp.swap
  have HP := _root_.Go.Lib.hid hp2
  clear hp hp2
  generalize hbb : w.heap.size = b at HP ⊢
  generalize hbb2 : b + 1 = rb at HP ⊢
  have m12 : w1.cell? ⟨b, 12, none⟩ = some (.int .u32 x12) := cell_at (HP.out.get (g := b) (o := St.o ⟨x0, x1, x2, x3, x4, x5, x6, x7, x8, x9, x10, x11, x12, x13, x14, x15, x16, p, pc⟩) (by simp)) 12
  have m13 : w1.cell? ⟨b, 13, none⟩ = some (.int .u32 x13) := cell_at (HP.out.get (g := b) (o := St.o ⟨x0, x1, x2, x3, x4, x5, x6, x7, x8, x9, x10, x11, x12, x13, x14, x15, x16, p, pc⟩) (by simp)) 13
  have m14 : w1.cell? ⟨b, 14, none⟩ = some (.int .u32 x14) := cell_at (HP.out.get (g := b) (o := St.o ⟨x0, x1, x2, x3, x4, x5, x6, x7, x8, x9, x10, x11, x12, x13, x14, x15, x16, p, pc⟩) (by simp)) 14
  have m18 : w1.cell? ⟨b, 18, none⟩ = some (.int .u32 pc) := cell_at (HP.out.get (g := b) (o := St.o ⟨x0, x1, x2, x3, x4, x5, x6, x7, x8, x9, x10, x11, x12, x13, x14, x15, x16, p, pc⟩) (by simp)) 18
  have f12 : w1.frozen? ⟨b, 12, none⟩ = false := free_at (HP.out.get (g := b) (o := St.o ⟨x0, x1, x2, x3, x4, x5, x6, x7, x8, x9, x10, x11, x12, x13, x14, x15, x16, p, pc⟩) (by simp)) 12
  have f13 : w1.frozen? ⟨b, 13, none⟩ = false := free_at (HP.out.get (g := b) (o := St.o ⟨x0, x1, x2, x3, x4, x5, x6, x7, x8, x9, x10, x11, x12, x13, x14, x15, x16, p, pc⟩) (by simp)) 13
  have f14 : w1.frozen? ⟨b, 14, none⟩ = false := free_at (HP.out.get (g := b) (o := St.o ⟨x0, x1, x2, x3, x4, x5, x6, x7, x8, x9, x10, x11, x12, x13, x14, x15, x16, p, pc⟩) (by simp)) 14
  go_wp2_with fail
  have h2 := (KW.cell (i := 14) (x := .int .u32 v) (vs := St.r ⟨x0, x1, x2, x3, x4, x5, x6, x7, x8, x9, x10, x11, pc, c, v, x15, x16, p, pc⟩) (KW.cell (i := 12) (x := .int .u32 pc) (vs := St.r ⟨x0, x1, x2, x3, x4, x5, x6, x7, x8, x9, x10, x11, pc, c, x14, x15, x16, p, pc⟩) (KW.cell (i := 13) (x := .int .u32 c) (vs := St.r ⟨x0, x1, x2, x3, x4, x5, x6, x7, x8, x9, x10, x11, x12, c, x14, x15, x16, p, pc⟩) HP.out rfl) rfl) rfl)
  generalize World.setCell _ ⟨b, 14, none⟩ _ = wc at h2 ⊢
  clear m12 m13 m14 m18 f12 f13 f14 HP
  have H2 := _root_.Go.Lib.hid h2
  clear h2
  have m0 : wc.cell? ⟨b, 0, none⟩ = some (.int .u32 x0) := cell_at (H2.out.get (g := b) (o := St.o ⟨x0, x1, x2, x3, x4, x5, x6, x7, x8, x9, x10, x11, pc, c, v, x15, x16, p, pc⟩) (by simp)) 0
  have f0 : wc.frozen? ⟨b, 0, none⟩ = false := free_at (H2.out.get (g := b) (o := St.o ⟨x0, x1, x2, x3, x4, x5, x6, x7, x8, x9, x10, x11, pc, c, v, x15, x16, p, pc⟩) (by simp)) 0
  go_cut [] from 9 (fun wx => KW b w [(b, St.o ⟨(tSet x0 32 (tHas x0 2)), x1, x2, x3, x4, x5, x6, x7, x8, x9, x10, x11, pc, c, v, x15, x16, p, pc⟩), (rb, resO)] wx)
  case first =>
    focus go_region_with (first | (go_at_call 19; refine (has_calls x0 2 _).mono ?_; rintro e wq ⟨rfl, rfl⟩) | (go_at_call 23; refine (set_calls x0 32 (tHas x0 2) _).mono ?_; rintro e wq ⟨rfl, rfl⟩))
    all_goals
      go_wp2
      go_meet
      case rel => exact ((KW.cell (i := 0) (x := .int .u32 (tSet x0 32 (tHas x0 2))) (vs := St.r ⟨(tSet x0 32 (tHas x0 2)), x1, x2, x3, x4, x5, x6, x7, x8, x9, x10, x11, pc, c, v, x15, x16, p, pc⟩) H2.out rfl)).drew
  clear m0 f0 H2
  have H3 := _root_.Go.Lib.hid hcut
  clear hcut
  go_wp2_with fail
  have m0 : wc.cell? ⟨b, 0, none⟩ = some (.int .u32 (tSet x0 32 (tHas x0 2))) := cell_at (H3.out.get (g := b) (o := St.o ⟨(tSet x0 32 (tHas x0 2)), x1, x2, x3, x4, x5, x6, x7, x8, x9, x10, x11, pc, c, v, x15, x16, p, pc⟩) (by simp)) 0
  have m17 : wc.cell? ⟨b, 17, none⟩ = some (.int .i64 p) := cell_at (H3.out.get (g := b) (o := St.o ⟨(tSet x0 32 (tHas x0 2)), x1, x2, x3, x4, x5, x6, x7, x8, x9, x10, x11, pc, c, v, x15, x16, p, pc⟩) (by simp)) 17
  have f0 : wc.frozen? ⟨b, 0, none⟩ = false := free_at (H3.out.get (g := b) (o := St.o ⟨(tSet x0 32 (tHas x0 2)), x1, x2, x3, x4, x5, x6, x7, x8, x9, x10, x11, pc, c, v, x15, x16, p, pc⟩) (by simp)) 0
  go_cut [] from 9 (fun wx => KW b w [(b, St.o ⟨(tSet (bits .andNot .u32 (tSet x0 32 (tHas x0 2)) 2) 256 (p == 1)), x1, x2, x3, x4, x5, x6, x7, x8, x9, x10, x11, pc, c, v, x15, x16, p, pc⟩), (rb, resO)] wx)
  case first =>
    focus go_region_with (first | (go_at_call 23; refine (set_calls (bits .andNot .u32 (tSet x0 32 (tHas x0 2)) 2) 256 (p == 1) _).mono ?_; rintro e wq ⟨rfl, rfl⟩))
    all_goals
      go_wp2
      go_meet
      case rel => exact ((KW.cell (i := 0) (x := .int .u32 (tSet (bits .andNot .u32 (tSet x0 32 (tHas x0 2)) 2) 256 (p == 1))) (vs := St.r ⟨(tSet (bits .andNot .u32 (tSet x0 32 (tHas x0 2)) 2) 256 (p == 1)), x1, x2, x3, x4, x5, x6, x7, x8, x9, x10, x11, pc, c, v, x15, x16, p, pc⟩) H3.out rfl)).drew
  clear m0 m17 f0 H3
  have H4 := _root_.Go.Lib.hid hcut
  clear hcut
  have m10 : wc.cell? ⟨b, 10, none⟩ = some (.int .u32 x10) := cell_at (H4.out.get (g := b) (o := St.o ⟨(tSet (bits .andNot .u32 (tSet x0 32 (tHas x0 2)) 2) 256 (p == 1)), x1, x2, x3, x4, x5, x6, x7, x8, x9, x10, x11, pc, c, v, x15, x16, p, pc⟩) (by simp)) 10
  have m17 : wc.cell? ⟨b, 17, none⟩ = some (.int .i64 p) := cell_at (H4.out.get (g := b) (o := St.o ⟨(tSet (bits .andNot .u32 (tSet x0 32 (tHas x0 2)) 2) 256 (p == 1)), x1, x2, x3, x4, x5, x6, x7, x8, x9, x10, x11, pc, c, v, x15, x16, p, pc⟩) (by simp)) 17
  have m18 : wc.cell? ⟨b, 18, none⟩ = some (.int .u32 pc) := cell_at (H4.out.get (g := b) (o := St.o ⟨(tSet (bits .andNot .u32 (tSet x0 32 (tHas x0 2)) 2) 256 (p == 1)), x1, x2, x3, x4, x5, x6, x7, x8, x9, x10, x11, pc, c, v, x15, x16, p, pc⟩) (by simp)) 18
  have f17 : wc.frozen? ⟨b, 17, none⟩ = false := free_at (H4.out.get (g := b) (o := St.o ⟨(tSet (bits .andNot .u32 (tSet x0 32 (tHas x0 2)) 2) 256 (p == 1)), x1, x2, x3, x4, x5, x6, x7, x8, x9, x10, x11, pc, c, v, x15, x16, p, pc⟩) (by simp)) 17
  have f18 : wc.frozen? ⟨b, 18, none⟩ = false := free_at (H4.out.get (g := b) (o := St.o ⟨(tSet (bits .andNot .u32 (tSet x0 32 (tHas x0 2)) 2) 256 (p == 1)), x1, x2, x3, x4, x5, x6, x7, x8, x9, x10, x11, pc, c, v, x15, x16, p, pc⟩) (by simp)) 18
  go_wp2_with (first | (go_at_call 24; refine (target_calls x10 c _).mono ?_; rintro e wq ⟨rfl, rfl⟩) | ((with_reducible apply wpList_load_at 32 Tryd.underlying32); rfl; exact ((KW.cell (i := 18) (x := .int .u32 (tTarget x10 c)) (vs := St.r ⟨(tSet (bits .andNot .u32 (tSet x0 32 (tHas x0 2)) 2) 256 (p == 1)), x1, x2, x3, x4, x5, x6, x7, x8, x9, x10, x11, pc, c, v, x15, x16, 1, (tTarget x10 c)⟩) (KW.cell (i := 17) (x := .int .i64 1) (vs := St.r ⟨(tSet (bits .andNot .u32 (tSet x0 32 (tHas x0 2)) 2) 256 (p == 1)), x1, x2, x3, x4, x5, x6, x7, x8, x9, x10, x11, pc, c, v, x15, x16, 1, pc⟩) H4.out rfl) rfl)).get (g := b) (o := St.o ⟨(tSet (bits .andNot .u32 (tSet x0 32 (tHas x0 2)) 2) 256 (p == 1)), x1, x2, x3, x4, x5, x6, x7, x8, x9, x10, x11, pc, c, v, x15, x16, 1, (tTarget x10 c)⟩) (by simp); rfl; exact size32) | ((with_reducible apply wpList_store_at 32); rfl; rfl; (exact ((KW.cell (i := 18) (x := .int .u32 (tTarget x10 c)) (vs := St.r ⟨(tSet (bits .andNot .u32 (tSet x0 32 (tHas x0 2)) 2) 256 (p == 1)), x1, x2, x3, x4, x5, x6, x7, x8, x9, x10, x11, pc, c, v, x15, x16, 1, (tTarget x10 c)⟩) (KW.cell (i := 17) (x := .int .i64 1) (vs := St.r ⟨(tSet (bits .andNot .u32 (tSet x0 32 (tHas x0 2)) 2) 256 (p == 1)), x1, x2, x3, x4, x5, x6, x7, x8, x9, x10, x11, pc, c, v, x15, x16, 1, pc⟩) H4.out rfl) rfl)).get (g := rb) (o := resO) (by simp)); exact size32; rfl; rfl; rfl; (have h5 := KW.row (vs := St.r ⟨(tSet (bits .andNot .u32 (tSet x0 32 (tHas x0 2)) 2) 256 (p == 1)), x1, x2, x3, x4, x5, x6, x7, x8, x9, x10, x11, pc, c, v, x15, x16, 1, (tTarget x10 c)⟩) (KW.swap (KW.cell (i := 18) (x := .int .u32 (tTarget x10 c)) (vs := St.r ⟨(tSet (bits .andNot .u32 (tSet x0 32 (tHas x0 2)) 2) 256 (p == 1)), x1, x2, x3, x4, x5, x6, x7, x8, x9, x10, x11, pc, c, v, x15, x16, 1, (tTarget x10 c)⟩) (KW.cell (i := 17) (x := .int .i64 1) (vs := St.r ⟨(tSet (bits .andNot .u32 (tSet x0 32 (tHas x0 2)) 2) 256 (p == 1)), x1, x2, x3, x4, x5, x6, x7, x8, x9, x10, x11, pc, c, v, x15, x16, 1, pc⟩) H4.out rfl) rfl))); (generalize World.setRow _ rb _ = wz at h5 ⊢)))
  refine bodyPost_ret (v := .agg (St.r ⟨(tSet (bits .andNot .u32 (tSet x0 32 (tHas x0 2)) 2) 256 (p == 1)), x1, x2, x3, x4, x5, x6, x7, x8, x9, x10, x11, pc, c, v, x15, x16, 1, (tTarget x10 c)⟩)) (results_cell_row (ty := 32) Tryd.results15 _ _ _ _ _ _ _ rfl (h5.get (g := rb) (o := St.o ⟨(tSet (bits .andNot .u32 (tSet x0 32 (tHas x0 2)) 2) 256 (p == 1)), x1, x2, x3, x4, x5, x6, x7, x8, x9, x10, x11, pc, c, v, x15, x16, 1, (tTarget x10 c)⟩) (by simp)) Tryd.underlying32 rfl size32) rfl ⟨rfl, ?_⟩
  rw [hbb]
  exact h5.bel
end Go.Proofs.YtkebphpfedgokaaDoor
