/-
  trap.Take, by the higher privilege.
-/
import Derived.Test.YtkebphpfedgokaaDoorState
import Derived.Test.YtkebphpfedgokaaDoorTake
import Derived.Deep.RegionWith
import Derived.Deep.Cut
set_option linter.unusedVariables false
set_option linter.unusedSimpArgs false
namespace Go.Proofs.YtkebphpfedgokaaDoor
open Go.RowKit Go.Lib

def takeUp (s : St) (c v : Int) : St := { s with x0 := bits .or .u32 (bits .andNot .u32 (tSet s.x0 128 (tHas s.x0 8)) 6152) (bits .and .i64 s.p 3 % 4294967296 * 2048 % 4294967296), x8 := c, x7 := s.pc, x9 := v, p := 3, pc := tTarget s.x5 c }

set_option maxRecDepth 100000 in
set_option maxHeartbeats 1600000 in
theorem take_up (s : St) (c v : Int) (hd : sDown s c = false) (w : World) : Calls Tryd.prog 15 #[.agg s.r, .int .u32 c, .int .u32 v] w fun e w' => e = .returned (.agg (takeUp s c v).r) ∧ Below w.heap.size w w' := by
  have HD := _root_.Go.Lib.hid hd
  clear hd
  go_enter Tryd.func15, Tryd.ntmps15
  have hrow : ∀ o, ((w.alloc (.cells s.r 32)).alloc o).heap[w.heap.size]? = some (.cells s.r 32) := fun o => by
    rw [Below.heap_alloc _ _ _ (by rw [World.size_alloc]; omega)]; exact heap_alloc_new w _
  have HR := _root_.Go.Lib.hid hrow
  clear hrow
  go_wp2_with ((with_reducible apply wpList_load_at 32 Tryd.underlying32); rfl; exact HR.out _; rfl; exact size32)
  refine (down_calls s c _).mono ?_
  rw [HD.out]
  rintro e w1 ⟨rfl, hb⟩
  have hp := KW.grown (((KW.start (Below.refl w.heap.size w) (Nat.le_refl _)).push s.o).push resO) hb
  have e6 : (w.alloc s.o).heap.size = w.heap.size + 1 := by rw [World.size_alloc]
  rw [e6] at hp
  clear hb e6 HR HD
  obtain ⟨x0, x1, x2, x3, x4, x5, x6, x7, x8, x9, x10, x11, x12, x13, x14, x15, x16, p, pc⟩ := s
  have hp2 := hp.swap
  have HP := _root_.Go.Lib.hid hp2
  clear hp hp2
  generalize hbb : w.heap.size = b at HP ⊢
  generalize hbb2 : b + 1 = rb at HP ⊢
  have m7 : w1.cell? ⟨b, 7, none⟩ = some (.int .u32 x7) := cell_at (HP.out.get (g := b) (o := St.o ⟨x0, x1, x2, x3, x4, x5, x6, x7, x8, x9, x10, x11, x12, x13, x14, x15, x16, p, pc⟩) (by simp)) 7
  have m8 : w1.cell? ⟨b, 8, none⟩ = some (.int .u32 x8) := cell_at (HP.out.get (g := b) (o := St.o ⟨x0, x1, x2, x3, x4, x5, x6, x7, x8, x9, x10, x11, x12, x13, x14, x15, x16, p, pc⟩) (by simp)) 8
  have m9 : w1.cell? ⟨b, 9, none⟩ = some (.int .u32 x9) := cell_at (HP.out.get (g := b) (o := St.o ⟨x0, x1, x2, x3, x4, x5, x6, x7, x8, x9, x10, x11, x12, x13, x14, x15, x16, p, pc⟩) (by simp)) 9
  have m18 : w1.cell? ⟨b, 18, none⟩ = some (.int .u32 pc) := cell_at (HP.out.get (g := b) (o := St.o ⟨x0, x1, x2, x3, x4, x5, x6, x7, x8, x9, x10, x11, x12, x13, x14, x15, x16, p, pc⟩) (by simp)) 18
  have f7 : w1.frozen? ⟨b, 7, none⟩ = false := free_at (HP.out.get (g := b) (o := St.o ⟨x0, x1, x2, x3, x4, x5, x6, x7, x8, x9, x10, x11, x12, x13, x14, x15, x16, p, pc⟩) (by simp)) 7
  have f8 : w1.frozen? ⟨b, 8, none⟩ = false := free_at (HP.out.get (g := b) (o := St.o ⟨x0, x1, x2, x3, x4, x5, x6, x7, x8, x9, x10, x11, x12, x13, x14, x15, x16, p, pc⟩) (by simp)) 8
  have f9 : w1.frozen? ⟨b, 9, none⟩ = false := free_at (HP.out.get (g := b) (o := St.o ⟨x0, x1, x2, x3, x4, x5, x6, x7, x8, x9, x10, x11, x12, x13, x14, x15, x16, p, pc⟩) (by simp)) 9
  go_wp2_with fail
  have h2 := (KW.cell (i := 9) (x := .int .u32 v) (vs := St.r ⟨x0, x1, x2, x3, x4, x5, x6, pc, c, v, x10, x11, x12, x13, x14, x15, x16, p, pc⟩) (KW.cell (i := 7) (x := .int .u32 pc) (vs := St.r ⟨x0, x1, x2, x3, x4, x5, x6, pc, c, x9, x10, x11, x12, x13, x14, x15, x16, p, pc⟩) (KW.cell (i := 8) (x := .int .u32 c) (vs := St.r ⟨x0, x1, x2, x3, x4, x5, x6, x7, c, x9, x10, x11, x12, x13, x14, x15, x16, p, pc⟩) HP.out rfl) rfl) rfl)
  generalize World.setCell _ ⟨b, 9, none⟩ _ = wc at h2 ⊢
  clear m7 m8 m9 m18 f7 f8 f9 HP
  have H2 := _root_.Go.Lib.hid h2
  clear h2
  have m0 : wc.cell? ⟨b, 0, none⟩ = some (.int .u32 x0) := cell_at (H2.out.get (g := b) (o := St.o ⟨x0, x1, x2, x3, x4, x5, x6, pc, c, v, x10, x11, x12, x13, x14, x15, x16, p, pc⟩) (by simp)) 0
  have f0 : wc.frozen? ⟨b, 0, none⟩ = false := free_at (H2.out.get (g := b) (o := St.o ⟨x0, x1, x2, x3, x4, x5, x6, pc, c, v, x10, x11, x12, x13, x14, x15, x16, p, pc⟩) (by simp)) 0
  go_cut [] from 9 (fun wx => KW b w [(b, St.o ⟨(tSet x0 128 (tHas x0 8)), x1, x2, x3, x4, x5, x6, pc, c, v, x10, x11, x12, x13, x14, x15, x16, p, pc⟩), (rb, resO)] wx)
  case first =>
    focus go_region_with (first | (go_at_call 19; refine (has_calls x0 8 _).mono ?_; rintro e wq ⟨rfl, rfl⟩) | (go_at_call 23; refine (set_calls x0 128 (tHas x0 8) _).mono ?_; rintro e wq ⟨rfl, rfl⟩))
    all_goals
      go_wp2
      go_meet
      case rel => exact ((KW.cell (i := 0) (x := .int .u32 (tSet x0 128 (tHas x0 8))) (vs := St.r ⟨(tSet x0 128 (tHas x0 8)), x1, x2, x3, x4, x5, x6, pc, c, v, x10, x11, x12, x13, x14, x15, x16, p, pc⟩) H2.out rfl)).drew
  clear m0 f0 H2
  have H3 := _root_.Go.Lib.hid hcut
  clear hcut
  go_wp2_with fail
  have m0 : wc.cell? ⟨b, 0, none⟩ = some (.int .u32 (tSet x0 128 (tHas x0 8))) := cell_at (H3.out.get (g := b) (o := St.o ⟨(tSet x0 128 (tHas x0 8)), x1, x2, x3, x4, x5, x6, pc, c, v, x10, x11, x12, x13, x14, x15, x16, p, pc⟩) (by simp)) 0
  have m17 : wc.cell? ⟨b, 17, none⟩ = some (.int .i64 p) := cell_at (H3.out.get (g := b) (o := St.o ⟨(tSet x0 128 (tHas x0 8)), x1, x2, x3, x4, x5, x6, pc, c, v, x10, x11, x12, x13, x14, x15, x16, p, pc⟩) (by simp)) 17
  have f0 : wc.frozen? ⟨b, 0, none⟩ = false := free_at (H3.out.get (g := b) (o := St.o ⟨(tSet x0 128 (tHas x0 8)), x1, x2, x3, x4, x5, x6, pc, c, v, x10, x11, x12, x13, x14, x15, x16, p, pc⟩) (by simp)) 0
  go_cut [] from 9 (fun wx => KW b w [(b, St.o ⟨(bits .or .u32 (bits .andNot .u32 (tSet x0 128 (tHas x0 8)) 6152) (bits .and .i64 p 3 % 4294967296 * 2048 % 4294967296)), x1, x2, x3, x4, x5, x6, pc, c, v, x10, x11, x12, x13, x14, x15, x16, p, pc⟩), (rb, resO)] wx)
  case first =>
    focus go_region_with (first | fail)
    all_goals
      go_wp2
      go_meet
      case rel => exact ((KW.cell (i := 0) (x := .int .u32 (bits .or .u32 (bits .andNot .u32 (tSet x0 128 (tHas x0 8)) 6152) (bits .and .i64 p 3 % 4294967296 * 2048 % 4294967296))) (vs := St.r ⟨(bits .or .u32 (bits .andNot .u32 (tSet x0 128 (tHas x0 8)) 6152) (bits .and .i64 p 3 % 4294967296 * 2048 % 4294967296)), x1, x2, x3, x4, x5, x6, pc, c, v, x10, x11, x12, x13, x14, x15, x16, p, pc⟩) H3.out rfl)).drew
  clear m0 m17 f0 H3
  have H4 := _root_.Go.Lib.hid hcut
  clear hcut
  have m5 : wc.cell? ⟨b, 5, none⟩ = some (.int .u32 x5) := cell_at (H4.out.get (g := b) (o := St.o ⟨(bits .or .u32 (bits .andNot .u32 (tSet x0 128 (tHas x0 8)) 6152) (bits .and .i64 p 3 % 4294967296 * 2048 % 4294967296)), x1, x2, x3, x4, x5, x6, pc, c, v, x10, x11, x12, x13, x14, x15, x16, p, pc⟩) (by simp)) 5
  have m17 : wc.cell? ⟨b, 17, none⟩ = some (.int .i64 p) := cell_at (H4.out.get (g := b) (o := St.o ⟨(bits .or .u32 (bits .andNot .u32 (tSet x0 128 (tHas x0 8)) 6152) (bits .and .i64 p 3 % 4294967296 * 2048 % 4294967296)), x1, x2, x3, x4, x5, x6, pc, c, v, x10, x11, x12, x13, x14, x15, x16, p, pc⟩) (by simp)) 17
  have m18 : wc.cell? ⟨b, 18, none⟩ = some (.int .u32 pc) := cell_at (H4.out.get (g := b) (o := St.o ⟨(bits .or .u32 (bits .andNot .u32 (tSet x0 128 (tHas x0 8)) 6152) (bits .and .i64 p 3 % 4294967296 * 2048 % 4294967296)), x1, x2, x3, x4, x5, x6, pc, c, v, x10, x11, x12, x13, x14, x15, x16, p, pc⟩) (by simp)) 18
  have f17 : wc.frozen? ⟨b, 17, none⟩ = false := free_at (H4.out.get (g := b) (o := St.o ⟨(bits .or .u32 (bits .andNot .u32 (tSet x0 128 (tHas x0 8)) 6152) (bits .and .i64 p 3 % 4294967296 * 2048 % 4294967296)), x1, x2, x3, x4, x5, x6, pc, c, v, x10, x11, x12, x13, x14, x15, x16, p, pc⟩) (by simp)) 17
  have f18 : wc.frozen? ⟨b, 18, none⟩ = false := free_at (H4.out.get (g := b) (o := St.o ⟨(bits .or .u32 (bits .andNot .u32 (tSet x0 128 (tHas x0 8)) 6152) (bits .and .i64 p 3 % 4294967296 * 2048 % 4294967296)), x1, x2, x3, x4, x5, x6, pc, c, v, x10, x11, x12, x13, x14, x15, x16, p, pc⟩) (by simp)) 18
  go_wp2_with (first | (go_at_call 24; refine (target_calls x5 c _).mono ?_; rintro e wq ⟨rfl, rfl⟩) | ((with_reducible apply wpList_load_at 32 Tryd.underlying32); rfl; exact ((KW.cell (i := 18) (x := .int .u32 (tTarget x5 c)) (vs := St.r ⟨(bits .or .u32 (bits .andNot .u32 (tSet x0 128 (tHas x0 8)) 6152) (bits .and .i64 p 3 % 4294967296 * 2048 % 4294967296)), x1, x2, x3, x4, x5, x6, pc, c, v, x10, x11, x12, x13, x14, x15, x16, 3, (tTarget x5 c)⟩) (KW.cell (i := 17) (x := .int .i64 3) (vs := St.r ⟨(bits .or .u32 (bits .andNot .u32 (tSet x0 128 (tHas x0 8)) 6152) (bits .and .i64 p 3 % 4294967296 * 2048 % 4294967296)), x1, x2, x3, x4, x5, x6, pc, c, v, x10, x11, x12, x13, x14, x15, x16, 3, pc⟩) H4.out rfl) rfl)).get (g := b) (o := St.o ⟨(bits .or .u32 (bits .andNot .u32 (tSet x0 128 (tHas x0 8)) 6152) (bits .and .i64 p 3 % 4294967296 * 2048 % 4294967296)), x1, x2, x3, x4, x5, x6, pc, c, v, x10, x11, x12, x13, x14, x15, x16, 3, (tTarget x5 c)⟩) (by simp); rfl; exact size32) | ((with_reducible apply wpList_store_at 32); rfl; rfl; (exact ((KW.cell (i := 18) (x := .int .u32 (tTarget x5 c)) (vs := St.r ⟨(bits .or .u32 (bits .andNot .u32 (tSet x0 128 (tHas x0 8)) 6152) (bits .and .i64 p 3 % 4294967296 * 2048 % 4294967296)), x1, x2, x3, x4, x5, x6, pc, c, v, x10, x11, x12, x13, x14, x15, x16, 3, (tTarget x5 c)⟩) (KW.cell (i := 17) (x := .int .i64 3) (vs := St.r ⟨(bits .or .u32 (bits .andNot .u32 (tSet x0 128 (tHas x0 8)) 6152) (bits .and .i64 p 3 % 4294967296 * 2048 % 4294967296)), x1, x2, x3, x4, x5, x6, pc, c, v, x10, x11, x12, x13, x14, x15, x16, 3, pc⟩) H4.out rfl) rfl)).get (g := rb) (o := resO) (by simp)); exact size32; rfl; rfl; rfl; (have h5 := KW.row (vs := St.r ⟨(bits .or .u32 (bits .andNot .u32 (tSet x0 128 (tHas x0 8)) 6152) (bits .and .i64 p 3 % 4294967296 * 2048 % 4294967296)), x1, x2, x3, x4, x5, x6, pc, c, v, x10, x11, x12, x13, x14, x15, x16, 3, (tTarget x5 c)⟩) (KW.swap (KW.cell (i := 18) (x := .int .u32 (tTarget x5 c)) (vs := St.r ⟨(bits .or .u32 (bits .andNot .u32 (tSet x0 128 (tHas x0 8)) 6152) (bits .and .i64 p 3 % 4294967296 * 2048 % 4294967296)), x1, x2, x3, x4, x5, x6, pc, c, v, x10, x11, x12, x13, x14, x15, x16, 3, (tTarget x5 c)⟩) (KW.cell (i := 17) (x := .int .i64 3) (vs := St.r ⟨(bits .or .u32 (bits .andNot .u32 (tSet x0 128 (tHas x0 8)) 6152) (bits .and .i64 p 3 % 4294967296 * 2048 % 4294967296)), x1, x2, x3, x4, x5, x6, pc, c, v, x10, x11, x12, x13, x14, x15, x16, 3, pc⟩) H4.out rfl) rfl))); (generalize World.setRow _ rb _ = wz at h5 ⊢)))
  refine bodyPost_ret (v := .agg (St.r ⟨(bits .or .u32 (bits .andNot .u32 (tSet x0 128 (tHas x0 8)) 6152) (bits .and .i64 p 3 % 4294967296 * 2048 % 4294967296)), x1, x2, x3, x4, x5, x6, pc, c, v, x10, x11, x12, x13, x14, x15, x16, 3, (tTarget x5 c)⟩)) (results_cell_row (ty := 32) Tryd.results15 _ _ _ _ _ _ _ rfl (h5.get (g := rb) (o := St.o ⟨(bits .or .u32 (bits .andNot .u32 (tSet x0 128 (tHas x0 8)) 6152) (bits .and .i64 p 3 % 4294967296 * 2048 % 4294967296)), x1, x2, x3, x4, x5, x6, pc, c, v, x10, x11, x12, x13, x14, x15, x16, 3, (tTarget x5 c)⟩) (by simp)) Tryd.underlying32 rfl size32) rfl ⟨rfl, ?_⟩
  rw [hbb]
  exact h5.bel
def sTake (s : St) (c v : Int) : St := if sDown s c then takeDown s c v else takeUp s c v
theorem take_calls (s : St) (c v : Int) (w : World) : Calls Tryd.prog 15 #[.agg s.r, .int .u32 c, .int .u32 v] w fun e w' => e = .returned (.agg (sTake s c v).r) ∧ Below w.heap.size w w' := by
  unfold sTake
  cases h : sDown s c
  · exact take_up s c v h w
  · exact take_down s c v h w
end Go.Proofs.YtkebphpfedgokaaDoor
