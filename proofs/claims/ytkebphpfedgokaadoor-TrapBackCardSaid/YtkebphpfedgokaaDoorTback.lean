/-
  TrapBack: the return from a trap is as it was.
-/
import Derived.Test.YtkebphpfedgokaaDoorAlive
import Derived.Test.YtkebphpfedgokaaDoorPlainb
set_option linter.unusedVariables false
set_option linter.unusedSimpArgs false
namespace Go.Proofs.YtkebphpfedgokaaDoor
open Go.RowKit Go.Lib

set_option maxRecDepth 100000 in
set_option maxHeartbeats 1600000 in
theorem tback_wrong (s : St) (c v : Int) (hr : ¬ Right s) (w : World) (hT : Tab w) : Calls Tryd.prog 4 #[.agg s.r, .int .u32 c, .int .u32 v] w fun e w' => e = .returned (.bool true) ∧ Below w.heap.size w w' := by
  obtain ⟨x0, x1, x2, x3, x4, x5, x6, x7, x8, x9, x10, x11, x12, x13, x14, x15, x16, p, pc⟩ := s
  have HT := _root_.Go.Lib.hid hT
  clear hT
  have k0 := (KW.start (Below.refl w.heap.size w) (Nat.le_refl _)).push (St.q ⟨x0, x1, x2, x3, x4, x5, x6, x7, x8, x9, x10, x11, x12, x13, x14, x15, x16, p, pc⟩)
  have H0 := _root_.Go.Lib.hid k0
  clear k0
  have HR := _root_.Go.Lib.hid hr
  clear hr
  go_enter Tryd.func4, Tryd.ntmps4
  go_wp2_with fail
  refine (alive_calls _ (HT.out.below H0.out.bel HT.out.pos)).mono ?_
  rintro e w1 ⟨rfl, hb⟩
  have k := H0.out.grown hb
  clear hb H0
  have H1 := _root_.Go.Lib.hid k
  clear k
  go_wp2_with ((with_reducible apply wpList_load_at 27 Tryd.underlying27); rfl; exact H1.out.get (g := w.heap.size) (o := St.q ⟨x0, x1, x2, x3, x4, x5, x6, x7, x8, x9, x10, x11, x12, x13, x14, x15, x16, p, pc⟩) (by simp); rfl; exact size27)
  refine (wrong_calls ⟨x0, x1, x2, x3, x4, x5, x6, x7, x8, x9, x10, x11, x12, x13, x14, x15, x16, p, pc⟩ HR.out _).mono ?_
  rintro e w2 ⟨rfl, hb⟩
  have k := H1.out.grown hb
  clear hb H1
  have H2 := _root_.Go.Lib.hid k
  clear k
  go_wp2
  go_ret
  exact ⟨rfl, H2.out.bel⟩
set_option maxRecDepth 100000 in
set_option maxHeartbeats 1600000 in
theorem tback_down (s : St) (c v : Int) (hr : Right s) (hd : sDown s c = true) (w : World) (hT : Tab w) : Calls Tryd.prog 4 #[.agg s.r, .int .u32 c, .int .u32 v] w fun e w' => e = .returned (.bool true) ∧ Below w.heap.size w w' := by
  have tk := fun w => take_calls s c v w
  have bk := fun w => back_calls (sTake s c v) false w
  obtain ⟨h1, h2, h3, h4, h5⟩ := back_down s c v hr hd
  clear hd
  generalize sBack (sTake s c v) false = B at *
  generalize sTake s c v = T at *
  obtain ⟨t0, t1, t2, t3, t4, t5, t6, t7, t8, t9, t10, t11, t12, t13, t14, t15, t16, tp, tpc⟩ := T
  obtain ⟨b0, b1, b2, b3, b4, b5, b6, b7, b8, b9, b10, b11, b12, b13, b14, b15, b16, bp, bpc⟩ := B
  obtain ⟨x0, x1, x2, x3, x4, x5, x6, x7, x8, x9, x10, x11, x12, x13, x14, x15, x16, p, pc⟩ := s
  obtain rfl : tp = 1 := h1
  obtain rfl : bp = p := h2
  obtain rfl : bpc = pc := h3
  have g4 : bits .and .u32 b0 2 = bits .and .u32 x0 2 := h4
  have g5 : bits .and .u32 t0 2 = 0 := h5
  try clear h1
  try clear h2
  try clear h3
  clear h4 h5
  have TK := _root_.Go.Lib.hid tk
  have BK := _root_.Go.Lib.hid bk
  have G := _root_.Go.Lib.hid (And.intro g4 g5)
  clear tk bk g4 g5
  have HT := _root_.Go.Lib.hid hT
  clear hT
  have k0 := (KW.start (Below.refl w.heap.size w) (Nat.le_refl _)).push (St.q ⟨x0, x1, x2, x3, x4, x5, x6, x7, x8, x9, x10, x11, x12, x13, x14, x15, x16, bp, bpc⟩)
  have H0 := _root_.Go.Lib.hid k0
  clear k0
  have HR := _root_.Go.Lib.hid hr
  clear hr
  go_enter Tryd.func4, Tryd.ntmps4
  go_wp2_with fail
  refine (alive_calls _ (HT.out.below H0.out.bel HT.out.pos)).mono ?_
  rintro e w1 ⟨rfl, hb⟩
  have k := H0.out.grown hb
  clear hb H0
  have H1 := _root_.Go.Lib.hid k
  clear k
  go_wp2_with ((with_reducible apply wpList_load_at 27 Tryd.underlying27); rfl; exact H1.out.get (g := w.heap.size) (o := St.q ⟨x0, x1, x2, x3, x4, x5, x6, x7, x8, x9, x10, x11, x12, x13, x14, x15, x16, bp, bpc⟩) (by simp); rfl; exact size27)
  refine (right_calls ⟨x0, x1, x2, x3, x4, x5, x6, x7, x8, x9, x10, x11, x12, x13, x14, x15, x16, bp, bpc⟩ HR.out _).mono ?_
  rintro e w2 ⟨rfl, hb⟩
  have k := H1.out.grown hb
  clear hb H1
  have H2 := _root_.Go.Lib.hid k
  clear k
  go_wp2_with ((with_reducible apply wpList_load_at 27 Tryd.underlying27); rfl; exact H2.out.get (g := w.heap.size) (o := St.q ⟨x0, x1, x2, x3, x4, x5, x6, x7, x8, x9, x10, x11, x12, x13, x14, x15, x16, bp, bpc⟩) (by simp); rfl; exact size27)
  refine (theirs_calls ⟨x0, x1, x2, x3, x4, x5, x6, x7, x8, x9, x10, x11, x12, x13, x14, x15, x16, bp, bpc⟩ _).mono ?_
  rintro e w3 ⟨rfl, hb⟩
  have k := H2.out.grown hb
  clear hb H2
  have H3 := _root_.Go.Lib.hid k
  clear k
  go_wp2_with fail
  refine (TK.out _).mono ?_
  rintro e w4 ⟨rfl, hb⟩
  have k := H3.out.grown hb
  clear hb H3
  have H4 := _root_.Go.Lib.hid k
  clear k
  have k := H4.out.push resO
  have P := _root_.Go.Lib.hid k
  clear k
  go_upto_region 6 with ((with_reducible apply wpList_store_at 32); rfl; rfl; (exact P.out.get (g := w4.heap.size) (o := resO) (by simp)); exact size32; rfl; rfl; rfl; (have h := KW.row (vs := St.r ⟨t0, t1, t2, t3, t4, t5, t6, t7, t8, t9, t10, t11, t12, t13, t14, t15, t16, 1, tpc⟩) P.out); (generalize World.setRow _ (World.heap w4).size _ = w5 at h ⊢))
  generalize (World.heap w4).size = g1 at h ⊢
  clear P H4 w4
  have H5 := _root_.Go.Lib.hid h
  clear h
  have m17 : w5.cell? ⟨g1, 17, none⟩ = some (.int .i64 1) := cell_at (H5.out.get (g := g1) (o := St.o ⟨t0, t1, t2, t3, t4, t5, t6, t7, t8, t9, t10, t11, t12, t13, t14, t15, t16, 1, tpc⟩) (by simp)) 17
  go_wp2_with ((with_reducible apply wpList_load_at 32 Tryd.underlying32); rfl; exact H5.out.get (g := g1) (o := St.o ⟨t0, t1, t2, t3, t4, t5, t6, t7, t8, t9, t10, t11, t12, t13, t14, t15, t16, 1, tpc⟩) (by simp); rfl; exact size32)
  refine (BK.out _).mono ?_
  rintro e w6 ⟨rfl, hb⟩
  have k := H5.out.grown hb
  clear hb H5
  have H6 := _root_.Go.Lib.hid k
  clear k
  clear m17
  have k := H6.out.push resO
  have P := _root_.Go.Lib.hid k
  clear k
  go_upto_region 7 with ((with_reducible apply wpList_store_at 32); rfl; rfl; (exact P.out.get (g := w6.heap.size) (o := resO) (by simp)); exact size32; rfl; rfl; rfl; (have h := KW.row (vs := St.r ⟨b0, b1, b2, b3, b4, b5, b6, b7, b8, b9, b10, b11, b12, b13, b14, b15, b16, bp, bpc⟩) P.out); (generalize World.setRow _ (World.heap w6).size _ = w7 at h ⊢))
  generalize (World.heap w6).size = g2 at h ⊢
  clear P H6 w6
  have H7 := _root_.Go.Lib.hid h
  clear h
  have m17 : w7.cell? ⟨g1, 17, none⟩ = some (.int .i64 1) := cell_at (H7.out.get (g := g1) (o := St.o ⟨t0, t1, t2, t3, t4, t5, t6, t7, t8, t9, t10, t11, t12, t13, t14, t15, t16, 1, tpc⟩) (by simp)) 17
  have m0 : w7.cell? ⟨g1, 0, none⟩ = some (.int .u32 t0) := cell_at (H7.out.get (g := g1) (o := St.o ⟨t0, t1, t2, t3, t4, t5, t6, t7, t8, t9, t10, t11, t12, t13, t14, t15, t16, 1, tpc⟩) (by simp)) 0
  have n17 : w7.cell? ⟨g2, 17, none⟩ = some (.int .i64 bp) := cell_at (H7.out.get (g := g2) (o := St.o ⟨b0, b1, b2, b3, b4, b5, b6, b7, b8, b9, b10, b11, b12, b13, b14, b15, b16, bp, bpc⟩) (by simp)) 17
  have n18 : w7.cell? ⟨g2, 18, none⟩ = some (.int .u32 bpc) := cell_at (H7.out.get (g := g2) (o := St.o ⟨b0, b1, b2, b3, b4, b5, b6, b7, b8, b9, b10, b11, b12, b13, b14, b15, b16, bp, bpc⟩) (by simp)) 18
  have n0 : w7.cell? ⟨g2, 0, none⟩ = some (.int .u32 b0) := cell_at (H7.out.get (g := g2) (o := St.o ⟨b0, b1, b2, b3, b4, b5, b6, b7, b8, b9, b10, b11, b12, b13, b14, b15, b16, bp, bpc⟩) (by simp)) 0
  have l17 : w7.cell? ⟨w.heap.size, 17, none⟩ = some (.int .i64 bp) := cell_at (H7.out.get (g := w.heap.size) (o := St.q ⟨x0, x1, x2, x3, x4, x5, x6, x7, x8, x9, x10, x11, x12, x13, x14, x15, x16, bp, bpc⟩) (by simp)) 17
  have l18 : w7.cell? ⟨w.heap.size, 18, none⟩ = some (.int .u32 bpc) := cell_at (H7.out.get (g := w.heap.size) (o := St.q ⟨x0, x1, x2, x3, x4, x5, x6, x7, x8, x9, x10, x11, x12, x13, x14, x15, x16, bp, bpc⟩) (by simp)) 18
  have l0 : w7.cell? ⟨w.heap.size, 0, none⟩ = some (.int .u32 x0) := cell_at (H7.out.get (g := w.heap.size) (o := St.q ⟨x0, x1, x2, x3, x4, x5, x6, x7, x8, x9, x10, x11, x12, x13, x14, x15, x16, bp, bpc⟩) (by simp)) 0
  obtain ⟨g4, g5⟩ := G.out
  go_wp2
  go_ret
  exact ⟨rfl, H7.out.bel⟩
set_option maxRecDepth 100000 in
set_option maxHeartbeats 1600000 in
theorem tback_up (s : St) (c v : Int) (hr : Right s) (hd : sDown s c = false) (w : World) (hT : Tab w) : Calls Tryd.prog 4 #[.agg s.r, .int .u32 c, .int .u32 v] w fun e w' => e = .returned (.bool true) ∧ Below w.heap.size w w' := by
  have tk := fun w => take_calls s c v w
  have bk := fun w => back_calls (sTake s c v) true w
  obtain ⟨h1, h2, h3, h4, h5⟩ := back_up s c v hr hd
  clear hd
  generalize sBack (sTake s c v) true = B at *
  generalize sTake s c v = T at *
  obtain ⟨t0, t1, t2, t3, t4, t5, t6, t7, t8, t9, t10, t11, t12, t13, t14, t15, t16, tp, tpc⟩ := T
  obtain ⟨b0, b1, b2, b3, b4, b5, b6, b7, b8, b9, b10, b11, b12, b13, b14, b15, b16, bp, bpc⟩ := B
  obtain ⟨x0, x1, x2, x3, x4, x5, x6, x7, x8, x9, x10, x11, x12, x13, x14, x15, x16, p, pc⟩ := s
  obtain rfl : tp = 3 := h1
  obtain rfl : bp = p := h2
  obtain rfl : bpc = pc := h3
  have g4 : bits .and .u32 b0 8 = bits .and .u32 x0 8 := h4
  have g5 : bits .and .u32 t0 8 = 0 := h5
  try clear h1
  try clear h2
  try clear h3
  clear h4 h5
  have TK := _root_.Go.Lib.hid tk
  have BK := _root_.Go.Lib.hid bk
  have G := _root_.Go.Lib.hid (And.intro g4 g5)
  clear tk bk g4 g5
  have HT := _root_.Go.Lib.hid hT
  clear hT
  have k0 := (KW.start (Below.refl w.heap.size w) (Nat.le_refl _)).push (St.q ⟨x0, x1, x2, x3, x4, x5, x6, x7, x8, x9, x10, x11, x12, x13, x14, x15, x16, bp, bpc⟩)
  have H0 := _root_.Go.Lib.hid k0
  clear k0
  have HR := _root_.Go.Lib.hid hr
  clear hr
  go_enter Tryd.func4, Tryd.ntmps4
  go_wp2_with fail
  refine (alive_calls _ (HT.out.below H0.out.bel HT.out.pos)).mono ?_
  rintro e w1 ⟨rfl, hb⟩
  have k := H0.out.grown hb
  clear hb H0
  have H1 := _root_.Go.Lib.hid k
  clear k
  go_wp2_with ((with_reducible apply wpList_load_at 27 Tryd.underlying27); rfl; exact H1.out.get (g := w.heap.size) (o := St.q ⟨x0, x1, x2, x3, x4, x5, x6, x7, x8, x9, x10, x11, x12, x13, x14, x15, x16, bp, bpc⟩) (by simp); rfl; exact size27)
  refine (right_calls ⟨x0, x1, x2, x3, x4, x5, x6, x7, x8, x9, x10, x11, x12, x13, x14, x15, x16, bp, bpc⟩ HR.out _).mono ?_
  rintro e w2 ⟨rfl, hb⟩
  have k := H1.out.grown hb
  clear hb H1
  have H2 := _root_.Go.Lib.hid k
  clear k
  go_wp2_with ((with_reducible apply wpList_load_at 27 Tryd.underlying27); rfl; exact H2.out.get (g := w.heap.size) (o := St.q ⟨x0, x1, x2, x3, x4, x5, x6, x7, x8, x9, x10, x11, x12, x13, x14, x15, x16, bp, bpc⟩) (by simp); rfl; exact size27)
  refine (theirs_calls ⟨x0, x1, x2, x3, x4, x5, x6, x7, x8, x9, x10, x11, x12, x13, x14, x15, x16, bp, bpc⟩ _).mono ?_
  rintro e w3 ⟨rfl, hb⟩
  have k := H2.out.grown hb
  clear hb H2
  have H3 := _root_.Go.Lib.hid k
  clear k
  go_wp2_with fail
  refine (TK.out _).mono ?_
  rintro e w4 ⟨rfl, hb⟩
  have k := H3.out.grown hb
  clear hb H3
  have H4 := _root_.Go.Lib.hid k
  clear k
  have k := H4.out.push resO
  have P := _root_.Go.Lib.hid k
  clear k
  go_upto_region 6 with ((with_reducible apply wpList_store_at 32); rfl; rfl; (exact P.out.get (g := w4.heap.size) (o := resO) (by simp)); exact size32; rfl; rfl; rfl; (have h := KW.row (vs := St.r ⟨t0, t1, t2, t3, t4, t5, t6, t7, t8, t9, t10, t11, t12, t13, t14, t15, t16, 3, tpc⟩) P.out); (generalize World.setRow _ (World.heap w4).size _ = w5 at h ⊢))
  generalize (World.heap w4).size = g1 at h ⊢
  clear P H4 w4
  have H5 := _root_.Go.Lib.hid h
  clear h
  have m17 : w5.cell? ⟨g1, 17, none⟩ = some (.int .i64 3) := cell_at (H5.out.get (g := g1) (o := St.o ⟨t0, t1, t2, t3, t4, t5, t6, t7, t8, t9, t10, t11, t12, t13, t14, t15, t16, 3, tpc⟩) (by simp)) 17
  go_wp2_with ((with_reducible apply wpList_load_at 32 Tryd.underlying32); rfl; exact H5.out.get (g := g1) (o := St.o ⟨t0, t1, t2, t3, t4, t5, t6, t7, t8, t9, t10, t11, t12, t13, t14, t15, t16, 3, tpc⟩) (by simp); rfl; exact size32)
  refine (BK.out _).mono ?_
  rintro e w6 ⟨rfl, hb⟩
  have k := H5.out.grown hb
  clear hb H5
  have H6 := _root_.Go.Lib.hid k
  clear k
  clear m17
  have k := H6.out.push resO
  have P := _root_.Go.Lib.hid k
  clear k
  go_upto_region 7 with ((with_reducible apply wpList_store_at 32); rfl; rfl; (exact P.out.get (g := w6.heap.size) (o := resO) (by simp)); exact size32; rfl; rfl; rfl; (have h := KW.row (vs := St.r ⟨b0, b1, b2, b3, b4, b5, b6, b7, b8, b9, b10, b11, b12, b13, b14, b15, b16, bp, bpc⟩) P.out); (generalize World.setRow _ (World.heap w6).size _ = w7 at h ⊢))
  generalize (World.heap w6).size = g2 at h ⊢
  clear P H6 w6
  have H7 := _root_.Go.Lib.hid h
  clear h
  have m17 : w7.cell? ⟨g1, 17, none⟩ = some (.int .i64 3) := cell_at (H7.out.get (g := g1) (o := St.o ⟨t0, t1, t2, t3, t4, t5, t6, t7, t8, t9, t10, t11, t12, t13, t14, t15, t16, 3, tpc⟩) (by simp)) 17
  have m0 : w7.cell? ⟨g1, 0, none⟩ = some (.int .u32 t0) := cell_at (H7.out.get (g := g1) (o := St.o ⟨t0, t1, t2, t3, t4, t5, t6, t7, t8, t9, t10, t11, t12, t13, t14, t15, t16, 3, tpc⟩) (by simp)) 0
  have n17 : w7.cell? ⟨g2, 17, none⟩ = some (.int .i64 bp) := cell_at (H7.out.get (g := g2) (o := St.o ⟨b0, b1, b2, b3, b4, b5, b6, b7, b8, b9, b10, b11, b12, b13, b14, b15, b16, bp, bpc⟩) (by simp)) 17
  have n18 : w7.cell? ⟨g2, 18, none⟩ = some (.int .u32 bpc) := cell_at (H7.out.get (g := g2) (o := St.o ⟨b0, b1, b2, b3, b4, b5, b6, b7, b8, b9, b10, b11, b12, b13, b14, b15, b16, bp, bpc⟩) (by simp)) 18
  have n0 : w7.cell? ⟨g2, 0, none⟩ = some (.int .u32 b0) := cell_at (H7.out.get (g := g2) (o := St.o ⟨b0, b1, b2, b3, b4, b5, b6, b7, b8, b9, b10, b11, b12, b13, b14, b15, b16, bp, bpc⟩) (by simp)) 0
  have l17 : w7.cell? ⟨w.heap.size, 17, none⟩ = some (.int .i64 bp) := cell_at (H7.out.get (g := w.heap.size) (o := St.q ⟨x0, x1, x2, x3, x4, x5, x6, x7, x8, x9, x10, x11, x12, x13, x14, x15, x16, bp, bpc⟩) (by simp)) 17
  have l18 : w7.cell? ⟨w.heap.size, 18, none⟩ = some (.int .u32 bpc) := cell_at (H7.out.get (g := w.heap.size) (o := St.q ⟨x0, x1, x2, x3, x4, x5, x6, x7, x8, x9, x10, x11, x12, x13, x14, x15, x16, bp, bpc⟩) (by simp)) 18
  have l0 : w7.cell? ⟨w.heap.size, 0, none⟩ = some (.int .u32 x0) := cell_at (H7.out.get (g := w.heap.size) (o := St.q ⟨x0, x1, x2, x3, x4, x5, x6, x7, x8, x9, x10, x11, x12, x13, x14, x15, x16, bp, bpc⟩) (by simp)) 0
  obtain ⟨g4, g5⟩ := G.out
  go_wp2
  go_ret
  exact ⟨rfl, H7.out.bel⟩
theorem tback_calls (s : St) (c v : Int) (w : World) (hT : Tab w) : Calls Tryd.prog 4 #[.agg s.r, .int .u32 c, .int .u32 v] w fun e w' => e = .returned (.bool true) ∧ Below w.heap.size w w' := by
  by_cases hr : Right s
  · cases hd : sDown s c
    · exact tback_up s c v hr hd w hT
    · exact tback_down s c v hr hd w hT
  · exact tback_wrong s c v hr w hT
end Go.Proofs.YtkebphpfedgokaaDoor
