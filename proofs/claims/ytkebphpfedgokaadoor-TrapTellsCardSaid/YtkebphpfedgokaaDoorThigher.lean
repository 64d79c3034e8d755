/-
  TrapHigher: a trap never goes to a lower privilege.
-/
import Derived.Test.YtkebphpfedgokaaDoorTwo
import Derived.Test.YtkebphpfedgokaaDoorTquiet
set_option linter.unusedVariables false
set_option linter.unusedSimpArgs false
namespace Go.Proofs.YtkebphpfedgokaaDoor
open Go.RowKit Go.Lib Go.Val

theorem int_top (c : Int) (hc : W32 c) : (c / 2147483648 == 1) = tInt c := by
  obtain ⟨n, rfl⟩ : ∃ n : Nat, c = n := ⟨c.toNat, by have := hc.1; omega⟩
  have hn : n < 4294967296 := by have := hc.2; omega
  unfold tInt
  rw [hasTop, hb_nat n 31 (by decide), show (2 : Nat) ^ 31 = 2147483648 by decide]
  by_cases h : n / 2147483648 % 2 = 1
  · rw [decide_eq_true h, beq_iff_eq]; omega
  · rw [decide_eq_false h, beq_eq_false_iff_ne]; omega
theorem down_bit (s : St) (c : Int) (hF : Wf s) (hd : sDown s c = true) (k : Nat) (hk : k < 32) (hkk : bits .and .u32 c 31 = (k : Int)) :
    s.p ≤ 1 ∧ bits .and .u32 ((if tInt c then s.x2 else s.x1) / ((2 ^ k : Nat) : Int)) 1 = 1 := by
  unfold sDown at hd
  rw [Bool.and_eq_true, decide_eq_true_eq] at hd
  obtain ⟨h1, h2⟩ := hd
  refine ⟨h1, ?_⟩
  have hb : tBit c = ((2 ^ k : Nat) : Int) := by
    unfold tBit
    rw [hkk, Int.toNat_natCast]
    have : (2 : Nat) ^ k < 2 ^ 32 := Nat.pow_lt_pow_right (by decide) hk
    have e : (2 : Int) ^ k = ((2 ^ k : Nat) : Int) := by rw [Int.natCast_pow]; rfl
    rw [e]
    generalize (2 : Nat) ^ k = y at this ⊢
    omega
  rw [hb, tHas_pow _ _ k hk (by
    rw [BitVec.ofInt_natCast]
    apply BitVec.eq_of_toNat_eq
    rw [BitVec.toNat_twoPow, BitVec.toNat_ofNat])] at h2
  rw [and1 _ (by split; exact hF.h2; exact hF.h1) k hk _ rfl, h2]; rfl

set_option maxRecDepth 100000 in
set_option maxHeartbeats 1600000 in
theorem thigher_wrong (s : St) (c v : Int) (hr : ¬ Right s) (w : World) (hT : Tab w) : Calls Tryd.prog 5 #[.agg s.r, .int .u32 c, .int .u32 v] w fun e w' => e = .returned (.bool true) ∧ Below w.heap.size w w' := by
  obtain ⟨x0, x1, x2, x3, x4, x5, x6, x7, x8, x9, x10, x11, x12, x13, x14, x15, x16, p, pc⟩ := s
  have HT := _root_.Go.Lib.hid hT
  clear hT
  have k0 := (KW.start (Below.refl w.heap.size w) (Nat.le_refl _)).push (St.q ⟨x0, x1, x2, x3, x4, x5, x6, x7, x8, x9, x10, x11, x12, x13, x14, x15, x16, p, pc⟩)
  have H0 := _root_.Go.Lib.hid k0
  clear k0
  have HR := _root_.Go.Lib.hid hr
  clear hr
  go_enter Tryd.func5, Tryd.ntmps5
  go_wp2_with fail
  refine (alive_calls _ (HT.out.below H0.out.bel HT.out.pos)).mono ?_
  rintro e w1 ⟨rfl, hb⟩
  have k := H0.out.grown hb
  clear hb H0
  have H1 := _root_.Go.Lib.hid k
  clear k
  go_wp2_with ((with_reducible apply wpList_load_at 27 Tryd.underlying27); rfl; exact H1.out.get (g := w.heap.size) (o := St.q ⟨x0, x1, x2, x3, x4, x5, x6, x7, x8, x9, x10, x11, x12, x13, x14, x15, x16, p, pc⟩) (by simp); rfl; exact size27)
  refine (wrong_calls ⟨x0, x1, x2, x3, x4, x5, x6, x7, x8, x9, x10, x11, x12, x13, x14, x15, x16, p, pc⟩ HR.out _).mono ?_
  rintro e w2 ⟨rfl, hb⟩
  have k := H1.out.grown hb
  clear hb H1
  have H2 := _root_.Go.Lib.hid k
  clear k
  go_wp2
  go_ret
  exact ⟨rfl, H2.out.bel⟩
set_option maxRecDepth 100000 in
set_option maxHeartbeats 1600000 in
theorem thigher_0di (s : St) (c v : Int) (hr : Right s) (hp : s.p = 0) (hF : Wf s) (hc : W32 c) (hd : sDown s c = true) (hi : tInt c = true) (w : World) (hT : Tab w) : Calls Tryd.prog 5 #[.agg s.r, .int .u32 c, .int .u32 v] w fun e w' => e = .returned (.bool true) ∧ Below w.heap.size w w' := by
  have tk := fun w => take_calls s c v w
  obtain ⟨x0, x1, x2, x3, x4, x5, x6, x7, x8, x9, x10, x11, x12, x13, x14, x15, x16, p, pc⟩ := s
  obtain rfl : p = 0 := hp
  obtain ⟨t0, tpc, e⟩ : ∃ t0 tpc, sTake ⟨x0, x1, x2, x3, x4, x5, x6, x7, x8, x9, x10, x11, x12, x13, x14, x15, x16, 0, pc⟩ c v = ⟨t0, x1, x2, x3, x4, x5, x6, x7, x8, x9, x10, x11, pc, c, v, x15, x16, 1, tpc⟩ := ⟨_, _, by unfold sTake; rw [hd]; rfl⟩
  rw [e] at tk
  clear e
  have TK := _root_.Go.Lib.hid tk
  clear tk
  obtain ⟨k, hk, hkk⟩ := and31 c
  have hbb := (down_bit _ c hF hd k hk hkk).2
  rw [hi] at hbb
  have hbit : bits .and .u32 (x2 / ((2 ^ k : Nat) : Int)) 1 = 1 := hbb
  have hmin : min k 32 = k := by omega
  have htop := int_top c hc
  rw [hi] at htop
  have G := _root_.Go.Lib.hid (And.intro hkk (And.intro hbit (And.intro hmin (And.intro htop hk))))
  clear hkk hbb hbit hmin htop hi hk
  clear hd hF hc
  have HT := _root_.Go.Lib.hid hT
  clear hT
  have k0 := (KW.start (Below.refl w.heap.size w) (Nat.le_refl _)).push (St.q ⟨x0, x1, x2, x3, x4, x5, x6, x7, x8, x9, x10, x11, x12, x13, x14, x15, x16, 0, pc⟩)
  have H0 := _root_.Go.Lib.hid k0
  clear k0
  have HR := _root_.Go.Lib.hid hr
  clear hr
  go_enter Tryd.func5, Tryd.ntmps5
  go_wp2_with fail
  refine (alive_calls _ (HT.out.below H0.out.bel HT.out.pos)).mono ?_
  rintro e w1 ⟨rfl, hb⟩
  have k := H0.out.grown hb
  clear hb H0
  have H1 := _root_.Go.Lib.hid k
  clear k
  go_wp2_with ((with_reducible apply wpList_load_at 27 Tryd.underlying27); rfl; exact H1.out.get (g := w.heap.size) (o := St.q ⟨x0, x1, x2, x3, x4, x5, x6, x7, x8, x9, x10, x11, x12, x13, x14, x15, x16, 0, pc⟩) (by simp); rfl; exact size27)
  refine (right_calls ⟨x0, x1, x2, x3, x4, x5, x6, x7, x8, x9, x10, x11, x12, x13, x14, x15, x16, 0, pc⟩ HR.out _).mono ?_
  rintro e w2 ⟨rfl, hb⟩
  have k := H1.out.grown hb
  clear hb H1
  have H2 := _root_.Go.Lib.hid k
  clear k
  go_wp2_with ((with_reducible apply wpList_load_at 27 Tryd.underlying27); rfl; exact H2.out.get (g := w.heap.size) (o := St.q ⟨x0, x1, x2, x3, x4, x5, x6, x7, x8, x9, x10, x11, x12, x13, x14, x15, x16, 0, pc⟩) (by simp); rfl; exact size27)
  refine (theirs_calls ⟨x0, x1, x2, x3, x4, x5, x6, x7, x8, x9, x10, x11, x12, x13, x14, x15, x16, 0, pc⟩ _).mono ?_
  rintro e w3 ⟨rfl, hb⟩
  have k := H2.out.grown hb
  clear hb H2
  have H3 := _root_.Go.Lib.hid k
  clear k
  go_wp2_with fail
  refine (TK.out _).mono ?_
  rintro e w4 ⟨rfl, hb⟩
  have k := H3.out.grown hb
  clear hb H3
  have H4 := _root_.Go.Lib.hid k
  clear k
  have k := H4.out.push resO
  have P := _root_.Go.Lib.hid k
  clear k
  go_upto_region 6 with ((with_reducible apply wpList_store_at 32); rfl; rfl; (exact P.out.get (g := w4.heap.size) (o := resO) (by simp)); exact size32; rfl; rfl; rfl; (have h := KW.row (vs := St.r ⟨t0, x1, x2, x3, x4, x5, x6, x7, x8, x9, x10, x11, pc, c, v, x15, x16, 1, tpc⟩) P.out); (generalize World.setRow _ (World.heap w4).size _ = w5 at h ⊢))
  generalize (World.heap w4).size = g1 at h ⊢
  clear P H4 w4
  have H5 := _root_.Go.Lib.hid h
  clear h
  have m17 : w5.cell? ⟨g1, 17, none⟩ = some (.int .i64 1) := cell_at (H5.out.get (g := g1) (o := St.o ⟨t0, x1, x2, x3, x4, x5, x6, x7, x8, x9, x10, x11, pc, c, v, x15, x16, 1, tpc⟩) (by simp)) 17
  have l17 : w5.cell? ⟨w.heap.size, 17, none⟩ = some (.int .i64 0) := cell_at (H5.out.get (g := w.heap.size) (o := St.q ⟨x0, x1, x2, x3, x4, x5, x6, x7, x8, x9, x10, x11, x12, x13, x14, x15, x16, 0, pc⟩) (by simp)) 17
  go_upto_region 8 with fail
  clear m17 l17
  refine region8 _ _ w.heap.size g1 ⟨x0, x1, x2, x3, x4, x5, x6, x7, x8, x9, x10, x11, x12, x13, x14, x15, x16, 0, pc⟩ ⟨t0, x1, x2, x3, x4, x5, x6, x7, x8, x9, x10, x11, pc, c, v, x15, x16, 1, tpc⟩ rfl rfl rfl (H5.out.get (g := w.heap.size) (o := St.q ⟨x0, x1, x2, x3, x4, x5, x6, x7, x8, x9, x10, x11, x12, x13, x14, x15, x16, 0, pc⟩) (by simp)) (H5.out.get (g := g1) (o := St.o ⟨t0, x1, x2, x3, x4, x5, x6, x7, x8, x9, x10, x11, pc, c, v, x15, x16, 1, tpc⟩) (by simp)) ?_
  rintro b8 b9 wx hbel hb8 hb9 k8 k9
  have k := H5.out.grown hbel
  clear hbel hb8 hb9 H5
  have HX := _root_.Go.Lib.hid k
  clear k
  have a1 : wx.cell? ⟨b8, 1, none⟩ = some (.int .u32 x1) := cell_at k8 1
  have a2 : wx.cell? ⟨b8, 2, none⟩ = some (.int .u32 x2) := cell_at k8 2
  have a7 : wx.cell? ⟨b8, 7, none⟩ = some (.int .u32 x7) := cell_at k8 7
  have a8 : wx.cell? ⟨b8, 8, none⟩ = some (.int .u32 x8) := cell_at k8 8
  have a9 : wx.cell? ⟨b8, 9, none⟩ = some (.int .u32 x9) := cell_at k8 9
  have a12 : wx.cell? ⟨b8, 12, none⟩ = some (.int .u32 x12) := cell_at k8 12
  have a13 : wx.cell? ⟨b8, 13, none⟩ = some (.int .u32 x13) := cell_at k8 13
  have a14 : wx.cell? ⟨b8, 14, none⟩ = some (.int .u32 x14) := cell_at k8 14
  have d7 : wx.cell? ⟨b9, 7, none⟩ = some (.int .u32 x7) := cell_at k9 7
  have d8 : wx.cell? ⟨b9, 8, none⟩ = some (.int .u32 x8) := cell_at k9 8
  have d9 : wx.cell? ⟨b9, 9, none⟩ = some (.int .u32 x9) := cell_at k9 9
  have d12 : wx.cell? ⟨b9, 12, none⟩ = some (.int .u32 pc) := cell_at k9 12
  have d13 : wx.cell? ⟨b9, 13, none⟩ = some (.int .u32 c) := cell_at k9 13
  have d14 : wx.cell? ⟨b9, 14, none⟩ = some (.int .u32 v) := cell_at k9 14
  have m17 : wx.cell? ⟨g1, 17, none⟩ = some (.int .i64 1) := cell_at (HX.out.get (g := g1) (o := St.o ⟨t0, x1, x2, x3, x4, x5, x6, x7, x8, x9, x10, x11, pc, c, v, x15, x16, 1, tpc⟩) (by simp)) 17
  have l18 : wx.cell? ⟨w.heap.size, 18, none⟩ = some (.int .u32 pc) := cell_at (HX.out.get (g := w.heap.size) (o := St.q ⟨x0, x1, x2, x3, x4, x5, x6, x7, x8, x9, x10, x11, x12, x13, x14, x15, x16, 0, pc⟩) (by simp)) 18
  obtain ⟨hkk, hbit, hmin, htop, hk⟩ := G.out
  clear k8 k9
  go_wp2
  go_ret
  exact ⟨rfl, HX.out.bel⟩
set_option maxRecDepth 100000 in
set_option maxHeartbeats 1600000 in
theorem thigher_0de (s : St) (c v : Int) (hr : Right s) (hp : s.p = 0) (hF : Wf s) (hc : W32 c) (hd : sDown s c = true) (hi : tInt c = false) (w : World) (hT : Tab w) : Calls Tryd.prog 5 #[.agg s.r, .int .u32 c, .int .u32 v] w fun e w' => e = .returned (.bool true) ∧ Below w.heap.size w w' := by
  have tk := fun w => take_calls s c v w
  obtain ⟨x0, x1, x2, x3, x4, x5, x6, x7, x8, x9, x10, x11, x12, x13, x14, x15, x16, p, pc⟩ := s
  obtain rfl : p = 0 := hp
  obtain ⟨t0, tpc, e⟩ : ∃ t0 tpc, sTake ⟨x0, x1, x2, x3, x4, x5, x6, x7, x8, x9, x10, x11, x12, x13, x14, x15, x16, 0, pc⟩ c v = ⟨t0, x1, x2, x3, x4, x5, x6, x7, x8, x9, x10, x11, pc, c, v, x15, x16, 1, tpc⟩ := ⟨_, _, by unfold sTake; rw [hd]; rfl⟩
  rw [e] at tk
  clear e
  have TK := _root_.Go.Lib.hid tk
  clear tk
  obtain ⟨k, hk, hkk⟩ := and31 c
  have hbb := (down_bit _ c hF hd k hk hkk).2
  rw [hi] at hbb
  have hbit : bits .and .u32 (x1 / ((2 ^ k : Nat) : Int)) 1 = 1 := hbb
  have hmin : min k 32 = k := by omega
  have htop := int_top c hc
  rw [hi] at htop
  have G := _root_.Go.Lib.hid (And.intro hkk (And.intro hbit (And.intro hmin (And.intro htop hk))))
  clear hkk hbb hbit hmin htop hi hk
  clear hd hF hc
  have HT := _root_.Go.Lib.hid hT
  clear hT
  have k0 := (KW.start (Below.refl w.heap.size w) (Nat.le_refl _)).push (St.q ⟨x0, x1, x2, x3, x4, x5, x6, x7, x8, x9, x10, x11, x12, x13, x14, x15, x16, 0, pc⟩)
  have H0 := _root_.Go.Lib.hid k0
  clear k0
  have HR := _root_.Go.Lib.hid hr
  clear hr
  go_enter Tryd.func5, Tryd.ntmps5
  go_wp2_with fail
  refine (alive_calls _ (HT.out.below H0.out.bel HT.out.pos)).mono ?_
  rintro e w1 ⟨rfl, hb⟩
  have k := H0.out.grown hb
  clear hb H0
  have H1 := _root_.Go.Lib.hid k
  clear k
  go_wp2_with ((with_reducible apply wpList_load_at 27 Tryd.underlying27); rfl; exact H1.out.get (g := w.heap.size) (o := St.q ⟨x0, x1, x2, x3, x4, x5, x6, x7, x8, x9, x10, x11, x12, x13, x14, x15, x16, 0, pc⟩) (by simp); rfl; exact size27)
  refine (right_calls ⟨x0, x1, x2, x3, x4, x5, x6, x7, x8, x9, x10, x11, x12, x13, x14, x15, x16, 0, pc⟩ HR.out _).mono ?_
  rintro e w2 ⟨rfl, hb⟩
  have k := H1.out.grown hb
  clear hb H1
  have H2 := _root_.Go.Lib.hid k
  clear k
  go_wp2_with ((with_reducible apply wpList_load_at 27 Tryd.underlying27); rfl; exact H2.out.get (g := w.heap.size) (o := St.q ⟨x0, x1, x2, x3, x4, x5, x6, x7, x8, x9, x10, x11, x12, x13, x14, x15, x16, 0, pc⟩) (by simp); rfl; exact size27)
  refine (theirs_calls ⟨x0, x1, x2, x3, x4, x5, x6, x7, x8, x9, x10, x11, x12, x13, x14, x15, x16, 0, pc⟩ _).mono ?_
  rintro e w3 ⟨rfl, hb⟩
  have k := H2.out.grown hb
  clear hb H2
  have H3 := _root_.Go.Lib.hid k
  clear k
  go_wp2_with fail
  refine (TK.out _).mono ?_
  rintro e w4 ⟨rfl, hb⟩
  have k := H3.out.grown hb
  clear hb H3
  have H4 := _root_.Go.Lib.hid k
  clear k
  have k := H4.out.push resO
  have P := _root_.Go.Lib.hid k
  clear k
  go_upto_region 6 with ((with_reducible apply wpList_store_at 32); rfl; rfl; (exact P.out.get (g := w4.heap.size) (o := resO) (by simp)); exact size32; rfl; rfl; rfl; (have h := KW.row (vs := St.r ⟨t0, x1, x2, x3, x4, x5, x6, x7, x8, x9, x10, x11, pc, c, v, x15, x16, 1, tpc⟩) P.out); (generalize World.setRow _ (World.heap w4).size _ = w5 at h ⊢))
  generalize (World.heap w4).size = g1 at h ⊢
  clear P H4 w4
  have H5 := _root_.Go.Lib.hid h
  clear h
  have m17 : w5.cell? ⟨g1, 17, none⟩ = some (.int .i64 1) := cell_at (H5.out.get (g := g1) (o := St.o ⟨t0, x1, x2, x3, x4, x5, x6, x7, x8, x9, x10, x11, pc, c, v, x15, x16, 1, tpc⟩) (by simp)) 17
  have l17 : w5.cell? ⟨w.heap.size, 17, none⟩ = some (.int .i64 0) := cell_at (H5.out.get (g := w.heap.size) (o := St.q ⟨x0, x1, x2, x3, x4, x5, x6, x7, x8, x9, x10, x11, x12, x13, x14, x15, x16, 0, pc⟩) (by simp)) 17
  go_upto_region 8 with fail
  clear m17 l17
  refine region8 _ _ w.heap.size g1 ⟨x0, x1, x2, x3, x4, x5, x6, x7, x8, x9, x10, x11, x12, x13, x14, x15, x16, 0, pc⟩ ⟨t0, x1, x2, x3, x4, x5, x6, x7, x8, x9, x10, x11, pc, c, v, x15, x16, 1, tpc⟩ rfl rfl rfl (H5.out.get (g := w.heap.size) (o := St.q ⟨x0, x1, x2, x3, x4, x5, x6, x7, x8, x9, x10, x11, x12, x13, x14, x15, x16, 0, pc⟩) (by simp)) (H5.out.get (g := g1) (o := St.o ⟨t0, x1, x2, x3, x4, x5, x6, x7, x8, x9, x10, x11, pc, c, v, x15, x16, 1, tpc⟩) (by simp)) ?_
  rintro b8 b9 wx hbel hb8 hb9 k8 k9
  have k := H5.out.grown hbel
  clear hbel hb8 hb9 H5
  have HX := _root_.Go.Lib.hid k
  clear k
  have a1 : wx.cell? ⟨b8, 1, none⟩ = some (.int .u32 x1) := cell_at k8 1
  have a2 : wx.cell? ⟨b8, 2, none⟩ = some (.int .u32 x2) := cell_at k8 2
  have a7 : wx.cell? ⟨b8, 7, none⟩ = some (.int .u32 x7) := cell_at k8 7
  have a8 : wx.cell? ⟨b8, 8, none⟩ = some (.int .u32 x8) := cell_at k8 8
  have a9 : wx.cell? ⟨b8, 9, none⟩ = some (.int .u32 x9) := cell_at k8 9
  have a12 : wx.cell? ⟨b8, 12, none⟩ = some (.int .u32 x12) := cell_at k8 12
  have a13 : wx.cell? ⟨b8, 13, none⟩ = some (.int .u32 x13) := cell_at k8 13
  have a14 : wx.cell? ⟨b8, 14, none⟩ = some (.int .u32 x14) := cell_at k8 14
  have d7 : wx.cell? ⟨b9, 7, none⟩ = some (.int .u32 x7) := cell_at k9 7
  have d8 : wx.cell? ⟨b9, 8, none⟩ = some (.int .u32 x8) := cell_at k9 8
  have d9 : wx.cell? ⟨b9, 9, none⟩ = some (.int .u32 x9) := cell_at k9 9
  have d12 : wx.cell? ⟨b9, 12, none⟩ = some (.int .u32 pc) := cell_at k9 12
  have d13 : wx.cell? ⟨b9, 13, none⟩ = some (.int .u32 c) := cell_at k9 13
  have d14 : wx.cell? ⟨b9, 14, none⟩ = some (.int .u32 v) := cell_at k9 14
  have m17 : wx.cell? ⟨g1, 17, none⟩ = some (.int .i64 1) := cell_at (HX.out.get (g := g1) (o := St.o ⟨t0, x1, x2, x3, x4, x5, x6, x7, x8, x9, x10, x11, pc, c, v, x15, x16, 1, tpc⟩) (by simp)) 17
  have l18 : wx.cell? ⟨w.heap.size, 18, none⟩ = some (.int .u32 pc) := cell_at (HX.out.get (g := w.heap.size) (o := St.q ⟨x0, x1, x2, x3, x4, x5, x6, x7, x8, x9, x10, x11, x12, x13, x14, x15, x16, 0, pc⟩) (by simp)) 18
  obtain ⟨hkk, hbit, hmin, htop, hk⟩ := G.out
  clear k8 k9
  go_wp2
  go_ret
  exact ⟨rfl, HX.out.bel⟩
set_option maxRecDepth 100000 in
set_option maxHeartbeats 1600000 in
theorem thigher_1di (s : St) (c v : Int) (hr : Right s) (hp : s.p = 1) (hF : Wf s) (hc : W32 c) (hd : sDown s c = true) (hi : tInt c = true) (w : World) (hT : Tab w) : Calls Tryd.prog 5 #[.agg s.r, .int .u32 c, .int .u32 v] w fun e w' => e = .returned (.bool true) ∧ Below w.heap.size w w' := by
  have tk := fun w => take_calls s c v w
  obtain ⟨x0, x1, x2, x3, x4, x5, x6, x7, x8, x9, x10, x11, x12, x13, x14, x15, x16, p, pc⟩ := s
  obtain rfl : p = 1 := hp
  obtain ⟨t0, tpc, e⟩ : ∃ t0 tpc, sTake ⟨x0, x1, x2, x3, x4, x5, x6, x7, x8, x9, x10, x11, x12, x13, x14, x15, x16, 1, pc⟩ c v = ⟨t0, x1, x2, x3, x4, x5, x6, x7, x8, x9, x10, x11, pc, c, v, x15, x16, 1, tpc⟩ := ⟨_, _, by unfold sTake; rw [hd]; rfl⟩
  rw [e] at tk
  clear e
  have TK := _root_.Go.Lib.hid tk
  clear tk
  obtain ⟨k, hk, hkk⟩ := and31 c
  have hbb := (down_bit _ c hF hd k hk hkk).2
  rw [hi] at hbb
  have hbit : bits .and .u32 (x2 / ((2 ^ k : Nat) : Int)) 1 = 1 := hbb
  have hmin : min k 32 = k := by omega
  have htop := int_top c hc
  rw [hi] at htop
  have G := _root_.Go.Lib.hid (And.intro hkk (And.intro hbit (And.intro hmin (And.intro htop hk))))
  clear hkk hbb hbit hmin htop hi hk
  clear hd hF hc
  have HT := _root_.Go.Lib.hid hT
  clear hT
  have k0 := (KW.start (Below.refl w.heap.size w) (Nat.le_refl _)).push (St.q ⟨x0, x1, x2, x3, x4, x5, x6, x7, x8, x9, x10, x11, x12, x13, x14, x15, x16, 1, pc⟩)
  have H0 := _root_.Go.Lib.hid k0
  clear k0
  have HR := _root_.Go.Lib.hid hr
  clear hr
  go_enter Tryd.func5, Tryd.ntmps5
  go_wp2_with fail
  refine (alive_calls _ (HT.out.below H0.out.bel HT.out.pos)).mono ?_
  rintro e w1 ⟨rfl, hb⟩
  have k := H0.out.grown hb
  clear hb H0
  have H1 := _root_.Go.Lib.hid k
  clear k
  go_wp2_with ((with_reducible apply wpList_load_at 27 Tryd.underlying27); rfl; exact H1.out.get (g := w.heap.size) (o := St.q ⟨x0, x1, x2, x3, x4, x5, x6, x7, x8, x9, x10, x11, x12, x13, x14, x15, x16, 1, pc⟩) (by simp); rfl; exact size27)
  refine (right_calls ⟨x0, x1, x2, x3, x4, x5, x6, x7, x8, x9, x10, x11, x12, x13, x14, x15, x16, 1, pc⟩ HR.out _).mono ?_
  rintro e w2 ⟨rfl, hb⟩
  have k := H1.out.grown hb
  clear hb H1
  have H2 := _root_.Go.Lib.hid k
  clear k
  go_wp2_with ((with_reducible apply wpList_load_at 27 Tryd.underlying27); rfl; exact H2.out.get (g := w.heap.size) (o := St.q ⟨x0, x1, x2, x3, x4, x5, x6, x7, x8, x9, x10, x11, x12, x13, x14, x15, x16, 1, pc⟩) (by simp); rfl; exact size27)
  refine (theirs_calls ⟨x0, x1, x2, x3, x4, x5, x6, x7, x8, x9, x10, x11, x12, x13, x14, x15, x16, 1, pc⟩ _).mono ?_
  rintro e w3 ⟨rfl, hb⟩
  have k := H2.out.grown hb
  clear hb H2
  have H3 := _root_.Go.Lib.hid k
  clear k
  go_wp2_with fail
  refine (TK.out _).mono ?_
  rintro e w4 ⟨rfl, hb⟩
  have k := H3.out.grown hb
  clear hb H3
  have H4 := _root_.Go.Lib.hid k
  clear k
  have k := H4.out.push resO
  have P := _root_.Go.Lib.hid k
  clear k
  go_upto_region 6 with ((with_reducible apply wpList_store_at 32); rfl; rfl; (exact P.out.get (g := w4.heap.size) (o := resO) (by simp)); exact size32; rfl; rfl; rfl; (have h := KW.row (vs := St.r ⟨t0, x1, x2, x3, x4, x5, x6, x7, x8, x9, x10, x11, pc, c, v, x15, x16, 1, tpc⟩) P.out); (generalize World.setRow _ (World.heap w4).size _ = w5 at h ⊢))
  generalize (World.heap w4).size = g1 at h ⊢
  clear P H4 w4
  have H5 := _root_.Go.Lib.hid h
  clear h
  have m17 : w5.cell? ⟨g1, 17, none⟩ = some (.int .i64 1) := cell_at (H5.out.get (g := g1) (o := St.o ⟨t0, x1, x2, x3, x4, x5, x6, x7, x8, x9, x10, x11, pc, c, v, x15, x16, 1, tpc⟩) (by simp)) 17
  have l17 : w5.cell? ⟨w.heap.size, 17, none⟩ = some (.int .i64 1) := cell_at (H5.out.get (g := w.heap.size) (o := St.q ⟨x0, x1, x2, x3, x4, x5, x6, x7, x8, x9, x10, x11, x12, x13, x14, x15, x16, 1, pc⟩) (by simp)) 17
  go_upto_region 8 with fail
  clear m17 l17
  refine region8 _ _ w.heap.size g1 ⟨x0, x1, x2, x3, x4, x5, x6, x7, x8, x9, x10, x11, x12, x13, x14, x15, x16, 1, pc⟩ ⟨t0, x1, x2, x3, x4, x5, x6, x7, x8, x9, x10, x11, pc, c, v, x15, x16, 1, tpc⟩ rfl rfl rfl (H5.out.get (g := w.heap.size) (o := St.q ⟨x0, x1, x2, x3, x4, x5, x6, x7, x8, x9, x10, x11, x12, x13, x14, x15, x16, 1, pc⟩) (by simp)) (H5.out.get (g := g1) (o := St.o ⟨t0, x1, x2, x3, x4, x5, x6, x7, x8, x9, x10, x11, pc, c, v, x15, x16, 1, tpc⟩) (by simp)) ?_
  rintro b8 b9 wx hbel hb8 hb9 k8 k9
  have k := H5.out.grown hbel
  clear hbel hb8 hb9 H5
  have HX := _root_.Go.Lib.hid k
  clear k
  have a1 : wx.cell? ⟨b8, 1, none⟩ = some (.int .u32 x1) := cell_at k8 1
  have a2 : wx.cell? ⟨b8, 2, none⟩ = some (.int .u32 x2) := cell_at k8 2
  have a7 : wx.cell? ⟨b8, 7, none⟩ = some (.int .u32 x7) := cell_at k8 7
  have a8 : wx.cell? ⟨b8, 8, none⟩ = some (.int .u32 x8) := cell_at k8 8
  have a9 : wx.cell? ⟨b8, 9, none⟩ = some (.int .u32 x9) := cell_at k8 9
  have a12 : wx.cell? ⟨b8, 12, none⟩ = some (.int .u32 x12) := cell_at k8 12
  have a13 : wx.cell? ⟨b8, 13, none⟩ = some (.int .u32 x13) := cell_at k8 13
  have a14 : wx.cell? ⟨b8, 14, none⟩ = some (.int .u32 x14) := cell_at k8 14
  have d7 : wx.cell? ⟨b9, 7, none⟩ = some (.int .u32 x7) := cell_at k9 7
  have d8 : wx.cell? ⟨b9, 8, none⟩ = some (.int .u32 x8) := cell_at k9 8
  have d9 : wx.cell? ⟨b9, 9, none⟩ = some (.int .u32 x9) := cell_at k9 9
  have d12 : wx.cell? ⟨b9, 12, none⟩ = some (.int .u32 pc) := cell_at k9 12
  have d13 : wx.cell? ⟨b9, 13, none⟩ = some (.int .u32 c) := cell_at k9 13
  have d14 : wx.cell? ⟨b9, 14, none⟩ = some (.int .u32 v) := cell_at k9 14
  have m17 : wx.cell? ⟨g1, 17, none⟩ = some (.int .i64 1) := cell_at (HX.out.get (g := g1) (o := St.o ⟨t0, x1, x2, x3, x4, x5, x6, x7, x8, x9, x10, x11, pc, c, v, x15, x16, 1, tpc⟩) (by simp)) 17
  have l18 : wx.cell? ⟨w.heap.size, 18, none⟩ = some (.int .u32 pc) := cell_at (HX.out.get (g := w.heap.size) (o := St.q ⟨x0, x1, x2, x3, x4, x5, x6, x7, x8, x9, x10, x11, x12, x13, x14, x15, x16, 1, pc⟩) (by simp)) 18
  obtain ⟨hkk, hbit, hmin, htop, hk⟩ := G.out
  clear k8 k9
  go_wp2
  go_ret
  exact ⟨rfl, HX.out.bel⟩
set_option maxRecDepth 100000 in
set_option maxHeartbeats 1600000 in
theorem thigher_1de (s : St) (c v : Int) (hr : Right s) (hp : s.p = 1) (hF : Wf s) (hc : W32 c) (hd : sDown s c = true) (hi : tInt c = false) (w : World) (hT : Tab w) : Calls Tryd.prog 5 #[.agg s.r, .int .u32 c, .int .u32 v] w fun e w' => e = .returned (.bool true) ∧ Below w.heap.size w w' := by
  have tk := fun w => take_calls s c v w
  obtain ⟨x0, x1, x2, x3, x4, x5, x6, x7, x8, x9, x10, x11, x12, x13, x14, x15, x16, p, pc⟩ := s
  obtain rfl : p = 1 := hp
  obtain ⟨t0, tpc, e⟩ : ∃ t0 tpc, sTake ⟨x0, x1, x2, x3, x4, x5, x6, x7, x8, x9, x10, x11, x12, x13, x14, x15, x16, 1, pc⟩ c v = ⟨t0, x1, x2, x3, x4, x5, x6, x7, x8, x9, x10, x11, pc, c, v, x15, x16, 1, tpc⟩ := ⟨_, _, by unfold sTake; rw [hd]; rfl⟩
  rw [e] at tk
  clear e
  have TK := _root_.Go.Lib.hid tk
  clear tk
  obtain ⟨k, hk, hkk⟩ := and31 c
  have hbb := (down_bit _ c hF hd k hk hkk).2
  rw [hi] at hbb
  have hbit : bits .and .u32 (x1 / ((2 ^ k : Nat) : Int)) 1 = 1 := hbb
  have hmin : min k 32 = k := by omega
  have htop := int_top c hc
  rw [hi] at htop
  have G := _root_.Go.Lib.hid (And.intro hkk (And.intro hbit (And.intro hmin (And.intro htop hk))))
  clear hkk hbb hbit hmin htop hi hk
  clear hd hF hc
  have HT := _root_.Go.Lib.hid hT
  clear hT
  have k0 := (KW.start (Below.refl w.heap.size w) (Nat.le_refl _)).push (St.q ⟨x0, x1, x2, x3, x4, x5, x6, x7, x8, x9, x10, x11, x12, x13, x14, x15, x16, 1, pc⟩)
  have H0 := _root_.Go.Lib.hid k0
  clear k0
  have HR := _root_.Go.Lib.hid hr
  clear hr
  go_enter Tryd.func5, Tryd.ntmps5
  go_wp2_with fail
  refine (alive_calls _ (HT.out.below H0.out.bel HT.out.pos)).mono ?_
  rintro e w1 ⟨rfl, hb⟩
  have k := H0.out.grown hb
  clear hb H0
  have H1 := _root_.Go.Lib.hid k
  clear k
  go_wp2_with ((with_reducible apply wpList_load_at 27 Tryd.underlying27); rfl; exact H1.out.get (g := w.heap.size) (o := St.q ⟨x0, x1, x2, x3, x4, x5, x6, x7, x8, x9, x10, x11, x12, x13, x14, x15, x16, 1, pc⟩) (by simp); rfl; exact size27)
  refine (right_calls ⟨x0, x1, x2, x3, x4, x5, x6, x7, x8, x9, x10, x11, x12, x13, x14, x15, x16, 1, pc⟩ HR.out _).mono ?_
  rintro e w2 ⟨rfl, hb⟩
  have k := H1.out.grown hb
  clear hb H1
  have H2 := _root_.Go.Lib.hid k
  clear k
  go_wp2_with ((with_reducible apply wpList_load_at 27 Tryd.underlying27); rfl; exact H2.out.get (g := w.heap.size) (o := St.q ⟨x0, x1, x2, x3, x4, x5, x6, x7, x8, x9, x10, x11, x12, x13, x14, x15, x16, 1, pc⟩) (by simp); rfl; exact size27)
  refine (theirs_calls ⟨x0, x1, x2, x3, x4, x5, x6, x7, x8, x9, x10, x11, x12, x13, x14, x15, x16, 1, pc⟩ _).mono ?_
  rintro e w3 ⟨rfl, hb⟩
  have k := H2.out.grown hb
  clear hb H2
  have H3 := _root_.Go.Lib.hid k
  clear k
  go_wp2_with fail
  refine (TK.out _).mono ?_
  rintro e w4 ⟨rfl, hb⟩
  have k := H3.out.grown hb
  clear hb H3
  have H4 := _root_.Go.Lib.hid k
  clear k
  have k := H4.out.push resO
  have P := _root_.Go.Lib.hid k
  clear k
  go_upto_region 6 with ((with_reducible apply wpList_store_at 32); rfl; rfl; (exact P.out.get (g := w4.heap.size) (o := resO) (by simp)); exact size32; rfl; rfl; rfl; (have h := KW.row (vs := St.r ⟨t0, x1, x2, x3, x4, x5, x6, x7, x8, x9, x10, x11, pc, c, v, x15, x16, 1, tpc⟩) P.out); (generalize World.setRow _ (World.heap w4).size _ = w5 at h ⊢))
  generalize (World.heap w4).size = g1 at h ⊢
  clear P H4 w4
  have H5 := _root_.Go.Lib.hid h
  clear h
  have m17 : w5.cell? ⟨g1, 17, none⟩ = some (.int .i64 1) := cell_at (H5.out.get (g := g1) (o := St.o ⟨t0, x1, x2, x3, x4, x5, x6, x7, x8, x9, x10, x11, pc, c, v, x15, x16, 1, tpc⟩) (by simp)) 17
  have l17 : w5.cell? ⟨w.heap.size, 17, none⟩ = some (.int .i64 1) := cell_at (H5.out.get (g := w.heap.size) (o := St.q ⟨x0, x1, x2, x3, x4, x5, x6, x7, x8, x9, x10, x11, x12, x13, x14, x15, x16, 1, pc⟩) (by simp)) 17
  go_upto_region 8 with fail
  clear m17 l17
  refine region8 _ _ w.heap.size g1 ⟨x0, x1, x2, x3, x4, x5, x6, x7, x8, x9, x10, x11, x12, x13, x14, x15, x16, 1, pc⟩ ⟨t0, x1, x2, x3, x4, x5, x6, x7, x8, x9, x10, x11, pc, c, v, x15, x16, 1, tpc⟩ rfl rfl rfl (H5.out.get (g := w.heap.size) (o := St.q ⟨x0, x1, x2, x3, x4, x5, x6, x7, x8, x9, x10, x11, x12, x13, x14, x15, x16, 1, pc⟩) (by simp)) (H5.out.get (g := g1) (o := St.o ⟨t0, x1, x2, x3, x4, x5, x6, x7, x8, x9, x10, x11, pc, c, v, x15, x16, 1, tpc⟩) (by simp)) ?_
  rintro b8 b9 wx hbel hb8 hb9 k8 k9
  have k := H5.out.grown hbel
  clear hbel hb8 hb9 H5
  have HX := _root_.Go.Lib.hid k
  clear k
  have a1 : wx.cell? ⟨b8, 1, none⟩ = some (.int .u32 x1) := cell_at k8 1
  have a2 : wx.cell? ⟨b8, 2, none⟩ = some (.int .u32 x2) := cell_at k8 2
  have a7 : wx.cell? ⟨b8, 7, none⟩ = some (.int .u32 x7) := cell_at k8 7
  have a8 : wx.cell? ⟨b8, 8, none⟩ = some (.int .u32 x8) := cell_at k8 8
  have a9 : wx.cell? ⟨b8, 9, none⟩ = some (.int .u32 x9) := cell_at k8 9
  have a12 : wx.cell? ⟨b8, 12, none⟩ = some (.int .u32 x12) := cell_at k8 12
  have a13 : wx.cell? ⟨b8, 13, none⟩ = some (.int .u32 x13) := cell_at k8 13
  have a14 : wx.cell? ⟨b8, 14, none⟩ = some (.int .u32 x14) := cell_at k8 14
  have d7 : wx.cell? ⟨b9, 7, none⟩ = some (.int .u32 x7) := cell_at k9 7
  have d8 : wx.cell? ⟨b9, 8, none⟩ = some (.int .u32 x8) := cell_at k9 8
  have d9 : wx.cell? ⟨b9, 9, none⟩ = some (.int .u32 x9) := cell_at k9 9
  have d12 : wx.cell? ⟨b9, 12, none⟩ = some (.int .u32 pc) := cell_at k9 12
  have d13 : wx.cell? ⟨b9, 13, none⟩ = some (.int .u32 c) := cell_at k9 13
  have d14 : wx.cell? ⟨b9, 14, none⟩ = some (.int .u32 v) := cell_at k9 14
  have m17 : wx.cell? ⟨g1, 17, none⟩ = some (.int .i64 1) := cell_at (HX.out.get (g := g1) (o := St.o ⟨t0, x1, x2, x3, x4, x5, x6, x7, x8, x9, x10, x11, pc, c, v, x15, x16, 1, tpc⟩) (by simp)) 17
  have l18 : wx.cell? ⟨w.heap.size, 18, none⟩ = some (.int .u32 pc) := cell_at (HX.out.get (g := w.heap.size) (o := St.q ⟨x0, x1, x2, x3, x4, x5, x6, x7, x8, x9, x10, x11, x12, x13, x14, x15, x16, 1, pc⟩) (by simp)) 18
  obtain ⟨hkk, hbit, hmin, htop, hk⟩ := G.out
  clear k8 k9
  go_wp2
  go_ret
  exact ⟨rfl, HX.out.bel⟩
set_option maxRecDepth 100000 in
set_option maxHeartbeats 1600000 in
theorem thigher_0u (s : St) (c v : Int) (hr : Right s) (hp : s.p = 0) (hF : Wf s) (hc : W32 c) (hd : sDown s c = false) (w : World) (hT : Tab w) : Calls Tryd.prog 5 #[.agg s.r, .int .u32 c, .int .u32 v] w fun e w' => e = .returned (.bool true) ∧ Below w.heap.size w w' := by
  have tk := fun w => take_calls s c v w
  obtain ⟨x0, x1, x2, x3, x4, x5, x6, x7, x8, x9, x10, x11, x12, x13, x14, x15, x16, p, pc⟩ := s
  obtain rfl : p = 0 := hp
  obtain ⟨t0, tpc, e⟩ : ∃ t0 tpc, sTake ⟨x0, x1, x2, x3, x4, x5, x6, x7, x8, x9, x10, x11, x12, x13, x14, x15, x16, 0, pc⟩ c v = ⟨t0, x1, x2, x3, x4, x5, x6, pc, c, v, x10, x11, x12, x13, x14, x15, x16, 3, tpc⟩ := ⟨_, _, by unfold sTake; rw [hd]; rfl⟩
  rw [e] at tk
  clear e
  have TK := _root_.Go.Lib.hid tk
  clear tk
  clear hd hF hc
  have HT := _root_.Go.Lib.hid hT
  clear hT
  have k0 := (KW.start (Below.refl w.heap.size w) (Nat.le_refl _)).push (St.q ⟨x0, x1, x2, x3, x4, x5, x6, x7, x8, x9, x10, x11, x12, x13, x14, x15, x16, 0, pc⟩)
  have H0 := _root_.Go.Lib.hid k0
  clear k0
  have HR := _root_.Go.Lib.hid hr
  clear hr
  go_enter Tryd.func5, Tryd.ntmps5
  go_wp2_with fail
  refine (alive_calls _ (HT.out.below H0.out.bel HT.out.pos)).mono ?_
  rintro e w1 ⟨rfl, hb⟩
  have k := H0.out.grown hb
  clear hb H0
  have H1 := _root_.Go.Lib.hid k
  clear k
  go_wp2_with ((with_reducible apply wpList_load_at 27 Tryd.underlying27); rfl; exact H1.out.get (g := w.heap.size) (o := St.q ⟨x0, x1, x2, x3, x4, x5, x6, x7, x8, x9, x10, x11, x12, x13, x14, x15, x16, 0, pc⟩) (by simp); rfl; exact size27)
  refine (right_calls ⟨x0, x1, x2, x3, x4, x5, x6, x7, x8, x9, x10, x11, x12, x13, x14, x15, x16, 0, pc⟩ HR.out _).mono ?_
  rintro e w2 ⟨rfl, hb⟩
  have k := H1.out.grown hb
  clear hb H1
  have H2 := _root_.Go.Lib.hid k
  clear k
  go_wp2_with ((with_reducible apply wpList_load_at 27 Tryd.underlying27); rfl; exact H2.out.get (g := w.heap.size) (o := St.q ⟨x0, x1, x2, x3, x4, x5, x6, x7, x8, x9, x10, x11, x12, x13, x14, x15, x16, 0, pc⟩) (by simp); rfl; exact size27)
  refine (theirs_calls ⟨x0, x1, x2, x3, x4, x5, x6, x7, x8, x9, x10, x11, x12, x13, x14, x15, x16, 0, pc⟩ _).mono ?_
  rintro e w3 ⟨rfl, hb⟩
  have k := H2.out.grown hb
  clear hb H2
  have H3 := _root_.Go.Lib.hid k
  clear k
  go_wp2_with fail
  refine (TK.out _).mono ?_
  rintro e w4 ⟨rfl, hb⟩
  have k := H3.out.grown hb
  clear hb H3
  have H4 := _root_.Go.Lib.hid k
  clear k
  have k := H4.out.push resO
  have P := _root_.Go.Lib.hid k
  clear k
  go_upto_region 6 with ((with_reducible apply wpList_store_at 32); rfl; rfl; (exact P.out.get (g := w4.heap.size) (o := resO) (by simp)); exact size32; rfl; rfl; rfl; (have h := KW.row (vs := St.r ⟨t0, x1, x2, x3, x4, x5, x6, pc, c, v, x10, x11, x12, x13, x14, x15, x16, 3, tpc⟩) P.out); (generalize World.setRow _ (World.heap w4).size _ = w5 at h ⊢))
  generalize (World.heap w4).size = g1 at h ⊢
  clear P H4 w4
  have H5 := _root_.Go.Lib.hid h
  clear h
  have m17 : w5.cell? ⟨g1, 17, none⟩ = some (.int .i64 3) := cell_at (H5.out.get (g := g1) (o := St.o ⟨t0, x1, x2, x3, x4, x5, x6, pc, c, v, x10, x11, x12, x13, x14, x15, x16, 3, tpc⟩) (by simp)) 17
  have l17 : w5.cell? ⟨w.heap.size, 17, none⟩ = some (.int .i64 0) := cell_at (H5.out.get (g := w.heap.size) (o := St.q ⟨x0, x1, x2, x3, x4, x5, x6, x7, x8, x9, x10, x11, x12, x13, x14, x15, x16, 0, pc⟩) (by simp)) 17
  go_upto_region 8 with fail
  clear m17 l17
  refine region8 _ _ w.heap.size g1 ⟨x0, x1, x2, x3, x4, x5, x6, x7, x8, x9, x10, x11, x12, x13, x14, x15, x16, 0, pc⟩ ⟨t0, x1, x2, x3, x4, x5, x6, pc, c, v, x10, x11, x12, x13, x14, x15, x16, 3, tpc⟩ rfl rfl rfl (H5.out.get (g := w.heap.size) (o := St.q ⟨x0, x1, x2, x3, x4, x5, x6, x7, x8, x9, x10, x11, x12, x13, x14, x15, x16, 0, pc⟩) (by simp)) (H5.out.get (g := g1) (o := St.o ⟨t0, x1, x2, x3, x4, x5, x6, pc, c, v, x10, x11, x12, x13, x14, x15, x16, 3, tpc⟩) (by simp)) ?_
  rintro b8 b9 wx hbel hb8 hb9 k8 k9
  have k := H5.out.grown hbel
  clear hbel hb8 hb9 H5
  have HX := _root_.Go.Lib.hid k
  clear k
  have a1 : wx.cell? ⟨b8, 1, none⟩ = some (.int .u32 x1) := cell_at k8 1
  have a2 : wx.cell? ⟨b8, 2, none⟩ = some (.int .u32 x2) := cell_at k8 2
  have a7 : wx.cell? ⟨b8, 7, none⟩ = some (.int .u32 x7) := cell_at k8 7
  have a8 : wx.cell? ⟨b8, 8, none⟩ = some (.int .u32 x8) := cell_at k8 8
  have a9 : wx.cell? ⟨b8, 9, none⟩ = some (.int .u32 x9) := cell_at k8 9
  have a12 : wx.cell? ⟨b8, 12, none⟩ = some (.int .u32 x12) := cell_at k8 12
  have a13 : wx.cell? ⟨b8, 13, none⟩ = some (.int .u32 x13) := cell_at k8 13
  have a14 : wx.cell? ⟨b8, 14, none⟩ = some (.int .u32 x14) := cell_at k8 14
  have d7 : wx.cell? ⟨b9, 7, none⟩ = some (.int .u32 pc) := cell_at k9 7
  have d8 : wx.cell? ⟨b9, 8, none⟩ = some (.int .u32 c) := cell_at k9 8
  have d9 : wx.cell? ⟨b9, 9, none⟩ = some (.int .u32 v) := cell_at k9 9
  have d12 : wx.cell? ⟨b9, 12, none⟩ = some (.int .u32 x12) := cell_at k9 12
  have d13 : wx.cell? ⟨b9, 13, none⟩ = some (.int .u32 x13) := cell_at k9 13
  have d14 : wx.cell? ⟨b9, 14, none⟩ = some (.int .u32 x14) := cell_at k9 14
  have m17 : wx.cell? ⟨g1, 17, none⟩ = some (.int .i64 3) := cell_at (HX.out.get (g := g1) (o := St.o ⟨t0, x1, x2, x3, x4, x5, x6, pc, c, v, x10, x11, x12, x13, x14, x15, x16, 3, tpc⟩) (by simp)) 17
  have l18 : wx.cell? ⟨w.heap.size, 18, none⟩ = some (.int .u32 pc) := cell_at (HX.out.get (g := w.heap.size) (o := St.q ⟨x0, x1, x2, x3, x4, x5, x6, x7, x8, x9, x10, x11, x12, x13, x14, x15, x16, 0, pc⟩) (by simp)) 18
  clear k8 k9
  go_wp2
  go_ret
  exact ⟨rfl, HX.out.bel⟩
set_option maxRecDepth 100000 in
set_option maxHeartbeats 1600000 in
theorem thigher_1u (s : St) (c v : Int) (hr : Right s) (hp : s.p = 1) (hF : Wf s) (hc : W32 c) (hd : sDown s c = false) (w : World) (hT : Tab w) : Calls Tryd.prog 5 #[.agg s.r, .int .u32 c, .int .u32 v] w fun e w' => e = .returned (.bool true) ∧ Below w.heap.size w w' := by
  have tk := fun w => take_calls s c v w
  obtain ⟨x0, x1, x2, x3, x4, x5, x6, x7, x8, x9, x10, x11, x12, x13, x14, x15, x16, p, pc⟩ := s
  obtain rfl : p = 1 := hp
  obtain ⟨t0, tpc, e⟩ : ∃ t0 tpc, sTake ⟨x0, x1, x2, x3, x4, x5, x6, x7, x8, x9, x10, x11, x12, x13, x14, x15, x16, 1, pc⟩ c v = ⟨t0, x1, x2, x3, x4, x5, x6, pc, c, v, x10, x11, x12, x13, x14, x15, x16, 3, tpc⟩ := ⟨_, _, by unfold sTake; rw [hd]; rfl⟩
  rw [e] at tk
  clear e
  have TK := _root_.Go.Lib.hid tk
  clear tk
  clear hd hF hc
  have HT := _root_.Go.Lib.hid hT
  clear hT
  have k0 := (KW.start (Below.refl w.heap.size w) (Nat.le_refl _)).push (St.q ⟨x0, x1, x2, x3, x4, x5, x6, x7, x8, x9, x10, x11, x12, x13, x14, x15, x16, 1, pc⟩)
  have H0 := _root_.Go.Lib.hid k0
  clear k0
  have HR := _root_.Go.Lib.hid hr
  clear hr
  go_enter Tryd.func5, Tryd.ntmps5
  go_wp2_with fail
  refine (alive_calls _ (HT.out.below H0.out.bel HT.out.pos)).mono ?_
  rintro e w1 ⟨rfl, hb⟩
  have k := H0.out.grown hb
  clear hb H0
  have H1 := _root_.Go.Lib.hid k
  clear k
  go_wp2_with ((with_reducible apply wpList_load_at 27 Tryd.underlying27); rfl; exact H1.out.get (g := w.heap.size) (o := St.q ⟨x0, x1, x2, x3, x4, x5, x6, x7, x8, x9, x10, x11, x12, x13, x14, x15, x16, 1, pc⟩) (by simp); rfl; exact size27)
  refine (right_calls ⟨x0, x1, x2, x3, x4, x5, x6, x7, x8, x9, x10, x11, x12, x13, x14, x15, x16, 1, pc⟩ HR.out _).mono ?_
  rintro e w2 ⟨rfl, hb⟩
  have k := H1.out.grown hb
  clear hb H1
  have H2 := _root_.Go.Lib.hid k
  clear k
  go_wp2_with ((with_reducible apply wpList_load_at 27 Tryd.underlying27); rfl; exact H2.out.get (g := w.heap.size) (o := St.q ⟨x0, x1, x2, x3, x4, x5, x6, x7, x8, x9, x10, x11, x12, x13, x14, x15, x16, 1, pc⟩) (by simp); rfl; exact size27)
  refine (theirs_calls ⟨x0, x1, x2, x3, x4, x5, x6, x7, x8, x9, x10, x11, x12, x13, x14, x15, x16, 1, pc⟩ _).mono ?_
  rintro e w3 ⟨rfl, hb⟩
  have k := H2.out.grown hb
  clear hb H2
  have H3 := _root_.Go.Lib.hid k
  clear k
  go_wp2_with fail
  refine (TK.out _).mono ?_
  rintro e w4 ⟨rfl, hb⟩
  have k := H3.out.grown hb
  clear hb H3
  have H4 := _root_.Go.Lib.hid k
  clear k
  have k := H4.out.push resO
  have P := _root_.Go.Lib.hid k
  clear k
  go_upto_region 6 with ((with_reducible apply wpList_store_at 32); rfl; rfl; (exact P.out.get (g := w4.heap.size) (o := resO) (by simp)); exact size32; rfl; rfl; rfl; (have h := KW.row (vs := St.r ⟨t0, x1, x2, x3, x4, x5, x6, pc, c, v, x10, x11, x12, x13, x14, x15, x16, 3, tpc⟩) P.out); (generalize World.setRow _ (World.heap w4).size _ = w5 at h ⊢))
  generalize (World.heap w4).size = g1 at h ⊢
  clear P H4 w4
  have H5 := _root_.Go.Lib.hid h
  clear h
  have m17 : w5.cell? ⟨g1, 17, none⟩ = some (.int .i64 3) := cell_at (H5.out.get (g := g1) (o := St.o ⟨t0, x1, x2, x3, x4, x5, x6, pc, c, v, x10, x11, x12, x13, x14, x15, x16, 3, tpc⟩) (by simp)) 17
  have l17 : w5.cell? ⟨w.heap.size, 17, none⟩ = some (.int .i64 1) := cell_at (H5.out.get (g := w.heap.size) (o := St.q ⟨x0, x1, x2, x3, x4, x5, x6, x7, x8, x9, x10, x11, x12, x13, x14, x15, x16, 1, pc⟩) (by simp)) 17
  go_upto_region 8 with fail
  clear m17 l17
  refine region8 _ _ w.heap.size g1 ⟨x0, x1, x2, x3, x4, x5, x6, x7, x8, x9, x10, x11, x12, x13, x14, x15, x16, 1, pc⟩ ⟨t0, x1, x2, x3, x4, x5, x6, pc, c, v, x10, x11, x12, x13, x14, x15, x16, 3, tpc⟩ rfl rfl rfl (H5.out.get (g := w.heap.size) (o := St.q ⟨x0, x1, x2, x3, x4, x5, x6, x7, x8, x9, x10, x11, x12, x13, x14, x15, x16, 1, pc⟩) (by simp)) (H5.out.get (g := g1) (o := St.o ⟨t0, x1, x2, x3, x4, x5, x6, pc, c, v, x10, x11, x12, x13, x14, x15, x16, 3, tpc⟩) (by simp)) ?_
  rintro b8 b9 wx hbel hb8 hb9 k8 k9
  have k := H5.out.grown hbel
  clear hbel hb8 hb9 H5
  have HX := _root_.Go.Lib.hid k
  clear k
  have a1 : wx.cell? ⟨b8, 1, none⟩ = some (.int .u32 x1) := cell_at k8 1
  have a2 : wx.cell? ⟨b8, 2, none⟩ = some (.int .u32 x2) := cell_at k8 2
  have a7 : wx.cell? ⟨b8, 7, none⟩ = some (.int .u32 x7) := cell_at k8 7
  have a8 : wx.cell? ⟨b8, 8, none⟩ = some (.int .u32 x8) := cell_at k8 8
  have a9 : wx.cell? ⟨b8, 9, none⟩ = some (.int .u32 x9) := cell_at k8 9
  have a12 : wx.cell? ⟨b8, 12, none⟩ = some (.int .u32 x12) := cell_at k8 12
  have a13 : wx.cell? ⟨b8, 13, none⟩ = some (.int .u32 x13) := cell_at k8 13
  have a14 : wx.cell? ⟨b8, 14, none⟩ = some (.int .u32 x14) := cell_at k8 14
  have d7 : wx.cell? ⟨b9, 7, none⟩ = some (.int .u32 pc) := cell_at k9 7
  have d8 : wx.cell? ⟨b9, 8, none⟩ = some (.int .u32 c) := cell_at k9 8
  have d9 : wx.cell? ⟨b9, 9, none⟩ = some (.int .u32 v) := cell_at k9 9
  have d12 : wx.cell? ⟨b9, 12, none⟩ = some (.int .u32 x12) := cell_at k9 12
  have d13 : wx.cell? ⟨b9, 13, none⟩ = some (.int .u32 x13) := cell_at k9 13
  have d14 : wx.cell? ⟨b9, 14, none⟩ = some (.int .u32 x14) := cell_at k9 14
  have m17 : wx.cell? ⟨g1, 17, none⟩ = some (.int .i64 3) := cell_at (HX.out.get (g := g1) (o := St.o ⟨t0, x1, x2, x3, x4, x5, x6, pc, c, v, x10, x11, x12, x13, x14, x15, x16, 3, tpc⟩) (by simp)) 17
  have l18 : wx.cell? ⟨w.heap.size, 18, none⟩ = some (.int .u32 pc) := cell_at (HX.out.get (g := w.heap.size) (o := St.q ⟨x0, x1, x2, x3, x4, x5, x6, x7, x8, x9, x10, x11, x12, x13, x14, x15, x16, 1, pc⟩) (by simp)) 18
  clear k8 k9
  go_wp2
  go_ret
  exact ⟨rfl, HX.out.bel⟩
set_option maxRecDepth 100000 in
set_option maxHeartbeats 1600000 in
theorem thigher_3u (s : St) (c v : Int) (hr : Right s) (hp : s.p = 3) (hF : Wf s) (hc : W32 c) (hd : sDown s c = false) (w : World) (hT : Tab w) : Calls Tryd.prog 5 #[.agg s.r, .int .u32 c, .int .u32 v] w fun e w' => e = .returned (.bool true) ∧ Below w.heap.size w w' := by
  have tk := fun w => take_calls s c v w
  obtain ⟨x0, x1, x2, x3, x4, x5, x6, x7, x8, x9, x10, x11, x12, x13, x14, x15, x16, p, pc⟩ := s
  obtain rfl : p = 3 := hp
  obtain ⟨t0, tpc, e⟩ : ∃ t0 tpc, sTake ⟨x0, x1, x2, x3, x4, x5, x6, x7, x8, x9, x10, x11, x12, x13, x14, x15, x16, 3, pc⟩ c v = ⟨t0, x1, x2, x3, x4, x5, x6, pc, c, v, x10, x11, x12, x13, x14, x15, x16, 3, tpc⟩ := ⟨_, _, by unfold sTake; rw [hd]; rfl⟩
  rw [e] at tk
  clear e
  have TK := _root_.Go.Lib.hid tk
  clear tk
  clear hd hF hc
  have HT := _root_.Go.Lib.hid hT
  clear hT
  have k0 := (KW.start (Below.refl w.heap.size w) (Nat.le_refl _)).push (St.q ⟨x0, x1, x2, x3, x4, x5, x6, x7, x8, x9, x10, x11, x12, x13, x14, x15, x16, 3, pc⟩)
  have H0 := _root_.Go.Lib.hid k0
  clear k0
  have HR := _root_.Go.Lib.hid hr
  clear hr
  go_enter Tryd.func5, Tryd.ntmps5
  go_wp2_with fail
  refine (alive_calls _ (HT.out.below H0.out.bel HT.out.pos)).mono ?_
  rintro e w1 ⟨rfl, hb⟩
  have k := H0.out.grown hb
  clear hb H0
  have H1 := _root_.Go.Lib.hid k
  clear k
  go_wp2_with ((with_reducible apply wpList_load_at 27 Tryd.underlying27); rfl; exact H1.out.get (g := w.heap.size) (o := St.q ⟨x0, x1, x2, x3, x4, x5, x6, x7, x8, x9, x10, x11, x12, x13, x14, x15, x16, 3, pc⟩) (by simp); rfl; exact size27)
  refine (right_calls ⟨x0, x1, x2, x3, x4, x5, x6, x7, x8, x9, x10, x11, x12, x13, x14, x15, x16, 3, pc⟩ HR.out _).mono ?_
  rintro e w2 ⟨rfl, hb⟩
  have k := H1.out.grown hb
  clear hb H1
  have H2 := _root_.Go.Lib.hid k
  clear k
  go_wp2_with ((with_reducible apply wpList_load_at 27 Tryd.underlying27); rfl; exact H2.out.get (g := w.heap.size) (o := St.q ⟨x0, x1, x2, x3, x4, x5, x6, x7, x8, x9, x10, x11, x12, x13, x14, x15, x16, 3, pc⟩) (by simp); rfl; exact size27)
  refine (theirs_calls ⟨x0, x1, x2, x3, x4, x5, x6, x7, x8, x9, x10, x11, x12, x13, x14, x15, x16, 3, pc⟩ _).mono ?_
  rintro e w3 ⟨rfl, hb⟩
  have k := H2.out.grown hb
  clear hb H2
  have H3 := _root_.Go.Lib.hid k
  clear k
  go_wp2_with fail
  refine (TK.out _).mono ?_
  rintro e w4 ⟨rfl, hb⟩
  have k := H3.out.grown hb
  clear hb H3
  have H4 := _root_.Go.Lib.hid k
  clear k
  have k := H4.out.push resO
  have P := _root_.Go.Lib.hid k
  clear k
  go_upto_region 6 with ((with_reducible apply wpList_store_at 32); rfl; rfl; (exact P.out.get (g := w4.heap.size) (o := resO) (by simp)); exact size32; rfl; rfl; rfl; (have h := KW.row (vs := St.r ⟨t0, x1, x2, x3, x4, x5, x6, pc, c, v, x10, x11, x12, x13, x14, x15, x16, 3, tpc⟩) P.out); (generalize World.setRow _ (World.heap w4).size _ = w5 at h ⊢))
  generalize (World.heap w4).size = g1 at h ⊢
  clear P H4 w4
  have H5 := _root_.Go.Lib.hid h
  clear h
  have m17 : w5.cell? ⟨g1, 17, none⟩ = some (.int .i64 3) := cell_at (H5.out.get (g := g1) (o := St.o ⟨t0, x1, x2, x3, x4, x5, x6, pc, c, v, x10, x11, x12, x13, x14, x15, x16, 3, tpc⟩) (by simp)) 17
  have l17 : w5.cell? ⟨w.heap.size, 17, none⟩ = some (.int .i64 3) := cell_at (H5.out.get (g := w.heap.size) (o := St.q ⟨x0, x1, x2, x3, x4, x5, x6, x7, x8, x9, x10, x11, x12, x13, x14, x15, x16, 3, pc⟩) (by simp)) 17
  go_upto_region 8 with fail
  clear m17 l17
  refine region8 _ _ w.heap.size g1 ⟨x0, x1, x2, x3, x4, x5, x6, x7, x8, x9, x10, x11, x12, x13, x14, x15, x16, 3, pc⟩ ⟨t0, x1, x2, x3, x4, x5, x6, pc, c, v, x10, x11, x12, x13, x14, x15, x16, 3, tpc⟩ rfl rfl rfl (H5.out.get (g := w.heap.size) (o := St.q ⟨x0, x1, x2, x3, x4, x5, x6, x7, x8, x9, x10, x11, x12, x13, x14, x15, x16, 3, pc⟩) (by simp)) (H5.out.get (g := g1) (o := St.o ⟨t0, x1, x2, x3, x4, x5, x6, pc, c, v, x10, x11, x12, x13, x14, x15, x16, 3, tpc⟩) (by simp)) ?_
  rintro b8 b9 wx hbel hb8 hb9 k8 k9
  have k := H5.out.grown hbel
  clear hbel hb8 hb9 H5
  have HX := _root_.Go.Lib.hid k
  clear k
  have a1 : wx.cell? ⟨b8, 1, none⟩ = some (.int .u32 x1) := cell_at k8 1
  have a2 : wx.cell? ⟨b8, 2, none⟩ = some (.int .u32 x2) := cell_at k8 2
  have a7 : wx.cell? ⟨b8, 7, none⟩ = some (.int .u32 x7) := cell_at k8 7
  have a8 : wx.cell? ⟨b8, 8, none⟩ = some (.int .u32 x8) := cell_at k8 8
  have a9 : wx.cell? ⟨b8, 9, none⟩ = some (.int .u32 x9) := cell_at k8 9
  have a12 : wx.cell? ⟨b8, 12, none⟩ = some (.int .u32 x12) := cell_at k8 12
  have a13 : wx.cell? ⟨b8, 13, none⟩ = some (.int .u32 x13) := cell_at k8 13
  have a14 : wx.cell? ⟨b8, 14, none⟩ = some (.int .u32 x14) := cell_at k8 14
  have d7 : wx.cell? ⟨b9, 7, none⟩ = some (.int .u32 pc) := cell_at k9 7
  have d8 : wx.cell? ⟨b9, 8, none⟩ = some (.int .u32 c) := cell_at k9 8
  have d9 : wx.cell? ⟨b9, 9, none⟩ = some (.int .u32 v) := cell_at k9 9
  have d12 : wx.cell? ⟨b9, 12, none⟩ = some (.int .u32 x12) := cell_at k9 12
  have d13 : wx.cell? ⟨b9, 13, none⟩ = some (.int .u32 x13) := cell_at k9 13
  have d14 : wx.cell? ⟨b9, 14, none⟩ = some (.int .u32 x14) := cell_at k9 14
  have m17 : wx.cell? ⟨g1, 17, none⟩ = some (.int .i64 3) := cell_at (HX.out.get (g := g1) (o := St.o ⟨t0, x1, x2, x3, x4, x5, x6, pc, c, v, x10, x11, x12, x13, x14, x15, x16, 3, tpc⟩) (by simp)) 17
  have l18 : wx.cell? ⟨w.heap.size, 18, none⟩ = some (.int .u32 pc) := cell_at (HX.out.get (g := w.heap.size) (o := St.q ⟨x0, x1, x2, x3, x4, x5, x6, x7, x8, x9, x10, x11, x12, x13, x14, x15, x16, 3, pc⟩) (by simp)) 18
  clear k8 k9
  go_wp2
  go_ret
  exact ⟨rfl, HX.out.bel⟩
theorem thigher_calls (s : St) (c v : Int) (w : World) (hT : Tab w) (hF : Wf s) (hc : W32 c) : Calls Tryd.prog 5 #[.agg s.r, .int .u32 c, .int .u32 v] w fun e w' => e = .returned (.bool true) ∧ Below w.heap.size w w' := by
  by_cases hr : Right s
  · cases hd : sDown s c
    · rcases hr with h | h | h
      · exact thigher_0u s c v (.inl h) h hF hc hd w hT
      · exact thigher_1u s c v (.inr (.inl h)) h hF hc hd w hT
      · exact thigher_3u s c v (.inr (.inr h)) h hF hc hd w hT
    · have hp : s.p ≤ 1 := by
        unfold sDown at hd
        rw [Bool.and_eq_true, decide_eq_true_eq] at hd
        exact hd.1
      rcases hr with h | h | h
      · cases hi : tInt c
        · exact thigher_0de s c v (.inl h) h hF hc hd hi w hT
        · exact thigher_0di s c v (.inl h) h hF hc hd hi w hT
      · cases hi : tInt c
        · exact thigher_1de s c v (.inr (.inl h)) h hF hc hd hi w hT
        · exact thigher_1di s c v (.inr (.inl h)) h hF hc hd hi w hT
      · omega
  · exact thigher_wrong s c v hr w hT
end Go.Proofs.YtkebphpfedgokaaDoor
