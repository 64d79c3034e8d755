/-
  It rings just when time has come to the limit, and till that is set later.
-/
import Derived.Test.YtogepklmmehbjaaDoorAlive
import Derived.Deep.LoopGhost
import Derived.Deep.RegionWith
set_option linter.unusedVariables false
set_option linter.unusedSimpArgs false
namespace Go.Proofs.YtogepklmmehbjaaDoor
open Go.RowKit Go.Lib

abbrev arrO (a b c d : Int) : Obj := .cells #[.int .u16 a, .int .u16 b, .int .u16 c, .int .u16 d] 54
theorem ring_set (c : Ck) (hc : c.ok) (lim : Int) (hl : 0 ≤ lim ∧ lim < 65536) : cSet (cSet c 16388 0) 16384 lim = { c with l := lim } := by
  have := hc.l
  simp [cSet]
  omega
theorem ring_ln (t lim : Int) : (cLn ⟨t, lim, false⟩ == 128) = decide (lim ≤ t) := by
  unfold cLn lnV
  by_cases h : lim ≤ t <;> simp [h]

set_option maxRecDepth 100000 in
set_option maxHeartbeats 4000000 in
theorem rings_calls (p0 p1 p2 p3 q0 q1 q2 q3 : Int) (w : World) (hT : Tab w)
    (hls : (0 ≤ p0 ∧ p0 < 65536) ∧ (0 ≤ p1 ∧ p1 < 65536) ∧ (0 ≤ p2 ∧ p2 < 65536) ∧ (0 ≤ p3 ∧ p3 < 65536)) (hss : (0 ≤ q0 ∧ q0 < 65536) ∧ (0 ≤ q1 ∧ q1 < 65536) ∧ (0 ≤ q2 ∧ q2 < 65536) ∧ (0 ≤ q3 ∧ q3 < 65536)) :
    Calls Tryd.prog 6 #[.agg #[.int .u16 p0, .int .u16 p1, .int .u16 p2, .int .u16 p3], .agg #[.int .u16 q0, .int .u16 q1, .int .u16 q2, .int .u16 q3]] w fun e w' => e = .returned (.bool true) ∧ Below w.heap.size w w' := by
  have HT := _root_.Go.Lib.hid hT
  have HLS := _root_.Go.Lib.hid hls
  have HSS := _root_.Go.Lib.hid hss
  have h0 := ((KW.start (Below.refl w.heap.size w) (Nat.le_refl _)).push (arrO p0 p1 p2 p3)).push (arrO q0 q1 q2 q3)
  have hsz : (w.alloc (arrO p0 p1 p2 p3)).heap.size = w.heap.size + 1 := by simp
  rw [hsz] at h0
  have H0 := _root_.Go.Lib.hid h0.swap
  have HT2 := _root_.Go.Lib.hid (HT.out.below h0.bel HT.out.pos)
  clear hT hls hss h0 hsz
  go_enter Tryd.func6, Tryd.ntmps6
  go_wp2_with fail
  refine (alive_calls _ HT2.out).mono ?_
  rintro e w1 ⟨rfl, h1⟩
  have H1 := _root_.Go.Lib.hid (H0.out.grown h1)
  clear h1 H0
  go_wp2_with fail
  refine (new_k H1.out).mono ?_
  rintro e w2x ⟨rfl, h2⟩
  generalize hw2 : w1.heap.size = cbn at *
  obtain ⟨w2, hcb⟩ : ∃ w2 : World, w2.heap.size = cbn := ⟨w1, hw2⟩
  subst hcb
  have g0 : w2x.heap[w.heap.size + 1]? = some (arrO q0 q1 q2 q3) := h2.get (by simp)
  have c0 : w2x.cell? ⟨w.heap.size + 1, 0, none⟩ = some (.int .u16 q0) := cell_at g0 0
  have c1 : w2x.cell? ⟨w.heap.size + 1, 1, none⟩ = some (.int .u16 q1) := cell_at g0 1
  have c2 : w2x.cell? ⟨w.heap.size + 1, 2, none⟩ = some (.int .u16 q2) := cell_at g0 2
  have c3 : w2x.cell? ⟨w.heap.size + 1, 3, none⟩ = some (.int .u16 q3) := cell_at g0 3
  have H2 := _root_.Go.Lib.hid h2
  clear h2 H1 g0 hw2
  go_wp2_with fail
  go_loopg [6, 17] 4 (fun k nw i wr => ∃ (j : Nat) (t l : Int), j + k = 4 ∧ i = .int .i64 (j : Int) ∧ nw = .int .u64 t ∧ (0 ≤ t ∧ t ≤ 65535 * j) ∧ (0 ≤ l ∧ l < 18446744073709551616) ∧ KW w.heap.size w [(w2.heap.size, (⟨t, l, false⟩ : Ck).o), (w.heap.size, arrO p0 p1 p2 p3), (w.heap.size + 1, arrO q0 q1 q2 q3)] wr)
  case atStart => exact ⟨0, 0, 18446744073709551615, by omega, rfl, rfl, by omega, by omega, H2.out⟩
  case round =>
    obtain ⟨j, t, l, hj, rfl, rfl, ht, hl, hu⟩ := hrel
    have HU := _root_.Go.Lib.hid hu
    have hj4 : j ≤ 4 := by omega
    have OK := _root_.Go.Lib.hid (show (⟨t, l, false⟩ : Ck).ok from ⟨by simp only; omega, hl⟩)
    clear hu H2 hl hj4 c0 c1 c2 c3
    match j, hj, ht with
    | 0, hj, ht =>
      have HL := _root_.Go.Lib.hid (show 0 ≤ p0 ∧ p0 < 65536 from HLS.out.1)
      have HS := _root_.Go.Lib.hid (show 0 ≤ q0 ∧ q0 < 65536 from HSS.out.1)
      have l1 := HL.out.1
      have l2 := HL.out.2
      have n1 := HS.out.1
      have n2 := HS.out.2
      have t1 := ht.1
      have t2 : t ≤ 65535 * 0 := ht.2
      have g0 : wr.cell? ⟨w.heap.size, 0, none⟩ = some (.int .u16 p0) := cell_at (HU.out.get (g := w.heap.size) (o := arrO p0 p1 p2 p3) (by simp)) 0
      have ix : ∀ w, (Instr.index 54 (.agg #[.int .u16 q0, .int .u16 q1, .int .u16 q2, .int .u16 q3]) (.int .i64 0)).run Tryd.prog w = .ok (.int .u16 q0) w := fun _ => by kernel_rfl
      go_wp2_with fail
      refine (set_k HU.out OK.out 16388 0 true _ (by decide) (by decide) (by kernel_rfl) rfl).mono ?_
      rintro e wa ⟨rfl, ha⟩
      have g1 : wa.cell? ⟨w.heap.size, 0, none⟩ = some (.int .u16 p0) := cell_at (ha.get (g := w.heap.size) (o := arrO p0 p1 p2 p3) (by simp)) 0
      have A := _root_.Go.Lib.hid ha
      clear ha HU g0
      go_wp2_with fail
      refine (set_k A.out (OK.out.set _ _ (by decide)) 16384 p0 true _ (by decide) (by have := HL.out; omega) (by kernel_rfl) (ring_set _ OK.out p0 HL.out)).mono ?_
      rintro e wb ⟨rfl, hb⟩
      have g2 : wb.cell? ⟨w.heap.size, 0, none⟩ = some (.int .u16 p0) := cell_at (hb.get (g := w.heap.size) (o := arrO p0 p1 p2 p3) (by simp)) 0
      have Bb := _root_.Go.Lib.hid hb
      clear hb A g1
      obtain ⟨ln, hln⟩ : ∃ x, cLn ⟨t, p0, false⟩ = x := ⟨_, rfl⟩
      have LN := _root_.Go.Lib.hid hln
      have hwp : IntKind.u64.wrap p0 = p0 := by rw [IntKind.wrap_u64]; omega
      have e128 : (ln == 128) = decide (p0 ≤ t) := by rw [← hln]; exact ring_ln t p0
      clear hln
      go_wp2_with fail
      go_region_with (go_at_call 17; refine (lines_k Bb.out.drew ln LN.out).mono ?_; rintro e wq ⟨rfl, hq⟩; obtain rfl : wq = World.drew _ := hq)
      all_goals
        go_wp2_with fail
        refine (tick_k Bb.out.drew.drew q0).mono ?_
        rintro e wc ⟨rfl, hc⟩
        have htk : cTick ⟨t, p0, false⟩ q0 = ⟨t + q0, p0, false⟩ := by unfold cTick; simp only; congr 1; omega
        have hc : KW w.heap.size w [(w2.heap.size, (⟨t + q0, p0, false⟩ : Ck).o), (w.heap.size, arrO p0 p1 p2 p3), (w.heap.size + 1, arrO q0 q1 q2 q3)] wc := by rw [← htk]; exact hc
        have g3 : wc.cell? ⟨w.heap.size, 0, none⟩ = some (.int .u16 p0) := cell_at (hc.get (g := w.heap.size) (o := arrO p0 p1 p2 p3) (by simp)) 0
        have Cc := _root_.Go.Lib.hid hc
        clear hc htk g2 Bb e128 LN
        obtain ⟨ln2, hln⟩ : ∃ x, cLn ⟨t + q0, p0, false⟩ = x := ⟨_, rfl⟩
        have LN := _root_.Go.Lib.hid hln
        have e128 : (ln2 == 128) = decide (p0 ≤ t + q0) := by rw [← hln]; exact ring_ln _ p0
        clear hln
        go_wp2_with fail
        go_region_with (go_at_call 17; refine (lines_k Cc.out.drew ln2 LN.out).mono ?_; rintro e wq ⟨rfl, hq⟩; obtain rfl : wq = World.drew _ := hq)
        all_goals
          go_wp2_with fail
          go_roundg 3
          case measure => omega
          case rel => exact ⟨1, t + q0, p0, by omega, rfl, rfl, by omega, by have := HL.out; omega, Cc.out.drew.drew⟩
    | 1, hj, ht =>
      have HL := _root_.Go.Lib.hid (show 0 ≤ p1 ∧ p1 < 65536 from HLS.out.2.1)
      have HS := _root_.Go.Lib.hid (show 0 ≤ q1 ∧ q1 < 65536 from HSS.out.2.1)
      have l1 := HL.out.1
      have l2 := HL.out.2
      have n1 := HS.out.1
      have n2 := HS.out.2
      have t1 := ht.1
      have t2 : t ≤ 65535 * 1 := ht.2
      have g0 : wr.cell? ⟨w.heap.size, 1, none⟩ = some (.int .u16 p1) := cell_at (HU.out.get (g := w.heap.size) (o := arrO p0 p1 p2 p3) (by simp)) 1
      have ix : ∀ w, (Instr.index 54 (.agg #[.int .u16 q0, .int .u16 q1, .int .u16 q2, .int .u16 q3]) (.int .i64 1)).run Tryd.prog w = .ok (.int .u16 q1) w := fun _ => by kernel_rfl
      go_wp2_with fail
      refine (set_k HU.out OK.out 16388 0 true _ (by decide) (by decide) (by kernel_rfl) rfl).mono ?_
      rintro e wa ⟨rfl, ha⟩
      have g1 : wa.cell? ⟨w.heap.size, 1, none⟩ = some (.int .u16 p1) := cell_at (ha.get (g := w.heap.size) (o := arrO p0 p1 p2 p3) (by simp)) 1
      have A := _root_.Go.Lib.hid ha
      clear ha HU g0
      go_wp2_with fail
      refine (set_k A.out (OK.out.set _ _ (by decide)) 16384 p1 true _ (by decide) (by have := HL.out; omega) (by kernel_rfl) (ring_set _ OK.out p1 HL.out)).mono ?_
      rintro e wb ⟨rfl, hb⟩
      have g2 : wb.cell? ⟨w.heap.size, 1, none⟩ = some (.int .u16 p1) := cell_at (hb.get (g := w.heap.size) (o := arrO p0 p1 p2 p3) (by simp)) 1
      have Bb := _root_.Go.Lib.hid hb
      clear hb A g1
      obtain ⟨ln, hln⟩ : ∃ x, cLn ⟨t, p1, false⟩ = x := ⟨_, rfl⟩
      have LN := _root_.Go.Lib.hid hln
      have hwp : IntKind.u64.wrap p1 = p1 := by rw [IntKind.wrap_u64]; omega
      have e128 : (ln == 128) = decide (p1 ≤ t) := by rw [← hln]; exact ring_ln t p1
      clear hln
      go_wp2_with fail
      go_region_with (go_at_call 17; refine (lines_k Bb.out.drew ln LN.out).mono ?_; rintro e wq ⟨rfl, hq⟩; obtain rfl : wq = World.drew _ := hq)
      all_goals
        go_wp2_with fail
        refine (tick_k Bb.out.drew.drew q1).mono ?_
        rintro e wc ⟨rfl, hc⟩
        have htk : cTick ⟨t, p1, false⟩ q1 = ⟨t + q1, p1, false⟩ := by unfold cTick; simp only; congr 1; omega
        have hc : KW w.heap.size w [(w2.heap.size, (⟨t + q1, p1, false⟩ : Ck).o), (w.heap.size, arrO p0 p1 p2 p3), (w.heap.size + 1, arrO q0 q1 q2 q3)] wc := by rw [← htk]; exact hc
        have g3 : wc.cell? ⟨w.heap.size, 1, none⟩ = some (.int .u16 p1) := cell_at (hc.get (g := w.heap.size) (o := arrO p0 p1 p2 p3) (by simp)) 1
        have Cc := _root_.Go.Lib.hid hc
        clear hc htk g2 Bb e128 LN
        obtain ⟨ln2, hln⟩ : ∃ x, cLn ⟨t + q1, p1, false⟩ = x := ⟨_, rfl⟩
        have LN := _root_.Go.Lib.hid hln
        have e128 : (ln2 == 128) = decide (p1 ≤ t + q1) := by rw [← hln]; exact ring_ln _ p1
        clear hln
        go_wp2_with fail
        go_region_with (go_at_call 17; refine (lines_k Cc.out.drew ln2 LN.out).mono ?_; rintro e wq ⟨rfl, hq⟩; obtain rfl : wq = World.drew _ := hq)
        all_goals
          go_wp2_with fail
          go_roundg 2
          case measure => omega
          case rel => exact ⟨2, t + q1, p1, by omega, rfl, rfl, by omega, by have := HL.out; omega, Cc.out.drew.drew⟩
    | 2, hj, ht =>
      have HL := _root_.Go.Lib.hid (show 0 ≤ p2 ∧ p2 < 65536 from HLS.out.2.2.1)
      have HS := _root_.Go.Lib.hid (show 0 ≤ q2 ∧ q2 < 65536 from HSS.out.2.2.1)
      have l1 := HL.out.1
      have l2 := HL.out.2
      have n1 := HS.out.1
      have n2 := HS.out.2
      have t1 := ht.1
      have t2 : t ≤ 65535 * 2 := ht.2
      have g0 : wr.cell? ⟨w.heap.size, 2, none⟩ = some (.int .u16 p2) := cell_at (HU.out.get (g := w.heap.size) (o := arrO p0 p1 p2 p3) (by simp)) 2
      have ix : ∀ w, (Instr.index 54 (.agg #[.int .u16 q0, .int .u16 q1, .int .u16 q2, .int .u16 q3]) (.int .i64 2)).run Tryd.prog w = .ok (.int .u16 q2) w := fun _ => by kernel_rfl
      go_wp2_with fail
      refine (set_k HU.out OK.out 16388 0 true _ (by decide) (by decide) (by kernel_rfl) rfl).mono ?_
      rintro e wa ⟨rfl, ha⟩
      have g1 : wa.cell? ⟨w.heap.size, 2, none⟩ = some (.int .u16 p2) := cell_at (ha.get (g := w.heap.size) (o := arrO p0 p1 p2 p3) (by simp)) 2
      have A := _root_.Go.Lib.hid ha
      clear ha HU g0
      go_wp2_with fail
      refine (set_k A.out (OK.out.set _ _ (by decide)) 16384 p2 true _ (by decide) (by have := HL.out; omega) (by kernel_rfl) (ring_set _ OK.out p2 HL.out)).mono ?_
      rintro e wb ⟨rfl, hb⟩
      have g2 : wb.cell? ⟨w.heap.size, 2, none⟩ = some (.int .u16 p2) := cell_at (hb.get (g := w.heap.size) (o := arrO p0 p1 p2 p3) (by simp)) 2
      have Bb := _root_.Go.Lib.hid hb
      clear hb A g1
      obtain ⟨ln, hln⟩ : ∃ x, cLn ⟨t, p2, false⟩ = x := ⟨_, rfl⟩
      have LN := _root_.Go.Lib.hid hln
      have hwp : IntKind.u64.wrap p2 = p2 := by rw [IntKind.wrap_u64]; omega
      have e128 : (ln == 128) = decide (p2 ≤ t) := by rw [← hln]; exact ring_ln t p2
      clear hln
      go_wp2_with fail
      go_region_with (go_at_call 17; refine (lines_k Bb.out.drew ln LN.out).mono ?_; rintro e wq ⟨rfl, hq⟩; obtain rfl : wq = World.drew _ := hq)
      all_goals
        go_wp2_with fail
        refine (tick_k Bb.out.drew.drew q2).mono ?_
        rintro e wc ⟨rfl, hc⟩
        have htk : cTick ⟨t, p2, false⟩ q2 = ⟨t + q2, p2, false⟩ := by unfold cTick; simp only; congr 1; omega
        have hc : KW w.heap.size w [(w2.heap.size, (⟨t + q2, p2, false⟩ : Ck).o), (w.heap.size, arrO p0 p1 p2 p3), (w.heap.size + 1, arrO q0 q1 q2 q3)] wc := by rw [← htk]; exact hc
        have g3 : wc.cell? ⟨w.heap.size, 2, none⟩ = some (.int .u16 p2) := cell_at (hc.get (g := w.heap.size) (o := arrO p0 p1 p2 p3) (by simp)) 2
        have Cc := _root_.Go.Lib.hid hc
        clear hc htk g2 Bb e128 LN
        obtain ⟨ln2, hln⟩ : ∃ x, cLn ⟨t + q2, p2, false⟩ = x := ⟨_, rfl⟩
        have LN := _root_.Go.Lib.hid hln
        have e128 : (ln2 == 128) = decide (p2 ≤ t + q2) := by rw [← hln]; exact ring_ln _ p2
        clear hln
        go_wp2_with fail
        go_region_with (go_at_call 17; refine (lines_k Cc.out.drew ln2 LN.out).mono ?_; rintro e wq ⟨rfl, hq⟩; obtain rfl : wq = World.drew _ := hq)
        all_goals
          go_wp2_with fail
          go_roundg 1
          case measure => omega
          case rel => exact ⟨3, t + q2, p2, by omega, rfl, rfl, by omega, by have := HL.out; omega, Cc.out.drew.drew⟩
    | 3, hj, ht =>
      have HL := _root_.Go.Lib.hid (show 0 ≤ p3 ∧ p3 < 65536 from HLS.out.2.2.2)
      have HS := _root_.Go.Lib.hid (show 0 ≤ q3 ∧ q3 < 65536 from HSS.out.2.2.2)
      have l1 := HL.out.1
      have l2 := HL.out.2
      have n1 := HS.out.1
      have n2 := HS.out.2
      have t1 := ht.1
      have t2 : t ≤ 65535 * 3 := ht.2
      have g0 : wr.cell? ⟨w.heap.size, 3, none⟩ = some (.int .u16 p3) := cell_at (HU.out.get (g := w.heap.size) (o := arrO p0 p1 p2 p3) (by simp)) 3
      have ix : ∀ w, (Instr.index 54 (.agg #[.int .u16 q0, .int .u16 q1, .int .u16 q2, .int .u16 q3]) (.int .i64 3)).run Tryd.prog w = .ok (.int .u16 q3) w := fun _ => by kernel_rfl
      go_wp2_with fail
      refine (set_k HU.out OK.out 16388 0 true _ (by decide) (by decide) (by kernel_rfl) rfl).mono ?_
      rintro e wa ⟨rfl, ha⟩
      have g1 : wa.cell? ⟨w.heap.size, 3, none⟩ = some (.int .u16 p3) := cell_at (ha.get (g := w.heap.size) (o := arrO p0 p1 p2 p3) (by simp)) 3
      have A := _root_.Go.Lib.hid ha
      clear ha HU g0
      go_wp2_with fail
      refine (set_k A.out (OK.out.set _ _ (by decide)) 16384 p3 true _ (by decide) (by have := HL.out; omega) (by kernel_rfl) (ring_set _ OK.out p3 HL.out)).mono ?_
      rintro e wb ⟨rfl, hb⟩
      have g2 : wb.cell? ⟨w.heap.size, 3, none⟩ = some (.int .u16 p3) := cell_at (hb.get (g := w.heap.size) (o := arrO p0 p1 p2 p3) (by simp)) 3
      have Bb := _root_.Go.Lib.hid hb
      clear hb A g1
      obtain ⟨ln, hln⟩ : ∃ x, cLn ⟨t, p3, false⟩ = x := ⟨_, rfl⟩
      have LN := _root_.Go.Lib.hid hln
      have hwp : IntKind.u64.wrap p3 = p3 := by rw [IntKind.wrap_u64]; omega
      have e128 : (ln == 128) = decide (p3 ≤ t) := by rw [← hln]; exact ring_ln t p3
      clear hln
      go_wp2_with fail
      go_region_with (go_at_call 17; refine (lines_k Bb.out.drew ln LN.out).mono ?_; rintro e wq ⟨rfl, hq⟩; obtain rfl : wq = World.drew _ := hq)
      all_goals
        go_wp2_with fail
        refine (tick_k Bb.out.drew.drew q3).mono ?_
        rintro e wc ⟨rfl, hc⟩
        have htk : cTick ⟨t, p3, false⟩ q3 = ⟨t + q3, p3, false⟩ := by unfold cTick; simp only; congr 1; omega
        have hc : KW w.heap.size w [(w2.heap.size, (⟨t + q3, p3, false⟩ : Ck).o), (w.heap.size, arrO p0 p1 p2 p3), (w.heap.size + 1, arrO q0 q1 q2 q3)] wc := by rw [← htk]; exact hc
        have g3 : wc.cell? ⟨w.heap.size, 3, none⟩ = some (.int .u16 p3) := cell_at (hc.get (g := w.heap.size) (o := arrO p0 p1 p2 p3) (by simp)) 3
        have Cc := _root_.Go.Lib.hid hc
        clear hc htk g2 Bb e128 LN
        obtain ⟨ln2, hln⟩ : ∃ x, cLn ⟨t + q3, p3, false⟩ = x := ⟨_, rfl⟩
        have LN := _root_.Go.Lib.hid hln
        have e128 : (ln2 == 128) = decide (p3 ≤ t + q3) := by rw [← hln]; exact ring_ln _ p3
        clear hln
        go_wp2_with fail
        go_region_with (go_at_call 17; refine (lines_k Cc.out.drew ln2 LN.out).mono ?_; rintro e wq ⟨rfl, hq⟩; obtain rfl : wq = World.drew _ := hq)
        all_goals
          go_wp2_with fail
          go_roundg 0
          case measure => omega
          case rel => exact ⟨4, t + q3, p3, by omega, rfl, rfl, by omega, by have := HL.out; omega, Cc.out.drew.drew⟩
    | m + 5, hj, ht => omega
    | 4, hj, ht =>
      have t1 := ht.1
      have t2 : t ≤ 65535 * 4 := ht.2
      go_wp2_with fail
      refine (set_k HU.out OK.out 16388 4294967295 true _ (by decide) (by decide) (by kernel_rfl) rfl).mono ?_
      rintro e wa ⟨rfl, ha⟩
      have A := _root_.Go.Lib.hid ha
      have OK2 := _root_.Go.Lib.hid (OK.out.set 16388 4294967295 (by decide))
      clear ha HU
      go_wp2_with fail
      refine (get_k A.out OK2.out 49144 t true (by decide) (by simp [cGet, cSet]; omega) (by kernel_rfl)).mono ?_
      rintro e w5 ⟨rfl, rfl⟩
      go_wp2_with fail
      refine (lines_k A.out 0 (by have := OK.out.l; simp only at this; simp [cLn, lnV, cSet]; omega)).mono ?_
      rintro e w6 ⟨rfl, rfl⟩
      have A2 := _root_.Go.Lib.hid A.out.drew
      clear A
      go_wp2_with fail
      go_ret
      exact ⟨rfl, A2.out.bel⟩
end Go.Proofs.YtogepklmmehbjaaDoor
