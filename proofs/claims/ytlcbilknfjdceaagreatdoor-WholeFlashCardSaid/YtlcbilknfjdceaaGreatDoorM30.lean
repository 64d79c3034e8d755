/-
  WholeFlash, part 30 of 44: Refb, Refc, Refd, Refe, Reff, Refg.
-/
import Derived.Test.YtlcbilknfjdceaaGreatDoorM29
import Derived.Test.YtlcbilknfjdceaaGreatDoorM20
section
/-
  The reference: what a head is, what a page is.
-/
set_option linter.unusedVariables false
set_option linter.unusedSimpArgs false
namespace Go.Proofs.YtlcbilknfjdceaaGreatDoor
open Go.RowKit Go.Lib
theorem hdW_first (c : Int) : (hdW c).getD 0 0 = 2970353665 := rfl
set_option maxRecDepth 100000 in
theorem count61_free {w : World} {g o c : Nat} (h : WordsAt w g o (List.replicate 4 4294967295)) (hc : 4 ≤ c) : Calls Tryz.prog 61 #[.slice (some ⟨g, o, none⟩) 4 c] w fun e w' => e = .returned (.tuple #[.int .u32 0, .int .i64 0]) ∧ Below w.heap.size w w' := by
  have hf := free100_yes h (by decide) hc
  have H := _root_.Go.Lib.hid hf
  clear h hf
  go_enter Tryz.func61, Tryz.ntmps61
  go_wp2_with (go_at_call 100; refine H.out.mono ?_; rintro e w' ⟨rfl, rfl⟩)
  refine bodyPost_ret (v := .tuple #[.int .u32 0, .int .i64 0]) (by simp [results, Tryz.results61, Sem.run_bind, Result.andThen]) rfl ⟨rfl, Below.refl _ _⟩
set_option maxRecDepth 100000 in
theorem count61_yes {w : World} {g o c : Nat} {n : Int} (h : WordsAt w g o (hdW n)) (hn : 0 ≤ n ∧ n ≤ 2147483648) : Calls Tryz.prog 61 #[.slice (some ⟨g, o, none⟩) 4 c] w fun e w' => e = .returned (.tuple #[.int .u32 n, .int .i64 1]) ∧ Below w.heap.size w w' := by
  have x0 : w.cell? ⟨g, o, none⟩ = some (.int .u32 2970353665) := h 0 (show 0 < 4 by decide)
  have x1 : w.cell? ⟨g, o + 1, none⟩ = some (.int .u32 n) := h 1 (show 1 < 4 by decide)
  have hf := free100_no (n := 4) (c := c) x0 (by decide) (by decide)
  have hh := header102 n hn.1 hn.2 w
  have hb : Below w.heap.size w (w.alloc (.cells (ints .u32 (hdW n)) 38)) := (Below.refl _ _).alloc (Nat.le_refl _) _
  have h1 : WordsAt (w.alloc (.cells (ints .u32 (hdW n)) 38)) w.heap.size 0 (hdW n) := WordsAt.row (sp := #[]) (heap_alloc_new w _)
  have hs := same101 (c1 := 4) (c2 := c) h1 (h.below hb) (n := 4) rfl (by decide)
  have hy1 : (w.alloc (.cells (ints .u32 (hdW n)) 38)).cell? ⟨g, o + 1, none⟩ = some (.int .u32 n) := keepB hb x1
  have H := _root_.Go.Lib.hid (And.intro hf (And.intro hh (And.intro hs (And.intro hb hy1))))
  clear h hf hn hh hs hb h1 x0 hy1
  go_enter Tryz.func61, Tryz.ntmps61
  go_wp2_with (first | (go_at_call 100; refine H.out.1.mono ?_; rintro e w' ⟨rfl, rfl⟩) | (go_at_call 102; refine H.out.2.1.mono ?_; rintro e w' ⟨rfl, rfl⟩))
  refine H.out.2.2.1.mono ?_
  rintro e w1 ⟨rfl, hb1⟩
  have x2 := keepB hb1 H.out.2.2.2.2
  have HB := _root_.Go.Lib.hid (H.out.2.2.2.1.trans (hb1.mono (by simp)))
  clear hb1 x1
  go_wp2_with fail
  refine bodyPost_ret (v := .tuple #[.int .u32 n, .int .i64 1]) (by simp [results, Tryz.results61, Sem.run_bind, Result.andThen]) rfl ⟨rfl, HB.out⟩
theorem size50 : (Tryz.prog.info? 50).map (·.size) = some 7 := by kernel_rfl
theorem load50 {p : Pg} {w : World} {g : Nat} {t : TypeId} {fr : Nat × Nat} (hg : w.heap[g]? = some (.cells (pgV p) t fr)) : (Instr.loadAt 50 (.pointer (some ⟨g, 0, none⟩))).run Tryz.prog w = .ok (.agg (pgV p)) w :=
  Mem.run_loadAt_part (by rfl) Tryz.underlying50 hg (by rw [size50]; rfl) rfl
theorem results62 {tmps : Array Value} {w : World} {rb : Nat} {p : Pg} {k : Int} {t : TypeId} (h4 : tmps.getD 2 undef = .pointer (some ⟨rb, 0, none⟩)) (h5 : tmps.getD 3 undef = .int .i64 k) (hg : w.heap[rb]? = some (.cells (pgV p) t)) :
    (results Tryz.f62 tmps).run Tryz.prog w = .ok (.tuple #[.agg (pgV p), .int .i64 k]) w := by
  have hl := load50 hg
  rw [Array.getD_eq_getD_getElem?] at h4 h5
  simp only [Instr.loadAt, Instr.sureAddr, pure_bind] at hl
  simp [results, h4, h5, Result.andThen, asAddr, hl]
theorem set7 {B : Nat} {W w : World} (L R : Blocks) {g : Nat} {t : TypeId} {p p' : Pg} (h : KW B W (L ++ (g, .cells (pgV p) t) :: R) w) : KW B W (L ++ (g, .cells (pgV p') t) :: R) (((((((w.setCell ⟨g, 0, none⟩ (.int .u32 p'.sec)).setCell ⟨g, 1, none⟩ (.int .u32 p'.seq)).setCell ⟨g, 2, none⟩ (.bool p'.gone)).setCell ⟨g, 3, none⟩ (.int .u32 p'.d0)).setCell ⟨g, 4, none⟩ (.int .u32 p'.d1)).setCell ⟨g, 5, none⟩ (.int .u32 p'.d2)).setCell ⟨g, 6, none⟩ (.int .u32 p'.d3)) := by
  have h0 := KW.cellAt L R (i := 0) (x := .int .u32 p'.sec) (vs := pgV { p with sec := p'.sec }) h rfl
  have h1 := KW.cellAt L R (i := 1) (x := .int .u32 p'.seq) (vs := pgV { p with sec := p'.sec, seq := p'.seq }) h0 rfl
  have h2 := KW.cellAt L R (i := 2) (x := .bool p'.gone) (vs := pgV { p with sec := p'.sec, seq := p'.seq, gone := p'.gone }) h1 rfl
  have h3 := KW.cellAt L R (i := 3) (x := .int .u32 p'.d0) (vs := pgV { p with sec := p'.sec, seq := p'.seq, gone := p'.gone, d0 := p'.d0 }) h2 rfl
  have h4 := KW.cellAt L R (i := 4) (x := .int .u32 p'.d1) (vs := pgV { p with sec := p'.sec, seq := p'.seq, gone := p'.gone, d0 := p'.d0, d1 := p'.d1 }) h3 rfl
  have h5 := KW.cellAt L R (i := 5) (x := .int .u32 p'.d2) (vs := pgV { p with sec := p'.sec, seq := p'.seq, gone := p'.gone, d0 := p'.d0, d1 := p'.d1, d2 := p'.d2 }) h4 rfl
  exact KW.cellAt L R (i := 6) (x := .int .u32 p'.d3) (vs := pgV p') h5 rfl
set_option maxHeartbeats 600000 in
set_option maxRecDepth 100000 in
theorem read62_yes {w : World} {g o c : Nat} {p : Pg} (h : WordsAt w g o (pgW p)) (hp : p.Right) : Calls Tryz.prog 62 #[.slice (some ⟨g, o, none⟩) 7 c] w fun e w' => e = .returned (.tuple #[.agg (pgV p), .int .i64 1]) ∧ Below w.heap.size w w' := by
  obtain ⟨A, hA⟩ : ∃ A, A = if p.gone then p.sec + 2147483648 else p.sec := ⟨_, rfl⟩
  have hA1 : A ≠ 4294967295 := by have := hp.s0; have := hp.s1; rw [hA]; split <;> omega
  have hA2 : A % 2147483648 = p.sec := by have := hp.s0; have := hp.s1; rw [hA]; split <;> omega
  have hA3 : decide (A ≥ 2147483648) = p.gone := by
    have := hp.s0
    have := hp.s1
    rw [hA]
    cases hg : p.gone
    · simp only [hg, Bool.false_eq_true, if_false]
      exact decide_eq_false (by omega)
    · simp only [hg, if_true]
      exact decide_eq_true (by omega)
  have hA0 : 0 ≤ A ∧ A < 4294967296 := by have := hp.s0; have := hp.s1; rw [hA]; split <;> omega
  have hW : pgW p = [A, p.seq, p.d0, p.d1, p.d2, p.d3, 1526644958] := by rw [hA]; rfl
  rw [hW] at h
  have x0 : w.cell? ⟨g, o, none⟩ = some (.int .u32 A) := h 0 (show 0 < 7 by decide)
  have hf := fun (wx : World) (hx : wx.cell? ⟨g, o, none⟩ = some (.int .u32 A)) => free100_no (n := 7) (c := c) hx hA1 (by decide)
  have hk := (KW.start (Below.refl w.heap.size w) (Nat.le_refl _)).push (.cells (pgV Pg.z) 50)
  have hb := (Below.refl w.heap.size w).alloc (Nat.le_refl _) (.cells (pgV Pg.z) 50)
  have hwd := h.below hb
  have hfr := hf _ (hwd 0 (show 0 < 7 by decide))
  obtain ⟨s, q, gg, a, b, cc, d⟩ := p
  simp only at hA2 hA3 hwd
  have H := _root_.Go.Lib.hid (And.intro hfr (And.intro hk (And.intro hwd (And.intro hp (And.intro hW h)))))
  clear h hp hA hA1 x0 hf hk hb hfr hwd hW
  go_enter Tryz.func62, Tryz.ntmps62
  go_upto_region 5 with (go_at_call 100; refine H.out.1.mono ?_; rintro e w' ⟨rfl, rfl⟩)
  have hkw := H.out.2.1
  have hwd := H.out.2.2.1
  generalize World.alloc w _ = w1 at hkw hwd ⊢
  generalize hrb : w.heap.size = rb at hkw ⊢
  have e1 : IntKind.u32.wrap (A % 2147483648) = s := by rw [hA2]; rw [← hA2, IntKind.wrap_u32']; omega
  have e2 : (A ≥ 2147483648) = (gg = true) := by rw [← hA3]; simp
  have e3 : A.tmod 2147483648 = s := by rw [Int.tmod_eq_emod_of_nonneg hA0.1]; exact hA2
  have e4 : IntKind.u32.wrap s = s := by rw [IntKind.wrap_u32']; omega
  have HH := _root_.Go.Lib.hid (And.intro hA0 (And.intro hA2 hA3))
  clear hA0 hA2 hA3
  refine wp_region_reads 25 (fun w => WordsAt w g o [A, q, a, b, cc, d, 1526644958]) (by kernel_rfl) (by kernel_rfl) hwd ?_
  simp only [List.take_succ_cons, List.take_zero, List.drop_succ_cons, List.drop_zero]
  have HK := _root_.Go.Lib.hid (And.intro hkw (And.intro hwd hrb))
  clear hkw hwd hrb
  refine Reads.val (v := .slice (some ⟨g, o, none⟩) 7 c) rfl (fun wc hC => ?_) ?_
  · go_simp
  refine Reads.go fun K hK => ?_
  go_simp
  refine hK _ ?_
  clear hK K
  refine Reads.val (v := .pointer (some ⟨g, o, none⟩)) rfl (fun wc hC => ?_) ?_
  · go_simp
  refine Reads.go fun K hK => ?_
  go_simp
  refine hK _ ?_
  clear hK K
  refine Reads.val (v := .int .u32 A) rfl (fun wc hC => ?_) ?_
  · have x : wc.cell? ⟨g, o, none⟩ = some (.int .u32 A) := hC 0 (show 0 < 7 by decide)
    go_simp
  refine Reads.go fun K hK => ?_
  go_simp
  refine hK _ ?_
  clear hK K
  refine Reads.val (v := .int .u32 s) rfl (fun wc hC => ?_) ?_
  · go_simp
  refine Reads.go fun K hK => ?_
  go_simp
  refine hK _ ?_
  clear hK K
  refine Reads.val (v := .slice (some ⟨g, o, none⟩) 7 c) rfl (fun wc hC => ?_) ?_
  · go_simp
  refine Reads.go fun K hK => ?_
  go_simp
  refine hK _ ?_
  clear hK K
  refine Reads.val (v := .pointer (some ⟨g, o + 1, none⟩)) rfl (fun wc hC => ?_) ?_
  · go_simp
  refine Reads.go fun K hK => ?_
  go_simp
  refine hK _ ?_
  clear hK K
  refine Reads.val (v := .int .u32 q) rfl (fun wc hC => ?_) ?_
  · have x : wc.cell? ⟨g, o + 1, none⟩ = some (.int .u32 q) := hC 1 (show 1 < 7 by decide)
    go_simp
  refine Reads.go fun K hK => ?_
  go_simp
  refine hK _ ?_
  clear hK K
  refine Reads.val (v := .slice (some ⟨g, o, none⟩) 7 c) rfl (fun wc hC => ?_) ?_
  · go_simp
  refine Reads.go fun K hK => ?_
  go_simp
  refine hK _ ?_
  clear hK K
  refine Reads.val (v := .pointer (some ⟨g, o, none⟩)) rfl (fun wc hC => ?_) ?_
  · go_simp
  refine Reads.go fun K hK => ?_
  go_simp
  refine hK _ ?_
  clear hK K
  refine Reads.val (v := .int .u32 A) rfl (fun wc hC => ?_) ?_
  · have x : wc.cell? ⟨g, o, none⟩ = some (.int .u32 A) := hC 0 (show 0 < 7 by decide)
    go_simp
  refine Reads.go fun K hK => ?_
  go_simp
  refine hK _ ?_
  clear hK K
  refine Reads.val (v := .bool gg) rfl (fun wc hC => ?_) ?_
  · go_simp
  refine Reads.go fun K hK => ?_
  go_simp
  refine hK _ ?_
  clear hK K
  refine Reads.val (v := .slice (some ⟨g, o, none⟩) 7 c) rfl (fun wc hC => ?_) ?_
  · go_simp
  refine Reads.go fun K hK => ?_
  go_simp
  refine hK _ ?_
  clear hK K
  refine Reads.val (v := .pointer (some ⟨g, o + 2, none⟩)) rfl (fun wc hC => ?_) ?_
  · go_simp
  refine Reads.go fun K hK => ?_
  go_simp
  refine hK _ ?_
  clear hK K
  refine Reads.val (v := .int .u32 a) rfl (fun wc hC => ?_) ?_
  · have x : wc.cell? ⟨g, o + 2, none⟩ = some (.int .u32 a) := hC 2 (show 2 < 7 by decide)
    go_simp
  refine Reads.go fun K hK => ?_
  go_simp
  refine hK _ ?_
  clear hK K
  refine Reads.val (v := .slice (some ⟨g, o, none⟩) 7 c) rfl (fun wc hC => ?_) ?_
  · go_simp
  refine Reads.go fun K hK => ?_
  go_simp
  refine hK _ ?_
  clear hK K
  refine Reads.val (v := .pointer (some ⟨g, o + 3, none⟩)) rfl (fun wc hC => ?_) ?_
  · go_simp
  refine Reads.go fun K hK => ?_
  go_simp
  refine hK _ ?_
  clear hK K
  refine Reads.val (v := .int .u32 b) rfl (fun wc hC => ?_) ?_
  · have x : wc.cell? ⟨g, o + 3, none⟩ = some (.int .u32 b) := hC 3 (show 3 < 7 by decide)
    go_simp
  refine Reads.go fun K hK => ?_
  go_simp
  refine hK _ ?_
  clear hK K
  refine Reads.val (v := .slice (some ⟨g, o, none⟩) 7 c) rfl (fun wc hC => ?_) ?_
  · go_simp
  refine Reads.go fun K hK => ?_
  go_simp
  refine hK _ ?_
  clear hK K
  refine Reads.val (v := .pointer (some ⟨g, o + 4, none⟩)) rfl (fun wc hC => ?_) ?_
  · go_simp
  refine Reads.go fun K hK => ?_
  go_simp
  refine hK _ ?_
  clear hK K
  refine Reads.val (v := .int .u32 cc) rfl (fun wc hC => ?_) ?_
  · have x : wc.cell? ⟨g, o + 4, none⟩ = some (.int .u32 cc) := hC 4 (show 4 < 7 by decide)
    go_simp
  refine Reads.go fun K hK => ?_
  go_simp
  refine hK _ ?_
  clear hK K
  refine Reads.val (v := .slice (some ⟨g, o, none⟩) 7 c) rfl (fun wc hC => ?_) ?_
  · go_simp
  refine Reads.go fun K hK => ?_
  go_simp
  refine hK _ ?_
  clear hK K
  refine Reads.val (v := .pointer (some ⟨g, o + 5, none⟩)) rfl (fun wc hC => ?_) ?_
  · go_simp
  refine Reads.go fun K hK => ?_
  go_simp
  refine hK _ ?_
  clear hK K
  refine Reads.val (v := .int .u32 d) rfl (fun wc hC => ?_) ?_
  · have x : wc.cell? ⟨g, o + 5, none⟩ = some (.int .u32 d) := hC 5 (show 5 < 7 by decide)
    go_simp
  refine Reads.go fun K hK => ?_
  go_simp
  refine hK _ ?_
  clear hK K
  refine Reads.val (v := .agg #[.int .u32 a, .int .u32 b, .int .u32 cc, .int .u32 d]) rfl (fun wc hC => ?_) ?_
  · go_simp
  refine Reads.go fun K hK => ?_
  go_simp
  refine hK _ ?_
  clear hK K
  refine Reads.val (v := .agg (pgV ⟨s, q, gg, a, b, cc, d⟩)) rfl (fun wc hC => ?_) ?_
  · go_simp
  refine Reads.go fun K hK => ?_
  go_simp
  refine hK _ ?_
  clear hK K
  show wpListR _ _ _ _ _ _ _
  obtain ⟨hkw, hwd, hrb⟩ := HK.out
  have hk2 := hkw.drew.push (.cells (pgV Pg.z) 50)
  have hwd2 : WordsAt (w1.drew.alloc (.cells (pgV Pg.z) 50)) g o [A, q, a, b, cc, d, 1526644958] := WordsAt.below (w := w1.drew) hwd ((Below.refl _ _).alloc (Nat.le_refl _) _)
  refine wpListR_val (v := .pointer (some ⟨w1.drew.heap.size, 0, none⟩)) (w' := w1.drew.alloc (.cells (pgV Pg.z) 50)) rfl (by go_simp) hwd2 ?_
  generalize World.alloc w1.drew _ = w2 at hk2 hwd2 ⊢
  generalize w1.drew.heap.size = nb at hk2 ⊢
  refine ListR.go fun K hK => ?_
  go_simp
  refine hK _ _ ?_
  clear hK K
  have hs := Mem.run_storeAt_part (P := Tryz.prog) (ty := 50) (g := nb) (o := 0) (vs := pgV ⟨s, q, gg, a, b, cc, d⟩) (new := pgV ⟨s, q, gg, a, b, cc, d⟩) (hk2.get List.mem_cons_self) (by rw [size50]; rfl) (by show 0 + 7 ≤ 7; decide) rfl rfl rfl
  have hk3 := hk2.row (vs := pgV ⟨s, q, gg, a, b, cc, d⟩)
  have hwd3 : WordsAt (w2.setRow nb (pgV ⟨s, q, gg, a, b, cc, d⟩)) g o [A, q, a, b, cc, d, 1526644958] := H.out.2.2.2.2.2.below (by rw [hrb]; exact hk3.bel)
  refine wpListR_skip rfl (Mem.ex_store (v := .agg (pgV ⟨s, q, gg, a, b, cc, d⟩)) rfl (by go_simp) (by go_simp) hs) hwd3 ?_
  clear hs hk2 hwd2 hkw hwd HK
  generalize World.setRow w2 _ _ = w3 at hk3 hwd3 ⊢
  refine ListR.go fun K hK => ?_
  go_simp
  refine hK _ _ ?_
  clear hK K
  refine wpListR_nil ?_
  have hnb := hk3.get (g := nb) (o := .cells (pgV ⟨s, q, gg, a, b, cc, d⟩) 50) (by simp)
  have z0 : w3.cell? ⟨nb, 0, none⟩ = some (.int .u32 s) := cell_at hnb 0
  have z1 : w3.cell? ⟨nb, 1, none⟩ = some (.int .u32 q) := cell_at hnb 1
  have z2 : w3.cell? ⟨nb, 2, none⟩ = some (.bool gg) := cell_at hnb 2
  have z3 : w3.cell? ⟨nb, 3, none⟩ = some (.int .u32 a) := cell_at hnb 3
  have z4 : w3.cell? ⟨nb, 4, none⟩ = some (.int .u32 b) := cell_at hnb 4
  have z5 : w3.cell? ⟨nb, 5, none⟩ = some (.int .u32 cc) := cell_at hnb 5
  have z6 : w3.cell? ⟨nb, 6, none⟩ = some (.int .u32 d) := cell_at hnb 6
  have hw := words103 ⟨s, q, gg, a, b, cc, d⟩ H.out.2.2.2.1 w3
  have HK := _root_.Go.Lib.hid (And.intro hk3 (And.intro hrb hw))
  clear hk3 hwd3 hrb hw hnb e1 e2 e3 e4 HH
  go_upto_region 6 with fail
  go_wp2_with (go_at_call 103; refine HK.out.2.2.mono ?_; rintro e w4 ⟨g7, rfl, hg7, hrow, hb4⟩)
  have hk4 := KW.fresh HK.out.1 hb4 hg7 hrow
  have hs := same101 (c1 := 7) (c2 := c) (n := 7) (WordsAt.row (sp := #[]) hrow) (L := pgW ⟨s, q, gg, a, b, cc, d⟩) (g2 := g) (o2 := o) (by rw [H.out.2.2.2.2.1]; exact H.out.2.2.2.2.2.below (by rw [HK.out.2.1]; exact hk4.bel)) rfl (by decide)
  have HS := _root_.Go.Lib.hid (And.intro hs hk4)
  clear hs hk4 hrow hb4 hg7 z0 z1 z2 z3 z4 z5 z6
  refine HS.out.1.mono ?_
  rintro e w5 ⟨rfl, hb5⟩
  have hk5 := HS.out.2.grown hb5
  have hnb := hk5.get (g := nb) (o := .cells (pgV ⟨s, q, gg, a, b, cc, d⟩) 50) (by simp)
  have hr := hk5.get (g := rb) (o := .cells (pgV Pg.z) 50) (by simp)
  have y0 : w5.cell? ⟨nb, 0, none⟩ = some (.int .u32 s) := cell_at hnb 0
  have y1 : w5.cell? ⟨nb, 1, none⟩ = some (.int .u32 q) := cell_at hnb 1
  have y2 : w5.cell? ⟨nb, 2, none⟩ = some (.bool gg) := cell_at hnb 2
  have y3 : w5.cell? ⟨nb, 3, none⟩ = some (.int .u32 a) := cell_at hnb 3
  have y4 : w5.cell? ⟨nb, 4, none⟩ = some (.int .u32 b) := cell_at hnb 4
  have y5 : w5.cell? ⟨nb, 5, none⟩ = some (.int .u32 cc) := cell_at hnb 5
  have y6 : w5.cell? ⟨nb, 6, none⟩ = some (.int .u32 d) := cell_at hnb 6
  have r0 : w5.cell? ⟨rb, 0, none⟩ = some (.int .u32 0) := cell_at hr 0
  have r1 : w5.cell? ⟨rb, 1, none⟩ = some (.int .u32 0) := cell_at hr 1
  have r2 : w5.cell? ⟨rb, 2, none⟩ = some (.bool false) := cell_at hr 2
  have r3 : w5.cell? ⟨rb, 3, none⟩ = some (.int .u32 0) := cell_at hr 3
  have r4 : w5.cell? ⟨rb, 4, none⟩ = some (.int .u32 0) := cell_at hr 4
  have r5 : w5.cell? ⟨rb, 5, none⟩ = some (.int .u32 0) := cell_at hr 5
  have r6 : w5.cell? ⟨rb, 6, none⟩ = some (.int .u32 0) := cell_at hr 6
  have f0 : w5.frozen? ⟨rb, 0, none⟩ = false := free_at hr 0
  have f1 : w5.frozen? ⟨rb, 1, none⟩ = false := free_at hr 1
  have f2 : w5.frozen? ⟨rb, 2, none⟩ = false := free_at hr 2
  have f3 : w5.frozen? ⟨rb, 3, none⟩ = false := free_at hr 3
  have f4 : w5.frozen? ⟨rb, 4, none⟩ = false := free_at hr 4
  have f5 : w5.frozen? ⟨rb, 5, none⟩ = false := free_at hr 5
  have f6 : w5.frozen? ⟨rb, 6, none⟩ = false := free_at hr 6
  have H5 := _root_.Go.Lib.hid hk5
  clear hk5 hnb hr hb5
  go_wp2_with fail
  have h6 := set7 [(g7, .cells (ints .u32 (pgW ⟨s, q, gg, a, b, cc, d⟩)) 38), (nb, .cells (pgV ⟨s, q, gg, a, b, cc, d⟩) 50)] [] (p' := ⟨s, q, gg, a, b, cc, d⟩) H5.out
  generalize World.setCell _ _ _ = w6 at h6 ⊢
  have hr := h6.get (g := rb) (o := .cells (pgV ⟨s, q, gg, a, b, cc, d⟩) 50) (by simp)
  refine bodyPost_ret (v := .tuple #[.agg (pgV ⟨s, q, gg, a, b, cc, d⟩), .int .i64 1]) (results62 rfl rfl hr) rfl ?_
  exact ⟨rfl, by rw [HK.out.2.1]; exact h6.bel⟩
set_option maxRecDepth 100000 in
theorem read62_free {w : World} {g o c : Nat} (h : WordsAt w g o (List.replicate 7 4294967295)) (hc : 7 ≤ c) : Calls Tryz.prog 62 #[.slice (some ⟨g, o, none⟩) 7 c] w fun e w' => e = .returned (.tuple #[.agg (pgV Pg.z), .int .i64 0]) ∧ Below w.heap.size w w' := by
  have hk := (KW.start (Below.refl w.heap.size w) (Nat.le_refl _)).push (.cells (pgV Pg.z) 50)
  have hb := (Below.refl w.heap.size w).alloc (Nat.le_refl _) (.cells (pgV Pg.z) 50)
  have hf := free100_yes (h.below hb) (by decide) hc
  have hr := hk.get (g := w.heap.size) (o := .cells (pgV Pg.z) 50) (by simp)
  have H := _root_.Go.Lib.hid (And.intro hf (And.intro hk hr))
  clear h hf hk hb hr
  go_enter Tryz.func62, Tryz.ntmps62
  go_upto_region 4 with (go_at_call 100; refine H.out.1.mono ?_; rintro e w' ⟨rfl, rfl⟩)
  obtain ⟨_, hk, hr⟩ := H.out
  clear H
  generalize World.alloc w _ = w1 at hk hr ⊢
  generalize hrb : w.heap.size = rb at hk hr ⊢
  have r0 : w1.cell? ⟨rb, 0, none⟩ = some (.int .u32 0) := cell_at hr 0
  have r1 : w1.cell? ⟨rb, 1, none⟩ = some (.int .u32 0) := cell_at hr 1
  have r2 : w1.cell? ⟨rb, 2, none⟩ = some (.bool false) := cell_at hr 2
  have r3 : w1.cell? ⟨rb, 3, none⟩ = some (.int .u32 0) := cell_at hr 3
  have r4 : w1.cell? ⟨rb, 4, none⟩ = some (.int .u32 0) := cell_at hr 4
  have r5 : w1.cell? ⟨rb, 5, none⟩ = some (.int .u32 0) := cell_at hr 5
  have r6 : w1.cell? ⟨rb, 6, none⟩ = some (.int .u32 0) := cell_at hr 6
  have f0 : w1.frozen? ⟨rb, 0, none⟩ = false := free_at hr 0
  have f1 : w1.frozen? ⟨rb, 1, none⟩ = false := free_at hr 1
  have f2 : w1.frozen? ⟨rb, 2, none⟩ = false := free_at hr 2
  have f3 : w1.frozen? ⟨rb, 3, none⟩ = false := free_at hr 3
  have f4 : w1.frozen? ⟨rb, 4, none⟩ = false := free_at hr 4
  have f5 : w1.frozen? ⟨rb, 5, none⟩ = false := free_at hr 5
  have f6 : w1.frozen? ⟨rb, 6, none⟩ = false := free_at hr 6
  have H := _root_.Go.Lib.hid (And.intro hk hrb)
  clear hk hr hrb
  go_wp2_with fail
  have h6 := set7 [] [] (p' := Pg.z) H.out.1
  generalize World.setCell _ _ _ = w6 at h6 ⊢
  have hr := h6.get (g := rb) (o := .cells (pgV Pg.z) 50) (by simp)
  refine bodyPost_ret (v := .tuple #[.agg (pgV Pg.z), .int .i64 0]) (results62 rfl rfl hr) rfl ?_
  exact ⟨rfl, by rw [H.out.2]; exact h6.bel⟩
end Go.Proofs.YtlcbilknfjdceaaGreatDoor
end
section
/-
  The reference: what is found in the words of a block.
-/
set_option linter.unusedVariables false
set_option linter.unusedSimpArgs false
namespace Go.Proofs.YtlcbilknfjdceaaGreatDoor
open Go.RowKit Go.Lib
theorem zero98 : ∀ w, (zeroValue 98).run Tryz.prog w = .ok (.agg (rbV zB)) w := fun w => by kernel_rfl
theorem size98 : (Tryz.prog.info? 98).map (·.size) = some 66 := by kernel_rfl
theorem fresh_cells98 (c : Int) : ((rbV zB).toList.set 0 (.int .i64 1)).set 1 (.int .u32 c) = (rbV (freshB c)).toList := by kernel_rfl
theorem load98 {b : Rb} (h : Rb8 b) {w : World} {g o : Nat} {t : TypeId} {fr : Nat × Nat} {cs : Array Value} (hg : w.heap[g]? = some (.cells cs t fr)) (hv : (cs.toList.drop o).take 66 = (rbV b).toList) : (Instr.loadAt 98 (.pointer (some ⟨g, o, none⟩))).run Tryz.prog w = .ok (.agg (rbV b)) w :=
  Mem.run_loadAt_part (by rfl) Tryz.underlying98 hg (by rw [size98, rbV_size h]) (by rw [rbV_size h]; exact hv)
theorem load98_0 {b : Rb} (h : Rb8 b) {w : World} {g : Nat} {t : TypeId} {fr : Nat × Nat} (hg : w.heap[g]? = some (.cells (rbV b) t fr)) : (Instr.loadAt 98 (.pointer (some ⟨g, 0, none⟩))).run Tryz.prog w = .ok (.agg (rbV b)) w :=
  load98 h hg (by rw [List.drop_zero, List.take_of_length_le (by rw [Array.length_toList, rbV_size h]; exact Nat.le_refl _)])
theorem store98 {b b' : Rb} (h : Rb8 b) (h' : Rb8 b') {w : World} {g : Nat} (hg : w.heap[g]? = some (.cells (rbV b) 98)) : (Instr.storeAt 98 (.pointer (some ⟨g, 0, none⟩)) (.agg (rbV b'))).run Tryz.prog w = .ok () (w.setRow g (rbV b')) :=
  Mem.run_storeAt_part hg (by rw [size98, rbV_size h']) (by rw [rbV_size h, rbV_size h']; decide) (rbV_one b') (by
    rw [List.take_zero, List.nil_append, List.drop_of_length_le (by rw [Array.length_toList, rbV_size h, rbV_size h']; decide), List.append_nil, Array.toArray_toList]) rfl
theorem cells98 {b' : Rb} (h' : Rb8 b') {l : List Value} (hl : l = (rbV b').toList) (w : World) : Sem.run Tryz.prog (storeCells ⟨w.heap.size, 0, none⟩ l) (w.alloc (.cells (rbV zB) 98)) = .ok () ((w.alloc (.cells (rbV zB) 98)).setRow w.heap.size (rbV b')) := by
  have hst := run_storeCells_at Tryz.prog w.heap.size 0 98 (rbV b').toList 0 (rbV zB) (w.alloc (.cells (rbV zB) 98)) (heap_alloc_new w _) (by rw [Array.length_toList, rbV_size h', rbV_size zB8]; decide) (fun v hv => List.all_eq_true.1 (rbV_one b') v hv)
  rw [hl, hst]
  congr 2
  rw [List.take_zero, List.nil_append, List.drop_of_length_le (by rw [Array.length_toList, Array.length_toList, rbV_size h', rbV_size zB8]; decide), List.append_nil, Array.toArray_toList]
/-- A block as it is found, up to some page. -/
def blkTo (b : Rb) : Nat → Rb
  | 0 => freshB b.count
  | i + 1 => { blkTo b i with kinds := (blkTo b i).kinds.set i (b.kinds.getD i 0), pages := (blkTo b i).pages.set i (b.pages.getD i Pg.z) }
theorem blkTo8 (b : Rb) : ∀ i, Rb8 (blkTo b i)
  | 0 => ⟨rfl, rfl⟩
  | i + 1 => ⟨by show ((blkTo b i).kinds.set i _).length = 8; rw [List.length_set]; exact (blkTo8 b i).k8, by show ((blkTo b i).pages.set i _).length = 8; rw [List.length_set]; exact (blkTo8 b i).p8⟩
theorem blkTo_kind (b : Rb) : ∀ i j, j < 8 → (blkTo b i).kinds.getD j 0 = if j < i then b.kinds.getD j 0 else 0
  | 0, j, h => by rw [if_neg (by omega)]; exact (fresh_k j h).1
  | i + 1, j, h => by
    show ((blkTo b i).kinds.set i _).getD j 0 = _
    rw [getD_setG, (blkTo8 b i).k8, blkTo_kind b i j h]
    by_cases e : i = j
    · rw [if_pos ⟨e, h⟩, if_pos (by omega), e]
    · rw [if_neg (fun hh => e hh.1)]
      by_cases e2 : j < i
      · rw [if_pos e2, if_pos (by omega)]
      · rw [if_neg e2, if_neg (by omega)]
theorem blkTo_page (b : Rb) : ∀ i j, j < 8 → (blkTo b i).pages.getD j Pg.z = if j < i then b.pages.getD j Pg.z else Pg.z
  | 0, j, h => by rw [if_neg (by omega)]; exact (fresh_k j h).2
  | i + 1, j, h => by
    show ((blkTo b i).pages.set i _).getD j Pg.z = _
    rw [getD_setG, (blkTo8 b i).p8, blkTo_page b i j h]
    by_cases e : i = j
    · rw [if_pos ⟨e, h⟩, if_pos (by omega), e]
    · rw [if_neg (fun hh => e hh.1)]
      by_cases e2 : j < i
      · rw [if_pos e2, if_pos (by omega)]
      · rw [if_neg e2, if_neg (by omega)]
theorem blkTo_head (b : Rb) : ∀ i, (blkTo b i).head = 1 ∧ (blkTo b i).count = b.count
  | 0 => ⟨rfl, rfl⟩
  | i + 1 => blkTo_head b i
theorem ext8 {α : Type} {l l' : List α} {d : α} (h : l.length = 8) (h' : l'.length = 8) (e : ∀ j, j < 8 → l.getD j d = l'.getD j d) : l = l' := by
  apply List.ext_getElem?
  intro i
  by_cases hi : i < 8
  · have := e i hi
    rw [List.getD_eq_getElem?_getD, List.getD_eq_getElem?_getD, List.getElem?_eq_getElem (by omega), List.getElem?_eq_getElem (by omega)] at this
    rw [List.getElem?_eq_getElem (by omega), List.getElem?_eq_getElem (by omega)]
    exact congrArg some this
  · rw [List.getElem?_eq_none (by omega), List.getElem?_eq_none (by omega)]
theorem blkTo_all {b : Rb} (h : Rest b) (h1 : b.head = 1) : blkTo b 8 = b := by
  have e1 := blkTo_head b 8
  have e2 := ext8 (blkTo8 b 8).k8 h.k8 (fun j hj => (blkTo_kind b 8 j hj).trans (if_pos hj))
  have e3 := ext8 (blkTo8 b 8).p8 h.p8 (fun j hj => (blkTo_page b 8 j hj).trans (if_pos hj))
  generalize blkTo b 8 = x at *
  obtain ⟨a, c, ks, ps⟩ := x
  obtain ⟨a', c', ks', ps'⟩ := b
  simp only at e1 e2 e3 h1
  rw [e1.1, e1.2, e2, e3, h1]
theorem encB_part {b : Rb} (h : Rest b) (h1 : b.head = 1) {i : Nat} (hi : i < 8) : ((encB b).drop (4 + 7 * i)).take 7 = encP (b.kinds.getD i 0) (b.pages.getD i Pg.z) := by
  apply List.ext_getElem?
  intro j
  by_cases hj : j < 7
  · have e := encB_page h h1 i j hi hj
    rw [List.getElem?_take, if_pos hj, List.getElem?_drop]
    rw [List.getD_eq_getElem?_getD, List.getD_eq_getElem?_getD, List.getElem?_eq_getElem (by rw [encB_len h]; omega), List.getElem?_eq_getElem (by rw [encP_len]; exact hj)] at e
    rw [show 4 + 7 * i + j = 4 + (7 * i + j) by omega, List.getElem?_eq_getElem (by rw [encB_len h]; omega), List.getElem?_eq_getElem (by rw [encP_len]; exact hj)]
    exact congrArg some e
  · rw [List.getElem?_eq_none (by rw [List.length_take]; omega), List.getElem?_eq_none (by rw [encP_len]; omega)]
theorem encB_top {b : Rb} (h : Rest b) (h1 : b.head = 1) : (encB b).take 4 = hdW b.count := by
  unfold encB
  rw [if_pos h1]
  rfl
theorem read62 {w : World} {g o c : Nat} {b : Rb} (h : Rest b) (h1 : b.head = 1) {i : Nat} (hi : i < 8) (hc : 7 ≤ c) (hw : WordsAt w g o (encP (b.kinds.getD i 0) (b.pages.getD i Pg.z))) : Calls Tryz.prog 62 #[.slice (some ⟨g, o, none⟩) 7 c] w fun e w' => e = .returned (.tuple #[.agg (pgV (b.pages.getD i Pg.z)), .int .i64 (b.kinds.getD i 0)]) ∧ Below w.heap.size w w' := by
  rcases h.pg i hi with ⟨hk, hp, _⟩ | ⟨hk, hp, _⟩ | ⟨_, _, hh⟩
  · rw [hk] at hw ⊢
    rw [hp] at hw ⊢
    exact read62_free hw hc
  · rw [hk] at hw ⊢
    exact read62_yes hw hp
  · omega
end Go.Proofs.YtlcbilknfjdceaaGreatDoor
end
section
/-
  The reference: a block.
-/
set_option linter.unusedVariables false
set_option linter.unusedSimpArgs false
namespace Go.Proofs.YtlcbilknfjdceaaGreatDoor
open Go.RowKit Go.Lib
theorem results31 {tmps : Array Value} {w : World} {rb : Nat} {b : Rb} {t : TypeId} (h8 : Rb8 b) (h4 : tmps.getD 2 undef = .pointer (some ⟨rb, 0, none⟩)) (hg : w.heap[rb]? = some (.cells (rbV b) t)) :
    (results Tryz.f31 tmps).run Tryz.prog w = .ok (.agg (rbV b)) w := by
  have hl := load98_0 h8 hg
  rw [Array.getD_eq_getD_getElem?] at h4
  simp only [Instr.loadAt, Instr.sureAddr, pure_bind] at hl
  simp [results, h4, Result.andThen, asAddr, hl]
theorem len7 {a : Option Addr} {m c : Nat} {w : World} {R : Ending → World → Prop} (e : m = 7) (h : Calls Tryz.prog 62 #[.slice a 7 c] w R) : Calls Tryz.prog 62 #[.slice a m c] w R := by rw [e]; exact h
set_option maxHeartbeats 600000 in
set_option maxRecDepth 100000 in
theorem block31 {w : World} {g o c : Nat} {b : Rb} (h : Rest b) (h1 : b.head = 1) (hc : 64 ≤ c) (hw : WordsAt w g o (encB b)) : Calls Tryz.prog 31 #[.slice (some ⟨g, o, none⟩) 64 c] w fun e w' => e = .returned (.agg (rbV b)) ∧ Below w.heap.size w w' := by
  have hz := zero98
  have hk := (KW.start (Below.refl w.heap.size w) (Nat.le_refl _)).push (.cells (rbV zB) 98)
  have hb := (Below.refl w.heap.size w).alloc (Nat.le_refl _) (.cells (rbV zB) 98)
  have hwb := hw.below hb
  have hw4 : WordsAt (w.alloc (.cells (rbV zB) 98)) g o (hdW b.count) := by
    have := hwb.part 0 4 (by rw [encB_len h]; decide)
    rw [List.drop_zero, encB_top h h1, Nat.add_zero] at this
    exact this
  have hcn := count61_yes (c := c) hw4 ⟨h.c0, h.c1⟩
  have H := _root_.Go.Lib.hid (And.intro hcn (And.intro hk (And.intro hw (And.intro h h1))))
  obtain ⟨n, hn⟩ : ∃ n, n = b.count := ⟨_, rfl⟩
  rw [← hn] at hcn
  have HC := _root_.Go.Lib.hid (And.intro hcn hn)
  have hc4 : (4 : Int) ≤ (c : Int) := by omega
  clear hk hb hwb hw4 hcn hw h h1 hn
  go_enter Tryz.func31, Tryz.ntmps31
  go_upto_region 2 with (go_at_call 61; refine HC.out.1.mono ?_; rintro e w1 ⟨rfl, hb1⟩)
  have hk := H.out.2.1.grown hb1
  have hn := HC.out.2
  obtain ⟨fb, hfb⟩ : ∃ fb : Rb, fb = freshB n := ⟨_, rfl⟩
  have h8f : Rb8 fb := by rw [hfb]; exact fresh8 n
  have hcl : ((rbV zB).toList.set 0 (.int .i64 1)).set 1 (.int .u32 n) = (rbV fb).toList := by rw [hfb]; exact fresh_cells98 n
  have hst := cells98 h8f hcl w1
  have hk2 := (hk.push (.cells (rbV zB) 98)).row (vs := rbV fb)
  have HK := _root_.Go.Lib.hid (And.intro hk2 (show fb = blkTo b 0 by rw [hfb, hn]; rfl))
  clear hk hn hfb h8f hcl hk2 hb1 HC
  go_upto_region 3 with fail
  clear hst
  obtain ⟨hk2, hfb⟩ := HK.out
  clear HK
  generalize World.setRow _ _ _ = w2 at hk2 ⊢
  generalize w1.heap.size = nb at hk2 ⊢
  generalize hrb : w.heap.size = rb at hk2 ⊢
  have HB := _root_.Go.Lib.hid hrb
  rw [hfb] at hk2
  clear hrb hfb hz hc4
  have hcz : (64 : Int) ≤ (c : Int) := by omega
  go_wp2_with fail
  go_loopg [6] 8 (fun k s6 wr => ∃ i : Nat, i + k = 8 ∧ s6 = .int .i64 (i : Int) ∧ KW rb w [(nb, .cells (rbV (blkTo b i)) 98), (rb, .cells (rbV zB) 98)] wr)
  case atStart => exact ⟨0, by omega, rfl, hk2⟩
  case round =>
    clear hk2
    obtain ⟨i, hik, rfl, hk⟩ := hrel
    by_cases hi : i < 8
    · have h8i := blkTo8 b i
      have hbs : ({ blkTo b i with kinds := (blkTo b i).kinds.set i (b.kinds.getD i 0), pages := (blkTo b i).pages.set i (b.pages.getD i Pg.z) } : Rb) = blkTo b (i + 1) := rfl
      generalize blkTo b i = bi at *
      obtain ⟨bj, hbj⟩ : ∃ bj, bj = blkTo b (i + 1) := ⟨_, rfl⟩
      rw [← hbj] at hbs
      have HJ := _root_.Go.Lib.hid hbj
      clear hbj
      have hg := hk.get (g := nb) (o := .cells (rbV bi) 98) (by simp)
      have y0 : wr.cell? ⟨nb, 2 + i, none⟩ = some (.int .i64 (bi.kinds.getD i 0)) := by rw [cell_at hg (2 + i)]; exact rbV_kind h8i.k8 i hi
      have f0 : wr.frozen? ⟨nb, 2 + i, none⟩ = false := free_at hg (2 + i)
      have hk3 := hk.cell (i := 2 + i) (x := .int .i64 2) (vs := rbV { bi with kinds := bi.kinds.set i 2 }) (rbV_set h8i.k8 hi 2)
      have HK := _root_.Go.Lib.hid (And.intro hk3 (And.intro h8i (And.intro hbs hik)))
      clear hk hg hk3 h8i hbs hik
      go_upto_region 8 with fail
      obtain ⟨hk3, h8i, hbs, hik⟩ := HK.out
      clear HK y0 f0
      generalize World.setCell wr _ _ = w3 at hk3 ⊢
      have hwp : WordsAt w3 g (o + (4 + 7 * i)) (encP (b.kinds.getD i 0) (b.pages.getD i Pg.z)) := by
        have h0 : WordsAt w3 g o (encB b) := H.out.2.2.1.below (by rw [HB.out]; exact hk3.bel)
        have := h0.part (4 + 7 * i) 7 (by rw [encB_len H.out.2.2.2.1]; omega)
        rw [encB_part H.out.2.2.2.1 H.out.2.2.2.2 hi] at this
        exact this
      have hR := read62 (c := c - (4 + 7 * i)) H.out.2.2.2.1 H.out.2.2.2.2 hi (by omega) hwp
      have hR := len7 (show 11 + 7 * i - (4 + 7 * i) = 7 by omega) hR
      clear hwp
      generalize b.kinds.getD i 0 = kq at hR hbs
      generalize b.pages.getD i Pg.z = q at hR hbs
      have HR := _root_.Go.Lib.hid (And.intro hR (And.intro hk3 (And.intro h8i (And.intro hbs hik))))
      clear hR hk3 h8i hbs hik
      go_upto_region 9 with (go_at_call 62; refine HR.out.1.mono ?_; rintro e w4 ⟨rfl, hb4⟩)
      obtain ⟨_, hk3, h8i, hbs, hik⟩ := HR.out
      have hk4 := (hk3.grown hb4).push (.cells (pgV q) 50)
      clear hk3 hb4 HR
      generalize World.alloc w4 _ = w5 at hk4 ⊢
      generalize w4.heap.size = tb at hk4 ⊢
      obtain ⟨b2, hb2⟩ : ∃ b2 : Rb, b2 = { bi with kinds := bi.kinds.set i 2 } := ⟨_, rfl⟩
      rw [← hb2] at hk4
      have hk28 : b2.kinds.length = 8 := by rw [hb2]; show (bi.kinds.set i 2).length = 8; rw [List.length_set]; exact h8i.k8
      have hg := hk4.get (g := nb) (o := .cells (rbV b2) 98) (by simp)
      have y0 : w5.cell? ⟨nb, 2 + i, none⟩ = some (.int .i64 (b2.kinds.getD i 0)) := by rw [cell_at hg (2 + i)]; exact rbV_kind hk28 i hi
      have f0 : w5.frozen? ⟨nb, 2 + i, none⟩ = false := free_at hg (2 + i)
      have hk5 := KW.cellAt [(tb, .cells (pgV q) 50)] [(rb, .cells (rbV zB) 98)] (g := nb) (i := 2 + i) (x := .int .i64 kq) (vs := rbV { b2 with kinds := b2.kinds.set i kq }) hk4 (rbV_set hk28 hi kq)
      have H5 := _root_.Go.Lib.hid (And.intro hk5 (And.intro h8i (And.intro hbs (And.intro hik (And.intro hb2 hk28)))))
      clear hk4 hk5 h8i hbs hik hb2 hk28 hg
      go_upto_region 10 with fail
      obtain ⟨hk5, h8i, hbs, hik, hb2, hk28⟩ := H5.out
      clear H5 y0 f0
      generalize World.setCell w5 _ _ = w6 at hk5 ⊢
      have htb := hk5.get (g := tb) (o := .cells (pgV q) 50) (by simp)
      have z0 : w6.cell? ⟨tb, 0, none⟩ = some (.int .u32 q.sec) := cell_at htb 0
      have z1 : w6.cell? ⟨tb, 1, none⟩ = some (.int .u32 q.seq) := cell_at htb 1
      have z2 : w6.cell? ⟨tb, 2, none⟩ = some (.bool q.gone) := cell_at htb 2
      have z3 : w6.cell? ⟨tb, 3, none⟩ = some (.int .u32 q.d0) := cell_at htb 3
      have z4 : w6.cell? ⟨tb, 4, none⟩ = some (.int .u32 q.d1) := cell_at htb 4
      have z5 : w6.cell? ⟨tb, 5, none⟩ = some (.int .u32 q.d2) := cell_at htb 5
      have z6 : w6.cell? ⟨tb, 6, none⟩ = some (.int .u32 q.d3) := cell_at htb 6
      have e3 : ({ b2 with kinds := b2.kinds.set i kq } : Rb) = { bi with kinds := bi.kinds.set i kq } := by rw [hb2]; simp only [List.set_set]
      rw [e3] at hk5
      have h83 : Rb8 { bi with kinds := bi.kinds.set i kq } := ⟨by show (bi.kinds.set i kq).length = 8; rw [List.length_set]; exact h8i.k8, h8i.p8⟩
      have hbs' : ({ ({ bi with kinds := bi.kinds.set i kq } : Rb) with pages := ({ bi with kinds := bi.kinds.set i kq } : Rb).pages.set i q } : Rb) = bj := hbs
      generalize ({ bi with kinds := bi.kinds.set i kq } : Rb) = b3 at hk5 h83 hbs'
      have hs : (Instr.storeAt 50 (.pointer (some ⟨nb, 10 + i * 7, none⟩)) (.agg (pgV q))).run Tryz.prog w6 = .ok () (w6.setRow nb (rbV bj)) :=
        Mem.run_storeAt_part (hk5.get (g := nb) (o := .cells (rbV b3) 98) (by simp)) (by rw [size50]; rfl) (by rw [rbV_size h83]; show 10 + i * 7 + 7 ≤ 66; omega) rfl (by
          rw [show 10 + i * 7 = 10 + 7 * i by omega, rbV_part h83 hi q, hbs', Array.toArray_toList]) rfl
      have hk6 := KW.rowAt [(tb, .cells (pgV q) 50)] [(rb, .cells (rbV zB) 98)] (g := nb) (vs := rbV bj) hk5
      have H6 := _root_.Go.Lib.hid (And.intro hs (And.intro hk6 hik))
      clear hs hk5 hk6 h8i hbs hik hb2 hk28 htb e3 h83 hbs'
      go_wp2_with ((with_reducible apply Mem.st 50); rfl; rfl; exact H6.out.1)
      obtain ⟨_, hk6, hik⟩ := H6.out
      clear H6
      go_roundg (8 - (i + 1))
      case measure => omega
      case rel =>
        refine ⟨i + 1, by omega, by first | rfl | go_num, ?_⟩
        rw [← HJ.out]
        exact hk6.tail
    · have e : i = 8 := by omega
      subst e
      rw [blkTo_all H.out.2.2.2.1 H.out.2.2.2.2] at hk
      have h8b : Rb8 b := ⟨H.out.2.2.2.1.k8, H.out.2.2.2.1.p8⟩
      have hld := load98_0 h8b (hk.get (g := nb) (o := .cells (rbV b) 98) (by simp))
      have hst := store98 zB8 h8b (hk.get (g := rb) (o := .cells (rbV zB) 98) (by simp))
      have hk2 := KW.rowAt [(nb, .cells (rbV b) 98)] [] (g := rb) (vs := rbV b) hk
      have HE := _root_.Go.Lib.hid (And.intro hld (And.intro hst (And.intro hk2 h8b)))
      clear hld hst hk2 h8b hk
      go_wp2_with (first | ((with_reducible apply Mem.ld 98); rfl; exact HE.out.1) | ((with_reducible apply Mem.st 98); rfl; rfl; exact HE.out.2.1))
      obtain ⟨_, _, hk2, h8b⟩ := HE.out
      clear HE
      generalize World.setRow wr _ _ = w9 at hk2 ⊢
      have hg := hk2.get (g := rb) (o := .cells (rbV b) 98) (by simp)
      refine bodyPost_ret (v := .agg (rbV b)) ?_ rfl ?_
      exact results31 h8b rfl hg
      exact ⟨rfl, by rw [HB.out]; exact hk2.bel⟩
end Go.Proofs.YtlcbilknfjdceaaGreatDoor
end
section
/-
  The reference: what stands on the flash.
-/
set_option linter.unusedVariables false
set_option linter.unusedSimpArgs false
namespace Go.Proofs.YtlcbilknfjdceaaGreatDoor
open Go.RowKit Go.Lib
theorem info98 : (Tryz.prog.info? 98).map (fun i => (i.zero, i.size, i.bytes)) = some (some (.agg (rbV zB)), 66, 304) := by kernel_rfl
theorem bs98 {b : Rb} (h : Rb8 b) (w : World) : (Instr.buildSlice 44 1 #[(0, .agg (rbV b))]).run Tryz.prog w = .ok (.slice (some ⟨w.heap.size, 0, none⟩) 1 1) (w.alloc (.cells (rbV b) 98)) := by
  obtain ⟨i0, hi, hz0, hz1, hz2⟩ := info_parts info98
  exact run_buildSlice w 44 98 1 _ (rbV b) i0 _ Tryz.underlying44 hi hz0 (by rw [hz1]; decide) (by rw [hz1]; decide) (by rw [hz1]; exact fill_one h)
theorem take_snoc (bs : List Rb) {i : Nat} (hi : i < bs.length) : bs.take (i + 1) = bs.take i ++ [bs.getD i default] := by
  rw [List.take_succ_eq_append_getElem hi, List.getD_eq_getElem?_getD, List.getElem?_eq_getElem hi]
  rfl
theorem WordsAt.block {w : World} {g : Nat} {bs : List Rb} (h : WordsAt w g 0 (encW bs)) (hb : Rests bs) {i : Nat} (hi : i < 5) : WordsAt w g (64 * i) (encB (bs.getD i default)) := by
  intro j hj
  have hj64 : j < 64 := by rw [encB_len (hb.at hi)] at hj; exact hj
  have := h (64 * i + j) (by rw [encW_len hb]; omega)
  rw [Nat.zero_add, encW_at hb i j hi hj64] at this
  exact this
theorem len64 {a : Option Addr} {m c : Nat} {w : World} {R : Ending → World → Prop} (e : m = 64) (h : Calls Tryz.prog 31 #[.slice a 64 c] w R) : Calls Tryz.prog 31 #[.slice a m c] w R := by rw [e]; exact h
set_option maxHeartbeats 600000 in
set_option maxRecDepth 100000 in
theorem words11 {w : World} {g c : Nat} {bs : List Rb} (hb : Rests bs) (h1 : Heads1 bs) (hc : 320 ≤ c) (hw : WordsAt w g 0 (encW bs)) : Calls Tryz.prog 11 #[.slice (some ⟨g, 0, none⟩) 320 c] w fun e w' => ∃ g' cap sp, e = .returned (.tuple #[.slice (some ⟨g', 0, none⟩) 5 cap, .int .i64 0]) ∧ 5 ≤ cap ∧ w.heap.size ≤ g' ∧ w'.heap[g']? = some (.cells (rowV bs ++ sp).toArray 98) ∧ Below w.heap.size w w' := by
  obtain ⟨i0, hi, hz0, hz1, hz2⟩ := info_parts info98
  have HI := _root_.Go.Lib.hid (And.intro hi (And.intro hz0 (And.intro hz1 hz2)))
  have H := _root_.Go.Lib.hid (And.intro hb (And.intro h1 hw))
  have hcz : (320 : Int) ≤ (c : Int) := by omega
  clear hb h1 hw hi hz0 hz1 hz2
  go_enter Tryz.func11, Tryz.ntmps11
  go_wp2_with fail
  go_loopg [5, 6] 5 (fun k s5 s6 wr => ∃ i : Nat, i + k = 5 ∧ s6 = .int .i64 (i : Int) ∧ KO w.heap.size w 98 66 s5 i (rowV (bs.take i)) [] wr)
  case atStart => exact ⟨0, by omega, rfl, KO.start (KW.start (Below.refl _ _) (Nat.le_refl _))⟩
  case round =>
    obtain ⟨i, hik, rfl, hko⟩ := hrel
    obtain ⟨vp, vc, rfl⟩ := hko.shape
    by_cases hi : i < 5
    · have hB := block31 (c := c - 64 * i) (H.out.1.at hi) (H.out.2.1 _ (by
        have hl : i < bs.length := by rw [H.out.1.1]; exact hi
        rw [List.getD_eq_getElem?_getD, List.getElem?_eq_getElem hl]
        exact List.getElem_mem hl)) (by omega) ((H.out.2.2.below hko.kw.bel).block H.out.1 hi)
      have hsn := take_snoc bs (i := i) (by rw [H.out.1.1]; exact hi)
      have h8 : Rb8 (bs.getD i default) := getD_rb8 H.out.1.rb8 (by rw [H.out.1.1]; exact hi)
      generalize bs.getD i default = b at *
      have HB := _root_.Go.Lib.hid (And.intro hB (And.intro hsn (And.intro h8 (And.intro hko hik))))
      clear hB hsn h8 hko hik
      go_wp2_with fail
      refine HB.out.1.mono ?_
      rintro e w1 ⟨rfl, hb1⟩
      have hk1 := HB.out.2.2.2.1.grown hb1
      have h8 := HB.out.2.2.1
      have hN : ∀ j u, (rbV b).toList[j]? = some u → (w1.alloc (.cells (rbV b) 98)).cell? ((⟨w1.heap.size, 0, none⟩ : Addr).add j) = some u := news_mid (off := 0) (m := 66) (heap_alloc_new w1 _) (by rw [List.drop_zero, List.take_of_length_le (by rw [Array.length_toList, rbV_size h8]; exact Nat.le_refl _)])
      have H1 := _root_.Go.Lib.hid (And.intro hk1 (And.intro hN (And.intro (show (rbV b).toList.length = 1 * 66 by rw [Array.length_toList, rbV_size h8]) (And.intro (fun u hu => List.all_eq_true.1 (rbV_one b) u hu) (bs98 h8 w1)))))
      clear hk1 hN h8 hb1
      go_wp2_with (first | (refine Mem.wpList_run rfl (ex_build (parts := #[(0, .tmp 35)]) rfl (qs := #[(0, .agg (rbV b))]) (by rw [List.map_toArray]; rfl) H1.out.2.2.2.2) ?_) | (at_builtin; refine wpList_append_ko rfl _ _ 44 rfl i0 _ 304 Tryz.underlying44 HI.out.1 HI.out.2.1 HI.out.2.2.1 HI.out.2.2.2 (rbV_size zB8) (by decide) rfl (H1.out.1.alloc _) ⟨_, 0, none⟩ 1 1 (rbV b).toList rfl H1.out.2.2.1 H1.out.2.1 H1.out.2.2.2.1 (by unfold maxLen; omega) (by omega) ?_))
      rintro v' w5 hk5 -
      have hk6 := hk5.drop
      obtain ⟨qp, qc, rfl⟩ := hk6.shape
      have H3 := _root_.Go.Lib.hid hk6
      clear hk5 hk6
      go_wp2_with fail
      go_roundg (5 - (i + 1))
      case measure => have := HB.out.2.2.2.2; omega
      case rel =>
        refine ⟨i + 1, by have := HB.out.2.2.2.2; omega, by first | rfl | go_num, ?_⟩
        have h9 := H3.out
        rw [HB.out.2.1, rowV_app]
        have e : rowV [b] = (rbV b).toList := by unfold rowV; simp
        rw [e]
        exact h9
    · have e : i = 5 := by omega
      subst e
      rw [List.take_of_length_le (by rw [H.out.1.1]; exact Nat.le_refl _)] at hko
      have HE := _root_.Go.Lib.hid hko
      clear hko
      go_wp2_with fail
      have hko := HE.out
      rcases hko.2 with ⟨_, h0, _⟩ | ⟨gt, tcap, cur, hv, hcap, hmax, hsz, htk, hkw⟩
      · omega
      · simp only [Value.slice.injEq] at hv
        obtain ⟨rfl, rfl⟩ : vp = some ⟨gt, 0, none⟩ ∧ vc = tcap := ⟨hv.1, hv.2.2⟩
        refine bodyPost_ret (v := .tuple #[.slice (some ⟨gt, 0, none⟩) 5 vc, .int .i64 0]) (by simp [results, Tryz.results11, Sem.run_bind, Result.andThen]) rfl ?_
        refine ⟨gt, vc, cur.toList.drop (5 * 66), rfl, hcap, (hkw.kept _ List.mem_cons_self).1, ?_, hkw.bel⟩
        have := hkw.get (g := gt) (o := .cells cur 98) List.mem_cons_self
        rw [this, ← htk, List.take_append_drop, Array.toArray_toList]
end Go.Proofs.YtlcbilknfjdceaaGreatDoor
end
section
/-
  The reference: all pages that count.
-/
set_option linter.unusedVariables false
set_option linter.unusedSimpArgs false
namespace Go.Proofs.YtlcbilknfjdceaaGreatDoor
open Go.RowKit Go.Lib
theorem info52 : (Tryz.prog.info? 52).map (fun i => (i.zero, i.size, i.bytes)) = some (some (.agg (pcV ⟨0, 0, Pg.z⟩)), 9, 48) := by kernel_rfl
abbrev row98 (bs : List Rb) (sp : List Value) : Obj := .cells (rowV bs ++ sp).toArray 98
theorem row98_at {bs : List Rb} (h : ∀ b ∈ bs, Rb8 b) {t : Nat} (ht : t < bs.length) {j : Nat} (hj : j < 66) (sp : List Value) {w : World} {g : Nat} (hg : w.heap[g]? = some (row98 bs sp)) : w.cell? ⟨g, t * 66 + j, none⟩ = (rbV (bs.getD t default))[j]? := by
  have e : (rbV (bs.getD t default))[j]? = (rbV (bs.getD t default)).toList[j]? := by simp
  rw [cell_at hg (t * 66 + j), e, ← rowV_at h ht sp, List.getElem?_take, if_pos hj, List.getElem?_drop]
  simp only [List.getElem?_toArray]
theorem row98p {bs : List Rb} (h : ∀ b ∈ bs, Rb8 b) {t : Nat} (ht : t < bs.length) {k : Nat} (hk : k < 8) {m : Nat} (hm : m < 7) (sp : List Value) {w : World} {g : Nat} (hg : w.heap[g]? = some (row98 bs sp)) : w.cell? ⟨g, t * 66 + 10 + k * 7 + m, none⟩ = (pgV ((bs.getD t default).pages.getD k Pg.z))[m]? := by
  rw [show t * 66 + 10 + k * 7 + m = t * 66 + (10 + 7 * k + m) by omega, row98_at h ht (by omega) sp hg]
  have e := congrArg (fun l => l[m]?) (rbV_page (getD_rb8 h ht) hk)
  rw [List.getElem?_take, if_pos hm, List.getElem?_drop] at e
  have e2 : ∀ q : Pg, (pgV q)[m]? = (pgV q).toList[m]? := fun q => by rw [Array.getElem?_toList]
  rw [e2, ← e, Array.getElem?_toList]
set_option maxHeartbeats 600000 in
set_option maxRecDepth 100000 in
theorem counts32 {B g cap : Nat} {W w : World} {K : Blocks} {bs : List Rb} {sp : List Value} (h : KW B W ((g, row98 bs sp) :: K) w) (hb : Rests bs) :
    Calls Tryz.prog 32 #[.slice (some ⟨g, 0, none⟩) 5 cap] w fun e w' => ∃ v, e = .returned v ∧ KO B W 52 9 v (allL bs).length (flatP (allL bs)) ((g, row98 bs sp) :: K) w' := by
  obtain ⟨i0, hi, hz0, hz1, hz2⟩ := info_parts info52
  have HI := _root_.Go.Lib.hid (And.intro hi (And.intro hz0 (And.intro hz1 hz2)))
  have HH := _root_.Go.Lib.hid (And.intro hb h)
  clear h hb hi hz0 hz1 hz2
  go_enter Tryz.func32, Tryz.ntmps32
  go_wp2_with fail
  go_loopg [3, 4] 5 (fun k s3 s4 wr => ∃ i : Nat, i + k = 5 ∧ s4 = .int .i64 (i : Int) ∧ KO B W 52 9 s3 (allI bs i).length (flatP (allI bs i)) ((g, row98 bs sp) :: K) wr)
  case atStart => exact ⟨0, by omega, rfl, KO.start HH.out.2⟩
  case round =>
    obtain ⟨i, hik, rfl, hko⟩ := hrel
    obtain ⟨vp, vc, rfl⟩ := hko.shape
    by_cases hi : i < 5
    · have HO := _root_.Go.Lib.hid (And.intro hko hik)
      have hi5 : (i : Int) < 5 := by omega
      clear hko hik
      go_wp2_with fail
      clear hi5
      go_loopg [3, 5] 8 (fun k s3 s5 wr => ∃ j : Nat, j + k = 8 ∧ s5 = .int .i64 (j : Int) ∧ KO B W 52 9 s3 (allI bs i ++ allK i (bs.getD i default) j).length (flatP (allI bs i ++ allK i (bs.getD i default) j)) ((g, row98 bs sp) :: K) wr)
      case atStart => exact ⟨0, by omega, rfl, by rw [allK, List.append_nil]; exact HO.out.1⟩
      case round =>
        obtain ⟨j, hjk, rfl, hko⟩ := hrel
        obtain ⟨l, hl⟩ : ∃ l, l = allI bs i ++ allK i (bs.getD i default) j := ⟨_, rfl⟩
        rw [← hl] at hko
        obtain ⟨n, hn⟩ : ∃ n, n = l.length := ⟨_, rfl⟩
        rw [← hn] at hko
        obtain ⟨vp2, vc2, rfl⟩ := hko.shape
        by_cases hj : j < 8
        · have hl5 : i < bs.length := by rw [HH.out.1.1]; exact hi
          have hg := hko.get (g := g) (o := row98 bs sp) (by simp)
          have k0 : wr.cell? ⟨g, i * 66 + 2 + j, none⟩ = some (.int .i64 ((bs.getD i default).kinds.getD j 0)) := by
            rw [Nat.add_assoc, row98_at HH.out.1.rb8 hl5 (by omega) sp hg]
            exact rbV_kind (getD_rb8 HH.out.1.rb8 hl5).k8 j hj
          obtain ⟨kq, hkq⟩ : ∃ kq, kq = (bs.getD i default).kinds.getD j 0 := ⟨_, rfl⟩
          rw [← hkq] at k0
          by_cases hk1 : kq = 1
          · rw [hk1] at k0
            obtain ⟨p, hpe⟩ : ∃ p, p = (bs.getD i default).pages.getD j Pg.z := ⟨_, rfl⟩
            have x0 : wr.cell? ⟨g, i * 66 + 10 + j * 7, none⟩ = some (.int .u32 p.sec) := by
              have := row98p HH.out.1.rb8 hl5 (k := j) hj (m := 0) (by decide) sp hg
              rw [← hpe] at this
              exact this
            have x1 : wr.cell? ⟨g, i * 66 + 10 + j * 7 + 1, none⟩ = some (.int .u32 p.seq) := by
              have := row98p HH.out.1.rb8 hl5 (k := j) hj (m := 1) (by decide) sp hg
              rw [← hpe] at this
              exact this
            have x2 : wr.cell? ⟨g, i * 66 + 10 + j * 7 + 2, none⟩ = some (.bool p.gone) := by
              have := row98p HH.out.1.rb8 hl5 (k := j) hj (m := 2) (by decide) sp hg
              rw [← hpe] at this
              exact this
            have x3 : wr.cell? ⟨g, i * 66 + 10 + j * 7 + 3, none⟩ = some (.int .u32 p.d0) := by
              have := row98p HH.out.1.rb8 hl5 (k := j) hj (m := 3) (by decide) sp hg
              rw [← hpe] at this
              exact this
            have x4 : wr.cell? ⟨g, i * 66 + 10 + j * 7 + 4, none⟩ = some (.int .u32 p.d1) := by
              have := row98p HH.out.1.rb8 hl5 (k := j) hj (m := 4) (by decide) sp hg
              rw [← hpe] at this
              exact this
            have x5 : wr.cell? ⟨g, i * 66 + 10 + j * 7 + 5, none⟩ = some (.int .u32 p.d2) := by
              have := row98p HH.out.1.rb8 hl5 (k := j) hj (m := 5) (by decide) sp hg
              rw [← hpe] at this
              exact this
            have x6 : wr.cell? ⟨g, i * 66 + 10 + j * 7 + 6, none⟩ = some (.int .u32 p.d3) := by
              have := row98p HH.out.1.rb8 hl5 (k := j) hj (m := 6) (by decide) sp hg
              rw [← hpe] at this
              exact this
            have hsn : allI bs i ++ allK i (bs.getD i default) (j + 1) = l ++ [⟨i, j, p⟩] := by
              rw [hl, List.append_assoc]
              congr 1
              rw [allK]
              unfold pageK
              rw [if_pos (by rw [← hkq]; exact hk1), ← hpe]
            have hlen : n ≤ 100 := by
              have h1 := allI_len bs i
              have h2 := allK_len i (bs.getD i default) j
              rw [hn, hl, List.length_append]
              omega
            have HB := _root_.Go.Lib.hid (And.intro hko (And.intro hsn (And.intro hlen (And.intro hjk hn))))
            clear hko hsn hlen hjk hl5 hg hkq hk1 hpe hl hn
            go_wp2_with (at_builtin; refine wpList_append_ko rfl _ _ 47 rfl i0 _ 48 Tryz.underlying47 HI.out.1 HI.out.2.1 HI.out.2.2.1 HI.out.2.2.2 rfl (by decide) rfl (HB.out.1.alloc _) ⟨_, 0, none⟩ 1 1 (pcV ⟨i, j, p⟩).toList rfl rfl (news_mid (off := 0) (m := 9) (heap_alloc_new _ _) rfl) (by simp [Value.oneCell']) (by have := HB.out.2.2.1; unfold maxLen; omega) (by have := HB.out.2.2.1; omega) ?_)
            rintro v' w5 hk5 -
            have hk6 := hk5.drop
            obtain ⟨qp, qc, rfl⟩ := hk6.shape
            have H3 := _root_.Go.Lib.hid hk6
            clear hk5 hk6 k0 x0 x1 x2 x3 x4 x5 x6
            go_wp2_with fail
            go_roundg (8 - (j + 1))
            case measure => have := HB.out.2.2.2.1; omega
            case rel =>
              refine ⟨j + 1, by have := HB.out.2.2.2.1; omega, by first | rfl | go_num, ?_⟩
              have h9 := H3.out
              rw [HB.out.2.1, flatP_snoc, List.length_append, ← HB.out.2.2.2.2]
              exact h9
          · have hsn : allI bs i ++ allK i (bs.getD i default) (j + 1) = l := by
              rw [hl, allK]
              unfold pageK
              rw [if_neg (by rw [← hkq]; exact hk1), List.append_nil]
            have HB := _root_.Go.Lib.hid (And.intro hko (And.intro hsn (And.intro hjk hn)))
            clear hko hsn hjk hl5 hg hkq hl hn
            go_wp2_with fail
            go_roundg (8 - (j + 1))
            case measure => have := HB.out.2.2.1; omega
            case rel =>
              refine ⟨j + 1, by have := HB.out.2.2.1; omega, by first | rfl | go_num, ?_⟩
              rw [HB.out.2.1, ← HB.out.2.2.2]
              exact HB.out.1
        · have e : j = 8 := by omega
          subst e
          have HJ := _root_.Go.Lib.hid (And.intro hko (And.intro hl hn))
          clear hko hl hn
          go_wp2_with fail
          go_roundg (5 - (i + 1))
          case measure => have := HO.out.2; omega
          case rel =>
            refine ⟨i + 1, by have := HO.out.2; omega, by first | rfl | go_num, ?_⟩
            rw [allI, ← HJ.out.2.1, ← HJ.out.2.2]
            exact HJ.out.1
    · have e : i = 5 := by omega
      subst e
      have HO := _root_.Go.Lib.hid hko
      clear hko
      go_wp2_with fail
      go_ret
      have h5 := HO.out
      have e : allI bs 5 = allL bs := by unfold allL; rw [HH.out.1.1]
      rw [e] at h5
      exact ⟨_, rfl, by rw [← e]; rw [e]; exact h5⟩
end Go.Proofs.YtlcbilknfjdceaaGreatDoor
end
section
/-
  The reference: where a sector is.
-/
set_option linter.unusedVariables false
set_option linter.unusedSimpArgs false
namespace Go.Proofs.YtlcbilknfjdceaaGreatDoor
open Go.RowKit Go.Lib
theorem set9 {B : Nat} {W w : World} (L R : Blocks) {g : Nat} {t : TypeId} {x y : Pc} (h : KW B W (L ++ (g, .cells (pcV y) t) :: R) w) : KW B W (L ++ (g, .cells (pcV x) t) :: R) (((((((((w.setCell ⟨g, 0, none⟩ (.int .i64 (x.b : Int))).setCell ⟨g, 1, none⟩ (.int .i64 (x.k : Int))).setCell ⟨g, 2, none⟩ (.int .u32 x.p.sec)).setCell ⟨g, 3, none⟩ (.int .u32 x.p.seq)).setCell ⟨g, 4, none⟩ (.bool x.p.gone)).setCell ⟨g, 5, none⟩ (.int .u32 x.p.d0)).setCell ⟨g, 6, none⟩ (.int .u32 x.p.d1)).setCell ⟨g, 7, none⟩ (.int .u32 x.p.d2)).setCell ⟨g, 8, none⟩ (.int .u32 x.p.d3)) := by
  have h0 := KW.cellAt L R (i := 0) (x := .int .i64 (x.b : Int)) (vs := pcV ⟨x.b, y.k, ⟨y.p.sec, y.p.seq, y.p.gone, y.p.d0, y.p.d1, y.p.d2, y.p.d3⟩⟩) h rfl
  have h1 := KW.cellAt L R (i := 1) (x := .int .i64 (x.k : Int)) (vs := pcV ⟨x.b, x.k, ⟨y.p.sec, y.p.seq, y.p.gone, y.p.d0, y.p.d1, y.p.d2, y.p.d3⟩⟩) h0 rfl
  have h2 := KW.cellAt L R (i := 2) (x := .int .u32 x.p.sec) (vs := pcV ⟨x.b, x.k, ⟨x.p.sec, y.p.seq, y.p.gone, y.p.d0, y.p.d1, y.p.d2, y.p.d3⟩⟩) h1 rfl
  have h3 := KW.cellAt L R (i := 3) (x := .int .u32 x.p.seq) (vs := pcV ⟨x.b, x.k, ⟨x.p.sec, x.p.seq, y.p.gone, y.p.d0, y.p.d1, y.p.d2, y.p.d3⟩⟩) h2 rfl
  have h4 := KW.cellAt L R (i := 4) (x := .bool x.p.gone) (vs := pcV ⟨x.b, x.k, ⟨x.p.sec, x.p.seq, x.p.gone, y.p.d0, y.p.d1, y.p.d2, y.p.d3⟩⟩) h3 rfl
  have h5 := KW.cellAt L R (i := 5) (x := .int .u32 x.p.d0) (vs := pcV ⟨x.b, x.k, ⟨x.p.sec, x.p.seq, x.p.gone, x.p.d0, y.p.d1, y.p.d2, y.p.d3⟩⟩) h4 rfl
  have h6 := KW.cellAt L R (i := 6) (x := .int .u32 x.p.d1) (vs := pcV ⟨x.b, x.k, ⟨x.p.sec, x.p.seq, x.p.gone, x.p.d0, x.p.d1, y.p.d2, y.p.d3⟩⟩) h5 rfl
  have h7 := KW.cellAt L R (i := 7) (x := .int .u32 x.p.d2) (vs := pcV ⟨x.b, x.k, ⟨x.p.sec, x.p.seq, x.p.gone, x.p.d0, x.p.d1, x.p.d2, y.p.d3⟩⟩) h6 rfl
  have h8 := KW.cellAt L R (i := 8) (x := .int .u32 x.p.d3) (vs := pcV ⟨x.b, x.k, ⟨x.p.sec, x.p.seq, x.p.gone, x.p.d0, x.p.d1, x.p.d2, x.p.d3⟩⟩) h7 rfl
  exact h8
/-- A slice of places. -/
def PAt (w : World) (v : Value) (l : List Pc) : Prop := (v = .slice none 0 0 ∧ l = []) ∨ ∃ g cap sp, v = .slice (some ⟨g, 0, none⟩) l.length cap ∧ w.heap[g]? = some (.cells (rowP l sp) 52)
theorem PAt.below {w w' : World} {v : Value} {l : List Pc} (h : PAt w v l) (hb : Below w.heap.size w w') : PAt w' v l := by
  rcases h with h | ⟨g, cap, sp, a, b⟩
  · exact .inl h
  · exact .inr ⟨g, cap, sp, a, (hb.block g (lt_of_heap b)).trans b⟩
theorem KO.pAt {B n : Nat} {W w : World} {K : Blocks} {v : Value} {l : List Pc} (h : KO B W 52 9 v n (flatP l) K w) (hn : n = l.length) : PAt w v l := by
  rcases h.2 with ⟨a, b, _⟩ | ⟨g, cap, cur, a, _, _, _, f, hk⟩
  · left
    refine ⟨a, ?_⟩
    cases l with
    | nil => rfl
    | cons x l => rw [b] at hn; cases hn
  · right
    subst hn
    refine ⟨g, cap, cur.toList.drop (l.length * 9), a, ?_⟩
    have := hk.get (g := g) (o := .cells cur 52) List.mem_cons_self
    rw [this]
    unfold rowP
    rw [← f, List.take_append_drop, Array.toArray_toList]
theorem cell52 {w : World} {g i : Nat} {r : List Pc} {sp : List Value} {x : Pc} (hg : w.heap[g]? = some (.cells (rowP r sp) 52)) (h : r[i]? = some x) (j : Nat) {v : Value} (hj : (encL x)[j]? = some v) : w.cell? ⟨g, i * 9 + j, none⟩ = some v := by
  rw [← addr_add']
  exact news_mid (off := i * 9) (m := 9) hg (rowP_at h sp) j v hj
theorem fnd_at {l : List Pc} {s : Int} {i : Nat} {x : Pc} (h : fnd (l.take i) s = none) (hx : l[i]? = some x) (hs : x.p.sec = s) : fnd l s = some x := by
  obtain ⟨hi, he⟩ := List.getElem?_eq_some_iff.1 hx
  have e : l = l.take i ++ x :: l.drop (i + 1) := by rw [← he, List.getElem_cons_drop, List.take_append_drop]
  rw [e]
  unfold fnd at h ⊢
  rw [List.find?_append, h, Option.none_or, List.find?_cons_of_pos (by simpa using hs)]
theorem size52 : (Tryz.prog.info? 52).map (·.size) = some 9 := by kernel_rfl
theorem results13 {tmps : Array Value} {w : World} {rb : Nat} {x : Pc} {k : Bool} {t : TypeId} (h4 : tmps.getD 4 undef = .pointer (some ⟨rb, 0, none⟩)) (h5 : tmps.getD 5 undef = .bool k) (hg : w.heap[rb]? = some (.cells (pcV x) t)) :
    (results Tryz.f13 tmps).run Tryz.prog w = .ok (.tuple #[.agg (pcV x), .bool k]) w := by
  have hl : (Instr.loadAt 52 (.pointer (some ⟨rb, 0, none⟩))).run Tryz.prog w = .ok (.agg (pcV x)) w := Mem.run_loadAt_part (by rfl) Tryz.underlying52 hg (by rw [size52]; rfl) rfl
  rw [Array.getD_eq_getD_getElem?] at h4 h5
  simp only [Instr.loadAt, Instr.sureAddr, pure_bind] at hl
  simp [results, h4, h5, Result.andThen, asAddr, hl]
abbrev zPc : Pc := ⟨0, 0, Pg.z⟩
set_option maxHeartbeats 600000 in
set_option maxRecDepth 100000 in
theorem find13 {w : World} {v : Value} {l : List Pc} {s : Int} (h : PAt w v l) (h8 : l.length ≤ 1000) : Calls Tryz.prog 13 #[v, .int .u32 s] w fun e w' => e = .returned (.tuple #[.agg (pcV ((fnd l s).getD zPc)), .bool (fnd l s).isSome]) ∧ Below w.heap.size w w' := by
  have hk := (KW.start (Below.refl w.heap.size w) (Nat.le_refl _)).push (.cells (pcV zPc) 52)
  have h' := h.below ((Below.refl w.heap.size w).alloc (Nat.le_refl _) (.cells (pcV zPc) 52))
  obtain ⟨vp, vc, hv⟩ : ∃ vp vc, v = .slice vp l.length vc := by
    rcases h with ⟨a, b⟩ | ⟨g, cap, sp, a, b⟩
    · exact ⟨none, 0, by rw [a, b]; rfl⟩
    · exact ⟨_, _, a⟩
  subst hv
  obtain ⟨n, hn⟩ : ∃ n, n = l.length := ⟨_, rfl⟩
  rw [← hn] at h' h8 ⊢
  have H := _root_.Go.Lib.hid (And.intro hk (And.intro h' hn))
  clear hk h h' hn
  go_enter Tryz.func13, Tryz.ntmps13
  go_wp2_with fail
  obtain ⟨hk, h', hn⟩ := H.out
  clear H
  generalize World.alloc w _ = w1 at hk h' ⊢
  generalize hrb : w.heap.size = rb at hk ⊢
  have H := _root_.Go.Lib.hid (And.intro hk (And.intro h' (And.intro hn hrb)))
  clear hk h' hn hrb
  go_loopg [6] n (fun k s6 wr => ∃ i : Nat, i + k = n ∧ s6 = .int .i64 (i : Int) ∧ wr = w1 ∧ fnd (l.take i) s = none)
  case atStart => exact ⟨0, by omega, rfl, rfl, rfl⟩
  case round =>
    obtain ⟨i, hik, rfl, rfl, hf⟩ := hrel
    obtain ⟨hk, h', hn, hrb⟩ := H.out
    by_cases hi : i < n
    · rcases h' with ⟨a, b⟩ | ⟨g, cap, sp, a, hg⟩
      · rw [b] at hn
        simp at hn
        omega
      · simp only [Value.slice.injEq] at a
        obtain ⟨rfl, rfl⟩ : vp = some ⟨g, 0, none⟩ ∧ vc = cap := ⟨a.1, a.2.2⟩
        obtain ⟨x, hx⟩ : ∃ x, l[i]? = some x := ⟨_, List.getElem?_eq_getElem (by omega)⟩
        have x0 : wr.cell? ⟨g, i * 9, none⟩ = some (.int .i64 (x.b : Int)) := cell52 hg hx 0 rfl
        have x1 : wr.cell? ⟨g, i * 9 + 1, none⟩ = some (.int .i64 (x.k : Int)) := cell52 hg hx 1 rfl
        have x2 : wr.cell? ⟨g, i * 9 + 2, none⟩ = some (.int .u32 x.p.sec) := cell52 hg hx 2 rfl
        have x3 : wr.cell? ⟨g, i * 9 + 3, none⟩ = some (.int .u32 x.p.seq) := cell52 hg hx 3 rfl
        have x4 : wr.cell? ⟨g, i * 9 + 4, none⟩ = some (.bool x.p.gone) := cell52 hg hx 4 rfl
        have x5 : wr.cell? ⟨g, i * 9 + 5, none⟩ = some (.int .u32 x.p.d0) := cell52 hg hx 5 rfl
        have x6 : wr.cell? ⟨g, i * 9 + 6, none⟩ = some (.int .u32 x.p.d1) := cell52 hg hx 6 rfl
        have x7 : wr.cell? ⟨g, i * 9 + 7, none⟩ = some (.int .u32 x.p.d2) := cell52 hg hx 7 rfl
        have x8 : wr.cell? ⟨g, i * 9 + 8, none⟩ = some (.int .u32 x.p.d3) := cell52 hg hx 8 rfl
        have hr := hk.get (g := rb) (o := .cells (pcV zPc) 52) (by simp)
        have r0 : wr.cell? ⟨rb, 0, none⟩ = some (.int .i64 0) := cell_at hr 0
        have r1 : wr.cell? ⟨rb, 1, none⟩ = some (.int .i64 0) := cell_at hr 1
        have r2 : wr.cell? ⟨rb, 2, none⟩ = some (.int .u32 0) := cell_at hr 2
        have r3 : wr.cell? ⟨rb, 3, none⟩ = some (.int .u32 0) := cell_at hr 3
        have r4 : wr.cell? ⟨rb, 4, none⟩ = some (.bool false) := cell_at hr 4
        have r5 : wr.cell? ⟨rb, 5, none⟩ = some (.int .u32 0) := cell_at hr 5
        have r6 : wr.cell? ⟨rb, 6, none⟩ = some (.int .u32 0) := cell_at hr 6
        have r7 : wr.cell? ⟨rb, 7, none⟩ = some (.int .u32 0) := cell_at hr 7
        have r8 : wr.cell? ⟨rb, 8, none⟩ = some (.int .u32 0) := cell_at hr 8
        have q0 : wr.frozen? ⟨rb, 0, none⟩ = false := free_at hr 0
        have q1 : wr.frozen? ⟨rb, 1, none⟩ = false := free_at hr 1
        have q2 : wr.frozen? ⟨rb, 2, none⟩ = false := free_at hr 2
        have q3 : wr.frozen? ⟨rb, 3, none⟩ = false := free_at hr 3
        have q4 : wr.frozen? ⟨rb, 4, none⟩ = false := free_at hr 4
        have q5 : wr.frozen? ⟨rb, 5, none⟩ = false := free_at hr 5
        have q6 : wr.frozen? ⟨rb, 6, none⟩ = false := free_at hr 6
        have q7 : wr.frozen? ⟨rb, 7, none⟩ = false := free_at hr 7
        have q8 : wr.frozen? ⟨rb, 8, none⟩ = false := free_at hr 8
        by_cases hs : x.p.sec = s
        · have hfa := fnd_at hf hx hs
          rw [hs] at x2
          have HK := _root_.Go.Lib.hid (And.intro hk (And.intro hfa (And.intro hrb hs)))
          clear hk hf hx hfa hn hrb hg a hr hs
          go_wp2_with fail
          have h9 := set9 [] [] (x := x) (y := zPc) HK.out.1
          rw [HK.out.2.2.2] at h9
          generalize World.setCell _ _ _ = w9 at h9 ⊢
          have hr := h9.get (g := rb) (o := .cells (pcV x) 52) (by simp)
          obtain ⟨_, hfa, hrb, hs⟩ := HK.out
          refine bodyPost_ret (v := .tuple #[.agg (pcV x), .bool true]) ?_ rfl ?_
          · exact results13 (x := x) (k := true) (rb := rb) (by simp) (by simp) hr
          rw [hfa]
          exact ⟨rfl, by rw [hrb]; exact h9.bel⟩
        · have hf2 : fnd (l.take (i + 1)) s = none := by
            have e : l.take (i + 1) = l.take i ++ [x] := by
              obtain ⟨hlt, he⟩ := List.getElem?_eq_some_iff.1 hx
              rw [List.take_succ_eq_append_getElem hlt, he]
            rw [e, fnd_snoc, hf, if_neg hs]
            rfl
          have HK := _root_.Go.Lib.hid (And.intro hf2 (And.intro hik hi))
          clear hk hf hx hf2 hn hrb hg a hr hik
          go_wp2_with fail
          go_roundg (n - (i + 1))
          case measure => have := HK.out.2.1; have := HK.out.2.2; omega
          case rel => exact ⟨i + 1, by have := HK.out.2.1; have := HK.out.2.2; omega, by first | rfl | go_num, rfl, HK.out.1⟩
    · have e : i = n := by omega
      subst e
      rw [List.take_of_length_le (by omega)] at hf
      have hr := hk.get (g := rb) (o := .cells (pcV zPc) 52) (by simp)
      have r0 : wr.cell? ⟨rb, 0, none⟩ = some (.int .i64 0) := cell_at hr 0
      have q0 : wr.frozen? ⟨rb, 0, none⟩ = false := free_at hr 0
      have r1 : wr.cell? ⟨rb, 1, none⟩ = some (.int .i64 0) := cell_at hr 1
      have q1 : wr.frozen? ⟨rb, 1, none⟩ = false := free_at hr 1
      have r2 : wr.cell? ⟨rb, 2, none⟩ = some (.int .u32 0) := cell_at hr 2
      have q2 : wr.frozen? ⟨rb, 2, none⟩ = false := free_at hr 2
      have r3 : wr.cell? ⟨rb, 3, none⟩ = some (.int .u32 0) := cell_at hr 3
      have q3 : wr.frozen? ⟨rb, 3, none⟩ = false := free_at hr 3
      have r4 : wr.cell? ⟨rb, 4, none⟩ = some (.bool false) := cell_at hr 4
      have q4 : wr.frozen? ⟨rb, 4, none⟩ = false := free_at hr 4
      have r5 : wr.cell? ⟨rb, 5, none⟩ = some (.int .u32 0) := cell_at hr 5
      have q5 : wr.frozen? ⟨rb, 5, none⟩ = false := free_at hr 5
      have r6 : wr.cell? ⟨rb, 6, none⟩ = some (.int .u32 0) := cell_at hr 6
      have q6 : wr.frozen? ⟨rb, 6, none⟩ = false := free_at hr 6
      have r7 : wr.cell? ⟨rb, 7, none⟩ = some (.int .u32 0) := cell_at hr 7
      have q7 : wr.frozen? ⟨rb, 7, none⟩ = false := free_at hr 7
      have r8 : wr.cell? ⟨rb, 8, none⟩ = some (.int .u32 0) := cell_at hr 8
      have q8 : wr.frozen? ⟨rb, 8, none⟩ = false := free_at hr 8
      have HK := _root_.Go.Lib.hid (And.intro hk (And.intro hf hrb))
      clear hk hf hn hrb h' hr
      go_wp2_with fail
      have h9 := set9 [] [] (x := zPc) (y := zPc) HK.out.1
      generalize World.setCell _ _ _ = w9 at h9 ⊢
      have hr := h9.get (g := rb) (o := .cells (pcV zPc) 52) (by simp)
      obtain ⟨_, hfa, hrb⟩ := HK.out
      refine bodyPost_ret (v := .tuple #[.agg (pcV zPc), .bool false]) ?_ rfl ?_
      · exact results13 (x := zPc) (k := false) (rb := rb) (by simp) (by simp) hr
      rw [hfa]
      exact ⟨rfl, by rw [hrb]; exact h9.bel⟩
end Go.Proofs.YtlcbilknfjdceaaGreatDoor
end
