/-
  WholeFlash, part 32 of 44: Refh, Refi, Boota.
-/
import Derived.Test.YtlcbilknfjdceaaGreatDoorM30
import Derived.Test.YtlcbilknfjdceaaGreatDoorM31
section
/-
  The reference: a place put among others.
-/
set_option linter.unusedVariables false
set_option linter.unusedSimpArgs false
namespace Go.Proofs.YtlcbilknfjdceaaGreatDoor
open Go.RowKit Go.Lib
theorem appI0 : True := trivial
set_option maxHeartbeats 1500000 in
set_option maxRecDepth 100000 in
theorem put33 {w : World} {v : Value} {l : List Pc} {x : Pc} (h : PAt w v l) (h8 : l.length ≤ 100) : Calls Tryz.prog 33 #[v, .agg (pcV x)] w fun e w' => ∃ v', e = .returned v' ∧ KO w.heap.size w 52 9 v' (putL l x).length (flatP (putL l x)) [] w' := by
  obtain ⟨i0, hi, hz0, hz1, hz2⟩ := info_parts info52
  have HI := _root_.Go.Lib.hid (And.intro hi (And.intro hz0 (And.intro hz1 hz2)))
  have hk := (KW.start (Below.refl w.heap.size w) (Nat.le_refl _)).push (.cells (pcV x) 52)
  obtain ⟨vp, vc, hv⟩ : ∃ vp vc, v = .slice vp l.length vc := by
    rcases h with ⟨a, b⟩ | ⟨g, cap, sp, a, b⟩
    · exact ⟨none, 0, by rw [a, b]; rfl⟩
    · exact ⟨_, _, a⟩
  subst hv
  obtain ⟨n, hn⟩ : ∃ n, n = l.length := ⟨_, rfl⟩
  rw [← hn] at h h8 ⊢
  have H := _root_.Go.Lib.hid (And.intro hk (And.intro h hn))
  clear hk h hn hi hz0 hz1 hz2
  go_enter Tryz.func33, Tryz.ntmps33
  go_wp2_with fail
  obtain ⟨hk, h, hn⟩ := H.out
  clear H
  obtain ⟨w0, hw0⟩ : ∃ w0, w0 = w := ⟨_, rfl⟩
  obtain ⟨rb, hrb⟩ : ∃ rb, rb = w.heap.size := ⟨_, rfl⟩
  obtain ⟨xb, hxb⟩ : ∃ xb, xb = w.heap.size := ⟨_, rfl⟩
  have hk : KW rb w0 [(xb, .cells (pcV x) 52)] (w.alloc (.cells (pcV x) 52)) := by rw [hrb, hw0, hxb]; exact hk
  rw [← hxb]
  generalize World.alloc w _ = w1 at hk ⊢
  have H := _root_.Go.Lib.hid (And.intro hk (And.intro h (And.intro hn (And.intro hw0 hrb))))
  clear hk h hn hw0 hrb hxb
  go_loopg [5, 6, 7] n (fun k s5 s6 s7 wr => ∃ (i : Nat) (r : List Pc × Bool), i + k = n ∧ r = putI l x i ∧ s7 = .int .i64 (i : Int) ∧ s6 = .bool r.2 ∧ KO rb w0 52 9 s5 r.1.length (flatP r.1) [(xb, .cells (pcV x) 52)] wr)
  case atStart => exact ⟨0, ([], false), by omega, rfl, rfl, rfl, KO.start H.out.1⟩
  case round =>
    obtain ⟨i, ⟨o, d⟩, hik, hr, rfl, rfl, hko⟩ := hrel
    simp only at hko
    obtain ⟨m, hm⟩ : ∃ m, m = o.length := ⟨_, rfl⟩
    rw [← hm] at hko
    obtain ⟨vq, vd, rfl⟩ := hko.shape
    by_cases hi : i < n
    · have hml : m ≤ 200 := by
        have := putI_len l x i
        rw [← hr] at this
        simp only at this
        rw [← hm] at this
        split at this <;> omega
      obtain ⟨g, cap, sp, hva, hg0⟩ : ∃ g cap sp, Value.slice vp n vc = .slice (some ⟨g, 0, none⟩) l.length cap ∧ w.heap[g]? = some (.cells (rowP l sp) 52) := by
        rcases H.out.2.1 with ⟨_, b⟩ | h
        · have := H.out.2.2.1
          rw [b] at this
          simp at this
          omega
        · exact h
      simp only [Value.slice.injEq] at hva
      obtain ⟨rfl, rfl⟩ : vp = some ⟨g, 0, none⟩ ∧ vc = cap := ⟨hva.1, hva.2.2⟩
      obtain ⟨y, hy⟩ : ∃ y, l[i]? = some y := ⟨_, List.getElem?_eq_getElem (by have := H.out.2.2.1; omega)⟩
      have hyd : l.getD i default = y := by rw [List.getD_eq_getElem?_getD, hy]; rfl
      have hgl : g < rb := by rw [H.out.2.2.2.2]; exact lt_of_heap hg0
      have hgS : ∀ ws, Below rb w0 ws → ws.heap[g]? = some (.cells (rowP l sp) 52) := fun ws hb => (hb.block g hgl).trans (by rw [H.out.2.2.2.1]; exact hg0)
      have hsp : putI l x (i + 1) = stepP x (o, d) y := by rw [putI, ← hr, hyd]
      have HG := _root_.Go.Lib.hid (And.intro hgS (And.intro hy (And.intro hsp (And.intro hik hm))))
      clear hgS hy hsp hik hm hyd hgl hg0 hva hr
      have hgs := HG.out.1 wr hko.kw.bel
      have hy := HG.out.2.1
      have hxs := hko.get (g := xb) (o := .cells (pcV x) 52) (by simp)
      have y2 : wr.drew.cell? ⟨g, i * 9 + 2, none⟩ = some (.int .u32 y.p.sec) := cell52 (w := wr.drew) hgs hy 2 rfl
      have x2 : wr.drew.cell? ⟨xb, 2, none⟩ = some (.int .u32 x.p.sec) := cell_at (w := wr.drew) hxs 2
      have HK := _root_.Go.Lib.hid (And.intro hko hml)
      clear hko hgs hy hxs hml
      cases d with
      | true =>
        go_upto_region 6 with fail
        refine wp_region_reads 14 (fun _ => True) (by kernel_rfl) (by kernel_rfl) trivial ?_
        simp only [List.take_succ_cons, List.take_zero, List.drop_succ_cons, List.drop_zero]
        refine Reads.val (v := .bool true) rfl (fun wc hC => ?_) ?_
        · go_simp
        refine Reads.go fun K hK => ?_
        go_simp
        refine hK _ ?_
        clear hK K
        refine Reads.val (v := .bool false) rfl (fun wc hC => ?_) ?_
        · go_simp
        refine Reads.go fun K hK => ?_
        go_simp
        refine hK _ ?_
        clear hK K
        refine Reads.val (v := .bool false) rfl (fun wc hC => ?_) ?_
        · go_simp
        refine Reads.go fun K hK => ?_
        go_simp
        refine hK _ ?_
        clear hK K
        refine Reads.un (by go_simp) ?_
        refine Reads.go fun K hK => ?_
        go_simp
        refine hK _ ?_
        clear hK K
        refine Reads.un (by go_simp) ?_
        refine Reads.go fun K hK => ?_
        go_simp
        refine hK _ ?_
        clear hK K
        refine Reads.un (by go_simp) ?_
        refine Reads.go fun K hK => ?_
        go_simp
        refine hK _ ?_
        clear hK K
        refine Reads.un (by go_simp) ?_
        refine Reads.go fun K hK => ?_
        go_simp
        refine hK _ ?_
        clear hK K
        refine Reads.un (by go_simp) ?_
        refine Reads.go fun K hK => ?_
        go_simp
        refine hK _ ?_
        clear hK K
        refine Reads.un (by go_simp) ?_
        refine Reads.go fun K hK => ?_
        go_simp
        refine hK _ ?_
        clear hK K
        refine Reads.un (by go_simp) ?_
        refine Reads.go fun K hK => ?_
        go_simp
        refine hK _ ?_
        clear hK K
        refine Reads.un (by go_simp) ?_
        refine Reads.go fun K hK => ?_
        go_simp
        refine hK _ ?_
        clear hK K
        refine Reads.un (by go_simp) ?_
        refine Reads.go fun K hK => ?_
        go_simp
        refine hK _ ?_
        clear hK K
        refine Reads.un (by go_simp) ?_
        refine Reads.go fun K hK => ?_
        go_simp
        refine hK _ ?_
        clear hK K
        refine Reads.val (v := .bool false) rfl (fun wc hC => ?_) ?_
        · go_simp
        refine Reads.go fun K hK => ?_
        go_simp
        refine hK _ ?_
        clear hK K
        show wpListR _ _ _ _ _ _ _
        refine wpListR_nil ?_
        clear y2 x2
        obtain ⟨hko, hb⟩ := HK.out
        have hko : KO rb w0 52 9 (.slice vq m vd) m (flatP o) [(xb, .cells (pcV x) 52)] { heap := wr.heap, tape := wr.tape, drawn := wr.drawn + 1, os := wr.os, output := wr.output } := hko.drew
        generalize ({ heap := wr.heap, tape := wr.tape, drawn := wr.drawn + 1, os := wr.os, output := wr.output } : World) = w6 at hko ⊢
        have HKO := _root_.Go.Lib.hid hko
        have HB := _root_.Go.Lib.hid hb
        clear hko HK hb
        go_upto_region 9 with fail
        have hko := HKO.out
        have hb : m ≤ 201 := by have := HB.out; omega
        have hgs := HG.out.1 w6 hko.kw.bel
        have hy := HG.out.2.1
        have hxs := hko.get (g := xb) (o := .cells (pcV x) 52) (by simp)
        have y0 : w6.drew.cell? ⟨g, i * 9, none⟩ = some (.int .i64 (y.b : Int)) := cell52 (w := w6.drew) hgs hy 0 rfl
        have y1 : w6.drew.cell? ⟨g, i * 9 + 1, none⟩ = some (.int .i64 (y.k : Int)) := cell52 (w := w6.drew) hgs hy 1 rfl
        have y2 : w6.drew.cell? ⟨g, i * 9 + 2, none⟩ = some (.int .u32 y.p.sec) := cell52 (w := w6.drew) hgs hy 2 rfl
        have y3 : w6.drew.cell? ⟨g, i * 9 + 3, none⟩ = some (.int .u32 y.p.seq) := cell52 (w := w6.drew) hgs hy 3 rfl
        have y4 : w6.drew.cell? ⟨g, i * 9 + 4, none⟩ = some (.bool y.p.gone) := cell52 (w := w6.drew) hgs hy 4 rfl
        have y5 : w6.drew.cell? ⟨g, i * 9 + 5, none⟩ = some (.int .u32 y.p.d0) := cell52 (w := w6.drew) hgs hy 5 rfl
        have y6 : w6.drew.cell? ⟨g, i * 9 + 6, none⟩ = some (.int .u32 y.p.d1) := cell52 (w := w6.drew) hgs hy 6 rfl
        have y7 : w6.drew.cell? ⟨g, i * 9 + 7, none⟩ = some (.int .u32 y.p.d2) := cell52 (w := w6.drew) hgs hy 7 rfl
        have y8 : w6.drew.cell? ⟨g, i * 9 + 8, none⟩ = some (.int .u32 y.p.d3) := cell52 (w := w6.drew) hgs hy 8 rfl
        have x2 : w6.drew.cell? ⟨xb, 2, none⟩ = some (.int .u32 x.p.sec) := cell_at (w := w6.drew) hxs 2
        have HQ : Hid (_ ∧ m ≤ 201) := _root_.Go.Lib.hid (And.intro hko.drew hb)
        clear hko hgs hy hxs hb
        by_cases he : y.p.sec = x.p.sec
        · rw [he] at y2
          have HE2 := _root_.Go.Lib.hid he
          clear he
          go_upto_region 9 with fail
          go_still (by kernel_rfl)
          clear y0 y1 y2 y3 y4 y5 y6 y7 y8 x2
          have hko := HQ.out.1
          have HE := _root_.Go.Lib.hid hko
          clear hko
          go_wp2_with fail
          go_roundg (n - (i + 1))
          case measure => have := HG.out.2.2.2.1; omega
          case rel =>
            have hst : stepP x (o, true) y = (o, true) := by have he := HE2.out; unfold stepP; simp [he]
            refine ⟨i + 1, (o, true), by have := HG.out.2.2.2.1; omega, by rw [HG.out.2.2.1, hst], by first | rfl | go_num, rfl, ?_⟩
            have h9 := HE.out
            have hm := HG.out.2.2.2.2
            show KO rb w0 52 9 _ (o).length (flatP (o)) _ _
            rw [← hm]
            first | exact h9 | (rw [List.append_assoc]; exact h9)
        · go_upto_region 9 with fail
          go_still (by kernel_rfl)
          go_wp2_with (at_builtin; refine wpList_append_ko rfl _ _ 47 rfl i0 _ 48 Tryz.underlying47 HI.out.1 HI.out.2.1 HI.out.2.2.1 HI.out.2.2.2 rfl (by decide) rfl (HQ.out.1.alloc _) ⟨_, 0, none⟩ 1 1 (pcV y).toList rfl rfl (news_mid (off := 0) (m := 9) (heap_alloc_new _ _) rfl) (by simp [Value.oneCell']) (by have := HQ.out.2; unfold maxLen; omega) (by have := HQ.out.2; omega) ?_)
          rintro v' w5 hk5 -
          have hko := hk5.drop
          obtain ⟨vp', vc', rfl⟩ := hko.shape
          clear hk5 y0 y1 y2 y3 y4 y5 y6 y7 y8 x2
          have HE := _root_.Go.Lib.hid hko
          clear hko
          go_wp2_with fail
          go_roundg (n - (i + 1))
          case measure => have := HG.out.2.2.2.1; omega
          case rel =>
            have hst : stepP x (o, true) y = (o ++ [y], true) := by unfold stepP; simp [he]
            refine ⟨i + 1, (o ++ [y], true), by have := HG.out.2.2.2.1; omega, by rw [HG.out.2.2.1, hst], by first | rfl | go_num, rfl, ?_⟩
            have h9 := HE.out
            have hm := HG.out.2.2.2.2
            show KO rb w0 52 9 _ (o ++ [y]).length (flatP (o ++ [y])) _ _
            rw [flatP_snoc, List.length_append, ← hm]
            first | exact h9 | (rw [List.append_assoc]; exact h9)
      | false =>
        by_cases hge : x.p.sec ≤ y.p.sec
        · go_upto_region 6 with fail
          go_still (by kernel_rfl)
          clear y2 x2
          have hkd := HK.out.1.drew
          have hxs := hkd.get (g := xb) (o := .cells (pcV x) 52) (by simp)
          have x0 : wr.drew.cell? ⟨xb, 0, none⟩ = some (.int .i64 (x.b : Int)) := cell_at (w := wr.drew) hxs 0
          have x1 : wr.drew.cell? ⟨xb, 1, none⟩ = some (.int .i64 (x.k : Int)) := cell_at (w := wr.drew) hxs 1
          have x2 : wr.drew.cell? ⟨xb, 2, none⟩ = some (.int .u32 x.p.sec) := cell_at (w := wr.drew) hxs 2
          have x3 : wr.drew.cell? ⟨xb, 3, none⟩ = some (.int .u32 x.p.seq) := cell_at (w := wr.drew) hxs 3
          have x4 : wr.drew.cell? ⟨xb, 4, none⟩ = some (.bool x.p.gone) := cell_at (w := wr.drew) hxs 4
          have x5 : wr.drew.cell? ⟨xb, 5, none⟩ = some (.int .u32 x.p.d0) := cell_at (w := wr.drew) hxs 5
          have x6 : wr.drew.cell? ⟨xb, 6, none⟩ = some (.int .u32 x.p.d1) := cell_at (w := wr.drew) hxs 6
          have x7 : wr.drew.cell? ⟨xb, 7, none⟩ = some (.int .u32 x.p.d2) := cell_at (w := wr.drew) hxs 7
          have x8 : wr.drew.cell? ⟨xb, 8, none⟩ = some (.int .u32 x.p.d3) := cell_at (w := wr.drew) hxs 8
          have HQ := _root_.Go.Lib.hid (And.intro hkd HK.out.2)
          have HGE := _root_.Go.Lib.hid hge
          clear hkd hxs hge
          go_upto_region 9 with (at_builtin; refine wpList_append_ko rfl _ _ 47 rfl i0 _ 48 Tryz.underlying47 HI.out.1 HI.out.2.1 HI.out.2.2.1 HI.out.2.2.2 rfl (by decide) rfl (HQ.out.1.alloc _) ⟨_, 0, none⟩ 1 1 (pcV x).toList rfl rfl (news_mid (off := 0) (m := 9) (heap_alloc_new _ _) rfl) (by simp [Value.oneCell']) (by have := HQ.out.2; unfold maxLen; omega) (by have := HQ.out.2; omega) ?_)
          rintro v' w5 hk5 -
          have hko := hk5.drop
          obtain ⟨vp', vc', rfl⟩ := hko.shape
          clear hk5 x0 x1 x2 x3 x4 x5 x6 x7 x8
          have hb : m + 1 ≤ 201 := by have := HQ.out.2; omega
          have HKO := _root_.Go.Lib.hid (And.intro hko hb)
          clear hko hb HQ HK
          go_upto_region 9 with fail
          obtain ⟨hko, hb⟩ := HKO.out
          clear HKO
          generalize w5 = w6 at hko ⊢
          have hgs := HG.out.1 w6 hko.kw.bel
          have hy := HG.out.2.1
          have hxs := hko.get (g := xb) (o := .cells (pcV x) 52) (by simp)
          have y0 : w6.drew.cell? ⟨g, i * 9, none⟩ = some (.int .i64 (y.b : Int)) := cell52 (w := w6.drew) hgs hy 0 rfl
          have y1 : w6.drew.cell? ⟨g, i * 9 + 1, none⟩ = some (.int .i64 (y.k : Int)) := cell52 (w := w6.drew) hgs hy 1 rfl
          have y2 : w6.drew.cell? ⟨g, i * 9 + 2, none⟩ = some (.int .u32 y.p.sec) := cell52 (w := w6.drew) hgs hy 2 rfl
          have y3 : w6.drew.cell? ⟨g, i * 9 + 3, none⟩ = some (.int .u32 y.p.seq) := cell52 (w := w6.drew) hgs hy 3 rfl
          have y4 : w6.drew.cell? ⟨g, i * 9 + 4, none⟩ = some (.bool y.p.gone) := cell52 (w := w6.drew) hgs hy 4 rfl
          have y5 : w6.drew.cell? ⟨g, i * 9 + 5, none⟩ = some (.int .u32 y.p.d0) := cell52 (w := w6.drew) hgs hy 5 rfl
          have y6 : w6.drew.cell? ⟨g, i * 9 + 6, none⟩ = some (.int .u32 y.p.d1) := cell52 (w := w6.drew) hgs hy 6 rfl
          have y7 : w6.drew.cell? ⟨g, i * 9 + 7, none⟩ = some (.int .u32 y.p.d2) := cell52 (w := w6.drew) hgs hy 7 rfl
          have y8 : w6.drew.cell? ⟨g, i * 9 + 8, none⟩ = some (.int .u32 y.p.d3) := cell52 (w := w6.drew) hgs hy 8 rfl
          have x2 : w6.drew.cell? ⟨xb, 2, none⟩ = some (.int .u32 x.p.sec) := cell_at (w := w6.drew) hxs 2
          have HQ : Hid (_ ∧ m + 1 ≤ 201) := _root_.Go.Lib.hid (And.intro hko.drew hb)
          clear hko hgs hy hxs hb
          by_cases he : y.p.sec = x.p.sec
          · rw [he] at y2
            have HE2 := _root_.Go.Lib.hid he
            clear he
            go_upto_region 9 with fail
            go_still (by kernel_rfl)
            clear y0 y1 y2 y3 y4 y5 y6 y7 y8 x2
            have hko := HQ.out.1
            have HE := _root_.Go.Lib.hid hko
            clear hko
            go_wp2_with fail
            go_roundg (n - (i + 1))
            case measure => have := HG.out.2.2.2.1; omega
            case rel =>
              have hst : stepP x (o, false) y = (o ++ [x], true) := by have he := HE2.out; have hge := HGE.out; unfold stepP; simp [hge, he]
              refine ⟨i + 1, (o ++ [x], true), by have := HG.out.2.2.2.1; omega, by rw [HG.out.2.2.1, hst], by first | rfl | go_num, rfl, ?_⟩
              have h9 := HE.out
              have hm := HG.out.2.2.2.2
              show KO rb w0 52 9 _ (o ++ [x]).length (flatP (o ++ [x])) _ _
              rw [flatP_snoc, List.length_append, ← hm]
              first | exact h9 | (rw [List.append_assoc]; exact h9)
          · go_upto_region 9 with fail
            go_still (by kernel_rfl)
            go_wp2_with (at_builtin; refine wpList_append_ko rfl _ _ 47 rfl i0 _ 48 Tryz.underlying47 HI.out.1 HI.out.2.1 HI.out.2.2.1 HI.out.2.2.2 rfl (by decide) rfl (HQ.out.1.alloc _) ⟨_, 0, none⟩ 1 1 (pcV y).toList rfl rfl (news_mid (off := 0) (m := 9) (heap_alloc_new _ _) rfl) (by simp [Value.oneCell']) (by have := HQ.out.2; unfold maxLen; omega) (by have := HQ.out.2; omega) ?_)
            rintro v' w5 hk5 -
            have hko := hk5.drop
            obtain ⟨vp', vc', rfl⟩ := hko.shape
            clear hk5 y0 y1 y2 y3 y4 y5 y6 y7 y8 x2
            have HE := _root_.Go.Lib.hid hko
            clear hko
            go_wp2_with fail
            go_roundg (n - (i + 1))
            case measure => have := HG.out.2.2.2.1; omega
            case rel =>
              have hst : stepP x (o, false) y = (o ++ [x] ++ [y], true) := by have hge := HGE.out; unfold stepP; simp [hge, he]
              refine ⟨i + 1, (o ++ [x] ++ [y], true), by have := HG.out.2.2.2.1; omega, by rw [HG.out.2.2.1, hst], by first | rfl | go_num, rfl, ?_⟩
              have h9 := HE.out
              have hm := HG.out.2.2.2.2
              show KO rb w0 52 9 _ (o ++ [x] ++ [y]).length (flatP (o ++ [x] ++ [y])) _ _
              rw [flatP_snoc, List.length_append, flatP_snoc, List.length_append, ← hm]
              first | exact h9 | (rw [List.append_assoc]; exact h9)
        · go_upto_region 6 with fail
          go_still (by kernel_rfl)
          clear y2 x2
          have HGE := _root_.Go.Lib.hid hge
          obtain ⟨hko, hb⟩ := HK.out
          have hko : KO rb w0 52 9 (.slice vq m vd) m (flatP o) [(xb, .cells (pcV x) 52)] { heap := wr.heap, tape := wr.tape, drawn := wr.drawn + 1, os := wr.os, output := wr.output } := hko.drew
          generalize ({ heap := wr.heap, tape := wr.tape, drawn := wr.drawn + 1, os := wr.os, output := wr.output } : World) = w6 at hko ⊢
          have HKO := _root_.Go.Lib.hid hko
          have HB := _root_.Go.Lib.hid hb
          clear hko HK hb
          go_upto_region 9 with fail
          have hko := HKO.out
          have hb : m ≤ 201 := by have := HB.out; omega
          have hgs := HG.out.1 w6 hko.kw.bel
          have hy := HG.out.2.1
          have hxs := hko.get (g := xb) (o := .cells (pcV x) 52) (by simp)
          have y0 : w6.drew.cell? ⟨g, i * 9, none⟩ = some (.int .i64 (y.b : Int)) := cell52 (w := w6.drew) hgs hy 0 rfl
          have y1 : w6.drew.cell? ⟨g, i * 9 + 1, none⟩ = some (.int .i64 (y.k : Int)) := cell52 (w := w6.drew) hgs hy 1 rfl
          have y2 : w6.drew.cell? ⟨g, i * 9 + 2, none⟩ = some (.int .u32 y.p.sec) := cell52 (w := w6.drew) hgs hy 2 rfl
          have y3 : w6.drew.cell? ⟨g, i * 9 + 3, none⟩ = some (.int .u32 y.p.seq) := cell52 (w := w6.drew) hgs hy 3 rfl
          have y4 : w6.drew.cell? ⟨g, i * 9 + 4, none⟩ = some (.bool y.p.gone) := cell52 (w := w6.drew) hgs hy 4 rfl
          have y5 : w6.drew.cell? ⟨g, i * 9 + 5, none⟩ = some (.int .u32 y.p.d0) := cell52 (w := w6.drew) hgs hy 5 rfl
          have y6 : w6.drew.cell? ⟨g, i * 9 + 6, none⟩ = some (.int .u32 y.p.d1) := cell52 (w := w6.drew) hgs hy 6 rfl
          have y7 : w6.drew.cell? ⟨g, i * 9 + 7, none⟩ = some (.int .u32 y.p.d2) := cell52 (w := w6.drew) hgs hy 7 rfl
          have y8 : w6.drew.cell? ⟨g, i * 9 + 8, none⟩ = some (.int .u32 y.p.d3) := cell52 (w := w6.drew) hgs hy 8 rfl
          have x2 : w6.drew.cell? ⟨xb, 2, none⟩ = some (.int .u32 x.p.sec) := cell_at (w := w6.drew) hxs 2
          have HQ : Hid (_ ∧ m ≤ 201) := _root_.Go.Lib.hid (And.intro hko.drew hb)
          clear hko hgs hy hxs hb
          have he : ¬ y.p.sec = x.p.sec := by omega
          go_upto_region 9 with fail
          go_still (by kernel_rfl)
          go_wp2_with (at_builtin; refine wpList_append_ko rfl _ _ 47 rfl i0 _ 48 Tryz.underlying47 HI.out.1 HI.out.2.1 HI.out.2.2.1 HI.out.2.2.2 rfl (by decide) rfl (HQ.out.1.alloc _) ⟨_, 0, none⟩ 1 1 (pcV y).toList rfl rfl (news_mid (off := 0) (m := 9) (heap_alloc_new _ _) rfl) (by simp [Value.oneCell']) (by have := HQ.out.2; unfold maxLen; omega) (by have := HQ.out.2; omega) ?_)
          rintro v' w5 hk5 -
          have hko := hk5.drop
          obtain ⟨vp', vc', rfl⟩ := hko.shape
          clear hk5 y0 y1 y2 y3 y4 y5 y6 y7 y8 x2
          have HE := _root_.Go.Lib.hid hko
          clear hko
          go_wp2_with fail
          go_roundg (n - (i + 1))
          case measure => have := HG.out.2.2.2.1; omega
          case rel =>
            have hst : stepP x (o, false) y = (o ++ [y], false) := by have hge := HGE.out; unfold stepP; simp [hge, he]
            refine ⟨i + 1, (o ++ [y], false), by have := HG.out.2.2.2.1; omega, by rw [HG.out.2.2.1, hst], by first | rfl | go_num, rfl, ?_⟩
            have h9 := HE.out
            have hm := HG.out.2.2.2.2
            show KO rb w0 52 9 _ (o ++ [y]).length (flatP (o ++ [y])) _ _
            rw [flatP_snoc, List.length_append, ← hm]
            first | exact h9 | (rw [List.append_assoc]; exact h9)
    · have e : i = n := by omega
      subst e
      have hm200 : m ≤ 201 := by
        have := putI_len l x i
        rw [← hr] at this
        simp only at this
        rw [← hm] at this
        split at this <;> omega
      have hpl : putL l x = if d then o else o ++ [x] := by
        unfold putL
        rw [← H.out.2.2.1, ← hr]
      have hxs := hko.get (g := xb) (o := .cells (pcV x) 52) (by simp)
      have x0 : wr.cell? ⟨xb, 0, none⟩ = some (.int .i64 (x.b : Int)) := cell_at hxs 0
      have x1 : wr.cell? ⟨xb, 1, none⟩ = some (.int .i64 (x.k : Int)) := cell_at hxs 1
      have x2 : wr.cell? ⟨xb, 2, none⟩ = some (.int .u32 x.p.sec) := cell_at hxs 2
      have x3 : wr.cell? ⟨xb, 3, none⟩ = some (.int .u32 x.p.seq) := cell_at hxs 3
      have x4 : wr.cell? ⟨xb, 4, none⟩ = some (.bool x.p.gone) := cell_at hxs 4
      have x5 : wr.cell? ⟨xb, 5, none⟩ = some (.int .u32 x.p.d0) := cell_at hxs 5
      have x6 : wr.cell? ⟨xb, 6, none⟩ = some (.int .u32 x.p.d1) := cell_at hxs 6
      have x7 : wr.cell? ⟨xb, 7, none⟩ = some (.int .u32 x.p.d2) := cell_at hxs 7
      have x8 : wr.cell? ⟨xb, 8, none⟩ = some (.int .u32 x.p.d3) := cell_at hxs 8
      have HQ := _root_.Go.Lib.hid (And.intro hko hm200)
      have HP := _root_.Go.Lib.hid (And.intro hpl hm)
      clear hko hm200 hpl hm hr hxs hik
      cases d with
      | true =>
        go_wp2_with fail
        go_ret
        refine ⟨_, rfl, ?_⟩
        have h1 := HQ.out.1.drop
        have e1 := HP.out.1
        have e1 : putL l x = o := by simpa using e1
        rw [e1, ← HP.out.2, ← H.out.2.2.2.1, show w0.heap.size = rb by rw [H.out.2.2.2.1, H.out.2.2.2.2]]
        exact h1
      | false =>
        go_wp2_with (at_builtin; refine wpList_append_ko rfl _ _ 47 rfl i0 _ 48 Tryz.underlying47 HI.out.1 HI.out.2.1 HI.out.2.2.1 HI.out.2.2.2 rfl (by decide) rfl (HQ.out.1.alloc _) ⟨_, 0, none⟩ 1 1 (pcV x).toList rfl rfl (news_mid (off := 0) (m := 9) (heap_alloc_new _ _) rfl) (by simp [Value.oneCell']) (by have := HQ.out.2; unfold maxLen; omega) (by have := HQ.out.2; omega) ?_)
        rintro v' w5 hk5 -
        have hko := hk5.drop
        obtain ⟨vp', vc', rfl⟩ := hko.shape
        have HE := _root_.Go.Lib.hid hko.drop
        clear hk5 hko
        go_wp2_with fail
        go_ret
        refine ⟨_, rfl, ?_⟩
        have h1 := HE.out
        have e1 := HP.out.1
        have e1 : putL l x = o ++ [x] := by simpa using e1
        rw [e1, flatP_snoc, List.length_append, ← HP.out.2, ← H.out.2.2.2.1, show w0.heap.size = rb by rw [H.out.2.2.2.1, H.out.2.2.2.2]]
        exact h1
end Go.Proofs.YtlcbilknfjdceaaGreatDoor
end
section
/-
  The reference: where each sector is.
-/
set_option linter.unusedVariables false
set_option linter.unusedSimpArgs false
namespace Go.Proofs.YtlcbilknfjdceaaGreatDoor
open Go.RowKit Go.Lib
def OrdP (y x : Pc) : Prop := y.b < x.b ∨ (y.b = x.b ∧ y.k ≤ x.k)
theorem pw_allK (i : Nat) (b : Rb) : ∀ k, (allK i b k).Pairwise OrdP
  | 0 => List.Pairwise.nil
  | k + 1 => by
    rw [allK, List.pairwise_append]
    refine ⟨pw_allK i b k, ?_, fun y hy x hx => ?_⟩
    · unfold pageK
      split
      · exact List.pairwise_singleton _ _
      · exact List.Pairwise.nil
    · have h1 := (mem_allK k).1 hy
      unfold pageK at hx
      split at hx
      · rw [List.mem_singleton] at hx
        rw [hx]
        exact .inr ⟨h1.1, Nat.le_of_lt h1.2.1⟩
      · cases hx
theorem pw_allI (bs : List Rb) : ∀ i, (allI bs i).Pairwise OrdP
  | 0 => List.Pairwise.nil
  | i + 1 => by
    rw [allI, List.pairwise_append]
    refine ⟨pw_allI bs i, pw_allK i _ 8, fun y hy x hx => ?_⟩
    have h1 := (mem_allI i).1 hy
    have h2 := (mem_allK 8).1 hx
    exact .inl (by rw [h2.1]; exact h1.1)
theorem behind_take {l : List Pc} (h : l.Pairwise OrdP) {i : Nat} {x : Pc} (hx : l[i]? = some x) : Behind (l.take i) x := by
  obtain ⟨hi, he⟩ := List.getElem?_eq_some_iff.1 hx
  intro y hy
  obtain ⟨j, hj, hjy⟩ := List.getElem_of_mem hy
  rw [List.length_take] at hj
  rw [List.getElem_take] at hjy
  have := List.pairwise_iff_getElem.1 h j i (by omega) hi (by omega)
  rw [hjy, he] at this
  exact this
theorem KO.lift {B : Nat} {W w w' : World} {L : Blocks} {e : TypeId} {sz n : Nat} {v : Value} {xs : List Value} (h : KW B W L w) (hk : KO w.heap.size w e sz v n xs [] w') : KO B W e sz v n xs L w' := by
  refine ⟨hk.1, ?_⟩
  rcases hk.2 with ⟨a, b, k⟩ | ⟨g, cap, cur, a, b, c, d, f, k⟩
  · exact .inl ⟨a, b, h.grown k.bel⟩
  · exact .inr ⟨g, cap, cur, a, b, c, d, f, KW.fresh h k.bel (k.kept _ List.mem_cons_self).1 (k.get List.mem_cons_self)⟩
set_option maxHeartbeats 1000000 in
set_option maxRecDepth 100000 in
theorem of12 {B g cap : Nat} {W w : World} {K : Blocks} {bs : List Rb} {sp : List Value} (h : KW B W ((g, row98 bs sp) :: K) w) (hb : Rests bs) :
    Calls Tryz.prog 12 #[.slice (some ⟨g, 0, none⟩) 5 cap] w fun e w' => ∃ v t L, e = .returned v ∧ KO B W 52 9 v t.length (flatP t) ((g, row98 bs sp) :: K) w' ∧ t.length ≤ 100 ∧ (∀ s, fnd t s = L s) ∧ Latest bs L := by
  have hc := counts32 (cap := cap) h hb
  have hlen : (allL bs).length ≤ 40 := by have := allL_len bs; rw [hb.1] at this; omega
  have hpw : (allL bs).Pairwise OrdP := pw_allI bs _
  have hmem : ∀ x, x ∈ allL bs ↔ In bs x := fun x => mem_allL
  obtain ⟨A, hA⟩ : ∃ A, A = allL bs := ⟨_, rfl⟩
  rw [← hA] at hc hlen hpw hmem
  have H := _root_.Go.Lib.hid (And.intro hc (And.intro hpw hmem))
  clear h hb hc hpw hmem hA
  go_enter Tryz.func12, Tryz.ntmps12
  go_wp2_with (go_at_call 32; refine H.out.1.mono ?_; rintro e w1 ⟨va, rfl, hko⟩; obtain ⟨pa, ca, rfl⟩ := hko.shape)
  obtain ⟨Ka, hR, hk⟩ := KO.ownR (K0 := []) (Kc := ((g, row98 bs sp) :: K)) hko
  obtain ⟨n, hn⟩ : ∃ n, n = A.length := ⟨_, rfl⟩
  have hk : KW B W (Ka ++ ((g, row98 bs sp) :: K)) w1 := hk
  rw [← hn] at hR hlen ⊢
  have HR := _root_.Go.Lib.hid (And.intro hR (And.intro hn hk))
  clear hko hR hn hk
  go_loopg [4, 5] n (fun k s4 s5 wr => ∃ (i : Nat) (t : List Pc) (L : Int → Option Pc), i + k = n ∧ s5 = .int .i64 (i : Int) ∧ t.length ≤ i ∧ (∀ s, fnd t s = L s) ∧ LatestL (A.take i) L ∧ KO B W 52 9 s4 t.length (flatP t) (Ka ++ ((g, row98 bs sp) :: K)) wr)
  case atStart => exact ⟨0, [], fun _ => none, by omega, rfl, Nat.le_refl _, fun _ => rfl, LatestL.nil, KO.start HR.out.2.2⟩
  case round =>
    obtain ⟨i, t, L, hik, rfl, htl, hf, hL, hko⟩ := hrel
    obtain ⟨m, hm⟩ : ∃ m, m = t.length := ⟨_, rfl⟩
    rw [← hm] at hko
    obtain ⟨vp, vc, rfl⟩ := hko.shape
    by_cases hi : i < n
    · obtain ⟨ga, hga, hgS⟩ : ∃ ga, pa = some ⟨ga, 0, none⟩ ∧ ∀ (ws : World) (L' : Blocks), KW B W (L' ++ (Ka ++ ((g, row98 bs sp) :: K))) ws → ∃ spa, ws.heap[ga]? = some (.cells (rowP A spa) 52) := by
        rcases HR.out.1.2 with ⟨_, b, _⟩ | ⟨ga, cap', cur, a, _, _, _, f, hKa⟩
        · omega
        · simp only [Value.slice.injEq] at a
          refine ⟨ga, a.1, fun ws L' hw => ⟨cur.toList.drop (n * 9), ?_⟩⟩
          have := hw.get (g := ga) (o := .cells cur 52) (by rw [hKa]; simp)
          rw [this]
          unfold rowP
          rw [← f, List.take_append_drop, Array.toArray_toList]
      subst hga
      obtain ⟨x, hx⟩ : ∃ x, A[i]? = some x := ⟨_, List.getElem?_eq_getElem (by have := HR.out.2.1; omega)⟩
      have htk : A.take (i + 1) = A.take i ++ [x] := by
        obtain ⟨hlt, he⟩ := List.getElem?_eq_some_iff.1 hx
        rw [List.take_succ_eq_append_getElem hlt, he]
      have hgs0 := hgS wr [] hko.kw
      obtain ⟨spa, hgs⟩ := hgs0
      have x2 : wr.cell? ⟨ga, i * 9 + 2, none⟩ = some (.int .u32 x.p.sec) := cell52 (w := wr) hgs hx 2 rfl
      have hF := find13 (s := x.p.sec) (hko.pAt hm) (by omega)
      obtain ⟨fo, hfo⟩ : ∃ fo, fo = fnd t x.p.sec := ⟨_, rfl⟩
      rw [← hfo] at hF
      obtain ⟨od, hod⟩ : ∃ od, od = fo.getD zPc := ⟨_, rfl⟩
      obtain ⟨isb, his⟩ : ∃ isb, isb = fo.isSome := ⟨_, rfl⟩
      rw [← hod, ← his] at hF
      have HF := _root_.Go.Lib.hid (And.intro hF hko)
      have HS := _root_.Go.Lib.hid (And.intro hgS (And.intro hx htk))
      have HN := _root_.Go.Lib.hid hm
      have HT := _root_.Go.Lib.hid (And.intro (show i ≤ 40 by omega) (And.intro htl hik))
      have HL := _root_.Go.Lib.hid (And.intro hf hL)
      have HO := _root_.Go.Lib.hid (And.intro hfo (And.intro hod his))
      clear hF hko hgS hx htk hm htl hik hf hL hfo hod his hgs
      go_upto_region 7 with (go_at_call 13; refine HF.out.1.mono ?_; rintro e w4 ⟨rfl, hb4⟩)
      clear x2
      have hk5 := (HF.out.2.grown hb4).alloc (.cells (pcV od) 52)
      clear hb4 HF
      generalize World.alloc w4 _ = w5 at hk5 ⊢
      generalize w4.heap.size = tb at hk5 ⊢
      have H5 := _root_.Go.Lib.hid hk5
      clear hk5
      cases fo with
      | none =>
        obtain ⟨hfo, hod, his⟩ := HO.out
        have HTK := _root_.Go.Lib.hid (show ∀ y, L x.p.sec = some y → y.p.seq < x.p.seq from fun y hy => by rw [← HL.out.1, ← hfo] at hy; cases hy)
        subst his
        clear hfo hod HO
        simp only [Option.isSome_none]
        refine wp_region_reads 14 (fun _ => True) (by kernel_rfl) (by kernel_rfl) trivial ?_
        simp only [List.take_succ_cons, List.take_zero, List.drop_succ_cons, List.drop_zero]
        refine Reads.val (v := .bool false) rfl (fun wc hC => ?_) ?_
        · go_simp
        refine Reads.go fun K hK => ?_
        go_simp
        refine hK _ ?_
        clear hK K
        refine Reads.val (v := .bool true) rfl (fun wc hC => ?_) ?_
        · go_simp
        refine Reads.go fun K hK => ?_
        go_simp
        refine hK _ ?_
        clear hK K
        refine Reads.val (v := .bool true) rfl (fun wc hC => ?_) ?_
        · go_simp
        refine Reads.go fun K hK => ?_
        go_simp
        refine hK _ ?_
        clear hK K
        refine Reads.un (by go_simp) ?_
        refine Reads.go fun K hK => ?_
        go_simp
        refine hK _ ?_
        clear hK K
        refine Reads.un (by go_simp) ?_
        refine Reads.go fun K hK => ?_
        go_simp
        refine hK _ ?_
        clear hK K
        refine Reads.un (by go_simp) ?_
        refine Reads.go fun K hK => ?_
        go_simp
        refine hK _ ?_
        clear hK K
        refine Reads.un (by go_simp) ?_
        refine Reads.go fun K hK => ?_
        go_simp
        refine hK _ ?_
        clear hK K
        refine Reads.un (by go_simp) ?_
        refine Reads.go fun K hK => ?_
        go_simp
        refine hK _ ?_
        clear hK K
        refine Reads.un (by go_simp) ?_
        refine Reads.go fun K hK => ?_
        go_simp
        refine hK _ ?_
        clear hK K
        refine Reads.un (by go_simp) ?_
        refine Reads.go fun K hK => ?_
        go_simp
        refine hK _ ?_
        clear hK K
        refine Reads.un (by go_simp) ?_
        refine Reads.go fun K hK => ?_
        go_simp
        refine hK _ ?_
        clear hK K
        refine Reads.un (by go_simp) ?_
        refine Reads.go fun K hK => ?_
        go_simp
        refine hK _ ?_
        clear hK K
        refine Reads.un (by go_simp) ?_
        refine Reads.go fun K hK => ?_
        go_simp
        refine hK _ ?_
        clear hK K
        refine Reads.val (v := .bool true) rfl (fun wc hC => ?_) ?_
        · go_simp
        refine Reads.go fun K hK => ?_
        go_simp
        refine hK _ ?_
        clear hK K
        show wpListR _ _ _ _ _ _ _
        refine wpListR_nil ?_
        have hk6 : KO B W 52 9 (.slice vp m vc) m (flatP t) ((tb, .cells (pcV od) 52) :: (Ka ++ ((g, row98 bs sp) :: K))) { heap := w5.heap, tape := w5.tape, drawn := w5.drawn + 1, os := w5.os, output := w5.output } := H5.out.drew
        generalize ({ heap := w5.heap, tape := w5.tape, drawn := w5.drawn + 1, os := w5.os, output := w5.output } : World) = w6 at hk6 ⊢
        have HK := _root_.Go.Lib.hid (And.intro hk6 trivial)
        clear hk6
        obtain ⟨spa, hgs⟩ := HS.out.1 w6 [(tb, .cells (pcV od) 52)] HK.out.1.kw
        have hx := HS.out.2.1
        have x0 : w6.cell? ⟨ga, i * 9, none⟩ = some (.int .i64 (x.b : Int)) := cell52 (w := w6) hgs hx 0 rfl
        have x1 : w6.cell? ⟨ga, i * 9 + 1, none⟩ = some (.int .i64 (x.k : Int)) := cell52 (w := w6) hgs hx 1 rfl
        have x2 : w6.cell? ⟨ga, i * 9 + 2, none⟩ = some (.int .u32 x.p.sec) := cell52 (w := w6) hgs hx 2 rfl
        have x3 : w6.cell? ⟨ga, i * 9 + 3, none⟩ = some (.int .u32 x.p.seq) := cell52 (w := w6) hgs hx 3 rfl
        have x4 : w6.cell? ⟨ga, i * 9 + 4, none⟩ = some (.bool x.p.gone) := cell52 (w := w6) hgs hx 4 rfl
        have x5 : w6.cell? ⟨ga, i * 9 + 5, none⟩ = some (.int .u32 x.p.d0) := cell52 (w := w6) hgs hx 5 rfl
        have x6 : w6.cell? ⟨ga, i * 9 + 6, none⟩ = some (.int .u32 x.p.d1) := cell52 (w := w6) hgs hx 6 rfl
        have x7 : w6.cell? ⟨ga, i * 9 + 7, none⟩ = some (.int .u32 x.p.d2) := cell52 (w := w6) hgs hx 7 rfl
        have x8 : w6.cell? ⟨ga, i * 9 + 8, none⟩ = some (.int .u32 x.p.d3) := cell52 (w := w6) hgs hx 8 rfl
        have hpt := put33 (x := x) (HK.out.1.pAt HN.out) (by have := HT.out.1; have := HT.out.2.1; omega)
        have HP := _root_.Go.Lib.hid hpt
        clear hgs hx hpt
        go_wp2_with (go_at_call 33; refine HP.out.mono ?_; rintro e w7 ⟨v2, rfl, hk2⟩)
        obtain ⟨vp2, vc2, rfl⟩ := hk2.shape
        have HE := _root_.Go.Lib.hid ((KO.lift HK.out.1.kw hk2).drop)
        clear hk2 x0 x1 x2 x3 x4 x5 x6 x7 x8
        first | go_roundg (n - (i + 1)) | (go_wp2_with fail; go_roundg (n - (i + 1)))
        case measure => have := HT.out.2.2; omega
        case rel =>
          refine ⟨i + 1, putL t x, fun s => if s = x.p.sec then some x else L s, by have := HT.out.2.2; omega, by first | rfl | go_num, by have := putL_len t x; have := HT.out.2.1; omega, fun s => ?_, ?_, HE.out⟩
          · rw [putL_fnd, HL.out.1 s]
          · rw [HS.out.2.2]
            exact HL.out.2.take HTK.out
      | some fo' =>
        obtain ⟨hfo, hod, his⟩ := HO.out
        have e : od = fo' := hod
        clear hod
        subst e
        have hLs : L x.p.sec = some od := by rw [← HL.out.1, ← hfo]
        have HLS := _root_.Go.Lib.hid hLs
        subst his
        clear hfo HO hLs
        simp only [Option.isSome_some]
        obtain ⟨spa, hgs⟩ := HS.out.1 w5 [(tb, .cells (pcV od) 52)] H5.out.kw
        have hx := HS.out.2.1
        have htb := H5.out.get (g := tb) (o := .cells (pcV od) 52) (by simp)
        have x3 : w5.drew.cell? ⟨ga, i * 9 + 3, none⟩ = some (.int .u32 x.p.seq) := cell52 (w := w5.drew) hgs hx 3 rfl
        have o3 : w5.drew.cell? ⟨tb, 3, none⟩ = some (.int .u32 od.p.seq) := cell_at (w := w5.drew) htb 3
        clear hgs hx htb
        by_cases hq : od.p.seq < x.p.seq
        · have HTK := _root_.Go.Lib.hid (show ∀ y, L x.p.sec = some y → y.p.seq < x.p.seq from fun y hy => by rw [HLS.out] at hy; cases hy; exact hq)
          go_upto_region 7 with fail
          go_still (by kernel_rfl)
          clear x3 o3
          have hk6 : KO B W 52 9 (.slice vp m vc) m (flatP t) ((tb, .cells (pcV od) 52) :: (Ka ++ ((g, row98 bs sp) :: K))) { heap := w5.heap, tape := w5.tape, drawn := w5.drawn + 1, os := w5.os, output := w5.output } := H5.out.drew
          generalize ({ heap := w5.heap, tape := w5.tape, drawn := w5.drawn + 1, os := w5.os, output := w5.output } : World) = w6 at hk6 ⊢
          have HK := _root_.Go.Lib.hid (And.intro hk6 trivial)
          clear hk6
          obtain ⟨spa, hgs⟩ := HS.out.1 w6 [(tb, .cells (pcV od) 52)] HK.out.1.kw
          have hx := HS.out.2.1
          have x0 : w6.cell? ⟨ga, i * 9, none⟩ = some (.int .i64 (x.b : Int)) := cell52 (w := w6) hgs hx 0 rfl
          have x1 : w6.cell? ⟨ga, i * 9 + 1, none⟩ = some (.int .i64 (x.k : Int)) := cell52 (w := w6) hgs hx 1 rfl
          have x2 : w6.cell? ⟨ga, i * 9 + 2, none⟩ = some (.int .u32 x.p.sec) := cell52 (w := w6) hgs hx 2 rfl
          have x3 : w6.cell? ⟨ga, i * 9 + 3, none⟩ = some (.int .u32 x.p.seq) := cell52 (w := w6) hgs hx 3 rfl
          have x4 : w6.cell? ⟨ga, i * 9 + 4, none⟩ = some (.bool x.p.gone) := cell52 (w := w6) hgs hx 4 rfl
          have x5 : w6.cell? ⟨ga, i * 9 + 5, none⟩ = some (.int .u32 x.p.d0) := cell52 (w := w6) hgs hx 5 rfl
          have x6 : w6.cell? ⟨ga, i * 9 + 6, none⟩ = some (.int .u32 x.p.d1) := cell52 (w := w6) hgs hx 6 rfl
          have x7 : w6.cell? ⟨ga, i * 9 + 7, none⟩ = some (.int .u32 x.p.d2) := cell52 (w := w6) hgs hx 7 rfl
          have x8 : w6.cell? ⟨ga, i * 9 + 8, none⟩ = some (.int .u32 x.p.d3) := cell52 (w := w6) hgs hx 8 rfl
          have hpt := put33 (x := x) (HK.out.1.pAt HN.out) (by have := HT.out.1; have := HT.out.2.1; omega)
          have HP := _root_.Go.Lib.hid hpt
          clear hgs hx hpt
          go_wp2_with (go_at_call 33; refine HP.out.mono ?_; rintro e w7 ⟨v2, rfl, hk2⟩)
          obtain ⟨vp2, vc2, rfl⟩ := hk2.shape
          have HE := _root_.Go.Lib.hid ((KO.lift HK.out.1.kw hk2).drop)
          clear hk2 x0 x1 x2 x3 x4 x5 x6 x7 x8
          first | go_roundg (n - (i + 1)) | (go_wp2_with fail; go_roundg (n - (i + 1)))
          case measure => have := HT.out.2.2; omega
          case rel =>
            refine ⟨i + 1, putL t x, fun s => if s = x.p.sec then some x else L s, by have := HT.out.2.2; omega, by first | rfl | go_num, by have := putL_len t x; have := HT.out.2.1; omega, fun s => ?_, ?_, HE.out⟩
            · rw [putL_fnd, HL.out.1 s]
            · rw [HS.out.2.2]
              exact HL.out.2.take HTK.out
        · have hbh := behind_take H.out.2.1 HS.out.2.1
          have HLV := _root_.Go.Lib.hid (HL.out.2.leave HLS.out (by omega) hbh)
          clear hbh
          go_upto_region 7 with fail
          go_still (by kernel_rfl)
          clear x3 o3
          have hk6 : KO B W 52 9 (.slice vp m vc) m (flatP t) ((tb, .cells (pcV od) 52) :: (Ka ++ ((g, row98 bs sp) :: K))) { heap := w5.heap, tape := w5.tape, drawn := w5.drawn + 1, os := w5.os, output := w5.output } := H5.out.drew
          generalize ({ heap := w5.heap, tape := w5.tape, drawn := w5.drawn + 1, os := w5.os, output := w5.output } : World) = w6 at hk6 ⊢
          have HK := _root_.Go.Lib.hid (And.intro hk6 trivial)
          clear hk6
          go_wp2_with fail
          go_roundg (n - (i + 1))
          case measure => have := HT.out.2.2; omega
          case rel =>
            refine ⟨i + 1, t, L, by have := HT.out.2.2; omega, by first | rfl | go_num, by have := HT.out.2.1; omega, HL.out.1, ?_, ?_⟩
            · rw [HS.out.2.2]
              exact HLV.out
            · rw [← HN.out]
              exact HK.out.1.drop
    · have e : i = n := by omega
      subst e
      have hn := HR.out.2.1
      rw [List.take_of_length_le (by omega)] at hL
      have HE := _root_.Go.Lib.hid (And.intro hko (And.intro hf (And.intro hL (And.intro hm htl))))
      clear hko hf hL hm htl hn hik
      go_wp2_with fail
      go_ret
      obtain ⟨hko, hf, hL, hm, htl⟩ := HE.out
      refine ⟨_, t, L, rfl, ?_, by omega, hf, hL.of H.out.2.2⟩
      rw [← hm]
      exact hko.turn fun K1 h => KW.cut K1 Ka ((g, row98 bs sp) :: K) h
end Go.Proofs.YtlcbilknfjdceaaGreatDoor
end
section
/-
  The machine: its parts as they begin.
-/
set_option linter.unusedVariables false
set_option linter.unusedSimpArgs false
namespace Go.Proofs.YtlcbilknfjdceaaGreatDoor
open Go.RowKit Go.Lib
abbrev clockO (n : Int) : Obj := .cells #[.int .u64 n, .int .u64 18446744073709551615, .bool false] 194
abbrev deskO : Obj := .cells #[.int .u32 0, .int .u32 0, .int .u32 0] 196
abbrev uartO : Obj := .cells #[.slice none 0 0, .pointer none, .slice none 0 0, .int .u32 0, .int .u32 0, .int .u32 0, .int .u32 0, .int .u32 0, .int .u32 0, .int .u32 0, .int .u32 0, .bool false] 203
abbrev sectO (d : Nat) : Obj := .cells #[.iface 30 (.pointer (some ⟨d, 0, none⟩)), .int .u32 0, .int .u32 0, .int .u32 0, .bool false, .int .u32 0, .int .u32 0, .int .u32 0, .int .u32 0, .int .u32 0, .int .u32 0, .int .u32 0, .int .u32 0, .int .u32 0, .int .u32 0, .int .u32 0, .int .u32 0, .int .u32 0, .int .u32 0, .int .u32 0, .int .u32 0, .int .i64 0] 206
abbrev busO (r : Nat) (l : Value) : Obj := .cells #[.pointer (some ⟨r, 0, none⟩), l] 209
theorem clock68 (w : World) : Calls Tryz.prog 68 #[] w fun e w' => e = .returned (.pointer (some ⟨w.heap.size, 0, none⟩)) ∧ w' = w.alloc (clockO 0) := by
  go_enter Tryz.func68, Tryz.ntmps68
  go_wp2_with fail
  go_ret
  exact ⟨rfl, rfl⟩
theorem desk69 (w : World) : Calls Tryz.prog 69 #[] w fun e w' => e = .returned (.pointer (some ⟨w.heap.size, 0, none⟩)) ∧ w' = w.alloc (deskO) := by
  go_enter Tryz.func69, Tryz.ntmps69
  go_wp2_with fail
  go_ret
  exact ⟨rfl, rfl⟩
theorem uart70 (w : World) : Calls Tryz.prog 70 #[] w fun e w' => e = .returned (.pointer (some ⟨w.heap.size, 0, none⟩)) ∧ w' = w.alloc (uartO) := by
  go_enter Tryz.func70, Tryz.ntmps70
  go_wp2_with fail
  go_ret
  exact ⟨rfl, rfl⟩
theorem sect71 (d : Nat) (w : World) : Calls Tryz.prog 71 #[.iface 30 (.pointer (some ⟨d, 0, none⟩))] w fun e w' => e = .returned (.pointer (some ⟨w.heap.size, 0, none⟩)) ∧ w' = w.alloc (sectO d) := by
  go_enter Tryz.func71, Tryz.ntmps71
  go_wp2_with fail
  go_ret
  exact ⟨rfl, rfl⟩
theorem bus73 (r : Nat) (w : World) : Calls Tryz.prog 73 #[.pointer (some ⟨r, 0, none⟩)] w fun e w' => e = .returned (.pointer (some ⟨w.heap.size, 0, none⟩)) ∧ w' = w.alloc (busO r (.slice none 0 0)) := by
  go_enter Tryz.func73, Tryz.ntmps73
  go_wp2_with fail
  go_ret
  exact ⟨rfl, rfl⟩
/-- A hart: its registers' file, its mode, where it is, its registers, and two flags. -/
def coreV (cy pc : Int) : Array Value := #[.int .u32 0, .int .u32 0, .int .u32 0, .int .u32 0, .int .u32 0, .int .u32 0, .int .u32 0, .int .u32 0, .int .u32 0, .int .u32 0, .int .u32 0, .int .u32 0, .int .u32 0, .int .u32 0, .int .u32 0, .int .u32 0, .int .u64 cy, .int .i64 3, .int .u32 pc]
def hartV (cy pc x1 : Int) : Array Value := #[.int .u32 0, .int .u32 0, .int .u32 0, .int .u32 0, .int .u32 0, .int .u32 0, .int .u32 0, .int .u32 0, .int .u32 0, .int .u32 0, .int .u32 0, .int .u32 0, .int .u32 0, .int .u32 0, .int .u32 0, .int .u32 0, .int .u64 cy, .int .i64 3, .int .u32 pc, .int .u32 0, .int .u32 x1, .int .u32 0, .int .u32 0, .int .u32 0, .int .u32 0, .int .u32 0, .int .u32 0, .int .u32 0, .int .u32 0, .int .u32 0, .int .u32 0, .int .u32 0, .int .u32 0, .int .u32 0, .int .u32 0, .int .u32 0, .int .u32 0, .int .u32 0, .int .u32 0, .int .u32 0, .int .u32 0, .int .u32 0, .int .u32 0, .int .u32 0, .int .u32 0, .int .u32 0, .int .u32 0, .int .u32 0, .int .u32 0, .int .u32 0, .int .u32 0, .int .u32 0, .bool false, .bool false]
def hartZ : Array Value := #[.int .u32 0, .int .u32 0, .int .u32 0, .int .u32 0, .int .u32 0, .int .u32 0, .int .u32 0, .int .u32 0, .int .u32 0, .int .u32 0, .int .u32 0, .int .u32 0, .int .u32 0, .int .u32 0, .int .u32 0, .int .u32 0, .int .u64 0, .int .i64 0, .int .u32 0, .int .u32 0, .int .u32 0, .int .u32 0, .int .u32 0, .int .u32 0, .int .u32 0, .int .u32 0, .int .u32 0, .int .u32 0, .int .u32 0, .int .u32 0, .int .u32 0, .int .u32 0, .int .u32 0, .int .u32 0, .int .u32 0, .int .u32 0, .int .u32 0, .int .u32 0, .int .u32 0, .int .u32 0, .int .u32 0, .int .u32 0, .int .u32 0, .int .u32 0, .int .u32 0, .int .u32 0, .int .u32 0, .int .u32 0, .int .u32 0, .int .u32 0, .int .u32 0, .int .u32 0, .bool false, .bool false]
theorem ex_bld {a : Act} {w : World} {o : Oper} {t : TypeId} {parts : Array (Nat × Operand)} {v : Value} {qs : Array (Nat × Value)} (h : o.op = .build t parts) (hq : parts.map (fun (i, x) => (i, a.eval x)) = qs) (hr : (Instr.build t qs).run Tryz.prog w = .ok v w) : (execOp a.eval o).run Tryz.prog w = .ok (.value v) w := by
  subst hq
  cases o; simp only at h; subst h
  simp only [execOp, Sem.run_bind, hr]
  rfl
theorem zero72 (w : World) : (zeroValue 72).run Tryz.prog w = .ok (.agg hartZ) w := by kernel_rfl
theorem core_built (pc : Int) (w : World) : (Instr.build 69 #[(1, .int .i64 3), (2, .int .u32 pc)]).run Tryz.prog w = .ok (.agg (coreV 0 pc)) w := by kernel_rfl
theorem hart_built (pc : Int) (w : World) : (Instr.build 72 #[(0, .agg (coreV 0 pc))]).run Tryz.prog w = .ok (.agg (hartV 0 pc 0)) w := by kernel_rfl
theorem size72 : (Tryz.prog.info? 72).map (·.size) = some 54 := by kernel_rfl
theorem hart_size (cy pc x1 : Int) : (hartV cy pc x1).size = 54 := rfl
theorem hart_one (cy pc x1 : Int) : (hartV cy pc x1).toList.all Value.oneCell' = true := rfl
theorem hartZ_size : hartZ.size = 54 := rfl
theorem ld72 {cy pc x1 : Int} {w : World} {g : Nat} {t : TypeId} (hg : w.heap[g]? = some (.cells (hartV cy pc x1) t)) : (Instr.loadAt 72 (.pointer (some ⟨g, 0, none⟩))).run Tryz.prog w = .ok (.agg (hartV cy pc x1)) w :=
  Mem.run_loadAt_part (by rfl) Tryz.underlying72 hg (by rw [size72]; rfl) (by rw [List.drop_zero, ← Array.length_toList, List.take_length])
theorem st72 (cy pc x1 : Int) {w : World} {g : Nat} {t : TypeId} {cur : Array Value} (hg : w.heap[g]? = some (.cells cur t)) (hc : cur.size = 54) : (Instr.storeAt 72 (.pointer (some ⟨g, 0, none⟩)) (.agg (hartV cy pc x1))).run Tryz.prog w = .ok () (w.setRow g (hartV cy pc x1)) :=
  Mem.run_storeAt_part hg (by rw [size72]; rfl) (by rw [hc, hart_size]; omega) (hart_one _ _ _) (by
    rw [List.take_zero, List.nil_append, List.drop_eq_nil_of_le (by rw [Array.length_toList, hc, hart_size]; omega), List.append_nil, Array.toArray_toList]) rfl
theorem results72 {tmps : Array Value} {w : World} {rb : Nat} {cy pc x1 : Int} {t : TypeId} (h2 : tmps.getD 2 undef = .pointer (some ⟨rb, 0, none⟩)) (hg : w.heap[rb]? = some (.cells (hartV cy pc x1) t)) :
    (results Tryz.f72 tmps).run Tryz.prog w = .ok (.agg (hartV cy pc x1)) w := by
  have hl := ld72 hg
  rw [Array.getD_eq_getD_getElem?] at h2
  simp only [Instr.loadAt, Instr.sureAddr, pure_bind] at hl
  simp [results, h2, Result.andThen, asAddr, hl]
set_option maxRecDepth 100000 in
theorem hart72 (pc : Int) (w : World) : Calls Tryz.prog 72 #[.int .u32 pc] w fun e w' => e = .returned (.agg (hartV 0 pc 0)) ∧ Below w.heap.size w w' := by
  have hz := zero72
  go_enter Tryz.func72, Tryz.ntmps72
  go_upto_region 1 with fail
  have hg := heap_alloc_new w (.cells hartZ 72)
  have hb := (KW.start (Below.refl w.heap.size w) (Nat.le_refl _)).push (.cells hartZ 72)
  generalize w.alloc _ = w1 at hg hb ⊢
  obtain ⟨rb, hrb⟩ : ∃ rb, rb = w.heap.size := ⟨_, rfl⟩
  rw [← hrb] at hg hb ⊢
  have hs := st72 0 pc 0 hg hartZ_size
  have H := _root_.Go.Lib.hid (And.intro hs (And.intro hg hb))
  clear hs hg hb hz
  go_wp2_with (first | (refine Mem.wpList_run rfl (ex_bld (parts := #[(1, .const (.int .i64 3)), (2, .tmp 3)]) rfl (qs := #[(1, .int .i64 3), (2, .int .u32 pc)]) (by rw [List.map_toArray]; rfl) (core_built pc _)) ?_) | (refine Mem.wpList_run rfl (ex_bld (parts := #[(0, .tmp 4)]) rfl (qs := #[(0, .agg (coreV 0 pc))]) (by rw [List.map_toArray]; rfl) (hart_built pc _)) ?_) | ((with_reducible apply Mem.st 72); rfl; rfl; exact H.out.1))
  refine bodyPost_ret (v := .agg (hartV 0 pc 0)) (results72 rfl (setRow_heap w1 rb hartZ (hartV 0 pc 0) 72 (0, 0) H.out.2.1)) rfl ⟨rfl, ?_⟩
  rw [← hrb]
  exact (KW.row (vs := hartV 0 pc 0) H.out.2.2).bel
end Go.Proofs.YtlcbilknfjdceaaGreatDoor
end
