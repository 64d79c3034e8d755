/-
  WholeFlash, part 40 of 44: Whole.
-/
import Derived.Deep.CutRange
import Derived.Deep.QuietTactic
import Derived.Test.YtlcbilknfjdceaaGreatDoorM32
section
/-
  The law: its own walk.
-/
set_option linter.unusedVariables false
set_option linter.unusedSimpArgs false
set_option maxRecDepth 100000
namespace Go.Proofs.YtlcbilknfjdceaaGreatDoor
open Go.RowKit Go.Lib Go.Sort
structure Ac where
  k : Int
  s : Int
  v : Int
def Ac.ok (x : Ac) : Prop := (0 ≤ x.k ∧ x.k < 256) ∧ (0 ≤ x.v ∧ x.v < 4294967296)
abbrev acV (x : Ac) : Array Value := #[.int .u8 x.k, .int .i64 x.s, .int .u32 x.v]
/-- v is a slice of n acts. -/
def ActsAt (v : Value) (n : Nat) (f : Nat → Ac) (w : World) : Prop :=
  ∃ va vc, v = .slice va n vc ∧ ∀ j, j < n → (f j).ok ∧ ∃ g o, va = some ⟨g, o, none⟩ ∧ g < w.heap.size ∧ ∀ i, i < 3 → w.cell? ⟨g, o + j * 3 + i, none⟩ = (acV (f j))[i]?
section
variable {B : Nat} {W w : World} {K : Blocks} {S : Sv}
abbrev svX (S : Sv) : Blocks := [(S.D.d, drO S.D), (S.D.F.f, flO S.D.F S.D.a), (S.D.F.m, .map #[] 0)] ++ svR S
theorem svP (S : Sv) (K : Blocks) : (svK S ++ K).Perm (chK S.D.C S.D.a ++ (svX S ++ K)) := by
  have := List.perm_append_comm_assoc [(S.D.d, drO S.D), (S.D.F.f, flO S.D.F S.D.a), (S.D.F.m, .map #[] 0)] (chK S.D.C S.D.a) (svR S ++ K)
  simpa using this
theorem swords (h : KW B W (svK S ++ K) w) (ho : S.D.C.Ok) : Calls Tryz.prog 7 #[.pointer (some ⟨S.D.a.c, 0, none⟩)] w fun e w' => ∃ g cap sp', e = .returned (.slice (some ⟨g, 0, none⟩) 320 cap) ∧ 320 ≤ cap ∧ KW B W (svK S ++ ((g, .cells (ints .u32 S.D.C.ws ++ sp') 38) :: K)) w' :=
  (words_calls (h.perm (svP S K)) ho).mono fun e w' ⟨g, cap, sp', he, hc, hk⟩ => ⟨g, cap, sp', he, hc, (hk.perm ((svP S K).symm.cons _)).perm List.perm_middle.symm⟩
theorem swear (h : KW B W (svK S ++ K) w) (ho : S.D.C.Ok) (b : Nat) (hb : b < 5) : Calls Tryz.prog 8 #[.pointer (some ⟨S.D.a.c, 0, none⟩), .int .i64 (b : Int)] w fun e w' => e = .returned (.int .i64 (S.D.C.wear.getD b 0)) ∧ w' = w :=
  (wear_calls (h.perm (svP S K)) ho b hb).mono fun e w' hh => ⟨hh.1, hh.2.symm⟩
end
theorem eq_getD5 {l m : List Int} (hl : l.length = 5) (hm : m.length = 5) (h : ∀ j, j < 5 → l.getD j 0 = m.getD j 0) : l = m := by
  apply List.ext_getElem (by omega)
  intro i h1 h2
  have := h i (by omega)
  rw [List.getD_eq_getElem?_getD, List.getD_eq_getElem?_getD, List.getElem?_eq_getElem h1, List.getElem?_eq_getElem h2] at this
  exact this
theorem KW.sub {B : Nat} {W w : World} {K K' : Blocks} (h : KW B W K w) (hs : K'.Sublist K) : KW B W K' w := ⟨h.bel, h.size, fun p hp => h.kept p (hs.subset hp), h.nodup.sublist (hs.map _)⟩
abbrev wearO (l : List Int) : Obj := .cells (ints .i64 l) 3
abbrev wrdO (l : List Int) (sp : Array Value) : Obj := .cells (ints .u32 l ++ sp) 38
abbrev flashO (c d : Nat) : Obj := .cells #[.pointer (some ⟨c, 0, none⟩), .pointer (some ⟨d, 0, none⟩)] 27
theorem whole_big {v : Value} {n : Nat} {f : Nat → Ac} {w : World} (h4 : Calls Tryz.prog 4 #[] w fun e w' => e = .returned (.bool true) ∧ Below w.heap.size w w') (hv : ActsAt v n f w) (hn : 80 < n) :
    Calls Tryz.prog 3 #[v] w fun e w' => e = .returned (.bool true) ∧ Below w.heap.size w w' := by
  obtain ⟨va, vc, rfl, _⟩ := hv
  have e1 : ((n : Int) > 80) = True := by simp; omega
  have e2 : ((80 : Int) < n) = True := by simp; omega
  have e3 : (80 < n) = True := by simp [hn]
  have H := _root_.Go.Lib.hid h4
  clear h4 hn
  go_enter Tryz.func3, Tryz.ntmps3
  go_wp2_with (go_at_call 4; refine H.out.mono ?_; rintro e w1 ⟨rfl, hb⟩; have HB := _root_.Go.Lib.hid hb; clear hb)
  go_ret
  exact ⟨rfl, HB.out⟩
set_option maxHeartbeats 4000000 in
theorem whole_small {v : Value} {n : Nat} {f : Nat → Ac} {w : World} (h4 : Calls Tryz.prog 4 #[] w fun e w' => e = .returned (.bool true) ∧ Below w.heap.size w w') (hv : ActsAt v n f w) (hn : n ≤ 80) :
    Calls Tryz.prog 3 #[v] w fun e w' => e = .returned (.bool true) ∧ Below w.heap.size w w' := by
  obtain ⟨va, vc, rfl, hf⟩ := hv
  have e1 : ((n : Int) > 80) = False := by simp; omega
  have e2 : ((80 : Int) < n) = False := by simp; omega
  have e3 : (80 < n) = False := by simp; omega
  have H := _root_.Go.Lib.hid (And.intro h4 (And.intro hf hn))
  clear h4 hf hn
  go_enter Tryz.func3, Tryz.ntmps3
  go_upto_region 5 with (go_at_call 4; refine H.out.1.mono ?_; rintro e w1 ⟨rfl, hb⟩; have HB := _root_.Go.Lib.hid hb; clear hb)
  have hbg := begin5 (KW.start HB.out HB.out.size)
  have HG := _root_.Go.Lib.hid hbg
  clear hbg e1 e2 e3
  go_upto_region 8 with (go_at_call 5; refine HG.out.mono ?_; rintro e w2 ⟨D, rfl, hr, hC, hk⟩; have HD := _root_.Go.Lib.hid (And.intro hr (And.intro hC hk)); clear hr hC hk)
  obtain ⟨hr, hC, hk⟩ := HD.out
  have h3 := KW.mv [(w2.heap.size, flashO D.a.c D.d)] (drK D) [] (hk.push (flashO D.a.c D.d))
  generalize hg3 : w2.heap.size = g3 at h3 ⊢
  generalize World.alloc w2 _ = w3 at h3 ⊢
  have c1 : w3.cell? ⟨g3, 1, none⟩ = some (.pointer (some ⟨D.d, 0, none⟩)) := cell_at (h3.get (g := g3) (o := flashO D.a.c D.d) (by simp)) 1
  have hfm := format6 h3 hr (by rw [hC]) (by rw [hC]; intro b hb; show (List.replicate 5 0).getD b 0 = 0; rw [List.getD_eq_getElem?_getD, List.getElem?_replicate, if_pos hb]; rfl) (by rw [hC]; exact ⟨by decide, by decide⟩)
  have HF := _root_.Go.Lib.hid (And.intro hfm hC)
  clear hr hC hk h3 hfm HD HG hg3
  go_upto_region 9 with (go_at_call 6; refine HF.out.1.mono ?_; rintro e w4 ⟨s, rfl, hF⟩; have HS := _root_.Go.Lib.hid hF; clear hF)
  obtain ⟨⟨S, hs, hd, ha, he, hful, _, hk⟩, hC⟩ := And.intro HS.out HF.out.2
  subst hs
  have he' : S.D.C.endure = 100000 := by rw [he, hC]
  rw [← ha, ← hd] at hk
  rw [← ha, ← hd]
  clear he ha hd hC HS HF c1
  have g3a := hk.get (g := g3) (o := flashO S.D.a.c S.D.d) (by simp)
  have c0 : w4.cell? ⟨g3, 0, none⟩ = some (.pointer (some ⟨S.D.a.c, 0, none⟩)) := cell_at g3a 0
  have hwd := swords hk hful.1.rest.ok
  have HK := _root_.Go.Lib.hid (And.intro hwd (And.intro hful he'))
  clear hk hwd hful he' g3a
  go_upto_region 12 with (go_at_call 7; refine HK.out.1.mono ?_; rintro e w5 ⟨gb, cb, spb, rfl, hcb, hk⟩; have HW := _root_.Go.Lib.hid (And.intro hcb hk); clear hcb hk)
  have h6 := HW.out.2.push (wearO [0, 0, 0, 0, 0])
  have mk := make36
  generalize hgw : w5.heap.size = gw at h6 ⊢
  have H6 := _root_.Go.Lib.hid h6
  clear h6 c0
  go_wp2_with fail
  have h6 : KW w.heap.size w (svK S ++ [(gw, wearO [0, 0, 0, 0, 0]), (gb, wrdO S.D.C.ws spb), (g3, flashO S.D.a.c S.D.d)]) (w5.alloc (wearO [0, 0, 0, 0, 0])) := H6.out.perm List.perm_middle.symm
  generalize World.alloc _ _ = w6 at h6 ⊢
  have H6 := _root_.Go.Lib.hid h6
  clear h6 mk hgw
  go_loopg [52] 5 (fun k s52 wr => ∃ (i : Nat) (l : List Int), i + k = 5 ∧ s52 = .int .i64 (i : Int) ∧ l.length = 5 ∧ (∀ j, j < i → l.getD j 0 = S.D.C.wear.getD j 0) ∧ KW w.heap.size w (svK S ++ [(gw, wearO l), (gb, wrdO S.D.C.ws spb), (g3, flashO S.D.a.c S.D.d)]) wr)
  case atStart => exact ⟨0, [0, 0, 0, 0, 0], rfl, rfl, rfl, fun j hj => absurd hj (Nat.not_lt_zero j), H6.out⟩
  case round =>
    obtain ⟨i, l, hik, rfl, hl, hlw, hk⟩ := hrel
    by_cases hi : i < 5
    · have hlt : ((i : Int) < 5) = True := by simp; omega
      have hgc := hk.get (g := g3) (o := flashO S.D.a.c S.D.d) (by simp)
      have hgg := hk.get (g := gw) (o := wearO l) (by simp)
      have c0 : wr.cell? ⟨g3, 0, none⟩ = some (.pointer (some ⟨S.D.a.c, 0, none⟩)) := cell_at hgc 0
      have g0 : wr.cell? ⟨gw, i, none⟩ = some (.int .i64 (l.getD i 0)) := (cell_at hgg i).trans (ints_at (by omega))
      have q0 : wr.frozen? ⟨gw, i, none⟩ = false := free_at hgg i
      have hwr := swear hk HK.out.2.1.1.rest.ok i hi
      have HX := _root_.Go.Lib.hid (And.intro hwr (And.intro hk (And.intro hl (And.intro hlw hik))))
      clear hwr hk hl hlw hik hgc hgg
      go_wp2_with (go_at_call 8; refine HX.out.1.mono ?_; rintro e w7 ⟨rfl, rfl⟩)
      go_roundg (5 - (i + 1))
      case measure => have := HX.out.2.2.2.2; omega
      case rel =>
        obtain ⟨_, hk, hl, hlw, hik⟩ := HX.out
        refine ⟨i + 1, l.set i (S.D.C.wear.getD i 0), by omega, by first | rfl | go_num, by rw [List.length_set]; exact hl, fun j hj => ?_, KW.cellAt (svK S) [(gb, wrdO S.D.C.ws spb), (g3, flashO S.D.a.c S.D.d)] hk ints_set⟩
        rw [getD_set]
        split
        · rename_i h; rw [← h.1]
        · rename_i h; exact hlw j (by omega)
    · have hi5 : i = 5 := by omega
      subst hi5
      have hlw' : l = S.D.C.wear := eq_getD5 hl HK.out.2.1.1.rest.ok.hr hlw
      subst hlw'
      have HW2 := _root_.Go.Lib.hid hk
      clear hk hl hlw hik hi
      go_wp2_with fail
      go_loopg [65, 7] n (fun k s65 s7 wr => ∃ (j : Nat) (T : Sv) (gb cb : Nat) (sp : Array Value), j + k = n ∧ s65 = .int .i64 (j : Int) ∧ s7 = .slice (some ⟨gb, 0, none⟩) 320 cb ∧ 320 ≤ cb ∧ T.Full (6 + 11 * (j : Int)) ∧ S.Le T ∧ KW w.heap.size w (svK T ++ [(gw, wearO T.D.C.wear), (gb, wrdO T.D.C.ws sp), (g3, flashO S.D.a.c S.D.d)]) wr)
      case atStart => exact ⟨0, S, gb, cb, spb, by omega, rfl, rfl, HW.out.1, HK.out.2.1, Sv.Le.refl S, HW2.out⟩
      case round =>
        obtain ⟨j, T, gb, cb, sp, hjn, rfl, rfl, hcb, hful, hle, hk⟩ := hrel
        by_cases hj : j < n
        · have HJ := _root_.Go.Lib.hid hj
          obtain ⟨hok, g, o, hva, hg, hcell⟩ := H.out.2.1 j hj
          subst hva
          have y0 : wr.cell? ⟨g, o + j * 3, none⟩ = some (.int .u8 (f j).k) := (hk.bel.cell (p := ⟨g, o + j * 3, none⟩) hg).trans (hcell 0 (by decide))
          have y1 : wr.cell? ⟨g, o + j * 3 + 1, none⟩ = some (.int .i64 (f j).s) := (hk.bel.cell (p := ⟨g, o + j * 3 + 1, none⟩) hg).trans (hcell 1 (by decide))
          have y2 : wr.cell? ⟨g, o + j * 3 + 2, none⟩ = some (.int .u32 (f j).v) := (hk.bel.cell (p := ⟨g, o + j * 3 + 2, none⟩) hg).trans (hcell 2 (by decide))
          have HX := _root_.Go.Lib.hid (And.intro hok (And.intro hcb (And.intro hful (And.intro hle (And.intro hk hjn)))))
          clear hok hcb hful hle hk hjn hcell hg
          generalize f j = x at *
          go_upto_region 21 with fail
          obtain ⟨hok, hcb, hful, hle, hk, hjn⟩ := HX.out
          have h5 := KW.mv [(wr.heap.size, Obj.cells (acV x) 40)] (svK T) _ (hk.push (.cells (acV x) 40))
          generalize hq : wr.heap.size = q at h5 ⊢
          generalize World.alloc wr _ = w7 at h5 ⊢
          have gq := h5.get (g := q) (o := .cells (acV x) 40) (by simp)
          have x0 : w7.cell? ⟨q, 0, none⟩ = some (.int .u8 x.k) := cell_at gq 0
          have x1 : w7.cell? ⟨q, 1, none⟩ = some (.int .i64 x.s) := cell_at gq 1
          have x2 : w7.cell? ⟨q, 2, none⟩ = some (.int .u32 x.v) := cell_at gq 2
          have hM : 6 + 11 * (j : Int) + 10 < T.D.C.endure := by rw [hle.e, HK.out.2.2]; have := H.out.2.2; omega
          have htr := trim9 h5 hful hM x.s
          have hwt := write10 (d0 := x.v) (d1 := 0) (d2 := 0) (d3 := 0) h5 hful hM x.s hok.2 ⟨by decide, by decide⟩ ⟨by decide, by decide⟩ ⟨by decide, by decide⟩
          rw [hle.s] at htr hwt
          have HT := _root_.Go.Lib.hid (And.intro htr hwt)
          have HX := _root_.Go.Lib.hid (And.intro hcb (And.intro hful (And.intro hle hjn)))
          clear hok hcb hful hle hk hjn h5 hq gq htr hwt y0 y1 y2 hM
          go_upto_if 72 with fail
          go_cut [] from 69 to 83 (fun wx => ColP w.heap.size w ([(q, .cells (acV x) 40)] ++ [(gw, wearO T.D.C.wear), (gb, wrdO T.D.C.ws sp), (g3, flashO S.D.a.c S.D.d)]) T (6 + 11 * (j : Int) + 11) wx)
          case first =>
            go_wp2_with (first | (go_at_call 9; refine HT.out.1.mono ?_; rintro e w8 ⟨⟨r8, rfl⟩, h8⟩; have H8 := _root_.Go.Lib.hid h8; clear h8) | (go_at_call 10; refine HT.out.2.mono ?_; rintro e w8 ⟨⟨r8, rfl⟩, h8⟩; have H8 := _root_.Go.Lib.hid h8; clear h8))
            all_goals
              go_meet
              case rel => exact H8.out
          case rest =>
            obtain ⟨T', hful', hle', hk'⟩ := hcut
            have hgc := hk'.get (g := g3) (o := flashO S.D.a.c S.D.d) (by simp)
            have c0 : wc.cell? ⟨g3, 0, none⟩ = some (.pointer (some ⟨S.D.a.c, 0, none⟩)) := cell_at hgc 0
            have hwd := swords hk' hful'.1.rest.ok
            rw [hle'.a, HX.out.2.2.1.a] at hwd
            have HY := _root_.Go.Lib.hid (And.intro hwd (And.intro hful' hle'))
            clear hful' hle' hk' hgc hwd HT x0 x1 x2
            go_upto_region 25 with (go_at_call 7; refine HY.out.1.mono ?_; rintro e w9 ⟨gn, cn, spn, rfl, hcn, hk⟩; have HZ := _root_.Go.Lib.hid (And.intro hcn hk); clear hcn hk)
            clear c0
            go_wp2_with fail
            go_loopg [89] 320 (fun k s89 wx => ∃ i : Nat, i + k = 320 ∧ s89 = .int .i64 (i : Int) ∧ KW w.heap.size w (svK T' ++ [(gn, wrdO T'.D.C.ws spn), (q, .cells (acV x) 40), (gw, wearO T.D.C.wear), (gb, wrdO T.D.C.ws sp), (g3, flashO S.D.a.c S.D.d)]) wx)
            case atStart => exact ⟨0, rfl, rfl, HZ.out.2⟩
            case round =>
              obtain ⟨i, hik, rfl, hk⟩ := hrel
              by_cases hi : i < 320
              · have hlt : ((i : Int) < 320) = True := by simp; omega
                have hok' := HY.out.2.1.1.rest.ok
                have hok := HX.out.2.1.1.rest.ok
                have n0 : wr.cell? ⟨gn, i, none⟩ = some (.int .u32 (T'.D.C.ws.getD i 0)) := by
                  have := WordsAt.row (hk.get (g := gn) (o := wrdO T'.D.C.ws spn) (by simp)) i (by rw [hok'.hw]; exact hi)
                  rwa [Nat.zero_add] at this
                have b0 : wr.cell? ⟨gb, i, none⟩ = some (.int .u32 (T.D.C.ws.getD i 0)) := by
                  have := WordsAt.row (hk.get (g := gb) (o := wrdO T.D.C.ws sp) (by simp)) i (by rw [hok.hw]; exact hi)
                  rwa [Nat.zero_add] at this
                have g0 : wr.cell? ⟨gw, i / 64, none⟩ = some (.int .i64 (T.D.C.wear.getD (i / 64) 0)) := (cell_at (hk.get (g := gw) (o := wearO T.D.C.wear) (by simp)) (i / 64)).trans (ints_at (by rw [hok.hr]; omega))
                have c0 : wr.cell? ⟨g3, 0, none⟩ = some (.pointer (some ⟨S.D.a.c, 0, none⟩)) := cell_at (hk.get (g := g3) (o := flashO S.D.a.c S.D.d) (by simp)) 0
                have hq64 : (i : Int).tdiv 64 = ((i / 64 : Nat) : Int) := by rw [Int.tdiv_eq_ediv_of_nonneg (by omega)]; omega
                have hwr : ∀ m, Calls Tryz.prog 8 #[.pointer (some ⟨S.D.a.c, 0, none⟩), .int .i64 ((i / 64 : Nat) : Int)] (wr.drewN m) fun e w' => e = .returned (.int .i64 (T'.D.C.wear.getD (i / 64) 0)) ∧ w' = wr.drewN m := fun m => by
                  have := swear (hk.drewN (n := m)) hok' (i / 64) (by omega)
                  rw [HY.out.2.2.a, HX.out.2.2.1.a] at this
                  exact this
                have hlc := HY.out.2.2.c.less i
                obtain ⟨dq, hdq⟩ : ∃ dq, dq = i / 64 := ⟨_, rfl⟩
                rw [← hdq] at g0 hq64 hwr hlc
                generalize T'.D.C.ws.getD i 0 = va at n0 hlc
                generalize T.D.C.ws.getD i 0 = vb at b0 hlc
                generalize T'.D.C.wear.getD dq 0 = pa at hwr hlc
                generalize T.D.C.wear.getD dq 0 = pb at g0 hlc
                have hwq : IntKind.i64.wrap (dq : Int) = (dq : Int) := by rw [IntKind.wrap_i64]; omega
                have hd5 : dq < 5 := by omega
                have hd5' : ((dq : Int) < 5) = True := by simp; omega
                clear hdq
                have HQ := _root_.Go.Lib.hid (And.intro hwr (And.intro hk hik))
                clear hwr hk hik hok hok'
                by_cases hz : bits .andNot .u32 va vb = 0
                · clear hlc
                  go_upto_region 28 with fail
                  go_quiet ((go_at_call 8; exact Calls.quiet_of_same (HQ.out.1 _)))
                  go_wp2_with fail
                  go_roundg (320 - (i + 1))
                  case measure => have := HQ.out.2.2; omega
                  case rel => exact ⟨i + 1, by have := HQ.out.2.2; omega, by first | rfl | go_num, HQ.out.2.1.drewN⟩
                · have hne : ¬ pa = pb := fun e => hz (hlc e).none
                  have hneb : (pa == pb) = false := by simpa using hne
                  clear hlc
                  go_upto_region 28 with fail
                  go_quiet ((go_at_call 8; exact Calls.quiet_of_same (HQ.out.1 _)))
                  go_wp2_with fail
                  go_roundg (320 - (i + 1))
                  case measure => have := HQ.out.2.2; omega
                  case rel => exact ⟨i + 1, by have := HQ.out.2.2; omega, by first | rfl | go_num, HQ.out.2.1.drewN⟩
              · have hi320 : i = 320 := by omega
                subst hi320
                have HK2 := _root_.Go.Lib.hid hk
                clear hk hik hi
                go_wp2_with fail
                go_loopg [118] 5 (fun k s118 wx => ∃ (i : Nat) (l : List Int), i + k = 5 ∧ s118 = .int .i64 (i : Int) ∧ l.length = 5 ∧ (∀ j, j < i → l.getD j 0 = T'.D.C.wear.getD j 0) ∧ KW w.heap.size w (svK T' ++ [(gn, wrdO T'.D.C.ws spn), (q, .cells (acV x) 40), (gw, wearO l), (gb, wrdO T.D.C.ws sp), (g3, flashO S.D.a.c S.D.d)]) wx)
                case atStart => exact ⟨0, T.D.C.wear, rfl, rfl, HX.out.2.1.1.rest.ok.hr, fun j hj => absurd hj (Nat.not_lt_zero j), HK2.out⟩
                case round =>
                  obtain ⟨i, l, hik, rfl, hl, hlw, hk⟩ := hrel
                  by_cases hi : i < 5
                  · have hlt : ((i : Int) < 5) = True := by simp; omega
                    have hgc := hk.get (g := g3) (o := flashO S.D.a.c S.D.d) (by simp)
                    have hgg := hk.get (g := gw) (o := wearO l) (by simp)
                    have c0 : wr.cell? ⟨g3, 0, none⟩ = some (.pointer (some ⟨S.D.a.c, 0, none⟩)) := cell_at hgc 0
                    have g0 : wr.cell? ⟨gw, i, none⟩ = some (.int .i64 (l.getD i 0)) := (cell_at hgg i).trans (ints_at (by omega))
                    have q0 : wr.frozen? ⟨gw, i, none⟩ = false := free_at hgg i
                    have hwr := swear hk HY.out.2.1.1.rest.ok i hi
                    rw [HY.out.2.2.a, HX.out.2.2.1.a] at hwr
                    have HQ := _root_.Go.Lib.hid (And.intro hwr (And.intro hk (And.intro hl (And.intro hlw hik))))
                    clear hwr hk hl hlw hik hgc hgg
                    go_wp2_with (go_at_call 8; refine HQ.out.1.mono ?_; rintro e w10 ⟨rfl, rfl⟩)
                    go_roundg (5 - (i + 1))
                    case measure => have := HQ.out.2.2.2.2; omega
                    case rel =>
                      obtain ⟨_, hk, hl, hlw, hik⟩ := HQ.out
                      refine ⟨i + 1, l.set i (T'.D.C.wear.getD i 0), by omega, by first | rfl | go_num, by rw [List.length_set]; exact hl, fun j hj => ?_, ?_⟩
                      · rw [getD_set]
                        split
                        · rename_i h; rw [← h.1]
                        · rename_i h; exact hlw j (by omega)
                      · have hc := KW.cellAt (svK T' ++ [(gn, wrdO T'.D.C.ws spn), (q, .cells (acV x) 40)]) [(gb, wrdO T.D.C.ws sp), (g3, flashO S.D.a.c S.D.d)] (g := gw) (i := i) (t := 3) (cs := ints .i64 l) (x := .int .i64 (T'.D.C.wear.getD i 0)) (by simpa using hk) ints_set
                        simpa using hc
                  · have hi5 : i = 5 := by omega
                    subst hi5
                    have hlw' : l = T'.D.C.wear := eq_getD5 hl HY.out.2.1.1.rest.ok.hr hlw
                    subst hlw'
                    have HK3 := _root_.Go.Lib.hid hk
                    clear hk hl hlw hik hi
                    go_wp2_with fail
                    go_roundg (n - (j + 1))
                    case measure => have := HX.out.2.2.2; omega
                    case rel =>
                      obtain ⟨hcb, hful, hle, hjn⟩ := HX.out
                      have hn80 : n ≤ 80 := H.out.2.2
                      have hjlt : j < n := HJ.out
                      refine ⟨j + 1, T', gn, cn, spn, by omega, by (rw [IntWalk.wrap64_in _ ⟨by omega, by omega⟩]; rfl), rfl, HZ.out.1, ?_, hle.trans HY.out.2.2, ?_⟩
                      · have := HY.out.2.1
                        rwa [show 6 + 11 * (j : Int) + 11 = 6 + 11 * ((j + 1 : Nat) : Int) by omega] at this
                      · have h1 := HK3.out.sub (List.Sublist.append_left ((((List.Sublist.refl [(g3, flashO S.D.a.c S.D.d)]).cons (gb, wrdO T.D.C.ws sp)).cons_cons (gw, wearO T'.D.C.wear)).cons (q, .cells (acV x) 40) |>.cons_cons (gn, wrdO T'.D.C.ws spn)) (svK T'))
                        exact h1.perm (List.Perm.append_left _ (List.Perm.swap _ _ _))
        · have hjn' : j = n := by omega
          subst hjn'
          have hok := hful.1.bs
          have hwa : WordsAt wr gb 0 (encW T.bs) := by
            rw [← hful.1.words]
            exact WordsAt.row (hk.get (g := gb) (o := wrdO T.D.C.ws sp) (by simp))
          have hwd := words11 hok hful.2.2 hcb hwa
          have HX := _root_.Go.Lib.hid (And.intro hwd (And.intro hful (And.intro hle hk)))
          clear hwa hok hwd hful hle hk hcb hjn hj
          go_upto_region 39 with (go_at_call 11; refine HX.out.1.mono ?_; rintro e w7 ⟨gr, cr, spr, rfl, hcr, hle7, hgr, hb7⟩; have HR := _root_.Go.Lib.hid (And.intro hle7 (And.intro hgr hb7)); clear hle7 hgr hb7)
          have hk7 := KW.fresh HX.out.2.2.2 HR.out.2.2 HR.out.1 HR.out.2.1
          have hof := of12 (cap := cr) hk7 HX.out.2.1.1.bs
          have HO := _root_.Go.Lib.hid hof
          clear hk7 hof
          go_wp2_with (go_at_call 12; refine HO.out.mono ?_; rintro e w8 ⟨v, t, L, rfl, hko, ht, hfd, hlt⟩; have HV := _root_.Go.Lib.hid (And.intro hko (And.intro ht (And.intro hfd hlt))); clear hko ht hfd hlt)
          obtain ⟨hko, ht, hfd, hlt⟩ := HV.out
          have hko2 : KO w.heap.size w 52 9 v t.length (flatP t) ((svK T ++ [(g3, flashO S.D.a.c S.D.d)]) ++ []) w8 := by
            refine hko.turn fun K0 h => ?_
            refine KW.sub h (List.Sublist.append_left (List.Sublist.cons _ ?_) K0)
            rw [List.append_nil]
            exact List.Sublist.append_left (((List.Sublist.refl [(g3, flashO S.D.a.c S.D.d)]).cons _).cons _) (svK T)
          obtain ⟨Ks, hR, hk8⟩ := hko2.ownR
          have hk8 : KW w.heap.size w (svK T ++ (Ks ++ [(g3, flashO S.D.a.c S.D.d)])) w8 := by
            rw [List.append_nil, List.append_assoc] at hk8
            exact hk8.perm (List.Perm.append_left _ List.perm_append_comm)
          have HE := _root_.Go.Lib.hid (And.intro hR (And.intro ht (And.intro hfd (And.intro hlt hk8))))
          clear hko hko2 ht hfd hlt hR hk8 HV HO HR
          go_loopg [138] 12 (fun k s138 wx => ∃ (i : Nat) (U : Sv), i + k = 12 ∧ s138 = .int .i64 (i : Int) ∧ U.Full (6 + 11 * (j : Int)) ∧ T.Le U ∧ U.bs = T.bs ∧ KW w.heap.size w (svK U ++ (Ks ++ [(g3, flashO S.D.a.c S.D.d)])) wx)
          case atStart => exact ⟨0, T, rfl, rfl, HX.out.2.1, Sv.Le.refl T, rfl, HE.out.2.2.2.2⟩
          case round =>
            obtain ⟨i, U, hik, rfl, hful, hle, hbs, hk⟩ := hrel
            by_cases hi : i < 12
            · have hlt : ((i : Int) < 12) = True := by simp; omega
              have hwi : IntKind.u32.wrap (i : Int) = (i : Int) := by rw [IntKind.wrap_u32']; omega
              have hpa : PAt wr v t := KO.pAt (OwnR.ko (K0 := svK U) (Kc := [(g3, flashO S.D.a.c S.D.d)]) HE.out.1 hk) rfl
              have hfi := find13 (s := (i : Int)) hpa (by have := HE.out.2.1; omega)
              rw [HE.out.2.2.1] at hfi
              have hL : Latest U.bs L := by rw [hbs]; exact HE.out.2.2.2.1
              have HQ := _root_.Go.Lib.hid (And.intro hfi (And.intro hful (And.intro hle (And.intro hbs (And.intro hk (And.intro hL hik))))))
              clear hpa hfi hful hle hbs hk hL hik
              cases hLi : L (i : Int) with
              | none =>
                have q43 : ∀ w, (Op.equalIn 10000 43 (.agg #[.int .u32 0, .int .u32 0, .int .u32 0, .int .u32 0]) (.agg #[.int .u32 0, .int .u32 0, .int .u32 0, .int .u32 0])).run Tryz.prog w = .ok true w := fun w => eq43 9998 0 0 0 0 0 0 0 0 w
                have hfi := HQ.out.1
                rw [hLi] at hfi
                have HF := _root_.Go.Lib.hid (And.intro hfi hLi)
                clear hfi hLi
                go_upto_region 44 with (go_at_call 13; refine HF.out.1.mono ?_; rintro e w9 ⟨rfl, hb⟩; have HB9 := _root_.Go.Lib.hid hb; clear hb)
                have hk9 := KW.mv [(w9.heap.size, Obj.cells (pcV zPc) 52)] (svK U) _ ((HQ.out.2.2.2.2.1.grown HB9.out).push (.cells (pcV zPc) 52))
                generalize hg9 : w9.heap.size = g9 at hk9 ⊢
                generalize World.alloc w9 _ = wa at hk9 ⊢
                have hrd := read14 hk9 HQ.out.2.1 HQ.out.2.2.2.2.2.1 i hi
                rw [HQ.out.2.2.1.s, HX.out.2.2.1.s, HF.out.2] at hrd
                have HD := _root_.Go.Lib.hid hrd
                clear hrd hk9 hg9
                go_upto_region 45 with (go_at_call 14; refine HD.out.mono ?_; rintro e wb ⟨rfl, U', hf', hle', hbs', hk'⟩; have hdz : dataV none = #[.int .u32 0, .int .u32 0, .int .u32 0, .int .u32 0] := rfl; have HU := _root_.Go.Lib.hid (And.intro hf' (And.intro hle' (And.intro hbs' hk'))); clear hf' hle' hbs' hk')
                have hk10 := KW.mv [(wb.heap.size, Obj.cells #[.int .u32 0, .int .u32 0, .int .u32 0, .int .u32 0] 43)] (svK U') _ (HU.out.2.2.2.push (.cells #[.int .u32 0, .int .u32 0, .int .u32 0, .int .u32 0] 43))
                generalize hg10 : wb.heap.size = gz at hk10 ⊢
                generalize World.alloc wb _ = wd at hk10 ⊢
                have gzz := hk10.get (g := gz) (o := .cells #[.int .u32 0, .int .u32 0, .int .u32 0, .int .u32 0] 43) (by simp)
                have g99 := hk10.get (g := g9) (o := .cells (pcV zPc) 52) (by simp)
                have z0 : wd.cell? ⟨gz, 0, none⟩ = some (.int .u32 0) := cell_at gzz 0
                have z1 : wd.cell? ⟨gz, 1, none⟩ = some (.int .u32 0) := cell_at gzz 1
                have z2 : wd.cell? ⟨gz, 2, none⟩ = some (.int .u32 0) := cell_at gzz 2
                have z3 : wd.cell? ⟨gz, 3, none⟩ = some (.int .u32 0) := cell_at gzz 3
                have HP := _root_.Go.Lib.hid hk10
                clear hk10 gzz g99 hg10 hdz
                go_wp2_with fail
                go_roundg (12 - (i + 1))
                case measure => have := HQ.out.2.2.2.2.2.2; omega
                case rel => exact ⟨i + 1, U', by have := HQ.out.2.2.2.2.2.2; omega, by first | rfl | go_num, HU.out.1, HQ.out.2.2.1.trans HU.out.2.1, HU.out.2.2.1.trans HQ.out.2.2.2.1, HP.out.sub (List.Sublist.append_left (((List.Sublist.refl _).cons _).cons _) (svK U'))⟩
              | some y =>
                have q43 : ∀ w, (Op.equalIn 10000 43 (.agg #[.int .u32 y.p.d0, .int .u32 y.p.d1, .int .u32 y.p.d2, .int .u32 y.p.d3]) (.agg #[.int .u32 y.p.d0, .int .u32 y.p.d1, .int .u32 y.p.d2, .int .u32 y.p.d3])).run Tryz.prog w = .ok true w := fun w => by have h := eq43 9998 y.p.d0 y.p.d1 y.p.d2 y.p.d3 y.p.d0 y.p.d1 y.p.d2 y.p.d3 w; simpa using h
                have hfi := HQ.out.1
                rw [hLi] at hfi
                have HF := _root_.Go.Lib.hid (And.intro hfi hLi)
                clear hfi hLi
                go_upto_region 44 with (go_at_call 13; refine HF.out.1.mono ?_; rintro e w9 ⟨rfl, hb⟩; have HB9 := _root_.Go.Lib.hid hb; clear hb)
                have hk9 := KW.mv [(w9.heap.size, Obj.cells (pcV y) 52)] (svK U) _ ((HQ.out.2.2.2.2.1.grown HB9.out).push (.cells (pcV y) 52))
                generalize hg9 : w9.heap.size = g9 at hk9 ⊢
                generalize World.alloc w9 _ = wa at hk9 ⊢
                have hrd := read14 hk9 HQ.out.2.1 HQ.out.2.2.2.2.2.1 i hi
                rw [HQ.out.2.2.1.s, HX.out.2.2.1.s, HF.out.2] at hrd
                have HD := _root_.Go.Lib.hid hrd
                clear hrd hk9 hg9
                go_upto_region 45 with (go_at_call 14; refine HD.out.mono ?_; rintro e wb ⟨rfl, U', hf', hle', hbs', hk'⟩; have hdz : dataV (some y) = #[.int .u32 y.p.d0, .int .u32 y.p.d1, .int .u32 y.p.d2, .int .u32 y.p.d3] := rfl; have HU := _root_.Go.Lib.hid (And.intro hf' (And.intro hle' (And.intro hbs' hk'))); clear hf' hle' hbs' hk')
                have hk10 := KW.mv [(wb.heap.size, Obj.cells #[.int .u32 y.p.d0, .int .u32 y.p.d1, .int .u32 y.p.d2, .int .u32 y.p.d3] 43)] (svK U') _ (HU.out.2.2.2.push (.cells #[.int .u32 y.p.d0, .int .u32 y.p.d1, .int .u32 y.p.d2, .int .u32 y.p.d3] 43))
                generalize hg10 : wb.heap.size = gz at hk10 ⊢
                generalize World.alloc wb _ = wd at hk10 ⊢
                have gzz := hk10.get (g := gz) (o := .cells #[.int .u32 y.p.d0, .int .u32 y.p.d1, .int .u32 y.p.d2, .int .u32 y.p.d3] 43) (by simp)
                have g99 := hk10.get (g := g9) (o := .cells (pcV y) 52) (by simp)
                have z0 : wd.cell? ⟨gz, 0, none⟩ = some (.int .u32 y.p.d0) := cell_at gzz 0
                have z1 : wd.cell? ⟨gz, 1, none⟩ = some (.int .u32 y.p.d1) := cell_at gzz 1
                have z2 : wd.cell? ⟨gz, 2, none⟩ = some (.int .u32 y.p.d2) := cell_at gzz 2
                have z3 : wd.cell? ⟨gz, 3, none⟩ = some (.int .u32 y.p.d3) := cell_at gzz 3
                have y0 : wd.cell? ⟨g9, 5, none⟩ = some (.int .u32 y.p.d0) := cell_at g99 5
                have y1 : wd.cell? ⟨g9, 6, none⟩ = some (.int .u32 y.p.d1) := cell_at g99 6
                have y2 : wd.cell? ⟨g9, 7, none⟩ = some (.int .u32 y.p.d2) := cell_at g99 7
                have y3 : wd.cell? ⟨g9, 8, none⟩ = some (.int .u32 y.p.d3) := cell_at g99 8
                have HP := _root_.Go.Lib.hid hk10
                clear hk10 gzz g99 hg10 hdz
                go_wp2_with fail
                go_roundg (12 - (i + 1))
                case measure => have := HQ.out.2.2.2.2.2.2; omega
                case rel => exact ⟨i + 1, U', by have := HQ.out.2.2.2.2.2.2; omega, by first | rfl | go_num, HU.out.1, HQ.out.2.2.1.trans HU.out.2.1, HU.out.2.2.1.trans HQ.out.2.2.2.1, HP.out.sub (List.Sublist.append_left (((List.Sublist.refl _).cons _).cons _) (svK U'))⟩
            · have hi12 : i = 12 := by omega
              subst hi12
              have HK9 := _root_.Go.Lib.hid hk
              clear hful hle hbs hk hik hi
              go_wp2_with fail
              go_ret
              exact ⟨rfl, HK9.out.bel⟩
end Go.Proofs.YtlcbilknfjdceaaGreatDoor
end
