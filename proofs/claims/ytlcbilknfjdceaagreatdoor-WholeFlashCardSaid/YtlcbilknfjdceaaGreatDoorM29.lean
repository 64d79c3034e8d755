/-
  WholeFlash, part 29 of 44: Looks, Formt, Norof, Begins, Refa.
-/
import Derived.Test.YtlcbilknfjdceaaGreatDoorM28
import Derived.Test.YtlcbilknfjdceaaGreatDoorM17
import Derived.Test.YtlcbilknfjdceaaGreatDoorM18
import Derived.Test.YtlcbilknfjdceaaGreatDoorM23
section
/-
  ftl: a store that has not looked yet; the first look.
-/
set_option linter.unusedVariables false
set_option linter.unusedSimpArgs false
namespace Go.Proofs.YtlcbilknfjdceaaGreatDoor
open Go.RowKit Go.Lib
theorem make84 (w : World) : (Instr.makeSlice 84 (.int .i64 5) (.int .i64 5)).run Tryz.prog w = .ok (.slice (some ⟨w.heap.size, 0, none⟩) 5 5) (w.alloc (rowO (List.replicate 5 zB) [])) := by kernel_rfl
abbrev newR (s g rt cap : Nat) (dv : Value) : Blocks := [(s, sO dv g cap (.map none) (.map (some rt)) 0), (g, rowO (List.replicate 5 zB) []), (rt, .map #[] 0)]
set_option maxRecDepth 100000 in
theorem begin25 {B : Nat} {W w : World} {K : Blocks} {D : Dv} (h : KW B W (drK D ++ K) w) :
    Calls Tryz.prog 25 #[.pointer (some ⟨D.d, 0, none⟩)] w fun e w' => ∃ s g rt, e = .returned (.tuple #[.pointer (some ⟨s, 0, none⟩), .int .i64 0]) ∧ KW B W (newR s g rt 5 (.pointer (some ⟨D.d, 0, none⟩)) ++ (drK D ++ K)) w' := by
  have mk : ∀ w, (Instr.makeMap 86 none).run Tryz.prog w = .ok (.map (some w.heap.size)) (w.alloc (.map #[] 0)) := fun w => rfl
  obtain ⟨Z, hZ⟩ : ∃ Z, Z = rowO (List.replicate 5 zB) [] := ⟨_, rfl⟩
  have mz : ∀ w, (Instr.makeSlice 84 (.int .i64 5) (.int .i64 5)).run Tryz.prog w = .ok (.slice (some ⟨w.heap.size, 0, none⟩) 5 5) (w.alloc Z) := by rw [hZ]; exact make84
  have hc := dblocks_calls h
  have h3 := h.push3 Z (.map #[] 0) (sO (.pointer (some ⟨D.d, 0, none⟩)) w.heap.size 5 (.map none) (.map (some (w.heap.size + 1))) 0)
  have H := _root_.Go.Lib.hid (And.intro hc (And.intro h3 hZ))
  clear h hc h3 hZ
  go_enter Tryz.func25, Tryz.ntmps25
  go_wp2_with (go_at_call 51; refine H.out.1.mono ?_; rintro e w1 ⟨rfl, rfl⟩)
  have h3 := H.out.2.1
  rw [H.out.2.2] at h3 ⊢
  refine bodyPost_ret (v := .tuple #[.pointer (some ⟨w.heap.size + 1 + 1, 0, none⟩), .int .i64 0]) (by simp [results, Tryz.results25, Sem.run_bind, Result.andThen]) rfl ?_
  exact ⟨_, _, _, rfl, h3.perm (List.Perm.cons _ (List.Perm.swap _ _ _))⟩
theorem win_ones {j : Nat} (h : j < 5) : win (List.replicate 320 4294967295) (64 * j) 64 = List.replicate 64 4294967295 := by
  apply List.ext_getElem?
  intro i
  by_cases hi : i < 64
  · have e := win_at (List.replicate 320 4294967295) (64 * j) 64 i hi
    rw [List.getD_eq_getElem?_getD, List.getD_eq_getElem?_getD, List.getElem?_replicate, if_pos (by omega), List.getElem?_eq_getElem (by rw [win_len]; exact hi)] at e
    rw [List.getElem?_eq_getElem (by rw [win_len]; exact hi), List.getElem?_replicate, if_pos hi]
    exact congrArg some e
  · rw [List.getElem?_eq_none (by rw [win_len]; omega), List.getElem?_eq_none (by simp; omega)]
theorem ints_rep (n : Nat) (v : Int) : (ints .u32 (List.replicate n v)).toList = List.replicate n (.int .u32 v) := by
  unfold ints
  simp
theorem none_all : allL (List.replicate 5 noneB) = [] := by decide +kernel
/-- The store as the first look leaves it. -/
def LookP (B : Nat) (W : World) (K : Blocks) (D : Dv) (s : Nat) (w' : World) : Prop := ∃ S : Sv, S.bs = List.replicate 5 noneB ∧ S.seq = 1 ∧ S.s = s ∧ S.D.d = D.d ∧ S.D.a = D.a ∧ S.D.C = D.C ∧ S.D.Rest ∧ KeysE S.es ∧ KW B W (svK S ++ K) w'
set_option maxHeartbeats 600000 in
set_option maxRecDepth 100000 in
theorem look26 {B s g rt cap : Nat} {W w : World} {K : Blocks} {D : Dv} (h : KW B W (newR s g rt cap (.pointer (some ⟨D.d, 0, none⟩)) ++ (drK D ++ K)) w) (hr : D.Rest) (hw : D.C.ws = List.replicate 320 4294967295) :
    Calls Tryz.prog 26 #[.pointer (some ⟨s, 0, none⟩)] w fun e w' => e = .returned (.int .i64 0) ∧ LookP B W K D s w' := by
  obtain ⟨i0, hi, hz0, hz1, hz2⟩ := info_parts info38
  obtain ⟨Z, hZ⟩ : ∃ Z, Z = rowO (List.replicate 5 zB) [] := ⟨_, rfl⟩
  have h : KW B W ([(s, sO (.pointer (some ⟨D.d, 0, none⟩)) g cap (.map none) (.map (some rt)) 0), (g, Z), (rt, .map #[] 0)] ++ (drK D ++ K)) w := by rw [hZ]; exact h
  have m1 : w.cell? ⟨s, 1, none⟩ = some (.slice (some ⟨g, 0, none⟩) 5 cap) := cell_at (h.get (g := s) (o := sO (.pointer (some ⟨D.d, 0, none⟩)) g cap (.map none) (.map (some rt)) 0) (by simp)) 1
  have HX := _root_.Go.Lib.hid (And.intro h (And.intro hr hw))
  have HI := _root_.Go.Lib.hid (And.intro hi (And.intro hz0 (And.intro hz1 hz2)))
  clear h hr hw hi hz0 hz1 hz2 hZ
  go_enter Tryz.func26, Tryz.ntmps26
  go_wp2_with fail
  go_loopg [3, 14] 5 (fun k s3 s14 wr => ∃ (j : Nat) (tk : Int) (F' : Fl), j + k = 5 ∧ s14 = .int .i64 (j : Int) ∧ Dv.Rest ⟨D.d, tk, F', D.C, D.a⟩ ∧ KO B W 38 1 s3 (64 * j) (List.replicate (64 * j) (.int .u32 4294967295)) ([(s, sO (.pointer (some ⟨D.d, 0, none⟩)) g cap (.map none) (.map (some rt)) 0), (g, Z), (rt, .map #[] 0)] ++ (drK ⟨D.d, tk, F', D.C, D.a⟩ ++ K)) wr)
  case atStart => exact ⟨0, D.ticks, D.F, by omega, rfl, HX.out.2.1, KO.start HX.out.1⟩
  case round =>
    clear m1
    obtain ⟨j, tk, F', hjk, rfl, hr, hko⟩ := hrel
    obtain ⟨vp, vc, rfl⟩ := hko.shape
    by_cases hj : j < 5
    · have m0 : wr.cell? ⟨s, 0, none⟩ = some (.pointer (some ⟨D.d, 0, none⟩)) := cell_at (hko.get (g := s) (o := sO (.pointer (some ⟨D.d, 0, none⟩)) g cap (.map none) (.map (some rt)) 0) (by simp)) 0
      obtain ⟨Ks, hR, hk⟩ := KO.ownR (K0 := [(s, sO (.pointer (some ⟨D.d, 0, none⟩)) g cap (.map none) (.map (some rt)) 0), (g, Z), (rt, .map #[] 0)] ++ drK ⟨D.d, tk, F', D.C, D.a⟩) (Kc := K) hko
      have hk1 : KW B W (drK ⟨D.d, tk, F', D.C, D.a⟩ ++ ([(s, sO (.pointer (some ⟨D.d, 0, none⟩)) g cap (.map none) (.map (some rt)) 0), (g, Z), (rt, .map #[] 0)] ++ (Ks ++ K))) wr := KW.mv [(s, sO (.pointer (some ⟨D.d, 0, none⟩)) g cap (.map none) (.map (some rt)) 0), (g, Z), (rt, .map #[] 0)] (drK ⟨D.d, tk, F', D.C, D.a⟩) (Ks ++ K) hk
      have hD := dread_calls (p := 64 * j) (n := 64) hk1 hr (by omega) (by decide) (by decide)
      rw [show ((64 * j : Nat) : Int) = (j : Int) * 64 by omega] at hD
      have H1 := _root_.Go.Lib.hid (And.intro hD (And.intro hR (And.intro hr hjk)))
      clear hD hR hr hjk hko hk hk1
      go_upto_region 8 with (go_at_call 35; refine H1.out.1.mono ?_; rintro e w1 ⟨gw, rfl, hk2⟩)
      obtain ⟨_, hR, hr, hjk⟩ := H1.out
      obtain ⟨R, hRe⟩ : ∃ R : List Int, R = List.replicate 64 4294967295 := ⟨_, rfl⟩
      have hwin : win D.C.ws (64 * j) 64 = R := by rw [HX.out.2.2, win_ones hj, hRe]
      have hRl : (ints .u32 R).toList = List.replicate 64 (.int .u32 4294967295) := by rw [hRe, ints_rep]
      rw [hwin] at hk2
      have hko := OwnR.ko (K0 := drK ⟨D.d, tk, { F' with mode := 0 }, D.C, D.a⟩ ++ ([(gw, .cells (ints .u32 R) 38)] ++ [(s, sO (.pointer (some ⟨D.d, 0, none⟩)) g cap (.map none) (.map (some rt)) 0), (g, Z), (rt, .map #[] 0)])) (Kc := K) hR (by rw [List.append_assoc]; exact hk2)
      have hgw := hk2.get (g := gw) (o := .cells (ints .u32 R) 38) (by simp)
      have hnews : ∀ i u, (ints .u32 R).toList[i]? = some u → w1.cell? ((⟨gw, 0, none⟩ : Addr).add i) = some u := news_mid (off := 0) (m := 64) hgw (by rw [List.drop_zero, List.take_of_length_le (by rw [hRl]; simp)])
      have H2 := _root_.Go.Lib.hid (And.intro hko (And.intro hnews (And.intro hr (And.intro hjk (And.intro hRl hwin)))))
      clear hko hnews hr hjk hk2 hgw m0 hR hwin hRl hRe
      go_wp2_with (at_builtin; refine wpList_append_ko rfl _ _ 34 rfl i0 _ 4 Tryz.underlying34 HI.out.1 HI.out.2.1 HI.out.2.2.1 HI.out.2.2.2 rfl (by decide) rfl H2.out.1 ⟨gw, 0, none⟩ 64 64 (ints .u32 R).toList rfl (by rw [H2.out.2.2.2.2.1]; simp) H2.out.2.1 (by intro u hu; rw [H2.out.2.2.2.2.1] at hu; rw [List.eq_of_mem_replicate hu]; rfl) (by unfold maxLen; omega) (by omega) ?_)
      rintro v' w5 hk5 -
      have hk6 := (hk5.perm (K' := (gw, .cells (ints .u32 R) 38) :: ([(s, sO (.pointer (some ⟨D.d, 0, none⟩)) g cap (.map none) (.map (some rt)) 0), (g, Z), (rt, .map #[] 0)] ++ (drK ⟨D.d, tk, { F' with mode := 0 }, D.C, D.a⟩ ++ K))) (by
        exact List.perm_append_comm_assoc (drK ⟨D.d, tk, { F' with mode := 0 }, D.C, D.a⟩) ([(gw, .cells (ints .u32 R) 38)] ++ [(s, sO (.pointer (some ⟨D.d, 0, none⟩)) g cap (.map none) (.map (some rt)) 0), (g, Z), (rt, .map #[] 0)]) K)).drop
      obtain ⟨qp, qc, rfl⟩ := hk6.shape
      have H3 := _root_.Go.Lib.hid hk6
      clear hk5 hk6
      go_wp2_with fail
      go_roundg (5 - (j + 1))
      case measure => have := H2.out.2.2.2.1; omega
      case rel =>
        obtain ⟨_, _, hr, hjk, hRl, _⟩ := H2.out
        refine ⟨j + 1, tk, { F' with mode := 0 }, by omega, by first | rfl | go_num, ⟨hr.job, hr.wait, hr.ok, hr.room⟩, ?_⟩
        have h9 := H3.out
        rw [hRl, List.replicate_append_replicate] at h9
        rw [show 64 * (j + 1) = 64 * j + 64 by omega]
        exact h9
    · have e : j = 5 := by omega
      subst e
      rcases hko.2 with ⟨_, h0, _⟩ | ⟨gt, tcap, cur, hv, hcap, hmax, hsz, htk, hkw⟩
      · omega
      · simp only [Value.slice.injEq] at hv
        obtain ⟨rfl, rfl⟩ : vp = some ⟨gt, 0, none⟩ ∧ vc = tcap := ⟨hv.1, hv.2.2⟩
        have hg := hkw.get (g := gt) (o := .cells cur 38) List.mem_cons_self
        have hall : AllOnes wr gt := by
          intro i hi
          rw [cell_at hg i, ← Array.getElem?_toList]
          have := congrArg (fun l => l[i]?) htk
          simp only [List.getElem?_take] at this
          rw [if_pos (by omega), List.getElem?_replicate, if_pos (by omega)] at this
          exact this
        have hS := swords_calls (c := vc) (by omega) hall
        obtain ⟨N, hN⟩ : ∃ N, N = List.replicate 5 noneB := ⟨_, rfl⟩
        have hN8 : ∀ b ∈ N, Rb8 b := by
          rw [hN]
          intro b hb
          rw [List.eq_of_mem_replicate hb]
          exact ⟨rfl, rfl⟩
        have hN5 : N.length = 5 := by rw [hN]; rfl
        have hN0 : allL N = [] := by rw [hN]; exact none_all
        rw [← hN] at hS
        have HS := _root_.Go.Lib.hid (And.intro hS (And.intro hkw.tail (And.intro hN (And.intro hN8 (And.intro hN5 (And.intro hN0 hr))))))
        clear hS hko hkw hN hN8 hN5 hN0 hr hall hg htk hsz hmax hcap hv hjk hj
        go_upto_region 13 with (go_at_call 52; refine HS.out.1.mono ?_; rintro e w6 ⟨g', cap', sp, rfl, hc5, hgs, hrow, hb⟩)
        have hk6 := KW.fresh HS.out.2.1 hb hgs hrow
        have hT := top_calls (cap := cap') hk6 HS.out.2.2.2.1 HS.out.2.2.2.2.1 HS.out.2.2.2.2.2.1
        have HT := _root_.Go.Lib.hid hT
        clear hk6 hT hc5 hgs hrow hb
        go_wp2_with fail
        refine HT.out.mono ?_
        rintro e w7 ⟨rfl, hk7⟩
        have hs := hk7.get (g := s) (o := sO (.pointer (some ⟨D.d, 0, none⟩)) g cap (.map none) (.map (some rt)) 0) (by simp)
        have m1 : w7.cell? ⟨s, 1, none⟩ = some (.slice (some ⟨g, 0, none⟩) 5 cap) := cell_at hs 1
        have f1 : w7.frozen? ⟨s, 1, none⟩ = false := free_at hs 1
        have m4 : w7.cell? ⟨s, 4, none⟩ = some (.int .u32 0) := cell_at hs 4
        have f4 : w7.frozen? ⟨s, 4, none⟩ = false := free_at hs 4
        have HK := _root_.Go.Lib.hid hk7
        clear hk7 hs
        go_upto_region 14 with fail
        have h8 := KW.cellAt [(g', rowO N sp)] ([(g, Z), (rt, .map #[] 0)] ++ (drK ⟨D.d, tk, F', D.C, D.a⟩ ++ K)) (g := s) (i := 4) (x := .int .u32 1) (vs := #[.pointer (some ⟨D.d, 0, none⟩), .slice (some ⟨g', 0, none⟩) 5 cap', .map none, .map (some rt), .int .u32 1, .bool false]) (KW.cellAt [(g', rowO N sp)] ([(g, Z), (rt, .map #[] 0)] ++ (drK ⟨D.d, tk, F', D.C, D.a⟩ ++ K)) (g := s) (i := 1) (x := .slice (some ⟨g', 0, none⟩) 5 cap') (vs := #[.pointer (some ⟨D.d, 0, none⟩), .slice (some ⟨g', 0, none⟩) 5 cap', .map none, .map (some rt), .int .u32 0, .bool false]) HK.out rfl) rfl
        clear m1 f1 m4 f4
        generalize World.setCell _ _ _ = w8 at h8 ⊢
        have hF := refresh54 (cap := cap') (h8.perm (List.Perm.swap _ _ _)) HS.out.2.2.2.1 HS.out.2.2.2.2.1
        have HF := _root_.Go.Lib.hid hF
        clear h8 hF
        go_wp2_with (go_at_call 54; refine HF.out.mono ?_; rintro e w9 ⟨rfl, mp, es, ck, L, hL, hP, hk9⟩)
        have HE := _root_.Go.Lib.hid (And.intro hP hk9)
        clear hL hP hk9
        first | go_ret | (go_wp2_with fail; go_ret)
        refine ⟨rfl, ?_⟩
        unfold LookP
        obtain ⟨hP, hk9⟩ := HE.out
        have h10 := KW.cut [(s, sO (.pointer (some ⟨D.d, 0, none⟩)) g' cap' (.map (some mp)) (.map (some rt)) 1), (g', rowO N sp), (mp, .map es ck)] [(g, Z)] ((rt, .map #[] 0) :: (drK ⟨D.d, tk, F', D.C, D.a⟩ ++ K)) hk9
        exact ⟨⟨s, g', mp, rt, cap', ck, 0, sp, es, N, 1, ⟨D.d, tk, F', D.C, D.a⟩⟩, HS.out.2.2.1, rfl, rfl, rfl, rfl, rfl, HS.out.2.2.2.2.2.2, hP.1, KW.whole (S := ⟨s, g', mp, rt, cap', ck, 0, sp, es, N, 1, ⟨D.d, tk, F', D.C, D.a⟩⟩) h10⟩
end Go.Proofs.YtlcbilknfjdceaaGreatDoor
end
section
/-
  ftl: Format.
-/
set_option linter.unusedVariables false
set_option linter.unusedSimpArgs false
namespace Go.Proofs.YtlcbilknfjdceaaGreatDoor
open Go.RowKit Go.Lib
/-- The store as Format leaves it. -/
def FormP (B : Nat) (W : World) (K : Blocks) (D : Dv) (s : Nat) (w' : World) : Prop := ∃ S : Sv, S.s = s ∧ S.D.d = D.d ∧ S.D.a = D.a ∧ S.D.C.endure = D.C.endure ∧ S.Full 6 ∧ (∀ x, ¬ In S.bs x) ∧ KW B W (svK S ++ K) w'
set_option maxHeartbeats 600000 in
set_option maxRecDepth 100000 in
theorem format6 {B : Nat} {W w : World} {K : Blocks} {D : Dv} (h : KW B W (drK D ++ K) w) (hr : D.Rest) (hw : D.C.ws = List.replicate 320 4294967295) (hwr : ∀ b, b < 5 → D.C.wear.getD b 0 = 0) (he : D.C.endure ≤ 100000 ∧ 10 ≤ D.C.endure) :
    Calls Tryz.prog 6 #[.pointer (some ⟨D.d, 0, none⟩)] w fun e w' => ∃ s, e = .returned (.tuple #[.pointer (some ⟨s, 0, none⟩), .int .i64 0]) ∧ FormP B W K D s w' := by
  have hc := begin25 h
  have HX := _root_.Go.Lib.hid (And.intro hc (And.intro hr (And.intro hw (And.intro hwr he))))
  clear h hr hw hwr he hc
  go_enter Tryz.func6, Tryz.ntmps6
  go_upto_region 4 with (go_at_call 25; refine HX.out.1.mono ?_; rintro e w1 ⟨s, g, rt, rfl, hk1⟩)
  have hL := look26 hk1 HX.out.2.1 HX.out.2.2.1
  have HL := _root_.Go.Lib.hid hL
  clear hk1 hL
  go_upto_region 7 with (go_at_call 26; refine HL.out.mono ?_; rintro e w2 ⟨rfl, hlook⟩)
  unfold LookP at hlook
  obtain ⟨S, hbs, hsq, hs, hd, ha, hC, hR, hke, hk⟩ := hlook
  subst hs
  have hin0 : ∀ x, ¬ In S.bs x := by
    rw [hbs]
    intro x hx
    have h5 : x.b < 5 := hx.1
    have hg : (List.replicate 5 noneB).getD x.b default = noneB := by
      rw [List.getD_eq_getElem?_getD, List.getElem?_replicate, if_pos h5]
      rfl
    have := hx.2.2.1
    rw [hg, (none_k x.k hx.2.1).1] at this
    exact absurd this (by decide)
  have hok : S.Ok 1 := by
    refine ⟨hR, ?_, ?_, hke, by rw [hsq]; decide, by rw [hsq]; decide, fun x hx => absurd hx (hin0 x), fun b hb => ?_, fun b hb => ?_, ?_⟩
    · rw [hbs]
      exact ⟨rfl, fun b hb => by rw [List.eq_of_mem_replicate hb]; exact none_rest⟩
    · rw [hC, HX.out.2.2.1, hbs]
      exact none_words.symm
    · rw [hbs] at hb
      rw [List.eq_of_mem_replicate hb]
      decide
    · rw [hC, HX.out.2.2.2.1 b hb]
      decide
    · rw [hC]
      exact HX.out.2.2.2.2.1
  have m1 : w2.cell? ⟨S.s, 1, none⟩ = some (.slice (some ⟨S.g, 0, none⟩) 5 S.cap) := cell_at (hk.store.get (g := S.s) (o := svO S) (by simp)) 1
  have hec : S.D.C.endure = D.C.endure := by rw [hC]
  have HE := _root_.Go.Lib.hid hec
  have HK := _root_.Go.Lib.hid (And.intro hk (And.intro hok (And.intro hin0 (And.intro hd ha))))
  clear hec
  clear hk hok hin0 hd ha hbs hsq hC hR hke HL
  go_wp2_with fail
  go_loopg [27] 5 (fun k s27 wr => ∃ (j : Nat) (T : Sv), j + k = 5 ∧ s27 = .int .i64 (j : Int) ∧ T.Ok (1 + (j : Int)) ∧ S.Le T ∧ (∀ x, ¬ In T.bs x) ∧ (∀ i, i < j → (T.bs.getD i default).head = 1) ∧ KW B W (svK T ++ K) wr)
  case atStart => exact ⟨0, S, by omega, rfl, HK.out.2.1, Sv.Le.refl S, HK.out.2.2.1, fun i hi => absurd hi (Nat.not_lt_zero i), HK.out.1⟩
  case round =>
    clear m1
    obtain ⟨j, T, hjk, rfl, hok, hle, hin, hhd, hk⟩ := hrel
    by_cases hj : j < 5
    · have hRn := renew27 (t := j) hk hok hj (by rw [hle.e, HE.out]; have := HX.out.2.2.2.2.2; omega)
      rw [hle.s] at hRn
      have H1 := _root_.Go.Lib.hid (And.intro hRn (And.intro hok (And.intro hle (And.intro (And.intro hin hhd) hjk))))
      clear hRn hok hle hin hhd hjk hk
      go_wp2_with (go_at_call 27; refine H1.out.1.mono ?_; rintro e w3 ⟨rfl, hren⟩)
      obtain ⟨_, hok, hle, ⟨hin, hhd⟩, hjk⟩ := H1.out
      unfold RenP at hren
      obtain ⟨c, D', hc0, hc1, hr', hd', ha', hC', hk7⟩ := hren
      have hok7 := hok.renew hj hc0 hc1 (by omega) hr' hC'
      have hle7 := hle.trans (Sv.Le.renew (c := c) hok.rest.ok hj hd' ha' hC')
      have hin7 : ∀ x, ¬ In (T.renew j c D').bs x := fun x hx => hin x (in_fresh hx)
      have hhd7 : ∀ i, i < j + 1 → ((T.renew j c D').bs.getD i default).head = 1 := fun i hi => by
        show ((T.bs.set j (freshB c)).getD i default).head = 1
        rw [getD_setG]
        split
        · rfl
        · rename_i hne
          exact hhd i (by rw [hok.bs.1] at hne; omega)
      have H2 := _root_.Go.Lib.hid (And.intro hok7 (And.intro hle7 (And.intro (And.intro hin7 hhd7) (And.intro hk7 hjk))))
      clear hok hle hin hhd hhd7 hjk H1 hc0 hc1 hr' hd' ha' hC' hk7 hok7 hle7 hin7
      first | go_roundg (5 - (j + 1)) | (go_wp2_with fail; go_roundg (5 - (j + 1)))
      case measure => have := H2.out.2.2.2.2; omega
      case rel =>
        obtain ⟨hok7, hle7, ⟨hin7, hhd7⟩, hk7, hjk⟩ := H2.out
        refine ⟨j + 1, T.renew j c D', by omega, by first | rfl | go_num, ?_, hle7, hin7, hhd7, hk7⟩
        have := hok7
        rw [show 1 + (j : Int) + 1 = 1 + ((j + 1 : Nat) : Int) by omega] at this
        exact this
    · have e : j = 5 := by omega
      subst e
      have hs := hk.store.get (g := T.s) (o := svO T) (by simp)
      have hpush := hk.push (.map #[] 0)
      have H1 := _root_.Go.Lib.hid (And.intro hk (And.intro hok (And.intro hle (And.intro (And.intro hin hhd) hpush))))
      have mk : ∀ w, (Instr.makeMap 85 none).run Tryz.prog w = .ok (.map (some w.heap.size)) (w.alloc (.map #[] 0)) := fun w => rfl
      have hs2 := hpush.get (g := T.s) (o := svO T) (by simp)
      rw [hle.s] at hs2
      have m2 : (wr.alloc (.map #[] 0)).cell? ⟨S.s, 2, none⟩ = some (.map (some T.mp)) := cell_at hs2 2
      have f2 : (wr.alloc (.map #[] 0)).frozen? ⟨S.s, 2, none⟩ = false := free_at hs2 2
      have m4 : (wr.alloc (.map #[] 0)).cell? ⟨S.s, 4, none⟩ = some (.int .u32 T.seq) := cell_at hs2 4
      have f4 : (wr.alloc (.map #[] 0)).frozen? ⟨S.s, 4, none⟩ = false := free_at hs2 4
      clear hk hok hle hin hhd hs hs2 hpush hjk hj
      go_wp2_with fail
      clear m2 f2 m4 f4
      obtain ⟨hk, hok, hle, ⟨hin, hhd⟩, hpush⟩ := H1.out
      clear H1 hk
      generalize World.alloc wr _ = wa at hpush ⊢
      generalize wr.heap.size = mp at hpush ⊢
      have p1 : (svK T ++ K).Perm (svR T ++ (drK T.D ++ K)) := by
        have := List.perm_append_comm_assoc (drK T.D) (svR T) K
        rw [← List.append_assoc] at this
        exact this
      have h1 := hpush.perm (List.Perm.cons _ p1)
      have h2 := KW.cut [(mp, .map #[] 0), (T.s, svO T), (T.g, rowO T.bs T.sp)] [(T.mp, .map T.es T.ck)] ((T.rt, .map #[] T.ck2) :: (drK T.D ++ K)) h1
      have h3 : KW B W ((T.s, svO T) :: (T.g, rowO T.bs T.sp) :: (mp, .map #[] 0) :: (T.rt, .map #[] T.ck2) :: (drK T.D ++ K)) wa := h2.perm ((List.Perm.swap _ _ _).trans (List.Perm.cons _ (List.Perm.swap _ _ _)))
      have h4 := KW.cellAt [] ((T.g, rowO T.bs T.sp) :: (mp, .map #[] 0) :: (T.rt, .map #[] T.ck2) :: (drK T.D ++ K)) (g := T.s) (i := 4) (x := .int .u32 1) (vs := #[T.dv, .slice (some ⟨T.g, 0, none⟩) 5 T.cap, .map (some mp), .map (some T.rt), .int .u32 1, .bool false]) (KW.cellAt [] ((T.g, rowO T.bs T.sp) :: (mp, .map #[] 0) :: (T.rt, .map #[] T.ck2) :: (drK T.D ++ K)) (g := T.s) (i := 2) (x := .map (some mp)) (vs := #[T.dv, .slice (some ⟨T.g, 0, none⟩) 5 T.cap, .map (some mp), .map (some T.rt), .int .u32 T.seq, .bool false]) h3 rfl) rfl
      rw [show (⟨T.s, 2, none⟩ : Addr) = ⟨S.s, 2, none⟩ by rw [hle.s], show (⟨T.s, 4, none⟩ : Addr) = ⟨S.s, 4, none⟩ by rw [hle.s]] at h4
      generalize World.setCell _ _ _ = wz at h4 ⊢
      refine bodyPost_ret (v := .tuple #[.pointer (some ⟨S.s, 0, none⟩), .int .i64 0]) (by simp [results, Tryz.results6, Sem.run_bind, Result.andThen]) rfl ?_
      refine ⟨S.s, rfl, ?_⟩
      unfold FormP
      refine ⟨{ T with mp := mp, es := #[], ck := 0, seq := 1 }, hle.s, hle.d.trans HK.out.2.2.2.1, hle.a.trans HK.out.2.2.2.2, hle.e.trans HE.out, ⟨⟨hok.rest, hok.bs, hok.words, PlacesE.nil.1, show (1 : Int) ≤ 1 by decide, show (1 : Int) ≤ 6 by decide, fun x hx => absurd hx (hin x), fun b hb => Int.le_trans (hok.counts b hb) (by omega), fun b hb => ⟨(hok.wear b hb).1, Int.le_trans (hok.wear b hb).2 (by omega)⟩, hok.endure⟩, ⟨fun _ => none, ⟨fun s x h => (by cases h), fun s _ x hx => absurd hx (hin x)⟩, PlacesE.nil⟩, fun b hb => by
        obtain ⟨i, hi, rfl⟩ := List.getElem_of_mem hb
        have h1 := hhd i (by rw [hok.bs.1] at hi; exact hi)
        rw [List.getD_eq_getElem?_getD, List.getElem?_eq_getElem hi] at h1
        exact h1⟩, hin, ?_⟩
      exact KW.whole (S := { T with mp := mp, es := #[], ck := 0, seq := 1 }) h4
end Go.Proofs.YtlcbilknfjdceaaGreatDoor
end
section
/-
  nor: a chip of words that are all set.
-/
set_option linter.unusedVariables false
set_option linter.unusedSimpArgs false
namespace Go.Proofs.YtlcbilknfjdceaaGreatDoor
open Go.RowKit Go.Lib
theorem mul120 (w : World) : Calls Tryz.prog 120 #[.int .u64 1, .int .u64 320] w fun e w' => e = .returned (.tuple #[.int .u64 0, .int .u64 320]) ∧ w' = w := by
  go_enter Tryz.func120, Tryz.ntmps120
  go_wp2_with fail
  refine bodyPost_ret (v := .tuple #[.int .u64 0, .int .u64 320]) (by kernel_rfl) rfl ⟨rfl, rfl⟩
theorem mul85 (w : World) : Calls Tryz.prog 85 #[.int .u64 1, .int .u64 320] w fun e w' => e = .returned (.tuple #[.int .u64 0, .int .u64 320]) ∧ w' = w := by
  go_enter Tryz.func85, Tryz.ntmps85
  go_wp2_with (go_at_call 120; refine (mul120 _).mono ?_; rintro e w' ⟨rfl, rfl⟩)
  refine bodyPost_ret (v := .tuple #[.int .u64 0, .int .u64 320]) (by simp [results, Tryz.results85, Sem.run_bind, Result.andThen]) rfl ⟨rfl, rfl⟩
theorem ex_copy {P : Program} {a : Act} {w w' : World} {o : Oper} {t t2 : TypeId} {x y : Operand} {v u r : Value} (h : o.op = .call { callee := .builtin .copy, args := #[x, y], argTypes := #[t, t2] }) (hx : a.eval x = v) (hy : a.eval y = u) (hr : (Builtin.copy_ #[t, t2] o.type #[v, u]).run P w = .ok r w') : (execOp a.eval o).run P w = .ok (.value r) w' := by
  subst hx hy
  cases o; simp only at h; subst h
  have hr : (Builtin.copy_ #[t, t2] _ #[a.eval x, a.eval y]).run P w = .ok r w' := hr
  simp only [execOp, resolve, invoke, Sem.run_bind, Sem.run_pure, Result.andThen_ok, List.map_toArray, List.map_cons, List.map_nil]
  show Sem.run P (do pure (Next.value (← Builtin.copy_ #[t, t2] _ #[a.eval x, a.eval y]))) w = _
  simp only [Sem.run_bind, hr, Result.andThen_ok, Sem.run_pure]
/-- n words that are all set, and then none. -/
def onesTo (n : Nat) : List Value := List.replicate n (.int .u32 4294967295) ++ List.replicate (320 - n) (.int .u32 0)
theorem onesTo_len {n : Nat} (h : n ≤ 320) : (onesTo n).length = 320 := by unfold onesTo; simp; omega
theorem onesTo_more {n m : Nat} (h : n + m ≤ 320) : (onesTo n).take n ++ List.replicate m (.int .u32 4294967295) ++ (onesTo n).drop (n + m) = onesTo (n + m) := by
  unfold onesTo
  rw [List.take_append, List.take_of_length_le (by simp), List.length_replicate, Nat.sub_self, List.take_zero, List.append_nil, List.drop_append, List.drop_of_length_le (by simp), List.nil_append, List.length_replicate, show n + m - n = m by omega, List.drop_replicate, List.replicate_append_replicate, show 320 - n - m = 320 - (n + m) by omega]
theorem copy_ones {w : World} {g n m d : Nat} {a : Addr} {sl c1 c2 : Nat} (hg : w.heap[g]? = some (.cells (onesTo n).toArray 38)) (hn : n + m ≤ 320) (hm : m = Nat.min sl d) (hsrc : ∀ j, j < m → w.cell? (a.add j) = some (.int .u32 4294967295)) :
    (Builtin.copy_ #[34, 34] 3 #[.slice (some ⟨g, n, none⟩) d c1, .slice (some a) sl c2]).run Tryz.prog w = .ok (.int .i64 (m : Int)) (w.setRow g (onesTo (n + m)).toArray) := by
  have h := run_copy_row (P := Tryz.prog) w 34 34 3 38 g n d c1 a sl c2 (onesTo n).toArray 38 (List.replicate m (.int .u32 4294967295)) Tryz.underlying34 (by kernel_rfl) hg (by simpa using hm) (fun j v hj => by
    rw [List.getElem?_replicate] at hj
    split at hj
    · rename_i hlt
      cases hj
      exact hsrc j hlt
    · cases hj) (by simp [onesTo_len (show n ≤ 320 by omega)]; omega) (fun v hv => by rw [List.eq_of_mem_replicate hv]; rfl)
  rw [List.toList_toArray, List.length_replicate, onesTo_more hn] at h
  exact h
theorem ones_cell {w : World} {g n : Nat} (hg : w.heap[g]? = some (.cells (onesTo n).toArray 38)) (j : Nat) (hj : j < n) : w.cell? ((⟨g, 0, none⟩ : Addr).add j) = some (.int .u32 4294967295) := by
  rw [Mem.addr_add, Nat.zero_add, cell_at hg j]
  unfold onesTo
  rw [List.getElem?_toArray, List.getElem?_append_left (by simpa using hj), List.getElem?_replicate, if_pos hj]
set_option maxRecDepth 100000 in
theorem repeat50 {w : World} {g1 : Nat} (h : w.heap[g1]? = some (.cells #[.int .u32 4294967295] 38)) :
    Calls Tryz.prog 50 #[.slice (some ⟨g1, 0, none⟩) 1 1, .int .i64 320] w fun e w' => ∃ g, e = .returned (.slice (some ⟨g, 0, none⟩) 320 320) ∧ w.heap.size ≤ g ∧ w'.heap[g]? = some (.cells (onesTo 320).toArray 38) ∧ Below w.heap.size w w' := by
  have mk := make34 320 (by decide)
  have e0 : ints .u32 (List.replicate 320 0) = (onesTo 0).toArray := by kernel_rfl
  rw [e0] at mk
  have mk : ∀ w, (Instr.makeSlice 34 (.int .i64 320) (.int .i64 320)).run Tryz.prog w = .ok (.slice (some ⟨w.heap.size, 0, none⟩) 320 320) (w.alloc (.cells (onesTo 0).toArray 38)) := mk
  have H := _root_.Go.Lib.hid h
  clear h e0
  go_enter Tryz.func50, Tryz.ntmps50
  go_upto_region 4 with (go_at_call 85; refine (mul85 _).mono ?_; rintro e w' ⟨rfl, rfl⟩)
  go_upto_region 7 with fail
  have hgw : w'.heap.size = w'.heap.size := rfl
  have hk := (KW.start (Below.refl w'.heap.size w') (Nat.le_refl _)).push (.cells (onesTo 0).toArray 38)
  have hsrc : ∀ j, j < 1 → (w'.alloc (.cells (onesTo 0).toArray 38)).cell? ((⟨g1, 0, none⟩ : Addr).add j) = some (.int .u32 4294967295) := by
    intro j hj
    have hj0 : j = 0 := by omega
    subst hj0
    exact cell_at (heap_alloc_kept H.out) 0
  have hcp := copy_ones (n := 0) (m := 1) (d := 320) (sl := 1) (c1 := 320) (c2 := 1) (hk.get List.mem_cons_self) (by decide) rfl hsrc
  have hk2 : KW w'.heap.size w' [(w'.heap.size, .cells (onesTo 1).toArray 38)] _ := hk.row (vs := (onesTo (0 + 1)).toArray)
  obtain ⟨gn, hgn⟩ : ∃ gn, gn = w'.heap.size := ⟨_, rfl⟩
  obtain ⟨wz, hwz⟩ : ∃ wz, wz = w' := ⟨_, rfl⟩
  have hle : wz.heap.size ≤ gn := by rw [hwz, hgn]; exact Nat.le_refl _
  have HK : Hid (KW wz.heap.size wz [(gn, .cells (onesTo 1).toArray 38)] ((w'.alloc (.cells (onesTo 0).toArray 38)).setRow w'.heap.size (onesTo 1).toArray)) := _root_.Go.Lib.hid (by rw [hwz, hgn]; exact hk2)
  clear hk hk2 hsrc mk hgw
  go_upto_region 8 with fail
  have hk := HK.out
  clear HK hcp H
  generalize World.setRow _ _ _ = w2 at hk ⊢
  rw [← hgn]
  have HG := _root_.Go.Lib.hid (And.intro hgn (And.intro hwz hle))
  clear hgn hwz hle
  go_loopg [8] 319 (fun k s8 wr => ∃ n : Nat, 1 ≤ n ∧ n + k = 320 ∧ s8 = .int .i64 (n : Int) ∧ KW wz.heap.size wz [(gn, .cells (onesTo n).toArray 38)] wr)
  case atStart => exact ⟨1, by decide, by decide, rfl, hk⟩
  case round =>
    clear hk
    obtain ⟨n, hn1, hnk, rfl, hk⟩ := hrel
    by_cases hn : n < 320
    · obtain ⟨m, hm⟩ : ∃ m, m = Nat.min n (320 - n) := ⟨_, rfl⟩
      have hm1 : 1 ≤ m ∧ n + m ≤ 320 := by
        have : m ≤ n := by rw [hm]; exact Nat.min_le_left _ _
        have : m ≤ 320 - n := by rw [hm]; exact Nat.min_le_right _ _
        have : 1 ≤ m := by rw [hm]; exact Nat.le_min.2 ⟨hn1, by omega⟩
        omega
      have hmn : m ≤ n := by rw [hm]; exact Nat.min_le_left _ _
      have hg := hk.drew.get (g := gn) (o := .cells (onesTo n).toArray 38) List.mem_cons_self
      have hcp := copy_ones (n := n) (m := m) (d := 320 - n) (sl := n) (c1 := 320 - n) (c2 := 320) hg hm1.2 hm (fun j hj => ones_cell hg j (by omega))
      have hk2 := hk.drew.row (vs := (onesTo (n + m)).toArray)
      have HC := _root_.Go.Lib.hid (And.intro hcp (And.intro hk2 (And.intro hm1 hnk)))
      clear hcp hk2 hg hk hm hm1 hmn
      go_upto_region 9 with fail
      refine wp_region_plan [(true, 0), (true, 1), (true, 2), (true, 3), (true, 4), (true, 5), (true, 6), (false, 7), (true, 8), (true, 9)] [(true, _), (true, _), (true, _), (true, _), (true, _), (true, _), (true, _), (false, _), (true, _), (true, _)] (fun _ => True) (by kernel_rfl) (by kernel_rfl) rfl trivial ?_
      refine Plan.val (v := .int .i64 (n : Int)) rfl (fun wc hC => ?_) ?_
      · go_simp
      refine Plan.go fun K hK => ?_
      go_simp
      refine hK _ _ ?_
      clear hK K
      refine Plan.val (v := .slice (some ⟨gn, 0, none⟩) 320 320) rfl (fun wc hC => ?_) ?_
      · go_simp
      refine Plan.go fun K hK => ?_
      go_simp
      refine hK _ _ ?_
      clear hK K
      refine Plan.val (v := .int .i64 (n : Int)) rfl (fun wc hC => ?_) ?_
      · go_simp
      refine Plan.go fun K hK => ?_
      go_simp
      refine hK _ _ ?_
      clear hK K
      refine Plan.val (v := .slice (some ⟨gn, n, none⟩) (320 - n) (320 - n)) rfl (fun wc hC => ?_) ?_
      · go_simp
        rw [if_pos (show (n : Int) ≤ 320 by omega), if_neg (show ¬ 320 = n by omega)]
      refine Plan.go fun K hK => ?_
      go_simp
      refine hK _ _ ?_
      clear hK K
      refine Plan.val (v := .slice (some ⟨gn, 0, none⟩) 320 320) rfl (fun wc hC => ?_) ?_
      · go_simp
      refine Plan.go fun K hK => ?_
      go_simp
      refine hK _ _ ?_
      clear hK K
      refine Plan.val (v := .int .i64 (n : Int)) rfl (fun wc hC => ?_) ?_
      · go_simp
      refine Plan.go fun K hK => ?_
      go_simp
      refine hK _ _ ?_
      clear hK K
      refine Plan.val (v := .slice (some ⟨gn, 0, none⟩) n 320) rfl (fun wc hC => ?_) ?_
      · go_simp
        intro hh
        exact absurd hh (by omega)
      refine Plan.go fun K hK => ?_
      go_simp
      refine hK _ _ ?_
      clear hK K
      refine Plan.put (v := .int .i64 (m : Int)) (w' := wr.drew.setRow gn (onesTo (n + m)).toArray) rfl (ex_copy rfl (by go_simp) (by go_simp) HC.out.1) trivial ?_
      obtain ⟨_, hk2, hm1, hnk⟩ := HC.out
      clear HC
      generalize World.setRow wr.drew _ _ = w5 at hk2 ⊢
      have hwr : IntKind.i64.wrap ((n : Int) + (m : Int)) = (n : Int) + (m : Int) := by rw [IntKind.wrap_i64]; omega
      refine Plan.go fun K hK => ?_
      go_simp
      refine hK _ _ ?_
      clear hK K
      refine Plan.val (v := .int .i64 ((n : Int) + (m : Int))) rfl (fun wc hC => ?_) ?_
      · go_simp
      refine Plan.go fun K hK => ?_
      go_simp
      refine hK _ _ ?_
      clear hK K
      refine Plan.val (v := .int .i64 ((n : Int) + (m : Int))) rfl (fun wc hC => ?_) ?_
      · go_simp
      refine Plan.go fun K hK => ?_
      go_simp
      refine hK _ _ ?_
      clear hK K
      refine Plan.nil ?_
      have HC := _root_.Go.Lib.hid (And.intro hk2 (And.intro hm1 hnk))
      clear hk2 hm1 hnk hwr
      go_wp2_with fail
      go_roundg (320 - (n + m))
      case measure => have := HC.out; omega
      case rel => exact ⟨n + m, by omega, by have := HC.out; omega, by first | rfl | go_num, HC.out.1⟩
    · have e : n = 320 := by omega
      subst e
      have HE := _root_.Go.Lib.hid hk
      clear hk
      go_wp2_with fail
      go_ret
      have h1 := HE.out
      obtain ⟨hgn, hwz, hle⟩ := HG.out
      rw [hwz] at h1 hle
      exact ⟨gn, rfl, hle, h1.get List.mem_cons_self, h1.bel⟩
theorem make36 (w : World) : (Instr.makeSlice 36 (.int .i64 5) (.int .i64 5)).run Tryz.prog w = .ok (.slice (some ⟨w.heap.size, 0, none⟩) 5 5) (w.alloc (.cells (ints .i64 (List.replicate 5 0)) 3)) := by kernel_rfl
abbrev newC (E : Int) : Ch := ⟨List.replicate 320 4294967295, List.replicate 5 0, E⟩
set_option maxRecDepth 100000 in
theorem of49 {B g : Nat} {W w : World} {K : Blocks} {E : Int} (hE : 0 ≤ E) (h : KW B W K w) (hg : w.heap[g]? = some (.cells (onesTo 320).toArray 38)) :
    Calls Tryz.prog 49 #[.slice (some ⟨g, 0, none⟩) 320 320, .int .i64 E] w fun e w' => ∃ a : At, e = .returned (.pointer (some ⟨a.c, 0, none⟩)) ∧ 320 ≤ a.n ∧ KW B W (chK (newC E) a ++ K) w' := by
  have hE' : ¬ E < 0 := by omega
  clear hE
  obtain ⟨R, hR⟩ : ∃ R : List Int, R = List.replicate 320 4294967295 := ⟨_, rfl⟩
  obtain ⟨V, hV⟩ : ∃ V, V = ints .i64 (List.replicate 5 0) := ⟨_, rfl⟩
  have e0 : (onesTo 320).toArray = ints .u32 R ++ #[] := by rw [hR]; kernel_rfl
  have hl : R.length = 320 := by rw [hR]; rfl
  have mk : ∀ w, (Instr.makeSlice 36 (.int .i64 5) (.int .i64 5)).run Tryz.prog w = .ok (.slice (some ⟨w.heap.size, 0, none⟩) 5 5) (w.alloc (.cells V 3)) := by rw [hV]; exact make36
  rw [e0] at hg
  have hc := fun (wx : World) (hx : wx.heap[g]? = some (.cells (ints .u32 R ++ #[]) 38)) => clone_calls (c := 320) (n := 320) (by decide) hl (by decide) hx
  have HC := _root_.Go.Lib.hid hc
  have HG := _root_.Go.Lib.hid hg
  have HK := _root_.Go.Lib.hid (And.intro h (And.intro hR hV))
  clear h hg hc hR hV e0 hl
  go_enter Tryz.func49, Tryz.ntmps49
  go_upto_region 4 with fail
  go_region_with (go_at_call 29; refine (HC.out _ ?_).mono ?_; (first | exact HG.out | exact heap_alloc_kept HG.out); rintro e w1 ⟨gw, cap, sp, rfl, hcap, hgw, hrow, hb⟩)
  focus
    have k1 := ((KW.fresh HK.out.1.drew hb hgw hrow).push (.cells V 3)).push (chO (newC E) ⟨0, gw, w1.heap.size, cap, 5, sp⟩)
    have H1 := _root_.Go.Lib.hid (And.intro k1 hcap)
    clear k1 hcap hb hgw hrow mk
    go_wp2_with fail
    go_ret
    obtain ⟨k1, hcap⟩ := H1.out
    refine ⟨⟨_, gw, w1.heap.size, cap, 5, sp⟩, rfl, hcap, ?_⟩
    rw [HK.out.2.1, HK.out.2.2, World.size_alloc] at k1
    rw [HK.out.2.2]
    exact k1.perm (List.Perm.cons _ (List.Perm.swap _ _ _))
  focus
    have k1 := (KW.fresh (HK.out.1.drew.push (.cells V 3)) hb hgw hrow).push (chO (newC E) ⟨0, gw, w.heap.size, cap, 5, sp⟩)
    have H1 := _root_.Go.Lib.hid (And.intro k1 hcap)
    clear k1 hcap hb hgw hrow mk
    go_wp2_with fail
    go_ret
    obtain ⟨k1, hcap⟩ := H1.out
    refine ⟨⟨_, gw, w.heap.size, cap, 5, sp⟩, rfl, hcap, ?_⟩
    rw [HK.out.2.1, HK.out.2.2] at k1
    first | exact k1 | (rw [HK.out.2.2]; exact k1)
end Go.Proofs.YtlcbilknfjdceaaGreatDoor
end
section
/-
  A chip, a flash, a driver: as they begin.
-/
set_option linter.unusedVariables false
set_option linter.unusedSimpArgs false
namespace Go.Proofs.YtlcbilknfjdceaaGreatDoor
open Go.RowKit Go.Lib
set_option maxRecDepth 100000 in
theorem new22 {B : Nat} {W w : World} {K : Blocks} {E : Int} (hE : 0 ≤ E) (h : KW B W K w) :
    Calls Tryz.prog 22 #[.int .i64 5, .int .i64 E] w fun e w' => ∃ a : At, e = .returned (.pointer (some ⟨a.c, 0, none⟩)) ∧ 320 ≤ a.n ∧ KW B W (chK (newC E) a ++ K) w' := by
  have hg := heap_alloc_new w (.cells #[.int .u32 4294967295] 38)
  have hc := repeat50 hg
  have H := _root_.Go.Lib.hid (And.intro hc (h.alloc (.cells #[.int .u32 4294967295] 38)))
  clear h hg hc
  go_enter Tryz.func22, Tryz.ntmps22
  go_wp2_with (go_at_call 50; refine H.out.1.mono ?_; rintro e w1 ⟨g, rfl, hgs, hrow, hb⟩)
  have hO := of49 hE (H.out.2.grown hb) hrow
  have HO := _root_.Go.Lib.hid hO
  clear hO hb hrow hgs
  refine HO.out.mono ?_
  rintro e w2 ⟨a, rfl, ha, hk⟩
  have HK := _root_.Go.Lib.hid (And.intro ha hk)
  clear ha hk
  go_wp2_with fail
  go_ret
  exact ⟨a, rfl, HK.out.1, HK.out.2⟩
theorem size27 : (Tryz.prog.info? 27).map (·.size) = some 2 := by kernel_rfl
theorem results5 {tmps : Array Value} {w : World} {rb : Nat} {a b : Value} {t : TypeId} (h4 : tmps.getD 4 undef = .pointer (some ⟨rb, 0, none⟩)) (h5 : tmps.getD 5 undef = .bool true) (hg : w.heap[rb]? = some (.cells #[a, b] t)) :
    (results Tryz.f5 tmps).run Tryz.prog w = .ok (.tuple #[.agg #[a, b], .bool true]) w := by
  have hl : (Instr.loadAt 27 (.pointer (some ⟨rb, 0, none⟩))).run Tryz.prog w = .ok (.agg #[a, b]) w := Mem.run_loadAt_part (by rfl) Tryz.underlying27 hg (by rw [size27]; rfl) rfl
  rw [Array.getD_eq_getD_getElem?] at h4 h5
  simp only [Instr.loadAt, Instr.sureAddr, pure_bind] at hl
  simp [results, h4, h5, Result.andThen, asAddr, hl]
set_option maxRecDepth 100000 in
theorem begin5 {B : Nat} {W w : World} {K : Blocks} (h : KW B W K w) :
    Calls Tryz.prog 5 #[.int .i64 5, .int .i64 100000] w fun e w' => ∃ D : Dv, e = .returned (.tuple #[.agg #[.pointer (some ⟨D.a.c, 0, none⟩), .pointer (some ⟨D.d, 0, none⟩)], .bool true]) ∧ D.Rest ∧ D.C = newC 100000 ∧ KW B W (drK D ++ K) w' := by
  have hp := h.push (.cells #[.pointer none, .pointer none] 27)
  have hc := new22 (E := 100000) (by decide) hp
  have H := _root_.Go.Lib.hid hc
  clear h hp hc
  go_enter Tryz.func5, Tryz.ntmps5
  go_upto_region 2 with (go_at_call 22; refine H.out.mono ?_; rintro e w1 ⟨a, rfl, ha, hk⟩)
  generalize w.heap.size = rb at hk ⊢
  have hf := fnew_calls hk
  have H1 := _root_.Go.Lib.hid (And.intro hf ha)
  clear hf ha hk H
  go_upto_region 5 with (go_at_call 23; refine H1.out.1.mono ?_; rintro e w2 ⟨F, rfl, hm, hw, hj, hk⟩)
  have hd := dnew_calls hk
  have H2 := _root_.Go.Lib.hid (And.intro hd (And.intro hm (And.intro hw hj)))
  clear hd hm hw hj hk
  go_upto_region 8 with (go_at_call 24; refine H2.out.1.mono ?_; rintro e w3 ⟨d, rfl, hk⟩)
  have hrb := hk.get (g := rb) (o := .cells #[.pointer none, .pointer none] 27) (by simp)
  have r0 : w3.cell? ⟨rb, 0, none⟩ = some (.pointer none) := cell_at hrb 0
  have q0 : w3.frozen? ⟨rb, 0, none⟩ = false := free_at hrb 0
  have r1 : w3.cell? ⟨rb, 1, none⟩ = some (.pointer none) := cell_at hrb 1
  have q1 : w3.frozen? ⟨rb, 1, none⟩ = false := free_at hrb 1
  have H3 := _root_.Go.Lib.hid hk
  clear hk hrb
  go_wp2_with fail
  have h4 := KW.cellAt (drK ⟨d, 0, F, newC 100000, a⟩) K (g := rb) (i := 1) (x := .pointer (some ⟨d, 0, none⟩)) (vs := #[.pointer (some ⟨a.c, 0, none⟩), .pointer (some ⟨d, 0, none⟩)]) (KW.cellAt (drK ⟨d, 0, F, newC 100000, a⟩) K (g := rb) (i := 0) (x := .pointer (some ⟨a.c, 0, none⟩)) (vs := #[.pointer (some ⟨a.c, 0, none⟩), .pointer none]) H3.out rfl) rfl
  generalize World.setCell _ _ _ = w4 at h4 ⊢
  have hrb := h4.get (g := rb) (o := .cells #[.pointer (some ⟨a.c, 0, none⟩), .pointer (some ⟨d, 0, none⟩)] 27) (by simp)
  refine bodyPost_ret (v := .tuple #[.agg #[.pointer (some ⟨a.c, 0, none⟩), .pointer (some ⟨d, 0, none⟩)], .bool true]) (results5 rfl rfl hrb) rfl ?_
  obtain ⟨_, hm, hw, hj⟩ := H2.out
  exact ⟨⟨d, 0, F, newC 100000, a⟩, rfl, ⟨hj, hw, ⟨rfl, rfl⟩, H1.out.2⟩, rfl, KW.cut (drK ⟨d, 0, F, newC 100000, a⟩) [_] K h4⟩
end Go.Proofs.YtlcbilknfjdceaaGreatDoor
end
section
/-
  The reference: words that are all set, words that are the same, a head.
-/
set_option linter.unusedVariables false
set_option linter.unusedSimpArgs false
namespace Go.Proofs.YtlcbilknfjdceaaGreatDoor
open Go.RowKit Go.Lib
/-- A slice's words. -/
def WordsAt (w : World) (g o : Nat) (L : List Int) : Prop := ∀ j, j < L.length → w.cell? ⟨g, o + j, none⟩ = some (.int .u32 (L.getD j 0))
theorem WordsAt.below {w w' : World} {g o : Nat} {L : List Int} (h : WordsAt w g o L) (hb : Below w.heap.size w w') : WordsAt w' g o L := fun j hj => keepB hb (h j hj)
theorem WordsAt.row {w : World} {g : Nat} {L : List Int} {sp : Array Value} {t : TypeId} (h : w.heap[g]? = some (.cells (ints .u32 L ++ sp) t)) : WordsAt w g 0 L := fun j hj => by
  rw [Nat.zero_add, cell_at h j]
  exact ints_at' hj
theorem WordsAt.part {w : World} {g o : Nat} {L : List Int} (h : WordsAt w g o L) (p n : Nat) (hp : p + n ≤ L.length) : WordsAt w g (o + p) ((L.drop p).take n) := fun j hj => by
  have hn : j < n := by rw [List.length_take] at hj; omega
  rw [show o + p + j = o + (p + j) by omega, h (p + j) (by omega)]
  congr 2
  rw [List.getD_eq_getElem?_getD, List.getD_eq_getElem?_getD, List.getElem?_take, if_pos hn, List.getElem?_drop]
set_option maxRecDepth 100000 in
theorem free100_yes {w : World} {g o n c : Nat} (h : WordsAt w g o (List.replicate n 4294967295)) (hn : n ≤ 64) (hc : n ≤ c) : Calls Tryz.prog 100 #[.slice (some ⟨g, o, none⟩) n c] w fun e w' => e = .returned (.bool true) ∧ w' = w := by
  have H := _root_.Go.Lib.hid h
  clear h
  go_enter Tryz.func100, Tryz.ntmps100
  go_wp2_with fail
  go_loopg [3] n (fun k s3 wr => ∃ j : Nat, j + k = n ∧ s3 = .int .i64 (j : Int) ∧ wr = w)
  case atStart => exact ⟨0, by omega, rfl, rfl⟩
  case round =>
    obtain ⟨j, hjk, rfl, rfl⟩ := hrel
    by_cases hj : j < n
    · have x0 : wr.cell? ⟨g, o + j, none⟩ = some (.int .u32 4294967295) := by
        rw [H.out j (by rw [List.length_replicate]; exact hj), List.getD_eq_getElem?_getD, List.getElem?_replicate, if_pos hj]
        rfl
      go_wp2_with fail
      go_roundg (n - (j + 1))
      case measure => omega
      case rel => exact ⟨j + 1, by omega, by first | rfl | go_num, rfl⟩
    · go_wp2_with fail
      go_ret
      exact ⟨rfl, rfl⟩
set_option maxRecDepth 100000 in
theorem free100_no {w : World} {g o n c : Nat} {x : Int} (h : w.cell? ⟨g, o, none⟩ = some (.int .u32 x)) (hx : x ≠ 4294967295) (hn : 0 < n) : Calls Tryz.prog 100 #[.slice (some ⟨g, o, none⟩) n c] w fun e w' => e = .returned (.bool false) ∧ w' = w := by
  go_enter Tryz.func100, Tryz.ntmps100
  go_wp2_with fail
  go_loopg [3] n (fun k s3 wr => k = n ∧ s3 = .int .i64 0 ∧ wr = w)
  case atStart => exact ⟨rfl, rfl, rfl⟩
  case round =>
    obtain ⟨hk, rfl, rfl⟩ := hrel
    have hn' : (0 : Int) < (n : Int) := by omega
    clear hk
    go_wp2_with fail
    go_ret
    exact ⟨rfl, rfl⟩
set_option maxRecDepth 100000 in
theorem same101 {w : World} {g1 o1 g2 o2 n c1 c2 : Nat} {L : List Int} (h1 : WordsAt w g1 o1 L) (h2 : WordsAt w g2 o2 L) (hn : L.length = n) (hn' : n ≤ 64) : Calls Tryz.prog 101 #[.slice (some ⟨g1, o1, none⟩) n c1, .slice (some ⟨g2, o2, none⟩) n c2] w fun e w' => e = .returned (.bool true) ∧ Below w.heap.size w w' := by
  have H := _root_.Go.Lib.hid (And.intro h1 (And.intro h2 hn))
  clear h1 h2 hn
  go_enter Tryz.func101, Tryz.ntmps101
  go_wp2_with fail
  go_loopg [5] n (fun k s5 wr => ∃ j : Nat, j + k = n ∧ s5 = .int .i64 (j : Int) ∧ Below w.heap.size w wr)
  case atStart => exact ⟨0, by omega, rfl, Below.refl _ _⟩
  case round =>
    obtain ⟨j, hjk, rfl, hb⟩ := hrel
    by_cases hj : j < n
    · have y0 : wr.cell? ⟨g1, o1 + j, none⟩ = some (.int .u32 (L.getD j 0)) := keepB hb (H.out.1 j (by rw [H.out.2.2]; exact hj))
      have y1 : wr.cell? ⟨g2, o2 + j, none⟩ = some (.int .u32 (L.getD j 0)) := keepB hb (H.out.2.1 j (by rw [H.out.2.2]; exact hj))
      generalize L.getD j 0 = x at y0 y1
      have x0 : wr.drew.cell? ⟨g1, o1 + j, none⟩ = some (.int .u32 x) := y0
      have x1 : wr.drew.cell? ⟨g2, o2 + j, none⟩ = some (.int .u32 x) := y1
      have HB := _root_.Go.Lib.hid hb
      clear hb y0 y1
      go_upto_region 6 with fail
      go_still (by kernel_rfl)
      go_wp2_with fail
      go_roundg (n - (j + 1))
      case measure => omega
      case rel => exact ⟨j + 1, by omega, by first | rfl | go_num, HB.out.drew⟩
    · have HB := _root_.Go.Lib.hid hb
      clear hb
      go_wp2_with fail
      go_ret
      exact ⟨rfl, HB.out⟩
theorem header102 (c : Int) (h0 : 0 ≤ c) (h1 : c ≤ 2147483648) (w : World) : Calls Tryz.prog 102 #[.int .u32 c] w fun e w' => e = .returned (.slice (some ⟨w.heap.size, 0, none⟩) 4 4) ∧ w' = w.alloc (.cells (ints .u32 (hdW c)) 38) := by
  have g1 : ¬ c > 2147483648 := by omega
  have g2 : IntKind.u32.wrap (4294967295 - c) = 4294967295 - c := by rw [IntKind.wrap_u32']; omega
  clear h0 h1
  go_enter Tryz.func102, Tryz.ntmps102
  go_wp2_with fail
  go_ret
  exact ⟨rfl, rfl⟩
set_option maxRecDepth 100000 in
theorem right139 (p : Pg) (h : p.Right) (w : World) : Calls Tryz.prog 139 #[.agg (pgV p)] w fun e w' => e = .returned (.bool true) ∧ w' = w.alloc (.cells (pgV p) 50) := by
  have g1 : p.sec < 512 := h.s1
  have g2 : p.seq ≥ 1 := h.q0
  have g3 : p.seq ≤ 2147483648 := h.q1
  have hg := h.g
  clear h
  obtain ⟨s, q, g, a, b, c, d⟩ := p
  simp only at *
  cases g with
  | false =>
    clear hg
    go_enter Tryz.func139, Tryz.ntmps139
    go_wp2_with fail
    go_ret
    exact ⟨rfl, rfl⟩
  | true =>
    obtain ⟨rfl, rfl, rfl, rfl⟩ := hg rfl
    clear hg
    have he : ∀ w, (Op.equalIn 10000 43 (.agg #[.int .u32 0, .int .u32 0, .int .u32 0, .int .u32 0]) (.agg #[.int .u32 0, .int .u32 0, .int .u32 0, .int .u32 0])).run Tryz.prog w = .ok true w := fun w => by kernel_rfl
    go_enter Tryz.func139, Tryz.ntmps139
    go_wp2_with fail
    go_ret
    exact ⟨rfl, rfl⟩
theorem third_new (w : World) (A B C : Obj) : (((w.alloc A).alloc B).alloc C).heap[w.heap.size + 1 + 1]? = some C := by
  have := heap_alloc_new ((w.alloc A).alloc B) C
  simp only [World.size_alloc] at this
  exact this
set_option maxRecDepth 100000 in
theorem words103 (p : Pg) (h : p.Right) (w : World) : Calls Tryz.prog 103 #[.agg (pgV p)] w fun e w' => ∃ g, e = .returned (.slice (some ⟨g, 0, none⟩) 7 7) ∧ w.heap.size ≤ g ∧ w'.heap[g]? = some (.cells (ints .u32 (pgW p)) 38) ∧ Below w.heap.size w w' := by
  have hw : IntKind.u32.wrap (p.sec + 2147483648) = p.sec + 2147483648 := by
    have := h.s0
    have := h.s1
    rw [IntKind.wrap_u32']
    omega
  have hk := ((KW.start (Below.refl w.heap.size w) (Nat.le_refl _)).alloc (.cells (pgV p) 50))
  have H := _root_.Go.Lib.hid (And.intro h hk)
  clear h hk
  obtain ⟨s, q, g, a, b, c, d⟩ := p
  simp only at hw
  cases g
  all_goals
    go_enter Tryz.func103, Tryz.ntmps103
    go_wp2_with (go_at_call 139; refine (right139 ⟨s, q, _, a, b, c, d⟩ H.out.1 _).mono ?_; rintro e w' ⟨rfl, rfl⟩)
    go_ret
    refine ⟨w.heap.size + 1 + 1, rfl, by omega, ?_, ?_⟩
    · exact third_new _ _ _ _
    · exact (((Below.refl _ _).alloc (Nat.le_refl _) _).alloc (by simp) _).alloc (by simp; omega) _
end Go.Proofs.YtlcbilknfjdceaaGreatDoor
end
