/-
  WholeFlash, part 38 of 44: Box, Boxn.
-/
import Derived.Test.YtlcbilknfjdceaaGreatDoorM37
section
/-
  A box is made.
-/
set_option linter.unusedVariables false
set_option linter.unusedSimpArgs false
set_option maxRecDepth 100000
namespace Go.Proofs.YtlcbilknfjdceaaGreatDoor
open Go.RowKit Go.Lib Go.Sort
abbrev boxV (c : Nat) (s m : Value) (g cap : Nat) : Array Value := #[pt c, s, m, .int .i64 16, .slice (some ⟨g, 0, none⟩) 1 cap]
section
variable {B x c s m g cap : Nat} {W w : World} {K0 : Blocks}
theorem good75 {sv mv : Value} (h : w.heap[x]? = some (.cells (boxV c sv mv g cap) 111)) : Calls Tryz.prog 75 #[pt x] w fun e w' => e = .returned (.bool true) ∧ w' = w := by
  have c0 : w.cell? ⟨x, 0, none⟩ = some (pt c) := cell_at h 0
  clear h
  go_enter Tryz.func75, Tryz.ntmps75
  go_wp2_with fail
  go_ret
  exact ⟨rfl, rfl⟩
theorem up76 {sv : Value} (h : w.heap[x]? = some (.cells (boxV c sv (pt m) g cap) 111)) : Calls Tryz.prog 76 #[pt x] w fun e w' => e = .returned (.bool true) ∧ w' = w := by
  have c0 : w.cell? ⟨x, 2, none⟩ = some (pt m) := cell_at h 2
  clear h
  go_enter Tryz.func76, Tryz.ntmps76
  go_wp2_with fail
  go_ret
  exact ⟨rfl, rfl⟩
theorem check41 {sv : Value} (h : w.heap[x]? = some (.cells (boxV c sv (pt m) g cap) 111)) : Calls Tryz.prog 41 #[pt x] w fun e w' => e = .returned (.int .i64 0) ∧ w' = w := by
  have H := _root_.Go.Lib.hid (And.intro (good75 h) (up76 h))
  clear h
  go_enter Tryz.func41, Tryz.ntmps41
  go_wp2_with (first | (go_at_call 75; refine H.out.1.mono ?_; rintro e w1 ⟨rfl, rfl⟩) | (go_at_call 76; refine H.out.2.mono ?_; rintro e w1 ⟨rfl, rfl⟩))
  go_ret
  exact ⟨rfl, rfl⟩
theorem start39 {C : Ch} {a : At} (h : KW B W (chK C a ++ K0) w) : Calls Tryz.prog 39 #[pt a.c] w fun e w' => ∃ D : Dv, e = .returned (pt D.d) ∧ D.C = C ∧ D.a = a ∧ (C.Ok → 320 ≤ a.n → D.Rest) ∧ KW B W (drK D ++ K0) w' := by
  have hf := fnew_calls h
  have H := _root_.Go.Lib.hid hf
  clear h hf
  go_enter Tryz.func39, Tryz.ntmps39
  go_wp2_with (go_at_call 23; refine H.out.mono ?_; rintro e w2 ⟨F, rfl, hm, hw, hj, hk⟩
               have hb := blocks_calls hk.chip
               have hd := dnew_calls hk
               have H2 := _root_.Go.Lib.hid (And.intro hb (And.intro hd (And.intro hm (And.intro hw hj))))
               clear hb hd hm hw hj hk)
  refine H2.out.1.mono ?_
  rintro e w3 ⟨rfl, rfl⟩
  go_wp2_with (go_at_call 24; refine H2.out.2.1.mono ?_; rintro e w4 ⟨d, rfl, hk⟩; have H3 := _root_.Go.Lib.hid hk; clear hk)
  go_ret
  exact ⟨⟨d, 0, F, C, a⟩, rfl, rfl, rfl, fun hC hn => ⟨H2.out.2.2.2.2, H2.out.2.2.2.1, hC, hn⟩, H3.out⟩
abbrev imgO (sp : Array Value) : Obj := .cells (ints .u32 [5243027] ++ sp) 38
/-- A box whose machine has begun. -/
def BoxS (B : Nat) (W : World) (L : Blocks) (x c s g cap : Nat) (sp : Array Value) (w : World) : Prop := ∃ m r b cl d u se gm v gw, gw[0]? = some (.int .u32 5243027) ∧ KW B W (machK m r b cl d u se gm 16 s v gw 0 0 2147483648 0 ++ ((g, imgO sp) :: (x, .cells (boxV c (pt s) (pt m) g cap) 111) :: L)) w
theorem img_0 (sp : Array Value) : (ints .u32 [5243027] ++ sp)[0]? = some (.int .u32 5243027) := by rw [Array.getElem?_append_left (by simp [ints])]; rfl
theorem boot40 {sp : Array Value} (h : KW B W ((g, imgO sp) :: (x, .cells (boxV c (.pointer none) (.pointer none) g cap) 111) :: K0) w) : Calls Tryz.prog 40 #[pt x, pt s] w fun e w' => e = .returned (.tuple #[]) ∧ BoxS B W K0 x c s g cap sp w' := by
  have h1 : KW B W ((g, imgO sp) :: (x, .cells (boxV c (.pointer none) (.pointer none) g cap) 111) :: K0) w.drew := h.drew
  have hbt := boot38 (f := s) (ci := cap) h1 (img_0 sp)
  have HB := _root_.Go.Lib.hid hbt
  have gx := h1.get (g := x) (o := .cells (boxV c (.pointer none) (.pointer none) g cap) 111) (by simp)
  clear h hbt h1
  go_enter Tryz.func40, Tryz.ntmps40
  go_upto_region 0 with fail
  refine wp_region_plan [(true, 0), (true, 1), (true, 2), (true, 3), (true, 4), (true, 5), (true, 6), (true, 7), (true, 8), (true, 9), (true, 10), (true, 11), (true, 12), (false, 13), (true, 14), (true, 15), (false, 16), (true, 17), (true, 18), (false, 19)] [(true, _), (true, _), (true, _), (true, _), (true, _), (true, _), (true, _), (true, _), (true, _), (true, _), (true, _), (true, _), (true, _), (false, _), (true, _), (true, _), (false, _), (true, _), (true, _), (false, _)] (fun w => w.cell? ⟨x, 3, none⟩ = some (.int .i64 16) ∧ w.cell? ⟨x, 4, none⟩ = some (.slice (some ⟨g, 0, none⟩) 1 cap)) (by kernel_rfl) (by kernel_rfl) rfl ⟨cell_at gx 3, cell_at gx 4⟩ ?_
  clear gx
  refine Plan.val (v := pt x) rfl (fun wc hC => ?_) ?_
  · go_simp
  refine Plan.go fun K hK => ?_
  go_simp
  refine hK _ _ ?_
  clear hK K
  refine Plan.val (v := pt x) rfl (fun wc hC => ?_) ?_
  · go_simp
  refine Plan.go fun K hK => ?_
  go_simp
  refine hK _ _ ?_
  clear hK K
  refine Plan.val (v := pt s) rfl (fun wc hC => ?_) ?_
  · go_simp
  refine Plan.go fun K hK => ?_
  go_simp
  refine hK _ _ ?_
  clear hK K
  refine Plan.val (v := pt x) rfl (fun wc hC => ?_) ?_
  · go_simp
  refine Plan.go fun K hK => ?_
  go_simp
  refine hK _ _ ?_
  clear hK K
  refine Plan.val (v := pt x) rfl (fun wc hC => ?_) ?_
  · go_simp
  refine Plan.go fun K hK => ?_
  go_simp
  refine hK _ _ ?_
  clear hK K
  refine Plan.val (v := .pointer (some ⟨x, 3, none⟩)) rfl (fun wc hC => ?_) ?_
  · go_simp
  refine Plan.go fun K hK => ?_
  go_simp
  refine hK _ _ ?_
  clear hK K
  refine Plan.val (v := .int .i64 16) rfl (fun wc hC => ?_) ?_
  · have m0 := hC.1
    go_simp
  refine Plan.go fun K hK => ?_
  go_simp
  refine hK _ _ ?_
  clear hK K
  refine Plan.val (v := pt x) rfl (fun wc hC => ?_) ?_
  · go_simp
  refine Plan.go fun K hK => ?_
  go_simp
  refine hK _ _ ?_
  clear hK K
  refine Plan.val (v := pt x) rfl (fun wc hC => ?_) ?_
  · go_simp
  refine Plan.go fun K hK => ?_
  go_simp
  refine hK _ _ ?_
  clear hK K
  refine Plan.val (v := .pointer (some ⟨x, 4, none⟩)) rfl (fun wc hC => ?_) ?_
  · go_simp
  refine Plan.go fun K hK => ?_
  go_simp
  refine hK _ _ ?_
  clear hK K
  refine Plan.val (v := .slice (some ⟨g, 0, none⟩) 1 cap) rfl (fun wc hC => ?_) ?_
  · have m0 := hC.2
    go_simp
  refine Plan.go fun K hK => ?_
  go_simp
  refine hK _ _ ?_
  clear hK K
  refine Plan.val (v := pt s) rfl (fun wc hC => ?_) ?_
  · go_simp
  refine Plan.go fun K hK => ?_
  go_simp
  refine hK _ _ ?_
  clear hK K
  refine Plan.val (v := .iface 30 (pt s)) rfl (fun wc hC => ?_) ?_
  · go_simp
  refine Plan.go fun K hK => ?_
  go_simp
  refine hK _ _ ?_
  clear hK K
  refine Plan.call (f := 38) (fs := #[.tmp 10, .tmp 14, .tmp 16]) (ts := #[3, 34, 151]) rfl rfl (enters_of Tryz.func38 (by kernel_rfl) rfl) (gs := #[.int .i64 16, .slice (some ⟨g, 0, none⟩) 1 cap, .iface 30 (pt s)]) (by go_simp) HB.out ?_
  rintro e w2 ⟨m, rfl, r, b, cl, d, u, se, gm, v, gw, hgw, hk⟩
  have gx := hk.get (g := x) (o := .cells (boxV c (.pointer none) (.pointer none) g cap) 111) (by simp)
  refine ⟨_, rfl, ⟨cell_at gx 3, cell_at gx 4⟩, ?_⟩
  have HK := _root_.Go.Lib.hid (And.intro hgw hk)
  clear hgw hk gx HB
  refine Plan.go fun K hK => ?_
  go_simp
  refine hK _ _ ?_
  clear hK K
  refine Plan.val (v := pt x) rfl (fun wc hC => ?_) ?_
  · go_simp
  refine Plan.go fun K hK => ?_
  go_simp
  refine hK _ _ ?_
  clear hK K
  refine Plan.val (v := .pointer (some ⟨x, 1, none⟩)) rfl (fun wc hC => ?_) ?_
  · go_simp
  refine Plan.go fun K hK => ?_
  go_simp
  refine hK _ _ ?_
  clear hK K
  have hst : (Instr.storeAt 30 (.pointer (some ⟨x, 1, none⟩)) (pt s)).run Tryz.prog w2 = .ok () (w2.setRow x (boxV c (pt s) (.pointer none) g cap)) := Mem.run_storeAt_cell (HK.out.2.get (g := x) (o := .cells (boxV c (.pointer none) (.pointer none) g cap) 111) (by simp)) (by kernel_rfl) (show 1 < 5 by decide) rfl rfl rfl
  have h5 := KW.rowAt (machK m r b cl d u se gm 16 s v gw 0 0 2147483648 0 ++ [(g, imgO sp)]) K0 (g := x) (t := 111) (cs := boxV c (.pointer none) (.pointer none) g cap) (vs := boxV c (pt s) (.pointer none) g cap) (by simpa using HK.out.2)
  have gx := h5.get (g := x) (o := .cells (boxV c (pt s) (.pointer none) g cap) 111) (by simp)
  refine Plan.skip rfl (Mem.ex_store rfl rfl rfl hst) ⟨cell_at gx 3, cell_at gx 4⟩ ?_
  generalize World.setRow _ _ _ = w5 at h5 gx ⊢
  have H5 := _root_.Go.Lib.hid (And.intro HK.out.1 h5)
  clear h5 hst gx HK
  refine Plan.go fun K hK => ?_
  go_simp
  refine hK _ _ ?_
  clear hK K
  refine Plan.val (v := pt x) rfl (fun wc hC => ?_) ?_
  · go_simp
  refine Plan.go fun K hK => ?_
  go_simp
  refine hK _ _ ?_
  clear hK K
  refine Plan.val (v := .pointer (some ⟨x, 2, none⟩)) rfl (fun wc hC => ?_) ?_
  · go_simp
  refine Plan.go fun K hK => ?_
  go_simp
  refine hK _ _ ?_
  clear hK K
  have hst : (Instr.storeAt 63 (.pointer (some ⟨x, 2, none⟩)) (pt m)).run Tryz.prog w5 = .ok () (w5.setRow x (boxV c (pt s) (pt m) g cap)) := Mem.run_storeAt_cell (H5.out.2.get (g := x) (o := .cells (boxV c (pt s) (.pointer none) g cap) 111) (by simp)) (by kernel_rfl) (show 2 < 5 by decide) rfl rfl rfl
  have h5 := KW.rowAt (machK m r b cl d u se gm 16 s v gw 0 0 2147483648 0 ++ [(g, imgO sp)]) K0 (g := x) (t := 111) (cs := boxV c (pt s) (.pointer none) g cap) (vs := boxV c (pt s) (pt m) g cap) H5.out.2
  have gx := h5.get (g := x) (o := .cells (boxV c (pt s) (pt m) g cap) 111) (by simp)
  refine Plan.skip rfl (Mem.ex_store rfl rfl rfl hst) ⟨cell_at gx 3, cell_at gx 4⟩ ?_
  generalize World.setRow _ _ _ = w6 at h5 gx ⊢
  have H6 := _root_.Go.Lib.hid (And.intro H5.out.1 h5)
  clear h5 hst gx H5
  refine Plan.go fun K hK => ?_
  go_simp
  refine hK _ _ ?_
  clear hK K
  refine Plan.nil ?_
  go_wp2_with fail
  refine bodyPost_end (v := .tuple #[]) (by simp [results, Tryz.results40]) rfl ⟨rfl, m, r, b, cl, d, u, se, gm, v, gw, H6.out.1, by simpa using H6.out.2⟩
end
end Go.Proofs.YtlcbilknfjdceaaGreatDoor
end
section
/-
  A new box.
-/
set_option linter.unusedVariables false
set_option linter.unusedSimpArgs false
set_option maxRecDepth 100000
namespace Go.Proofs.YtlcbilknfjdceaaGreatDoor
open Go.RowKit Go.Lib Go.Sort
/-- A box on a store. -/
def BoxP (B : Nat) (W : World) (K : Blocks) (x : Nat) (w : World) : Prop := ∃ S g cap sp, S.Full 6 ∧ (∀ x, ¬ In S.bs x) ∧ BoxS B W (svK S ++ K) x S.D.a.c S.s g cap sp w
abbrev storeZ : Obj := .cells #[.pointer none, .slice none 0 0, .map none, .map none, .int .u32 0, .bool false] 88
section
variable {B gi : Nat} {W w : World} {K0 : Blocks}
theorem new15 (h : KW B W ((gi, imgO #[]) :: K0) w) : Calls Tryz.prog 15 #[.int .i64 5, .int .i64 100, .int .i64 16, .slice (some ⟨gi, 0, none⟩) 1 1] w fun e w' => ∃ x, e = .returned (.tuple #[pt x, .int .i64 0]) ∧ BoxP B W ((gi, imgO #[]) :: K0) x w' := by
  have hn := new22 (E := 100) (by decide) h
  have H := _root_.Go.Lib.hid hn
  clear h hn
  go_enter Tryz.func15, Tryz.ntmps15
  go_upto_region 2 with (go_at_call 22; refine H.out.mono ?_; rintro e w1 ⟨a, rfl, ha, hk⟩; have H1 := _root_.Go.Lib.hid (And.intro ha hk); clear ha hk)
  clear H
  have hk := H1.out.2.push storeZ
  have hk2 := hk.perm (List.perm_middle (l₁ := (w1.heap.size, storeZ) :: chK (newC 100) a) (a := (gi, imgO #[])) (l₂ := K0))
  have hbt := boot38 (f := w1.heap.size) (ci := 1) hk2 (img_0 _)
  have HB := _root_.Go.Lib.hid hbt
  clear hk hk2 hbt
  go_upto_region 4 with (go_at_call 38; refine HB.out.mono ?_; rintro e w2 ⟨m, rfl, hm⟩; have HM := _root_.Go.Lib.hid hm; clear hm)
  obtain ⟨r, b, cl, d, u, se, g, v, gw, _, hm⟩ := HM.out
  have h3 : KW B W (chK (newC 100) a ++ ((gi, imgO #[]) :: K0)) w2 := ((KW.cut [] (machK m r b cl d u se g 16 w1.heap.size v gw 0 0 2147483648 0) _ hm).perm (List.perm_middle (l₁ := (w1.heap.size, storeZ) :: chK (newC 100) a) (a := (gi, imgO #[])) (l₂ := K0)).symm).tail
  have hs := start39 h3
  have H3 := _root_.Go.Lib.hid (And.intro hs H1.out.1)
  clear h3 hs hm HB HM H1
  go_upto_region 4 with fail
  go_upto_region 5 with (first
    | (go_at_call 39; refine H3.out.1.mono ?_; rintro e w3 ⟨D, rfl, hC, hA, hR, hk⟩
       have hf := format6 hk (hR ⟨rfl, rfl⟩ H3.out.2) (by rw [hC]) (by rw [hC]; intro b hb; show (List.replicate 5 0).getD b 0 = 0; rw [List.getD_eq_getElem?_getD, List.getElem?_replicate, if_pos hb]; rfl) (by rw [hC]; exact ⟨by decide, by decide⟩)
       have H4 := _root_.Go.Lib.hid (And.intro hf hA)
       clear hC hA hR hk hf)
    | (go_at_call 6; refine H4.out.1.mono ?_; rintro e w4 ⟨s, rfl, hF⟩; have H5 := _root_.Go.Lib.hid (And.intro hF H4.out.2); clear hF))
  obtain ⟨hF, hA⟩ := H5.out
  obtain ⟨S, hs, -, ha, -, hful, hin, hk⟩ := hF
  subst hs
  have hca : S.D.a.c = a.c := by rw [ha, hA]
  rw [← hca]
  have hcl := clone_calls (n := 1) (c := 1) (by decide) rfl (by decide) (hk.get (g := gi) (o := imgO #[]) (by simp))
  have H6 := _root_.Go.Lib.hid (And.intro (And.intro hful hin) (And.intro hk hcl))
  clear hful hin hk hcl hA ha hca H4 H5 H3
  go_upto_region 8 with (go_at_call 29; refine H6.out.2.2.mono ?_; rintro e w5 ⟨gn, cap, sp, rfl, hcap, hle, hg, hb⟩
                         have h7 := KW.fresh H6.out.2.1 hb hle hg
                         have H7 := _root_.Go.Lib.hid h7
                         clear h7 hg hb hle hcap)
  have h8 := (H7.out.push (.cells (boxV S.D.a.c (.pointer none) (.pointer none) gn cap) 111)).swap
  have hbt := boot40 (s := S.s) h8
  have H8 := _root_.Go.Lib.hid (And.intro hbt H6.out.1)
  clear h8 hbt H7 H6
  go_wp2_with (go_at_call 40; refine H8.out.1.mono ?_; rintro e w6 ⟨rfl, hbx⟩; have H9 := _root_.Go.Lib.hid hbx; clear hbx)
  refine bodyPost_ret (v := .tuple #[pt w5.heap.size, .int .i64 0]) (by simp [results, Tryz.results15, Sem.run_bind, Result.andThen]) rfl ⟨_, rfl, S, gn, cap, sp, H8.out.2.1, H8.out.2.2, H9.out⟩
end
end Go.Proofs.YtlcbilknfjdceaaGreatDoor
end
