/-
  WholeFlash, part 7 of 44: Dojob, Tickl, Write, Drv, Wait.
-/
import Derived.StillTailTactics
import Derived.Deep.RegionWith
import Derived.Deep.Cut
import Derived.LoopN
import Derived.Deep.LoopGhost
import Derived.Test.YtlcbilknfjdceaaGreatDoorM06
section
/-
  The flash before the chip: a job is done.
-/
set_option linter.unusedVariables false
set_option linter.unusedSimpArgs false
namespace Go.Proofs.YtlcbilknfjdceaaGreatDoor
open Go.RowKit Go.Lib
section
variable {B : Nat} {W w : World} {K : Blocks} {C : Ch} {a : At} {F : Fl}
attribute [local irreducible] chg
set_option maxRecDepth 100000 in
theorem do196_calls {bf ba bv : Nat} {i : Nat} {v : Int} (h : KW B W (flK F C a ++ (bf, boxO (.pointer (some ⟨F.f, 0, none⟩)) 80) :: (ba, boxO (.int .i64 (i : Int)) 3) :: (bv, boxO (.int .u32 v) 38) :: K) w) (ho : C.Ok) (ha : 320 ≤ a.n) (hi : i < 320) : Calls Tryz.prog 196 #[.pointer (some ⟨bf, 0, none⟩), .pointer (some ⟨ba, 0, none⟩), .pointer (some ⟨bv, 0, none⟩)] w fun e w' => e = .returned (.int .i64 0) ∧ KW B W (flK F (C.prog i v) a ++ (bf, boxO (.pointer (some ⟨F.f, 0, none⟩)) 80) :: (ba, boxO (.int .i64 (i : Int)) 3) :: (bv, boxO (.int .u32 v) 38) :: K) w' := by
  have h := h.drew
  have m0 : w.drew.cell? ⟨F.f, 0, none⟩ = some (.pointer (some ⟨a.c, 0, none⟩)) := cell_at (h.get (g := F.f) (o := flO F a) (by simp)) 0
  have x0 : w.drew.cell? ⟨bf, 0, none⟩ = some (.pointer (some ⟨F.f, 0, none⟩)) := cell_at (h.get (g := bf) (o := boxO (.pointer (some ⟨F.f, 0, none⟩)) 80) (by simp)) 0
  have x1 : w.drew.cell? ⟨ba, 0, none⟩ = some (.int .i64 (i : Int)) := cell_at (h.get (g := ba) (o := boxO (.int .i64 (i : Int)) 3) (by simp)) 0
  have x2 : w.drew.cell? ⟨bv, 0, none⟩ = some (.int .u32 v) := cell_at (h.get (g := bv) (o := boxO (.int .u32 v) 38) (by simp)) 0
  have hc := prog_calls h.chip ho ha i hi v
  have HX := _root_.Go.Lib.hid hc
  clear hc h ho ha hi
  go_enter Tryz.func196, Tryz.ntmps196
  go_wp2_with fail
  go_still_tail 6, (by kernel_rfl)
  go_wp2_with fail
  refine HX.out.mono ?_
  rintro e w1 ⟨rfl, hk⟩
  have HK := _root_.Go.Lib.hid hk.flash
  clear hk HX
  go_wp2_with fail
  go_ret
  exact ⟨rfl, HK.out⟩
set_option maxRecDepth 100000 in
theorem do198_calls {bf ba : Nat} {b : Nat} (h : KW B W (flK F C a ++ (bf, boxO (.pointer (some ⟨F.f, 0, none⟩)) 80) :: (ba, boxO (.int .i64 (b : Int)) 3) :: K) w) (ho : C.Ok) (ha : 320 ≤ a.n) (hb : b < 5) (h0 : 0 ≤ C.wear.getD b 0) (h1 : C.wear.getD b 0 < C.endure) (h2 : C.endure < 1000000) : Calls Tryz.prog 198 #[.pointer (some ⟨bf, 0, none⟩), .pointer (some ⟨ba, 0, none⟩)] w fun e w' => e = .returned (.int .i64 0) ∧ KW B W (flK F (C.erase b) a ++ (bf, boxO (.pointer (some ⟨F.f, 0, none⟩)) 80) :: (ba, boxO (.int .i64 (b : Int)) 3) :: K) w' := by
  have h := h.drew
  have m0 : w.drew.cell? ⟨F.f, 0, none⟩ = some (.pointer (some ⟨a.c, 0, none⟩)) := cell_at (h.get (g := F.f) (o := flO F a) (by simp)) 0
  have x0 : w.drew.cell? ⟨bf, 0, none⟩ = some (.pointer (some ⟨F.f, 0, none⟩)) := cell_at (h.get (g := bf) (o := boxO (.pointer (some ⟨F.f, 0, none⟩)) 80) (by simp)) 0
  have x1 : w.drew.cell? ⟨ba, 0, none⟩ = some (.int .i64 (b : Int)) := cell_at (h.get (g := ba) (o := boxO (.int .i64 (b : Int)) 3) (by simp)) 0
  have hc := erase_calls h.chip ho ha b hb h0 h1 h2
  have HX := _root_.Go.Lib.hid hc
  clear hc h ho ha hb h0 h1 h2
  go_enter Tryz.func198, Tryz.ntmps198
  go_wp2_with fail
  go_still_tail 5, (by kernel_rfl)
  go_wp2_with fail
  refine HX.out.mono ?_
  rintro e w1 ⟨rfl, hk⟩
  have HK := _root_.Go.Lib.hid hk.flash
  clear hk HX
  go_wp2_with fail
  go_ret
  exact ⟨rfl, HK.out⟩
end
end Go.Proofs.YtlcbilknfjdceaaGreatDoor
end
section
/-
  The flash before the chip: the last tick of a job.
-/
set_option linter.unusedVariables false
set_option linter.unusedSimpArgs false
namespace Go.Proofs.YtlcbilknfjdceaaGreatDoor
open Go.RowKit Go.Lib
section
variable {B : Nat} {W w : World} {K : Blocks} {C : Ch} {a : At} {F : Fl}
attribute [local irreducible] chg
set_option maxRecDepth 100000 in
theorem tickP_calls {j bf ba bv : Nat} {i : Nat} {v : Int} (h : KW B W (flK F C a ++ (j, jobO 1 (.func (.func 196) #[] #[.pointer (some ⟨bf, 0, none⟩), .pointer (some ⟨ba, 0, none⟩), .pointer (some ⟨bv, 0, none⟩)])) :: (bf, boxO (.pointer (some ⟨F.f, 0, none⟩)) 80) :: (ba, boxO (.int .i64 (i : Int)) 3) :: (bv, boxO (.int .u32 v) 38) :: K) w) (hj : F.job = .pointer (some ⟨j, 0, none⟩)) (ho : C.Ok) (ha : 320 ≤ a.n) (hi : i < 320) :
    Calls Tryz.prog 130 #[.pointer (some ⟨F.f, 0, none⟩), .int .i64 1] w fun e w' => e = .returned (.int .i64 0) ∧ KW B W (flK { F with job := .pointer none } (C.prog i v) a ++ K) w' := by
  have m5 : w.cell? ⟨F.f, 5, none⟩ = some (.pointer (some ⟨j, 0, none⟩)) := by rw [← hj]; exact cell_at (h.get (g := F.f) (o := flO F a) (by simp)) 5
  have hk := KW.into (KW.cell (i := 0) (x := .int .i64 0) (vs := #[.int .i64 0, .func (.func 196) #[] #[.pointer (some ⟨bf, 0, none⟩), .pointer (some ⟨ba, 0, none⟩), .pointer (some ⟨bv, 0, none⟩)]]) (h.perm List.perm_middle) rfl).drew
  have mj : w.cell? ⟨j, 0, none⟩ = some (.int .i64 1) := cell_at (h.get (g := j) (o := jobO 1 (.func (.func 196) #[] #[.pointer (some ⟨bf, 0, none⟩), .pointer (some ⟨ba, 0, none⟩), .pointer (some ⟨bv, 0, none⟩)])) (by simp)) 0
  have fj : w.frozen? ⟨j, 0, none⟩ = false := free_at (h.get (g := j) (o := jobO 1 (.func (.func 196) #[] #[.pointer (some ⟨bf, 0, none⟩), .pointer (some ⟨ba, 0, none⟩), .pointer (some ⟨bv, 0, none⟩)])) (by simp)) 0
  have H := _root_.Go.Lib.hid h
  have HK := _root_.Go.Lib.hid hk
  have HP := _root_.Go.Lib.hid (And.intro ho (And.intro ha hi))
  clear h hk hj ho ha hi
  go_enter Tryz.func130, Tryz.ntmps130
  go_upto_region 9 with (go_at_call 105; refine (fcheck_calls H.out 0 (by decide) (by decide)).mono ?_; rintro e w' ⟨rfl, rfl⟩)
  go_cut [6] from 7 (fun s6 wx => s6 = .pointer (some ⟨j, 0, none⟩) ∧ KW B W (flK F C a ++ (j, jobO 0 (.func (.func 196) #[] #[.pointer (some ⟨bf, 0, none⟩), .pointer (some ⟨ba, 0, none⟩), .pointer (some ⟨bv, 0, none⟩)])) :: (bf, boxO (.pointer (some ⟨F.f, 0, none⟩)) 80) :: (ba, boxO (.int .i64 (i : Int)) 3) :: (bv, boxO (.int .u32 v) 38) :: K) wx)
  case first =>
    focus go_region_with fail
    all_goals
      go_wp2
      go_meet
      case rel => exact ⟨rfl, HK.out⟩
  case rest =>
    obtain ⟨rfl, hk⟩ := hcut
    have m0 : wc.cell? ⟨j, 0, none⟩ = some (.int .i64 0) := cell_at (hk.get (g := j) (o := jobO 0 (.func (.func 196) #[] #[.pointer (some ⟨bf, 0, none⟩), .pointer (some ⟨ba, 0, none⟩), .pointer (some ⟨bv, 0, none⟩)])) (by simp)) 0
    have m5 : wc.cell? ⟨F.f, 5, none⟩ = some (F.job) := cell_at (hk.get (g := F.f) (o := flO F a) (by simp)) 5
    have f5 : wc.frozen? ⟨F.f, 5, none⟩ = false := free_at (hk.get (g := F.f) (o := flO F a) (by simp)) 5
    have h2 : KW B W (flK { F with job := .pointer none } C a ++ (j, jobO 0 (.func (.func 196) #[] #[.pointer (some ⟨bf, 0, none⟩), .pointer (some ⟨ba, 0, none⟩), .pointer (some ⟨bv, 0, none⟩)])) :: (bf, boxO (.pointer (some ⟨F.f, 0, none⟩)) 80) :: (ba, boxO (.int .i64 (i : Int)) 3) :: (bv, boxO (.int .u32 v) 38) :: K) (wc.setCell ⟨F.f, 5, none⟩ (.pointer none)) := KW.cell (vs := #[.pointer (some ⟨a.c, 0, none⟩), .int .i64 F.mode, F.wait, .int .u32 0, .map (some F.m), .pointer none]) hk rfl
    have HX := _root_.Go.Lib.hid h2
    clear hk HK H h2 mj fj
    go_upto_region 13 with fail
    have h2 := HX.out
    generalize World.setCell _ _ _ = w1 at h2 ⊢
    clear m0 m5 f5 HX
    have m1 : w1.cell? ⟨j, 1, none⟩ = some (.func (.func 196) #[] #[.pointer (some ⟨bf, 0, none⟩), .pointer (some ⟨ba, 0, none⟩), .pointer (some ⟨bv, 0, none⟩)]) := cell_at (h2.get (g := j) (o := jobO 0 (.func (.func 196) #[] #[.pointer (some ⟨bf, 0, none⟩), .pointer (some ⟨ba, 0, none⟩), .pointer (some ⟨bv, 0, none⟩)])) (by simp)) 1
    have hc := do196_calls h2.outof HP.out.1 HP.out.2.1 HP.out.2.2
    have HX := _root_.Go.Lib.hid hc
    clear h2 hc
    go_wp2_with fail
    refine HX.out.mono ?_
    rintro e w2 ⟨rfl, hk⟩
    have HK := _root_.Go.Lib.hid hk.outof.outof.outof
    clear hk HX
    go_wp2_with fail
    go_ret
    exact ⟨rfl, HK.out⟩
set_option maxRecDepth 100000 in
theorem tickE_calls {j bf ba : Nat} {b : Nat} (h : KW B W (flK F C a ++ (j, jobO 1 (.func (.func 198) #[] #[.pointer (some ⟨bf, 0, none⟩), .pointer (some ⟨ba, 0, none⟩)])) :: (bf, boxO (.pointer (some ⟨F.f, 0, none⟩)) 80) :: (ba, boxO (.int .i64 (b : Int)) 3) :: K) w) (hj : F.job = .pointer (some ⟨j, 0, none⟩)) (ho : C.Ok) (ha : 320 ≤ a.n) (hb : b < 5) (h0 : 0 ≤ C.wear.getD b 0) (h1 : C.wear.getD b 0 < C.endure) (h2 : C.endure < 1000000) :
    Calls Tryz.prog 130 #[.pointer (some ⟨F.f, 0, none⟩), .int .i64 1] w fun e w' => e = .returned (.int .i64 0) ∧ KW B W (flK { F with job := .pointer none } (C.erase b) a ++ K) w' := by
  have m5 : w.cell? ⟨F.f, 5, none⟩ = some (.pointer (some ⟨j, 0, none⟩)) := by rw [← hj]; exact cell_at (h.get (g := F.f) (o := flO F a) (by simp)) 5
  have hk := KW.into (KW.cell (i := 0) (x := .int .i64 0) (vs := #[.int .i64 0, .func (.func 198) #[] #[.pointer (some ⟨bf, 0, none⟩), .pointer (some ⟨ba, 0, none⟩)]]) (h.perm List.perm_middle) rfl).drew
  have mj : w.cell? ⟨j, 0, none⟩ = some (.int .i64 1) := cell_at (h.get (g := j) (o := jobO 1 (.func (.func 198) #[] #[.pointer (some ⟨bf, 0, none⟩), .pointer (some ⟨ba, 0, none⟩)])) (by simp)) 0
  have fj : w.frozen? ⟨j, 0, none⟩ = false := free_at (h.get (g := j) (o := jobO 1 (.func (.func 198) #[] #[.pointer (some ⟨bf, 0, none⟩), .pointer (some ⟨ba, 0, none⟩)])) (by simp)) 0
  have H := _root_.Go.Lib.hid h
  have HK := _root_.Go.Lib.hid hk
  have HP := _root_.Go.Lib.hid (And.intro ho (And.intro ha (And.intro hb (And.intro h0 (And.intro h1 h2)))))
  clear h hk hj ho ha hb h0 h1 h2
  go_enter Tryz.func130, Tryz.ntmps130
  go_upto_region 9 with (go_at_call 105; refine (fcheck_calls H.out 0 (by decide) (by decide)).mono ?_; rintro e w' ⟨rfl, rfl⟩)
  go_cut [6] from 7 (fun s6 wx => s6 = .pointer (some ⟨j, 0, none⟩) ∧ KW B W (flK F C a ++ (j, jobO 0 (.func (.func 198) #[] #[.pointer (some ⟨bf, 0, none⟩), .pointer (some ⟨ba, 0, none⟩)])) :: (bf, boxO (.pointer (some ⟨F.f, 0, none⟩)) 80) :: (ba, boxO (.int .i64 (b : Int)) 3) :: K) wx)
  case first =>
    focus go_region_with fail
    all_goals
      go_wp2
      go_meet
      case rel => exact ⟨rfl, HK.out⟩
  case rest =>
    obtain ⟨rfl, hk⟩ := hcut
    have m0 : wc.cell? ⟨j, 0, none⟩ = some (.int .i64 0) := cell_at (hk.get (g := j) (o := jobO 0 (.func (.func 198) #[] #[.pointer (some ⟨bf, 0, none⟩), .pointer (some ⟨ba, 0, none⟩)])) (by simp)) 0
    have m5 : wc.cell? ⟨F.f, 5, none⟩ = some (F.job) := cell_at (hk.get (g := F.f) (o := flO F a) (by simp)) 5
    have f5 : wc.frozen? ⟨F.f, 5, none⟩ = false := free_at (hk.get (g := F.f) (o := flO F a) (by simp)) 5
    have h2 : KW B W (flK { F with job := .pointer none } C a ++ (j, jobO 0 (.func (.func 198) #[] #[.pointer (some ⟨bf, 0, none⟩), .pointer (some ⟨ba, 0, none⟩)])) :: (bf, boxO (.pointer (some ⟨F.f, 0, none⟩)) 80) :: (ba, boxO (.int .i64 (b : Int)) 3) :: K) (wc.setCell ⟨F.f, 5, none⟩ (.pointer none)) := KW.cell (vs := #[.pointer (some ⟨a.c, 0, none⟩), .int .i64 F.mode, F.wait, .int .u32 0, .map (some F.m), .pointer none]) hk rfl
    have HX := _root_.Go.Lib.hid h2
    clear hk HK H h2 mj fj
    go_upto_region 13 with fail
    have h2 := HX.out
    generalize World.setCell _ _ _ = w1 at h2 ⊢
    clear m0 m5 f5 HX
    have m1 : w1.cell? ⟨j, 1, none⟩ = some (.func (.func 198) #[] #[.pointer (some ⟨bf, 0, none⟩), .pointer (some ⟨ba, 0, none⟩)]) := cell_at (h2.get (g := j) (o := jobO 0 (.func (.func 198) #[] #[.pointer (some ⟨bf, 0, none⟩), .pointer (some ⟨ba, 0, none⟩)])) (by simp)) 1
    have hc := do198_calls h2.outof HP.out.1 HP.out.2.1 HP.out.2.2.1 HP.out.2.2.2.1 HP.out.2.2.2.2.1 HP.out.2.2.2.2.2
    have HX := _root_.Go.Lib.hid hc
    clear h2 hc
    go_wp2_with fail
    refine HX.out.mono ?_
    rintro e w2 ⟨rfl, hk⟩
    have HK := _root_.Go.Lib.hid hk.outof.outof
    clear hk HX
    go_wp2_with fail
    go_ret
    exact ⟨rfl, HK.out⟩
end
end Go.Proofs.YtlcbilknfjdceaaGreatDoor
end
section
/-
  The flash before the chip: what is written to it.
-/
set_option linter.unusedVariables false
set_option linter.unusedSimpArgs false
namespace Go.Proofs.YtlcbilknfjdceaaGreatDoor
open Go.RowKit Go.Lib
section
variable {B : Nat} {W w : World} {K : Blocks} {C : Ch} {a : At} {F : Fl}
attribute [local irreducible] chg
set_option maxRecDepth 100000 in
theorem wread_calls (i : Nat) (hi : i < 320) (h : KW B W (flK F C a ++ K) w) (hj : F.job = .pointer none) (hw : F.wait = .nilFunc) : Calls Tryz.prog 104 #[.pointer (some ⟨F.f, 0, none⟩), .int .i64 (i : Int), .int .u32 255] w fun e w' => e = .returned (.int .i64 0) ∧ KW B W (flK { F with mode := 0 } C a ++ K) w' := by
  have m5 : w.cell? ⟨F.f, 5, none⟩ = some (.pointer none) := by rw [← hj]; exact cell_at (h.get (g := F.f) (o := flO F a) (by simp)) 5
  have m2 : w.cell? ⟨F.f, 2, none⟩ = some (.nilFunc) := by rw [← hw]; exact cell_at (h.get (g := F.f) (o := flO F a) (by simp)) 2
  have m1 : w.cell? ⟨F.f, 1, none⟩ = some (.int .i64 F.mode) := cell_at (h.get (g := F.f) (o := flO F a) (by simp)) 1
  have f1 : w.frozen? ⟨F.f, 1, none⟩ = false := free_at (h.get (g := F.f) (o := flO F a) (by simp)) 1
  have f2 : w.frozen? ⟨F.f, 2, none⟩ = false := free_at (h.get (g := F.f) (o := flO F a) (by simp)) 2
  have hn : ∀ w, (binOp .neq 129 (.nilFunc) .nilFunc).run Tryz.prog w = .ok (.bool false) w := fun w => by kernel_rfl
  have hc := cmdread_calls h
  have H := _root_.Go.Lib.hid h
  have HC := _root_.Go.Lib.hid hc
  clear h hc hw
  go_enter Tryz.func104, Tryz.ntmps104
  go_wp2_with (go_at_call 105; refine (fcheck_calls H.out _ (by omega) (by omega)).mono ?_; rintro e w' ⟨rfl, rfl⟩)
  refine HC.out.mono ?_
  rintro e w1 ⟨rfl, hk⟩
  have HK := _root_.Go.Lib.hid hk
  clear hk HC H m5 m2 m1 f1 f2
  go_wp2_with fail
  go_ret
  exact ⟨rfl, HK.out⟩
set_option maxRecDepth 100000 in
theorem wprog_calls (i : Nat) (hi : i < 320) (h : KW B W (flK F C a ++ K) w) (hj : F.job = .pointer none) (hw : F.wait = .nilFunc) : Calls Tryz.prog 104 #[.pointer (some ⟨F.f, 0, none⟩), .int .i64 (i : Int), .int .u32 64] w fun e w' => e = .returned (.int .i64 0) ∧ KW B W (flK { F with mode := 1, wait := .func (.func 168) #[] #[] } C a ++ K) w' := by
  have m5 : w.cell? ⟨F.f, 5, none⟩ = some (.pointer none) := by rw [← hj]; exact cell_at (h.get (g := F.f) (o := flO F a) (by simp)) 5
  have m2 : w.cell? ⟨F.f, 2, none⟩ = some (.nilFunc) := by rw [← hw]; exact cell_at (h.get (g := F.f) (o := flO F a) (by simp)) 2
  have m1 : w.cell? ⟨F.f, 1, none⟩ = some (.int .i64 F.mode) := cell_at (h.get (g := F.f) (o := flO F a) (by simp)) 1
  have f1 : w.frozen? ⟨F.f, 1, none⟩ = false := free_at (h.get (g := F.f) (o := flO F a) (by simp)) 1
  have f2 : w.frozen? ⟨F.f, 2, none⟩ = false := free_at (h.get (g := F.f) (o := flO F a) (by simp)) 2
  have hn : ∀ w, (binOp .neq 129 (.nilFunc) .nilFunc).run Tryz.prog w = .ok (.bool false) w := fun w => by kernel_rfl
  have hc := cmdprog_calls h
  have H := _root_.Go.Lib.hid h
  have HC := _root_.Go.Lib.hid hc
  clear h hc hw
  go_enter Tryz.func104, Tryz.ntmps104
  go_wp2_with (go_at_call 105; refine (fcheck_calls H.out _ (by omega) (by omega)).mono ?_; rintro e w' ⟨rfl, rfl⟩)
  refine HC.out.mono ?_
  rintro e w1 ⟨rfl, hk⟩
  have HK := _root_.Go.Lib.hid hk
  clear hk HC H m5 m2 m1 f1 f2
  go_wp2_with fail
  go_ret
  exact ⟨rfl, HK.out⟩
set_option maxRecDepth 100000 in
theorem werase_calls (b : Nat) (hb : b < 5) (h : KW B W (flK F C a ++ K) w) (hj : F.job = .pointer none) (hw : F.wait = .nilFunc) : Calls Tryz.prog 104 #[.pointer (some ⟨F.f, 0, none⟩), .int .i64 ((b : Int) * 64), .int .u32 32] w fun e w' => e = .returned (.int .i64 0) ∧ KW B W (flK { F with mode := 1, wait := .func (.func 169) #[] #[] } C a ++ K) w' := by
  have m5 : w.cell? ⟨F.f, 5, none⟩ = some (.pointer none) := by rw [← hj]; exact cell_at (h.get (g := F.f) (o := flO F a) (by simp)) 5
  have m2 : w.cell? ⟨F.f, 2, none⟩ = some (.nilFunc) := by rw [← hw]; exact cell_at (h.get (g := F.f) (o := flO F a) (by simp)) 2
  have m1 : w.cell? ⟨F.f, 1, none⟩ = some (.int .i64 F.mode) := cell_at (h.get (g := F.f) (o := flO F a) (by simp)) 1
  have f1 : w.frozen? ⟨F.f, 1, none⟩ = false := free_at (h.get (g := F.f) (o := flO F a) (by simp)) 1
  have f2 : w.frozen? ⟨F.f, 2, none⟩ = false := free_at (h.get (g := F.f) (o := flO F a) (by simp)) 2
  have hn : ∀ w, (binOp .neq 129 (.nilFunc) .nilFunc).run Tryz.prog w = .ok (.bool false) w := fun w => by kernel_rfl
  have hc := cmderase_calls h
  have H := _root_.Go.Lib.hid h
  have HC := _root_.Go.Lib.hid hc
  clear h hc hw
  go_enter Tryz.func104, Tryz.ntmps104
  go_wp2_with (go_at_call 105; refine (fcheck_calls H.out _ (by omega) (by omega)).mono ?_; rintro e w' ⟨rfl, rfl⟩)
  refine HC.out.mono ?_
  rintro e w1 ⟨rfl, hk⟩
  have HK := _root_.Go.Lib.hid hk
  clear hk HC H m5 m2 m1 f1 f2
  go_wp2_with fail
  go_ret
  exact ⟨rfl, HK.out⟩
set_option maxRecDepth 100000 in
theorem wprog2_calls (i : Nat) (hi : i < 320) (v : Int) (h : KW B W (flK F C a ++ K) w) (hj : F.job = .pointer none) (hw : F.wait = .func (.func 168) #[] #[]) : Calls Tryz.prog 104 #[.pointer (some ⟨F.f, 0, none⟩), .int .i64 (i : Int), .int .u32 v] w fun e w' => e = .returned (.int .i64 0) ∧ ∃ j bf ba bv, KW B W (flK { F with mode := 1, wait := .nilFunc, job := .pointer (some ⟨j, 0, none⟩) } C a ++ (j, jobO 3 (.func (.func 196) #[] #[.pointer (some ⟨bf, 0, none⟩), .pointer (some ⟨ba, 0, none⟩), .pointer (some ⟨bv, 0, none⟩)])) :: (bf, boxO (.pointer (some ⟨F.f, 0, none⟩)) 80) :: (ba, boxO (.int .i64 (i : Int)) 3) :: (bv, boxO (.int .u32 v) 38) :: K) w' := by
  have m5 : w.cell? ⟨F.f, 5, none⟩ = some (.pointer none) := by rw [← hj]; exact cell_at (h.get (g := F.f) (o := flO F a) (by simp)) 5
  have m2 : w.cell? ⟨F.f, 2, none⟩ = some (.func (.func 168) #[] #[]) := by rw [← hw]; exact cell_at (h.get (g := F.f) (o := flO F a) (by simp)) 2
  have m1 : w.cell? ⟨F.f, 1, none⟩ = some (.int .i64 F.mode) := cell_at (h.get (g := F.f) (o := flO F a) (by simp)) 1
  have f1 : w.frozen? ⟨F.f, 1, none⟩ = false := free_at (h.get (g := F.f) (o := flO F a) (by simp)) 1
  have f2 : w.frozen? ⟨F.f, 2, none⟩ = false := free_at (h.get (g := F.f) (o := flO F a) (by simp)) 2
  have h2 : KW B W (flK { F with mode := 1, wait := .nilFunc } C a ++ K) ((w.setCell ⟨F.f, 2, none⟩ .nilFunc).setCell ⟨F.f, 1, none⟩ (.int .i64 1)) := KW.cell (i := 1) (x := .int .i64 1) (vs := #[.pointer (some ⟨a.c, 0, none⟩), .int .i64 1, .nilFunc, .int .u32 0, .map (some F.m), F.job]) (KW.cell (i := 2) (x := .nilFunc) (vs := #[.pointer (some ⟨a.c, 0, none⟩), .int .i64 F.mode, .nilFunc, .int .u32 0, .map (some F.m), F.job]) h rfl) rfl
  have hn : ∀ w, (binOp .neq 129 (.func (.func 168) #[] #[]) .nilFunc).run Tryz.prog w = .ok (.bool true) w := fun w => by kernel_rfl
  have hc := fprog_calls h2 i v hi
  have H := _root_.Go.Lib.hid h
  have HC := _root_.Go.Lib.hid hc
  clear h hc hw h2
  go_enter Tryz.func104, Tryz.ntmps104
  go_wp2_with (go_at_call 105; refine (fcheck_calls H.out _ (by omega) (by omega)).mono ?_; rintro e w' ⟨rfl, rfl⟩)
  refine HC.out.mono ?_
  rintro e w1 ⟨rfl, hk⟩
  have HK := _root_.Go.Lib.hid hk
  clear hk HC H m5 m2 m1 f1 f2
  go_wp2_with fail
  go_ret
  exact ⟨rfl, HK.out⟩
set_option maxRecDepth 100000 in
theorem werase2_calls (b : Nat) (hb : b < 5) (h : KW B W (flK F C a ++ K) w) (hj : F.job = .pointer none) (hw : F.wait = .func (.func 169) #[] #[]) : Calls Tryz.prog 104 #[.pointer (some ⟨F.f, 0, none⟩), .int .i64 ((b : Int) * 64), .int .u32 208] w fun e w' => e = .returned (.int .i64 0) ∧ ∃ j bf bb, KW B W (flK { F with mode := 1, wait := .nilFunc, job := .pointer (some ⟨j, 0, none⟩) } C a ++ (j, jobO 20 (.func (.func 198) #[] #[.pointer (some ⟨bf, 0, none⟩), .pointer (some ⟨bb, 0, none⟩)])) :: (bf, boxO (.pointer (some ⟨F.f, 0, none⟩)) 80) :: (bb, boxO (.int .i64 (b : Int)) 3) :: K) w' := by
  have m5 : w.cell? ⟨F.f, 5, none⟩ = some (.pointer none) := by rw [← hj]; exact cell_at (h.get (g := F.f) (o := flO F a) (by simp)) 5
  have m2 : w.cell? ⟨F.f, 2, none⟩ = some (.func (.func 169) #[] #[]) := by rw [← hw]; exact cell_at (h.get (g := F.f) (o := flO F a) (by simp)) 2
  have m1 : w.cell? ⟨F.f, 1, none⟩ = some (.int .i64 F.mode) := cell_at (h.get (g := F.f) (o := flO F a) (by simp)) 1
  have f1 : w.frozen? ⟨F.f, 1, none⟩ = false := free_at (h.get (g := F.f) (o := flO F a) (by simp)) 1
  have f2 : w.frozen? ⟨F.f, 2, none⟩ = false := free_at (h.get (g := F.f) (o := flO F a) (by simp)) 2
  have h2 : KW B W (flK { F with mode := 1, wait := .nilFunc } C a ++ K) ((w.setCell ⟨F.f, 2, none⟩ .nilFunc).setCell ⟨F.f, 1, none⟩ (.int .i64 1)) := KW.cell (i := 1) (x := .int .i64 1) (vs := #[.pointer (some ⟨a.c, 0, none⟩), .int .i64 1, .nilFunc, .int .u32 0, .map (some F.m), F.job]) (KW.cell (i := 2) (x := .nilFunc) (vs := #[.pointer (some ⟨a.c, 0, none⟩), .int .i64 F.mode, .nilFunc, .int .u32 0, .map (some F.m), F.job]) h rfl) rfl
  have hn : ∀ w, (binOp .neq 129 (.func (.func 169) #[] #[]) .nilFunc).run Tryz.prog w = .ok (.bool true) w := fun w => by kernel_rfl
  have hc := ferase_calls h2 b hb
  have H := _root_.Go.Lib.hid h
  have HC := _root_.Go.Lib.hid hc
  clear h hc hw h2
  go_enter Tryz.func104, Tryz.ntmps104
  go_wp2_with (go_at_call 105; refine (fcheck_calls H.out _ (by omega) (by omega)).mono ?_; rintro e w' ⟨rfl, rfl⟩)
  refine HC.out.mono ?_
  rintro e w1 ⟨rfl, hk⟩
  have HK := _root_.Go.Lib.hid hk
  clear hk HC H m5 m2 m1 f1 f2
  go_wp2_with fail
  go_ret
  exact ⟨rfl, HK.out⟩
end
end Go.Proofs.YtlcbilknfjdceaaGreatDoor
end
section
/-
  The driver: what only reads; one row of values written.
-/
set_option linter.unusedVariables false
set_option linter.unusedSimpArgs false
namespace Go.Proofs.YtlcbilknfjdceaaGreatDoor
open Go.RowKit Go.Lib
/-- A driver, its flash, its chip. -/
structure Dv where
  d : Nat
  ticks : Int
  F : Fl
  C : Ch
  a : At
/-- Nothing is under way. -/
structure Dv.Rest (D : Dv) : Prop where
  job : D.F.job = .pointer none
  wait : D.F.wait = .nilFunc
  ok : D.C.Ok
  room : 320 ≤ D.a.n
abbrev drO (D : Dv) : Obj := .cells #[.pointer (some ⟨D.F.f, 0, none⟩), .int .i64 5, .int .i64 D.ticks] 134
abbrev drK (D : Dv) : Blocks := (D.d, drO D) :: flK D.F D.C D.a
section
variable {B : Nat} {W w : World} {K : Blocks} {D : Dv}
theorem KW.mv (L M R : Blocks) (h : KW B W (L ++ (M ++ R)) w) : KW B W (M ++ (L ++ R)) w := h.perm (List.perm_append_comm_assoc L M R)
theorem KW.cut (L M R : Blocks) (h : KW B W (L ++ (M ++ R)) w) : KW B W (L ++ R) w := by
  have h1 := h.mv L M R
  exact ⟨h1.bel, h1.size, fun p hp => h1.kept p (List.mem_append_right _ hp), by
    have := h1.nodup
    rw [List.map_append] at this
    exact (List.nodup_append.1 this).2.1⟩
theorem KW.fl (h : KW B W (drK D ++ K) w) : KW B W (flK D.F D.C D.a ++ (D.d, drO D) :: K) w := h.perm List.perm_middle.symm
theorem KW.dr (h : KW B W (flK D.F D.C D.a ++ (D.d, drO D) :: K) w) : KW B W (drK D ++ K) w := h.perm List.perm_middle
theorem KW.drx {D' : Dv} (h : KW B W (flK D'.F D'.C D'.a ++ (D'.d, drO D') :: K) w) : KW B W (drK D' ++ K) w := h.perm List.perm_middle
theorem dgood_calls (h : KW B W (drK D ++ K) w) : Calls Tryz.prog 65 #[.pointer (some ⟨D.d, 0, none⟩)] w fun e w' => e = .returned (.bool true) ∧ w = w' := by
  have m0 : w.cell? ⟨D.d, 0, none⟩ = some (.pointer (some ⟨D.F.f, 0, none⟩)) := cell_at (h.get (g := D.d) (o := drO D) (by simp)) 0
  clear h
  go_enter Tryz.func65, Tryz.ntmps65
  go_wp2
  go_ret
  exact ⟨rfl, rfl⟩
theorem dblocks_calls (h : KW B W (drK D ++ K) w) : Calls Tryz.prog 51 #[.pointer (some ⟨D.d, 0, none⟩)] w fun e w' => e = .returned (.int .i64 5) ∧ w = w' := by
  have m1 : w.cell? ⟨D.d, 1, none⟩ = some (.int .i64 5) := cell_at (h.get (g := D.d) (o := drO D) (by simp)) 1
  have H := _root_.Go.Lib.hid h
  clear h
  go_enter Tryz.func51, Tryz.ntmps51
  go_wp2_with (go_at_call 65; refine (dgood_calls H.out).mono ?_; rintro e w' ⟨rfl, rfl⟩)
  go_ret
  exact ⟨rfl, rfl⟩
theorem dnew_calls {F : Fl} {C : Ch} {a : At} (h : KW B W (flK F C a ++ K) w) : Calls Tryz.prog 24 #[.pointer (some ⟨F.f, 0, none⟩), .int .i64 5] w fun e w' => ∃ d, e = .returned (.pointer (some ⟨d, 0, none⟩)) ∧ KW B W (drK ⟨d, 0, F, C, a⟩ ++ K) w' := by
  have h2 := h.push (drO ⟨w.heap.size, 0, F, C, a⟩)
  have H := _root_.Go.Lib.hid h2
  clear h h2
  go_enter Tryz.func24, Tryz.ntmps24
  go_wp2
  go_ret
  exact ⟨w.heap.size, rfl, H.out⟩
theorem fread_calls {F : Fl} {C : Ch} {a : At} (h : KW B W (flK F C a ++ K) w) (hj : F.job = .pointer none) (hm : F.mode = 0) (ho : C.Ok) (i : Nat) (hi : i < 320) : Calls Tryz.prog 67 #[.pointer (some ⟨F.f, 0, none⟩), .int .i64 (i : Int)] w fun e w' => e = .returned (.tuple #[.int .u32 (C.ws.getD i 0), .int .i64 0]) ∧ w = w' := by
  have m5 : w.cell? ⟨F.f, 5, none⟩ = some (.pointer none) := by rw [← hj]; exact cell_at (h.get (g := F.f) (o := flO F a) (by simp)) 5
  have m1 : w.cell? ⟨F.f, 1, none⟩ = some (.int .i64 0) := by rw [← hm]; exact cell_at (h.get (g := F.f) (o := flO F a) (by simp)) 1
  have m0 : w.cell? ⟨F.f, 0, none⟩ = some (.pointer (some ⟨a.c, 0, none⟩)) := cell_at (h.get (g := F.f) (o := flO F a) (by simp)) 0
  have hc := cread_calls h.chip ho i hi
  have H := _root_.Go.Lib.hid h
  have HC := _root_.Go.Lib.hid hc
  clear h hc hj hm
  generalize C.ws.getD i 0 = x at HC ⊢
  go_enter Tryz.func67, Tryz.ntmps67
  go_wp2_with (go_at_call 105; refine (fcheck_calls H.out _ (by omega) (by omega)).mono ?_; rintro e w' ⟨rfl, rfl⟩)
  refine HC.out.mono ?_
  rintro e w' ⟨rfl, rfl⟩
  clear HC H m5 m1 m0
  go_wp2_with fail
  refine bodyPost_ret (v := .tuple #[.int .u32 x, .int .i64 0]) (by simp [results, Tryz.results67, Sem.run_bind, Result.andThen]) rfl ⟨rfl, rfl⟩
set_option maxRecDepth 100000 in
theorem wr255_calls {g : Nat} (h : KW B W (drK D ++ (g, .cells #[.int .u32 255] 38) :: K) w) (hr : D.Rest) (i : Nat) (hi : i < 320) : Calls Tryz.prog 66 #[.pointer (some ⟨D.d, 0, none⟩), .int .i64 (i : Int), .slice (some ⟨g, 0, none⟩) 1 1] w fun e w' => e = .returned (.int .i64 0) ∧ KW B W (drK { D with F := { D.F with mode := 0 } } ++ K) w' := by
  have m0 : w.cell? ⟨D.d, 0, none⟩ = some (.pointer (some ⟨D.F.f, 0, none⟩)) := cell_at (h.get (g := D.d) (o := drO D) (by simp)) 0
  have x0 : w.cell? ⟨g, 0, none⟩ = some (.int .u32 255) := cell_at (h.get (g := g) (o := .cells #[.int .u32 255] 38) (by simp)) 0
  have H := _root_.Go.Lib.hid h
  have HR := _root_.Go.Lib.hid hr
  have hc := wread_calls i hi h.fl hr.job hr.wait
  have HC := _root_.Go.Lib.hid hc
  clear h hr hc
  go_enter Tryz.func66, Tryz.ntmps66
  go_wp2_with (go_at_call 65; refine (dgood_calls H.out).mono ?_; rintro e w' ⟨rfl, rfl⟩)
  refine wp_loop_rounds 2 ?_
  rw [rounds_succ]
  go_wp2_with fail
  refine HC.out.mono ?_
  clear HC
  rintro e w1 ⟨rfl, hk⟩
  have HK := _root_.Go.Lib.hid hk
  clear hk H m0 x0
  go_wp2_with fail
  rw [rounds_succ]
  go_wp2_with fail
  go_ret
  exact ⟨rfl, (KW.outof (L := drK { D with F := { D.F with mode := 0 } }) (KW.drx (D' := { D with F := { D.F with mode := 0 } }) HK.out))⟩
set_option maxRecDepth 100000 in
theorem wr64_calls {g : Nat} {v : Int} (h : KW B W (drK D ++ (g, .cells #[.int .u32 64, .int .u32 v] 38) :: K) w) (hr : D.Rest) (i : Nat) (hi : i < 320) : Calls Tryz.prog 66 #[.pointer (some ⟨D.d, 0, none⟩), .int .i64 (i : Int), .slice (some ⟨g, 0, none⟩) 2 2] w fun e w' => e = .returned (.int .i64 0) ∧ ∃ j bf ba bv, KW B W (drK { D with F := { D.F with mode := 1, wait := .nilFunc, job := .pointer (some ⟨j, 0, none⟩) } } ++ ([(j, jobO 3 (.func (.func 196) #[] #[.pointer (some ⟨bf, 0, none⟩), .pointer (some ⟨ba, 0, none⟩), .pointer (some ⟨bv, 0, none⟩)])), (bf, boxO (.pointer (some ⟨D.F.f, 0, none⟩)) 80), (ba, boxO (.int .i64 (i : Int)) 3), (bv, boxO (.int .u32 v) 38)] ++ K)) w' := by
  have m0 : w.cell? ⟨D.d, 0, none⟩ = some (.pointer (some ⟨D.F.f, 0, none⟩)) := cell_at (h.get (g := D.d) (o := drO D) (by simp)) 0
  have x0 : w.cell? ⟨g, 0, none⟩ = some (.int .u32 64) := cell_at (h.get (g := g) (o := .cells #[.int .u32 64, .int .u32 v] 38) (by simp)) 0
  have H := _root_.Go.Lib.hid h
  have HR := _root_.Go.Lib.hid hr
  have hc := wprog_calls i hi h.fl hr.job hr.wait
  have HC := _root_.Go.Lib.hid hc
  clear h hr hc
  go_enter Tryz.func66, Tryz.ntmps66
  go_wp2_with (go_at_call 65; refine (dgood_calls H.out).mono ?_; rintro e w' ⟨rfl, rfl⟩)
  refine wp_loop_rounds 3 ?_
  rw [rounds_succ]
  go_wp2_with fail
  refine HC.out.mono ?_
  clear HC
  rintro e w1 ⟨rfl, hk⟩
  clear H m0 x0
  have m0 : w1.cell? ⟨D.d, 0, none⟩ = some (.pointer (some ⟨D.F.f, 0, none⟩)) := cell_at (hk.get (g := D.d) (o := drO D) (by simp)) 0
  have x1 : w1.cell? ⟨g, 1, none⟩ = some (.int .u32 v) := cell_at (hk.get (g := g) (o := .cells #[.int .u32 64, .int .u32 v] 38) (by simp)) 1
  have hc := wprog2_calls i hi v hk HR.out.job rfl
  have HC := _root_.Go.Lib.hid hc
  clear hc hk
  go_wp2_with fail
  rw [rounds_succ]
  go_wp2_with fail
  refine HC.out.mono ?_
  clear HC
  rintro e w2 ⟨rfl, hk⟩
  have HK := _root_.Go.Lib.hid hk
  clear hk m0 x1
  go_wp2_with fail
  rw [rounds_succ]
  go_wp2_with fail
  go_ret
  obtain ⟨j, bf, ba, bv, hh⟩ := HK.out
  clear HK
  have HK := _root_.Go.Lib.hid hh
  have hq := KW.mv (flK { D.F with mode := 1, wait := .nilFunc, job := .pointer (some ⟨j, 0, none⟩) } D.C D.a ++ [(j, jobO 3 (.func (.func 196) #[] #[.pointer (some ⟨bf, 0, none⟩), .pointer (some ⟨ba, 0, none⟩), .pointer (some ⟨bv, 0, none⟩)])), (bf, boxO (.pointer (some ⟨D.F.f, 0, none⟩)) 80), (ba, boxO (.int .i64 (i : Int)) 3), (bv, boxO (.int .u32 v) 38)]) [(D.d, drO D)] K (KW.cut (flK { D.F with mode := 1, wait := .nilFunc, job := .pointer (some ⟨j, 0, none⟩) } D.C D.a ++ [(j, jobO 3 (.func (.func 196) #[] #[.pointer (some ⟨bf, 0, none⟩), .pointer (some ⟨ba, 0, none⟩), .pointer (some ⟨bv, 0, none⟩)])), (bf, boxO (.pointer (some ⟨D.F.f, 0, none⟩)) 80), (ba, boxO (.int .i64 (i : Int)) 3), (bv, boxO (.int .u32 v) 38), (D.d, drO D)]) [(g, .cells #[.int .u32 64, .int .u32 v] 38)] K HK.out)
  exact ⟨rfl, j, bf, ba, bv, hq⟩
set_option maxRecDepth 100000 in
theorem wr32_calls {g : Nat} (h : KW B W (drK D ++ (g, .cells #[.int .u32 32, .int .u32 208] 38) :: K) w) (hr : D.Rest) (b : Nat) (hb : b < 5) : Calls Tryz.prog 66 #[.pointer (some ⟨D.d, 0, none⟩), .int .i64 ((b : Int) * 64), .slice (some ⟨g, 0, none⟩) 2 2] w fun e w' => e = .returned (.int .i64 0) ∧ ∃ j bf bb, KW B W (drK { D with F := { D.F with mode := 1, wait := .nilFunc, job := .pointer (some ⟨j, 0, none⟩) } } ++ ([(j, jobO 20 (.func (.func 198) #[] #[.pointer (some ⟨bf, 0, none⟩), .pointer (some ⟨bb, 0, none⟩)])), (bf, boxO (.pointer (some ⟨D.F.f, 0, none⟩)) 80), (bb, boxO (.int .i64 (b : Int)) 3)] ++ K)) w' := by
  have m0 : w.cell? ⟨D.d, 0, none⟩ = some (.pointer (some ⟨D.F.f, 0, none⟩)) := cell_at (h.get (g := D.d) (o := drO D) (by simp)) 0
  have x0 : w.cell? ⟨g, 0, none⟩ = some (.int .u32 32) := cell_at (h.get (g := g) (o := .cells #[.int .u32 32, .int .u32 208] 38) (by simp)) 0
  have H := _root_.Go.Lib.hid h
  have HR := _root_.Go.Lib.hid hr
  have hc := werase_calls b hb h.fl hr.job hr.wait
  have HC := _root_.Go.Lib.hid hc
  clear h hr hc
  go_enter Tryz.func66, Tryz.ntmps66
  go_wp2_with (go_at_call 65; refine (dgood_calls H.out).mono ?_; rintro e w' ⟨rfl, rfl⟩)
  refine wp_loop_rounds 3 ?_
  rw [rounds_succ]
  go_wp2_with fail
  refine HC.out.mono ?_
  clear HC
  rintro e w1 ⟨rfl, hk⟩
  clear H m0 x0
  have m0 : w1.cell? ⟨D.d, 0, none⟩ = some (.pointer (some ⟨D.F.f, 0, none⟩)) := cell_at (hk.get (g := D.d) (o := drO D) (by simp)) 0
  have x1 : w1.cell? ⟨g, 1, none⟩ = some (.int .u32 208) := cell_at (hk.get (g := g) (o := .cells #[.int .u32 32, .int .u32 208] 38) (by simp)) 1
  have hc := werase2_calls b hb hk HR.out.job rfl
  have HC := _root_.Go.Lib.hid hc
  clear hc hk
  go_wp2_with fail
  rw [rounds_succ]
  go_wp2_with fail
  refine HC.out.mono ?_
  clear HC
  rintro e w2 ⟨rfl, hk⟩
  have HK := _root_.Go.Lib.hid hk
  clear hk m0 x1
  go_wp2_with fail
  rw [rounds_succ]
  go_wp2_with fail
  go_ret
  obtain ⟨j, bf, bb, hh⟩ := HK.out
  clear HK
  have HK := _root_.Go.Lib.hid hh
  have hq := KW.mv (flK { D.F with mode := 1, wait := .nilFunc, job := .pointer (some ⟨j, 0, none⟩) } D.C D.a ++ [(j, jobO 20 (.func (.func 198) #[] #[.pointer (some ⟨bf, 0, none⟩), .pointer (some ⟨bb, 0, none⟩)])), (bf, boxO (.pointer (some ⟨D.F.f, 0, none⟩)) 80), (bb, boxO (.int .i64 (b : Int)) 3)]) [(D.d, drO D)] K (KW.cut (flK { D.F with mode := 1, wait := .nilFunc, job := .pointer (some ⟨j, 0, none⟩) } D.C D.a ++ [(j, jobO 20 (.func (.func 198) #[] #[.pointer (some ⟨bf, 0, none⟩), .pointer (some ⟨bb, 0, none⟩)])), (bf, boxO (.pointer (some ⟨D.F.f, 0, none⟩)) 80), (bb, boxO (.int .i64 (b : Int)) 3), (D.d, drO D)]) [(g, .cells #[.int .u32 32, .int .u32 208] 38)] K HK.out)
  exact ⟨rfl, j, bf, bb, hq⟩
end
end Go.Proofs.YtlcbilknfjdceaaGreatDoor
end
section
/-
  The driver: it waits till a job is done.
-/
set_option linter.unusedVariables false
set_option linter.unusedSimpArgs false
namespace Go.Proofs.YtlcbilknfjdceaaGreatDoor
open Go.RowKit Go.Lib
section
variable {B : Nat} {W w : World} {K : Blocks} {D : Dv}
attribute [local irreducible] chg
theorem errors_calls (h : KW B W (drK D ++ K) w) (hj : D.F.job = .pointer none) : Calls Tryz.prog 131 #[.pointer (some ⟨D.d, 0, none⟩)] w fun e w' => e = .returned (.int .i64 0) ∧ w = w' := by
  have m0 : w.cell? ⟨D.d, 0, none⟩ = some (.pointer (some ⟨D.F.f, 0, none⟩)) := cell_at (h.get (g := D.d) (o := drO D) (by simp)) 0
  have hc := status_calls h.fl 128 (.inl ⟨hj, rfl⟩)
  have HC := _root_.Go.Lib.hid hc
  clear h hc hj
  have g1 : bits .andNot .u32 128 128 = 0 := by kernel_rfl
  go_enter Tryz.func131, Tryz.ntmps131
  go_wp2_with fail
  refine HC.out.mono ?_
  rintro e w' ⟨rfl, rfl⟩
  clear HC
  go_wp2_with fail
  go_ret
  exact ⟨rfl, rfl⟩
set_option maxRecDepth 100000 in
theorem waitP_calls {j bf ba bv : Nat} {i : Nat} {v : Int} (h : KW B W (drK D ++ ([(j, jobO 3 (.func (.func 196) #[] #[.pointer (some ⟨bf, 0, none⟩), .pointer (some ⟨ba, 0, none⟩), .pointer (some ⟨bv, 0, none⟩)])), (bf, boxO (.pointer (some ⟨D.F.f, 0, none⟩)) 80), (ba, boxO (.int .i64 (i : Int)) 3), (bv, boxO (.int .u32 v) 38)] ++ K)) w) (hj : D.F.job = .pointer (some ⟨j, 0, none⟩)) (ho : D.C.Ok) (ha : 320 ≤ D.a.n) (hi : i < 320) :
    Calls Tryz.prog 92 #[.pointer (some ⟨D.d, 0, none⟩)] w fun e w' => e = .returned (.int .i64 0) ∧ ∃ tk, KW B W (drK { D with ticks := tk, F := { D.F with job := .pointer none }, C := D.C.prog i v } ++ K) w' := by
  have H := _root_.Go.Lib.hid h
  have HP := _root_.Go.Lib.hid (And.intro hj (And.intro ho ha))
  clear h hj ho ha
  go_enter Tryz.func92, Tryz.ntmps92
  go_wp2_with fail
  go_loopg [3] 3 (fun k s3 wr => ∃ kk tk, kk = k ∧ ((0 < kk ∧ kk ≤ 3 ∧ KW B W (drK { D with ticks := tk } ++ ([(j, jobO (kk : Int) (.func (.func 196) #[] #[.pointer (some ⟨bf, 0, none⟩), .pointer (some ⟨ba, 0, none⟩), .pointer (some ⟨bv, 0, none⟩)])), (bf, boxO (.pointer (some ⟨D.F.f, 0, none⟩)) 80), (ba, boxO (.int .i64 (i : Int)) 3), (bv, boxO (.int .u32 v) 38)] ++ K)) wr) ∨ (kk = 0 ∧ KW B W (drK { D with ticks := tk, F := { D.F with job := .pointer none }, C := D.C.prog i v } ++ K) wr)))
  case atStart => exact ⟨3, D.ticks, rfl, .inl ⟨by decide, by decide, H.out⟩⟩
  case round =>
    clear H
    obtain ⟨k, tk, rfl, ⟨hk0, hk1, hk⟩ | ⟨rfl, hk⟩⟩ := hrel
    · have hs := status_calls hk.fl 0 (.inr ⟨⟨j, HP.out.1⟩, rfl⟩)
      have m0 : wr.cell? ⟨D.d, 0, none⟩ = some (.pointer (some ⟨D.F.f, 0, none⟩)) := cell_at (hk.get (g := D.d) (o := drO { D with ticks := tk }) (by simp)) 0
      have m2 : wr.cell? ⟨D.d, 2, none⟩ = some (.int .i64 tk) := cell_at (hk.get (g := D.d) (o := drO { D with ticks := tk }) (by simp)) 2
      have f2 : wr.frozen? ⟨D.d, 2, none⟩ = false := free_at (hk.get (g := D.d) (o := drO { D with ticks := tk }) (by simp)) 2
      have g1 : bits .and .u32 0 128 = 0 := by kernel_rfl
      have h1 : KW B W (drK { D with ticks := wrap64 (tk + 1) } ++ ([(j, jobO (k : Int) (.func (.func 196) #[] #[.pointer (some ⟨bf, 0, none⟩), .pointer (some ⟨ba, 0, none⟩), .pointer (some ⟨bv, 0, none⟩)])), (bf, boxO (.pointer (some ⟨D.F.f, 0, none⟩)) 80), (ba, boxO (.int .i64 (i : Int)) 3), (bv, boxO (.int .u32 v) 38)] ++ K)) (wr.setCell ⟨D.d, 2, none⟩ (.int .i64 (wrap64 (tk + 1)))) := KW.cell (i := 2) (vs := #[.pointer (some ⟨D.F.f, 0, none⟩), .int .i64 5, .int .i64 (wrap64 (tk + 1))]) hk rfl
      have HS := _root_.Go.Lib.hid (And.intro hs h1)
      clear hs h1 hk
      go_wp2_with fail
      refine HS.out.1.mono ?_
      rintro e w' ⟨rfl, rfl⟩
      go_upto_region 3 with fail
      have h1 := HS.out.2
      clear HS
      generalize wrap64 (tk + 1) = tk1 at h1 ⊢
      generalize World.setCell _ _ _ = w1 at h1 ⊢
      clear m0 m2 f2 g1
      have m0 : w1.cell? ⟨D.d, 0, none⟩ = some (.pointer (some ⟨D.F.f, 0, none⟩)) := cell_at (h1.get (g := D.d) (o := drO { D with ticks := tk1 }) (by simp)) 0
      by_cases h2 : k = 1
      · subst h2
        have hc := tickP_calls (KW.mv [(D.d, drO { D with ticks := tk1 })] (flK D.F D.C D.a ++ [(j, jobO 1 (.func (.func 196) #[] #[.pointer (some ⟨bf, 0, none⟩), .pointer (some ⟨ba, 0, none⟩), .pointer (some ⟨bv, 0, none⟩)])), (bf, boxO (.pointer (some ⟨D.F.f, 0, none⟩)) 80), (ba, boxO (.int .i64 (i : Int)) 3), (bv, boxO (.int .u32 v) 38)]) K h1) HP.out.1 HP.out.2.1 HP.out.2.2 hi
        have HC := _root_.Go.Lib.hid hc
        clear hc h1
        go_wp2_with fail
        refine HC.out.mono ?_
        rintro e w2 ⟨rfl, hk⟩
        have HK := _root_.Go.Lib.hid hk
        clear hk HC m0
        go_wp2_with fail
        go_roundg 0
        case measure => omega
        case rel => exact ⟨0, tk1, rfl, .inr ⟨rfl, KW.drx (D' := { D with ticks := tk1, F := { D.F with job := .pointer none }, C := D.C.prog i v }) HK.out⟩⟩
      · have hc := tick_wait j (k : Int) _ (KW.mv [(D.d, drO { D with ticks := tk1 })] (flK D.F D.C D.a ++ [(j, jobO (k : Int) (.func (.func 196) #[] #[.pointer (some ⟨bf, 0, none⟩), .pointer (some ⟨ba, 0, none⟩), .pointer (some ⟨bv, 0, none⟩)])), (bf, boxO (.pointer (some ⟨D.F.f, 0, none⟩)) 80), (ba, boxO (.int .i64 (i : Int)) 3), (bv, boxO (.int .u32 v) 38)]) K h1) HP.out.1 (by omega) (by omega)
        have HC := _root_.Go.Lib.hid hc
        clear hc h1
        go_wp2_with fail
        refine HC.out.mono ?_
        rintro e w2 ⟨rfl, hk⟩
        have HK := _root_.Go.Lib.hid hk
        clear hk HC m0
        go_wp2_with fail
        go_roundg (k - 1)
        case measure => omega
        case rel => exact ⟨k - 1, tk1, rfl, .inl ⟨by omega, by omega, by rw [show ((k - 1 : Nat) : Int) = (k : Int) - 1 by omega]; exact KW.mv (flK D.F D.C D.a ++ [(j, jobO ((k : Int) - 1) (.func (.func 196) #[] #[.pointer (some ⟨bf, 0, none⟩), .pointer (some ⟨ba, 0, none⟩), .pointer (some ⟨bv, 0, none⟩)])), (bf, boxO (.pointer (some ⟨D.F.f, 0, none⟩)) 80), (ba, boxO (.int .i64 (i : Int)) 3), (bv, boxO (.int .u32 v) 38)]) [(D.d, drO { D with ticks := tk1 })] K HK.out⟩⟩
    · have hs := status_calls hk.fl 128 (.inl ⟨rfl, rfl⟩)
      have he := errors_calls hk rfl
      have m0 : wr.cell? ⟨D.d, 0, none⟩ = some (.pointer (some ⟨D.F.f, 0, none⟩)) := cell_at (hk.get (g := D.d) (o := drO { D with ticks := tk, F := { D.F with job := .pointer none }, C := D.C.prog i v }) (by simp)) 0
      have g1 : bits .and .u32 128 128 = 128 := by kernel_rfl
      have HS := _root_.Go.Lib.hid (And.intro hs (And.intro he hk))
      clear hs he hk
      go_wp2_with fail
      refine HS.out.1.mono ?_
      rintro e w' ⟨rfl, rfl⟩
      go_wp2_with fail
      refine HS.out.2.1.mono ?_
      rintro e w' ⟨rfl, rfl⟩
      have HK := _root_.Go.Lib.hid HS.out.2.2
      clear HS
      go_wp2_with fail
      go_ret
      exact ⟨rfl, tk, HK.out⟩
set_option maxRecDepth 100000 in
theorem waitE_calls {j bf bb : Nat} {b : Nat} (h : KW B W (drK D ++ ([(j, jobO 20 (.func (.func 198) #[] #[.pointer (some ⟨bf, 0, none⟩), .pointer (some ⟨bb, 0, none⟩)])), (bf, boxO (.pointer (some ⟨D.F.f, 0, none⟩)) 80), (bb, boxO (.int .i64 (b : Int)) 3)] ++ K)) w) (hj : D.F.job = .pointer (some ⟨j, 0, none⟩)) (ho : D.C.Ok) (ha : 320 ≤ D.a.n) (hi : b < 5 ∧ 0 ≤ D.C.wear.getD b 0 ∧ D.C.wear.getD b 0 < D.C.endure ∧ D.C.endure < 1000000) :
    Calls Tryz.prog 92 #[.pointer (some ⟨D.d, 0, none⟩)] w fun e w' => e = .returned (.int .i64 0) ∧ ∃ tk, KW B W (drK { D with ticks := tk, F := { D.F with job := .pointer none }, C := D.C.erase b } ++ K) w' := by
  have H := _root_.Go.Lib.hid h
  have HP := _root_.Go.Lib.hid (And.intro hj (And.intro ho ha))
  clear h hj ho ha
  go_enter Tryz.func92, Tryz.ntmps92
  go_wp2_with fail
  go_loopg [3] 20 (fun k s3 wr => ∃ kk tk, kk = k ∧ ((0 < kk ∧ kk ≤ 20 ∧ KW B W (drK { D with ticks := tk } ++ ([(j, jobO (kk : Int) (.func (.func 198) #[] #[.pointer (some ⟨bf, 0, none⟩), .pointer (some ⟨bb, 0, none⟩)])), (bf, boxO (.pointer (some ⟨D.F.f, 0, none⟩)) 80), (bb, boxO (.int .i64 (b : Int)) 3)] ++ K)) wr) ∨ (kk = 0 ∧ KW B W (drK { D with ticks := tk, F := { D.F with job := .pointer none }, C := D.C.erase b } ++ K) wr)))
  case atStart => exact ⟨20, D.ticks, rfl, .inl ⟨by decide, by decide, H.out⟩⟩
  case round =>
    clear H
    obtain ⟨k, tk, rfl, ⟨hk0, hk1, hk⟩ | ⟨rfl, hk⟩⟩ := hrel
    · have hs := status_calls hk.fl 0 (.inr ⟨⟨j, HP.out.1⟩, rfl⟩)
      have m0 : wr.cell? ⟨D.d, 0, none⟩ = some (.pointer (some ⟨D.F.f, 0, none⟩)) := cell_at (hk.get (g := D.d) (o := drO { D with ticks := tk }) (by simp)) 0
      have m2 : wr.cell? ⟨D.d, 2, none⟩ = some (.int .i64 tk) := cell_at (hk.get (g := D.d) (o := drO { D with ticks := tk }) (by simp)) 2
      have f2 : wr.frozen? ⟨D.d, 2, none⟩ = false := free_at (hk.get (g := D.d) (o := drO { D with ticks := tk }) (by simp)) 2
      have g1 : bits .and .u32 0 128 = 0 := by kernel_rfl
      have h1 : KW B W (drK { D with ticks := wrap64 (tk + 1) } ++ ([(j, jobO (k : Int) (.func (.func 198) #[] #[.pointer (some ⟨bf, 0, none⟩), .pointer (some ⟨bb, 0, none⟩)])), (bf, boxO (.pointer (some ⟨D.F.f, 0, none⟩)) 80), (bb, boxO (.int .i64 (b : Int)) 3)] ++ K)) (wr.setCell ⟨D.d, 2, none⟩ (.int .i64 (wrap64 (tk + 1)))) := KW.cell (i := 2) (vs := #[.pointer (some ⟨D.F.f, 0, none⟩), .int .i64 5, .int .i64 (wrap64 (tk + 1))]) hk rfl
      have HS := _root_.Go.Lib.hid (And.intro hs h1)
      clear hs h1 hk
      go_wp2_with fail
      refine HS.out.1.mono ?_
      rintro e w' ⟨rfl, rfl⟩
      go_upto_region 3 with fail
      have h1 := HS.out.2
      clear HS
      generalize wrap64 (tk + 1) = tk1 at h1 ⊢
      generalize World.setCell _ _ _ = w1 at h1 ⊢
      clear m0 m2 f2 g1
      have m0 : w1.cell? ⟨D.d, 0, none⟩ = some (.pointer (some ⟨D.F.f, 0, none⟩)) := cell_at (h1.get (g := D.d) (o := drO { D with ticks := tk1 }) (by simp)) 0
      by_cases h2 : k = 1
      · subst h2
        have hc := tickE_calls (KW.mv [(D.d, drO { D with ticks := tk1 })] (flK D.F D.C D.a ++ [(j, jobO 1 (.func (.func 198) #[] #[.pointer (some ⟨bf, 0, none⟩), .pointer (some ⟨bb, 0, none⟩)])), (bf, boxO (.pointer (some ⟨D.F.f, 0, none⟩)) 80), (bb, boxO (.int .i64 (b : Int)) 3)]) K h1) HP.out.1 HP.out.2.1 HP.out.2.2 hi.1 hi.2.1 hi.2.2.1 hi.2.2.2
        have HC := _root_.Go.Lib.hid hc
        clear hc h1
        go_wp2_with fail
        refine HC.out.mono ?_
        rintro e w2 ⟨rfl, hk⟩
        have HK := _root_.Go.Lib.hid hk
        clear hk HC m0
        go_wp2_with fail
        go_roundg 0
        case measure => omega
        case rel => exact ⟨0, tk1, rfl, .inr ⟨rfl, KW.drx (D' := { D with ticks := tk1, F := { D.F with job := .pointer none }, C := D.C.erase b }) HK.out⟩⟩
      · have hc := tick_wait j (k : Int) _ (KW.mv [(D.d, drO { D with ticks := tk1 })] (flK D.F D.C D.a ++ [(j, jobO (k : Int) (.func (.func 198) #[] #[.pointer (some ⟨bf, 0, none⟩), .pointer (some ⟨bb, 0, none⟩)])), (bf, boxO (.pointer (some ⟨D.F.f, 0, none⟩)) 80), (bb, boxO (.int .i64 (b : Int)) 3)]) K h1) HP.out.1 (by omega) (by omega)
        have HC := _root_.Go.Lib.hid hc
        clear hc h1
        go_wp2_with fail
        refine HC.out.mono ?_
        rintro e w2 ⟨rfl, hk⟩
        have HK := _root_.Go.Lib.hid hk
        clear hk HC m0
        go_wp2_with fail
        go_roundg (k - 1)
        case measure => omega
        case rel => exact ⟨k - 1, tk1, rfl, .inl ⟨by omega, by omega, by rw [show ((k - 1 : Nat) : Int) = (k : Int) - 1 by omega]; exact KW.mv (flK D.F D.C D.a ++ [(j, jobO ((k : Int) - 1) (.func (.func 198) #[] #[.pointer (some ⟨bf, 0, none⟩), .pointer (some ⟨bb, 0, none⟩)])), (bf, boxO (.pointer (some ⟨D.F.f, 0, none⟩)) 80), (bb, boxO (.int .i64 (b : Int)) 3)]) [(D.d, drO { D with ticks := tk1 })] K HK.out⟩⟩
    · have hs := status_calls hk.fl 128 (.inl ⟨rfl, rfl⟩)
      have he := errors_calls hk rfl
      have m0 : wr.cell? ⟨D.d, 0, none⟩ = some (.pointer (some ⟨D.F.f, 0, none⟩)) := cell_at (hk.get (g := D.d) (o := drO { D with ticks := tk, F := { D.F with job := .pointer none }, C := D.C.erase b }) (by simp)) 0
      have g1 : bits .and .u32 128 128 = 128 := by kernel_rfl
      have HS := _root_.Go.Lib.hid (And.intro hs (And.intro he hk))
      clear hs he hk
      go_wp2_with fail
      refine HS.out.1.mono ?_
      rintro e w' ⟨rfl, rfl⟩
      go_wp2_with fail
      refine HS.out.2.1.mono ?_
      rintro e w' ⟨rfl, rfl⟩
      have HK := _root_.Go.Lib.hid HS.out.2.2
      clear HS
      go_wp2_with fail
      go_ret
      exact ⟨rfl, tk, HK.out⟩
end
end Go.Proofs.YtlcbilknfjdceaaGreatDoor
end
