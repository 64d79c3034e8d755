/-
  WholeFlash, part 9 of 44: Drvp, Drvq, Drvr.
-/
import Derived.LoopN
import Derived.Deep.LoopGhost
import Derived.Laws.MakeOwn
import Derived.Test.YtlcbilknfjdceaaGreatDoorM07
import Derived.Test.YtlcbilknfjdceaaGreatDoorM08
section
/-
  The driver: a word programmed, a block erased.
-/
set_option linter.unusedVariables false
set_option linter.unusedSimpArgs false
namespace Go.Proofs.YtlcbilknfjdceaaGreatDoor
open Go.RowKit Go.Lib
section
variable {B : Nat} {W w : World} {K : Blocks} {D : Dv}
attribute [local irreducible] chg
theorem Dv.Rest.job1 (h : D.Rest) {tk m : Int} {C' : Ch} (hc : C'.Ok) : (Dv.mk D.d tk { D.F with mode := m, wait := .nilFunc, job := .pointer none } C' D.a).Rest := ⟨rfl, rfl, hc, h.room⟩
set_option maxRecDepth 100000 in
theorem do91_calls {x3 x4 x7 x8 p q : Nat} {v : Int} (h : KW B W (drK D ++ ([(x3, boxO (.pointer (some ⟨D.d, 0, none⟩)) 25), (x4, boxO (.int .i64 (p : Int)) 3), (x7, boxO (.int .i64 (q : Int)) 3), (x8, boxO (.int .u32 v) 38)] ++ K)) w) (hr : D.Rest) (hi : p + q < 320) : Calls Tryz.prog 91 #[.pointer (some ⟨x3, 0, none⟩), .pointer (some ⟨x4, 0, none⟩), .pointer (some ⟨x7, 0, none⟩), .pointer (some ⟨x8, 0, none⟩)] w fun e w' => e = .returned (.int .i64 0) ∧ ∃ j bf ba bv, KW B W (drK { D with F := { D.F with mode := 1, wait := .nilFunc, job := .pointer (some ⟨j, 0, none⟩) } } ++ ([(j, jobO 3 (.func (.func 196) #[] #[.pointer (some ⟨bf, 0, none⟩), .pointer (some ⟨ba, 0, none⟩), .pointer (some ⟨bv, 0, none⟩)])), (bf, boxO (.pointer (some ⟨D.F.f, 0, none⟩)) 80), (ba, boxO (.int .i64 ((p + q : Nat) : Int)) 3), (bv, boxO (.int .u32 v) 38)] ++ ([(x3, boxO (.pointer (some ⟨D.d, 0, none⟩)) 25), (x4, boxO (.int .i64 (p : Int)) 3), (x7, boxO (.int .i64 (q : Int)) 3), (x8, boxO (.int .u32 v) 38)] ++ K))) w' := by
  have m3 : w.cell? ⟨x3, 0, none⟩ = some (.pointer (some ⟨D.d, 0, none⟩)) := cell_at (h.get (g := x3) (o := boxO (.pointer (some ⟨D.d, 0, none⟩)) 25) (by simp)) 0
  have m4 : w.cell? ⟨x4, 0, none⟩ = some (.int .i64 (p : Int)) := cell_at (h.get (g := x4) (o := boxO (.int .i64 (p : Int)) 3) (by simp)) 0
  have m7 : w.cell? ⟨x7, 0, none⟩ = some (.int .i64 (q : Int)) := cell_at (h.get (g := x7) (o := boxO (.int .i64 (q : Int)) 3) (by simp)) 0
  have m8 : w.cell? ⟨x8, 0, none⟩ = some (.int .u32 v) := cell_at (h.get (g := x8) (o := boxO (.int .u32 v) 38) (by simp)) 0
  have h2 := KW.mv [(w.heap.size, .cells #[.int .u32 64, .int .u32 v] 38)] (drK D) _ (h.push (.cells #[.int .u32 64, .int .u32 v] 38))
  have hc := wr64_calls h2 hr (p + q) hi
  rw [show ((p + q : Nat) : Int) = (p : Int) + (q : Int) by omega] at hc ⊢
  have HC := _root_.Go.Lib.hid hc
  have e1 : wrap64 ((p : Int) + (q : Int)) = (p : Int) + (q : Int) := by unfold wrap64; omega
  clear h h2 hr hi hc
  go_enter Tryz.func91, Tryz.ntmps91
  go_wp2_with fail
  refine HC.out.mono ?_
  clear HC
  rintro e w1 ⟨rfl, hk⟩
  have HK := _root_.Go.Lib.hid hk
  clear hk m3 m4 m7 m8
  go_wp2_with fail
  go_ret
  exact ⟨rfl, HK.out⟩
set_option maxRecDepth 100000 in
theorem do93_calls {x3 x4 b : Nat} (h : KW B W (drK D ++ ([(x3, boxO (.pointer (some ⟨D.d, 0, none⟩)) 25), (x4, boxO (.int .i64 (b : Int)) 3)] ++ K)) w) (hr : D.Rest) (hi : b < 5) : Calls Tryz.prog 93 #[.pointer (some ⟨x3, 0, none⟩), .pointer (some ⟨x4, 0, none⟩)] w fun e w' => e = .returned (.int .i64 0) ∧ ∃ j bf bb, KW B W (drK { D with F := { D.F with mode := 1, wait := .nilFunc, job := .pointer (some ⟨j, 0, none⟩) } } ++ ([(j, jobO 20 (.func (.func 198) #[] #[.pointer (some ⟨bf, 0, none⟩), .pointer (some ⟨bb, 0, none⟩)])), (bf, boxO (.pointer (some ⟨D.F.f, 0, none⟩)) 80), (bb, boxO (.int .i64 (b : Int)) 3)] ++ ([(x3, boxO (.pointer (some ⟨D.d, 0, none⟩)) 25), (x4, boxO (.int .i64 (b : Int)) 3)] ++ K))) w' := by
  have m3 : w.cell? ⟨x3, 0, none⟩ = some (.pointer (some ⟨D.d, 0, none⟩)) := cell_at (h.get (g := x3) (o := boxO (.pointer (some ⟨D.d, 0, none⟩)) 25) (by simp)) 0
  have m4 : w.cell? ⟨x4, 0, none⟩ = some (.int .i64 (b : Int)) := cell_at (h.get (g := x4) (o := boxO (.int .i64 (b : Int)) 3) (by simp)) 0
  have h2 := KW.mv [(w.heap.size, .cells #[.int .u32 32, .int .u32 208] 38)] (drK D) _ (h.push (.cells #[.int .u32 32, .int .u32 208] 38))
  have hc := wr32_calls h2 hr b hi
  have HC := _root_.Go.Lib.hid hc
  have e1 : wrap64 ((b : Int) * 64) = (b : Int) * 64 := by unfold wrap64; omega
  clear h h2 hr hi hc
  go_enter Tryz.func93, Tryz.ntmps93
  go_wp2_with fail
  refine HC.out.mono ?_
  clear HC
  rintro e w1 ⟨rfl, hk⟩
  have HK := _root_.Go.Lib.hid hk
  clear hk m3 m4
  go_wp2_with fail
  go_ret
  exact ⟨rfl, HK.out⟩
set_option maxRecDepth 100000 in
theorem allP_calls {g x3 x4 x7 x8 p q : Nat} {v : Int} (h : KW B W (drK D ++ ([(g, .cells #[.func (.func 91) #[] #[.pointer (some ⟨x3, 0, none⟩), .pointer (some ⟨x4, 0, none⟩), .pointer (some ⟨x7, 0, none⟩), .pointer (some ⟨x8, 0, none⟩)], .func (.func 92) #[.pointer (some ⟨D.d, 0, none⟩)] #[]] 83)] ++ ([(x3, boxO (.pointer (some ⟨D.d, 0, none⟩)) 25), (x4, boxO (.int .i64 (p : Int)) 3), (x7, boxO (.int .i64 (q : Int)) 3), (x8, boxO (.int .u32 v) 38)] ++ K))) w) (hr : D.Rest) (hi : p + q < 320) : Calls Tryz.prog 90 #[.slice (some ⟨g, 0, none⟩) 2 2] w fun e w' => e = .returned (.int .i64 0) ∧ ∃ D' : Dv, D'.Rest ∧ D'.d = D.d ∧ D'.a = D.a ∧ D'.C = D.C.prog (p + q) v ∧ KW B W (drK D' ++ ([(x3, boxO (.pointer (some ⟨D.d, 0, none⟩)) 25), (x4, boxO (.int .i64 (p : Int)) 3), (x7, boxO (.int .i64 (q : Int)) 3), (x8, boxO (.int .u32 v) 38)] ++ K)) w' := by
  have m0 : w.cell? ⟨g, 0, none⟩ = some (.func (.func 91) #[] #[.pointer (some ⟨x3, 0, none⟩), .pointer (some ⟨x4, 0, none⟩), .pointer (some ⟨x7, 0, none⟩), .pointer (some ⟨x8, 0, none⟩)]) := cell_at (h.get (g := g) (o := .cells #[.func (.func 91) #[] #[.pointer (some ⟨x3, 0, none⟩), .pointer (some ⟨x4, 0, none⟩), .pointer (some ⟨x7, 0, none⟩), .pointer (some ⟨x8, 0, none⟩)], .func (.func 92) #[.pointer (some ⟨D.d, 0, none⟩)] #[]] 83) (by simp)) 0
  have hc := do91_calls (K := [(g, .cells #[.func (.func 91) #[] #[.pointer (some ⟨x3, 0, none⟩), .pointer (some ⟨x4, 0, none⟩), .pointer (some ⟨x7, 0, none⟩), .pointer (some ⟨x8, 0, none⟩)], .func (.func 92) #[.pointer (some ⟨D.d, 0, none⟩)] #[]] 83)] ++ K) (by have := KW.mv (drK D ++ [(g, .cells #[.func (.func 91) #[] #[.pointer (some ⟨x3, 0, none⟩), .pointer (some ⟨x4, 0, none⟩), .pointer (some ⟨x7, 0, none⟩), .pointer (some ⟨x8, 0, none⟩)], .func (.func 92) #[.pointer (some ⟨D.d, 0, none⟩)] #[]] 83)]) [(x3, boxO (.pointer (some ⟨D.d, 0, none⟩)) 25), (x4, boxO (.int .i64 (p : Int)) 3), (x7, boxO (.int .i64 (q : Int)) 3), (x8, boxO (.int .u32 v) 38)] K h; exact KW.mv [(x3, boxO (.pointer (some ⟨D.d, 0, none⟩)) 25), (x4, boxO (.int .i64 (p : Int)) 3), (x7, boxO (.int .i64 (q : Int)) 3), (x8, boxO (.int .u32 v) 38)] (drK D) _ (this)) hr hi
  have HC := _root_.Go.Lib.hid hc
  have HR := _root_.Go.Lib.hid (And.intro hr hi)
  clear h hr hi hc
  go_enter Tryz.func90, Tryz.ntmps90
  go_wp2_with fail
  refine wp_loop_rounds 3 ?_
  rw [rounds_succ]
  go_wp2_with fail
  refine HC.out.mono ?_
  clear HC m0
  rintro e w1 ⟨rfl, j, bf, ba, bv, hk⟩
  have m1 : w1.cell? ⟨g, 1, none⟩ = some (.func (.func 92) #[.pointer (some ⟨D.d, 0, none⟩)] #[]) := cell_at (hk.get (g := g) (o := .cells #[.func (.func 91) #[] #[.pointer (some ⟨x3, 0, none⟩), .pointer (some ⟨x4, 0, none⟩), .pointer (some ⟨x7, 0, none⟩), .pointer (some ⟨x8, 0, none⟩)], .func (.func 92) #[.pointer (some ⟨D.d, 0, none⟩)] #[]] 83) (by simp)) 1
  have hc := waitP_calls (D := { D with F := { D.F with mode := 1, wait := .nilFunc, job := .pointer (some ⟨j, 0, none⟩) } }) hk rfl HR.out.1.ok HR.out.1.room HR.out.2
  have HC := _root_.Go.Lib.hid hc
  clear hk hc
  go_wp2_with fail
  rw [rounds_succ]
  go_wp2_with fail
  refine HC.out.mono ?_
  clear HC m1
  rintro e w2 ⟨rfl, tk, hk⟩
  have HK := _root_.Go.Lib.hid hk
  clear hk
  go_wp2_with fail
  rw [rounds_succ]
  go_wp2_with fail
  go_ret
  refine ⟨rfl, ⟨D.d, tk, { D.F with mode := 1, wait := .nilFunc, job := .pointer none }, D.C.prog (p + q) v, D.a⟩, HR.out.1.job1 (HR.out.1.ok.prog _ _), rfl, rfl, rfl, KW.cut (drK ⟨D.d, tk, { D.F with mode := 1, wait := .nilFunc, job := .pointer none }, D.C.prog (p + q) v, D.a⟩ ++ [(x3, boxO (.pointer (some ⟨D.d, 0, none⟩)) 25), (x4, boxO (.int .i64 (p : Int)) 3), (x7, boxO (.int .i64 (q : Int)) 3), (x8, boxO (.int .u32 v) 38)]) [(g, .cells #[.func (.func 91) #[] #[.pointer (some ⟨x3, 0, none⟩), .pointer (some ⟨x4, 0, none⟩), .pointer (some ⟨x7, 0, none⟩), .pointer (some ⟨x8, 0, none⟩)], .func (.func 92) #[.pointer (some ⟨D.d, 0, none⟩)] #[]] 83)] K HK.out⟩
set_option maxRecDepth 100000 in
theorem allE_calls {g x3 x4 b : Nat} (h : KW B W (drK D ++ ([(g, .cells #[.func (.func 93) #[] #[.pointer (some ⟨x3, 0, none⟩), .pointer (some ⟨x4, 0, none⟩)], .func (.func 92) #[.pointer (some ⟨D.d, 0, none⟩)] #[]] 83)] ++ ([(x3, boxO (.pointer (some ⟨D.d, 0, none⟩)) 25), (x4, boxO (.int .i64 (b : Int)) 3)] ++ K))) w) (hr : D.Rest) (hi : b < 5 ∧ 0 ≤ D.C.wear.getD b 0 ∧ D.C.wear.getD b 0 < D.C.endure ∧ D.C.endure < 1000000) : Calls Tryz.prog 90 #[.slice (some ⟨g, 0, none⟩) 2 2] w fun e w' => e = .returned (.int .i64 0) ∧ ∃ D' : Dv, D'.Rest ∧ D'.d = D.d ∧ D'.a = D.a ∧ D'.C = D.C.erase b ∧ KW B W (drK D' ++ ([(x3, boxO (.pointer (some ⟨D.d, 0, none⟩)) 25), (x4, boxO (.int .i64 (b : Int)) 3)] ++ K)) w' := by
  have m0 : w.cell? ⟨g, 0, none⟩ = some (.func (.func 93) #[] #[.pointer (some ⟨x3, 0, none⟩), .pointer (some ⟨x4, 0, none⟩)]) := cell_at (h.get (g := g) (o := .cells #[.func (.func 93) #[] #[.pointer (some ⟨x3, 0, none⟩), .pointer (some ⟨x4, 0, none⟩)], .func (.func 92) #[.pointer (some ⟨D.d, 0, none⟩)] #[]] 83) (by simp)) 0
  have hc := do93_calls (K := [(g, .cells #[.func (.func 93) #[] #[.pointer (some ⟨x3, 0, none⟩), .pointer (some ⟨x4, 0, none⟩)], .func (.func 92) #[.pointer (some ⟨D.d, 0, none⟩)] #[]] 83)] ++ K) (by have := KW.mv (drK D ++ [(g, .cells #[.func (.func 93) #[] #[.pointer (some ⟨x3, 0, none⟩), .pointer (some ⟨x4, 0, none⟩)], .func (.func 92) #[.pointer (some ⟨D.d, 0, none⟩)] #[]] 83)]) [(x3, boxO (.pointer (some ⟨D.d, 0, none⟩)) 25), (x4, boxO (.int .i64 (b : Int)) 3)] K h; exact KW.mv [(x3, boxO (.pointer (some ⟨D.d, 0, none⟩)) 25), (x4, boxO (.int .i64 (b : Int)) 3)] (drK D) _ (this)) hr hi.1
  have HC := _root_.Go.Lib.hid hc
  have HR := _root_.Go.Lib.hid (And.intro hr hi)
  clear h hr hi hc
  go_enter Tryz.func90, Tryz.ntmps90
  go_wp2_with fail
  refine wp_loop_rounds 3 ?_
  rw [rounds_succ]
  go_wp2_with fail
  refine HC.out.mono ?_
  clear HC m0
  rintro e w1 ⟨rfl, j, bf, bb, hk⟩
  have m1 : w1.cell? ⟨g, 1, none⟩ = some (.func (.func 92) #[.pointer (some ⟨D.d, 0, none⟩)] #[]) := cell_at (hk.get (g := g) (o := .cells #[.func (.func 93) #[] #[.pointer (some ⟨x3, 0, none⟩), .pointer (some ⟨x4, 0, none⟩)], .func (.func 92) #[.pointer (some ⟨D.d, 0, none⟩)] #[]] 83) (by simp)) 1
  have hc := waitE_calls (D := { D with F := { D.F with mode := 1, wait := .nilFunc, job := .pointer (some ⟨j, 0, none⟩) } }) hk rfl HR.out.1.ok HR.out.1.room HR.out.2
  have HC := _root_.Go.Lib.hid hc
  clear hk hc
  go_wp2_with fail
  rw [rounds_succ]
  go_wp2_with fail
  refine HC.out.mono ?_
  clear HC m1
  rintro e w2 ⟨rfl, tk, hk⟩
  have HK := _root_.Go.Lib.hid hk
  clear hk
  go_wp2_with fail
  rw [rounds_succ]
  go_wp2_with fail
  go_ret
  refine ⟨rfl, ⟨D.d, tk, { D.F with mode := 1, wait := .nilFunc, job := .pointer none }, D.C.erase b, D.a⟩, HR.out.1.job1 (HR.out.1.ok.erase _), rfl, rfl, rfl, KW.cut (drK ⟨D.d, tk, { D.F with mode := 1, wait := .nilFunc, job := .pointer none }, D.C.erase b, D.a⟩ ++ [(x3, boxO (.pointer (some ⟨D.d, 0, none⟩)) 25), (x4, boxO (.int .i64 (b : Int)) 3)]) [(g, .cells #[.func (.func 93) #[] #[.pointer (some ⟨x3, 0, none⟩), .pointer (some ⟨x4, 0, none⟩)], .func (.func 92) #[.pointer (some ⟨D.d, 0, none⟩)] #[]] 83)] K HK.out⟩
end
end Go.Proofs.YtlcbilknfjdceaaGreatDoor
end
section
/-
  The driver: Program, Erase, Read.
-/
set_option linter.unusedVariables false
set_option linter.unusedSimpArgs false
namespace Go.Proofs.YtlcbilknfjdceaaGreatDoor
open Go.RowKit Go.Lib
section
variable {B : Nat} {W w : World} {K : Blocks} {D : Dv}
attribute [local irreducible] chg
theorem KW.push2 (h : KW B W K w) (o o' : Obj) : KW B W ((w.heap.size + 1, o') :: (w.heap.size, o) :: K) ((w.alloc o).alloc o') := by have := (h.push o).push o'; rwa [World.size_alloc] at this
theorem KW.push3 (h : KW B W K w) (o o' o'' : Obj) : KW B W ((w.heap.size + 1 + 1, o'') :: (w.heap.size + 1, o') :: (w.heap.size, o) :: K) (((w.alloc o).alloc o').alloc o'') := by have := (h.push2 o o').push o''; rwa [World.size_alloc, World.size_alloc] at this
theorem prog_perm (A R : Blocks) (s a b c d : Nat × Obj) : (s :: ((A ++ [a, b]) ++ ([c, d] ++ R))).Perm (A ++ ([s] ++ ([b, a, d, c] ++ R))) := by
  rw [List.append_assoc]
  refine List.perm_middle.symm.trans (List.Perm.append_left A (List.Perm.cons s ?_))
  exact (List.Perm.swap b a _).trans (((List.Perm.swap d c R).cons a).cons b)
theorem progs_snoc (l : List Int) (v : Int) : ∀ (ws : List Int) (i : Nat), progs ws i (l ++ [v]) = (progs ws i l).set (i + l.length) (bits .and .u32 ((progs ws i l).getD (i + l.length) 0) v) := by
  induction l with
  | nil => intro ws i; rfl
  | cons x l ih =>
    intro ws i
    rw [List.cons_append, progs, progs, ih, List.length_cons, show i + 1 + l.length = i + (l.length + 1) by omega]
set_option maxRecDepth 100000 in
theorem dprog_calls {g p n cap : Nat} {L : List Int} {sp : Array Value} (h : KW B W (drK D ++ ([(g, .cells (ints .u32 L ++ sp) 38)] ++ K)) w) (hr : D.Rest) (hL : L.length = n) (hi : p + n ≤ 320) (hn : 0 < n) :
    Calls Tryz.prog 56 #[.pointer (some ⟨D.d, 0, none⟩), .int .i64 (p : Int), .slice (some ⟨g, 0, none⟩) n cap] w fun e w' => e = .returned (.int .i64 0) ∧ ∃ D' : Dv, D'.Rest ∧ D'.d = D.d ∧ D'.a = D.a ∧ D'.C = { D.C with ws := progs D.C.ws p L } ∧ KW B W (drK D' ++ ([(g, .cells (ints .u32 L ++ sp) 38)] ++ K)) w' := by
  have h2 := KW.mv [(w.heap.size + 1, boxO (.int .i64 (p : Int)) 3), (w.heap.size, boxO (.pointer (some ⟨D.d, 0, none⟩)) 25)] (drK D) _ (h.push2 (boxO (.pointer (some ⟨D.d, 0, none⟩)) 25) (boxO (.int .i64 (p : Int)) 3))
  have H := _root_.Go.Lib.hid h2
  have HP := _root_.Go.Lib.hid (And.intro hr (And.intro hL hi))
  clear h h2 hr hL
  go_enter Tryz.func56, Tryz.ntmps56
  go_upto_region 1 with fail
  have h2 := H.out
  clear H
  generalize World.alloc (World.alloc w _) _ = w1 at h2 ⊢
  generalize w.heap.size = x3 at h2 ⊢
  have m3 : w1.cell? ⟨x3, 0, none⟩ = some (.pointer (some ⟨D.d, 0, none⟩)) := cell_at (h2.get (g := x3) (o := boxO (.pointer (some ⟨D.d, 0, none⟩)) 25) (by simp)) 0
  have H := _root_.Go.Lib.hid h2
  clear h2
  go_wp2_with (go_at_call 65; refine (dgood_calls H.out).mono ?_; rintro e w' ⟨rfl, rfl⟩)
  go_loopg [15] n (fun k s15 wr => ∃ q : Nat, q + k = n ∧ s15 = .int .i64 (q : Int) ∧ ∃ D' : Dv, D'.Rest ∧ D'.d = D.d ∧ D'.a = D.a ∧ D'.C = { D.C with ws := progs D.C.ws p (L.take q) } ∧ KW B W (drK D' ++ ([(x3 + 1, boxO (.int .i64 (p : Int)) 3), (x3, boxO (.pointer (some ⟨D.d, 0, none⟩)) 25)] ++ ([(g, .cells (ints .u32 L ++ sp) 38)] ++ K))) wr)
  case atStart => exact ⟨0, by omega, rfl, D, HP.out.1, rfl, rfl, rfl, H.out⟩
  case round =>
    clear H m3
    obtain ⟨q, hq, rfl, D', hr, hd, ha, hC, hk⟩ := hrel
    by_cases hqn : q < n
    · obtain ⟨v, hv⟩ : ∃ v, v = L.getD q 0 := ⟨_, rfl⟩
      have xq : wr.cell? ⟨g, q, none⟩ = some (.int .u32 v) := by
        rw [cell_at (hk.get (g := g) (o := .cells (ints .u32 L ++ sp) 38) (by simp)) q, hv]
        exact ints_at' (by rw [HP.out.2.1]; exact hqn)
      have h1 := hk.push2 (boxO (.int .i64 (q : Int)) 3) (boxO (.int .u32 v) 38)
      have HK := _root_.Go.Lib.hid (And.intro hr (And.intro hd (And.intro ha (And.intro hC (And.intro h1 (And.intro hq hv))))))
      clear hr hd ha hC hk hq h1 hv
      go_upto_region 6 with fail
      obtain ⟨hr, hd, ha, hC, h1, hq, hv⟩ := HK.out
      clear HK xq
      generalize World.alloc (World.alloc wr _) _ = w2 at h1 ⊢
      generalize wr.heap.size = x7 at h1 ⊢
      have h2 := KW.mv [(x7 + 1, boxO (.int .u32 v) 38), (x7, boxO (.int .i64 (q : Int)) 3)] (drK D' ++ [(x3 + 1, boxO (.int .i64 (p : Int)) 3), (x3, boxO (.pointer (some ⟨D.d, 0, none⟩)) 25)]) _ h1
      have m3 : w2.cell? ⟨x3, 0, none⟩ = some (.pointer (some ⟨D.d, 0, none⟩)) := cell_at (h2.get (g := x3) (o := boxO (.pointer (some ⟨D.d, 0, none⟩)) 25) (by simp)) 0
      rw [← hd] at h2
      have h4 : KW B W (drK D' ++ ([(w2.heap.size, .cells #[.func (.func 91) #[] #[.pointer (some ⟨x3, 0, none⟩), .pointer (some ⟨x3 + 1, 0, none⟩), .pointer (some ⟨x7, 0, none⟩), .pointer (some ⟨x7 + 1, 0, none⟩)], .func (.func 92) #[.pointer (some ⟨D'.d, 0, none⟩)] #[]] 83)] ++ ([(x3, boxO (.pointer (some ⟨D'.d, 0, none⟩)) 25), (x3 + 1, boxO (.int .i64 (p : Int)) 3), (x7, boxO (.int .i64 (q : Int)) 3), (x7 + 1, boxO (.int .u32 v) 38)] ++ ([(g, .cells (ints .u32 L ++ sp) 38)] ++ K)))) _ := (h2.push _).perm (prog_perm (drK D') ([(g, .cells (ints .u32 L ++ sp) 38)] ++ K) _ _ _ _ _)
      have hc := allP_calls h4 hr (by omega)
      rw [hd] at hc
      have HC := _root_.Go.Lib.hid (And.intro hc (And.intro hd (And.intro ha (And.intro hC (And.intro hq (And.intro hv hr))))))
      clear hc h1 h2 h4 hd ha hC hq hr hv
      go_wp2_with fail
      refine HC.out.1.mono ?_
      rintro e w3 ⟨rfl, D2, hr2, hd2, ha2, hC2, hk2⟩
      have HK := _root_.Go.Lib.hid (And.intro hr2 (And.intro hd2 (And.intro ha2 (And.intro hC2 hk2))))
      clear hr2 hd2 ha2 hC2 hk2 m3
      go_wp2_with fail
      obtain ⟨_, hd, ha, hC, hq, hv, hr⟩ := HC.out
      obtain ⟨hr2, hd2, ha2, hC2, hk2⟩ := HK.out
      go_roundg (n - (q + 1))
      case measure => omega
      case rel =>
        refine ⟨q + 1, by omega, by first | rfl | go_num, D2, hr2, hd2, ha2.trans ha, ?_, ?_⟩
        · have e1 : L.take (q + 1) = L.take q ++ [v] := by rw [hv, List.take_succ_eq_append_getElem (by rw [HP.out.2.1]; exact hqn), List.getD_eq_getElem?_getD, List.getElem?_eq_getElem (by rw [HP.out.2.1]; exact hqn)]; rfl
          rw [hC2, hC, e1, progs_snoc, List.length_take, Nat.min_eq_left (by rw [HP.out.2.1]; omega)]
        · have k1 := KW.cut (drK D2 ++ [(x3, boxO (.pointer (some ⟨D.d, 0, none⟩)) 25), (x3 + 1, boxO (.int .i64 (p : Int)) 3)]) [(x7, boxO (.int .i64 (q : Int)) 3), (x7 + 1, boxO (.int .u32 v) 38)] _ hk2
          exact k1.perm (by
            rw [List.append_assoc]
            exact List.Perm.append_left _ (List.Perm.swap _ _ _))
    · have e : q = n := by omega
      subst e
      have hk2 := KW.cut (drK D') [(x3 + 1, boxO (.int .i64 (p : Int)) 3), (x3, boxO (.pointer (some ⟨D.d, 0, none⟩)) 25)] _ hk
      rw [List.take_of_length_le (by rw [HP.out.2.1]; exact Nat.le_refl _)] at hC
      have HK := _root_.Go.Lib.hid (And.intro hr (And.intro hd (And.intro ha (And.intro hC hk2))))
      clear hr hd ha hC hk hk2 hq
      go_wp2_with fail
      go_ret
      obtain ⟨hr, hd, ha, hC, hk⟩ := HK.out
      exact ⟨rfl, D', hr, hd, ha, hC, hk⟩
end
end Go.Proofs.YtlcbilknfjdceaaGreatDoor
end
section
/-
  The driver: Erase, Read.
-/
set_option linter.unusedVariables false
set_option linter.unusedSimpArgs false
namespace Go.Proofs.YtlcbilknfjdceaaGreatDoor
open Go.RowKit Go.Lib
section
variable {B : Nat} {W w : World} {K : Blocks} {D : Dv}
attribute [local irreducible] chg
set_option maxRecDepth 100000 in
theorem derase_calls {b : Nat} (h : KW B W (drK D ++ K) w) (hr : D.Rest) (hi : b < 5 ∧ 0 ≤ D.C.wear.getD b 0 ∧ D.C.wear.getD b 0 < D.C.endure ∧ D.C.endure < 1000000) : Calls Tryz.prog 57 #[.pointer (some ⟨D.d, 0, none⟩), .int .i64 (b : Int)] w fun e w' => e = .returned (.int .i64 0) ∧ ∃ D' : Dv, D'.Rest ∧ D'.d = D.d ∧ D'.a = D.a ∧ D'.C = D.C.erase b ∧ KW B W (drK D' ++ K) w' := by
  have h2 := (h.push2 (boxO (.pointer (some ⟨D.d, 0, none⟩)) 25) (boxO (.int .i64 (b : Int)) 3)).push (.cells #[.func (.func 93) #[] #[.pointer (some ⟨w.heap.size, 0, none⟩), .pointer (some ⟨w.heap.size + 1, 0, none⟩)], .func (.func 92) #[.pointer (some ⟨D.d, 0, none⟩)] #[]] 83)
  rw [World.size_alloc, World.size_alloc] at h2
  have h3 : KW B W (drK D ++ ([(w.heap.size + 1 + 1, .cells #[.func (.func 93) #[] #[.pointer (some ⟨w.heap.size, 0, none⟩), .pointer (some ⟨w.heap.size + 1, 0, none⟩)], .func (.func 92) #[.pointer (some ⟨D.d, 0, none⟩)] #[]] 83)] ++ ([(w.heap.size, boxO (.pointer (some ⟨D.d, 0, none⟩)) 25), (w.heap.size + 1, boxO (.int .i64 (b : Int)) 3)] ++ K))) _ := h2.perm (by
    have e := List.perm_append_comm_assoc [(w.heap.size + 1 + 1, Obj.cells #[.func (.func 93) #[] #[.pointer (some ⟨w.heap.size, 0, none⟩), .pointer (some ⟨w.heap.size + 1, 0, none⟩)], .func (.func 92) #[.pointer (some ⟨D.d, 0, none⟩)] #[]] 83), (w.heap.size + 1, boxO (.int .i64 (b : Int)) 3), (w.heap.size, boxO (.pointer (some ⟨D.d, 0, none⟩)) 25)] (drK D) K
    exact e.trans (List.Perm.append_left (drK D) (List.Perm.cons _ (List.Perm.swap _ _ K))))
  have hc := allE_calls h3 hr hi
  have HC := _root_.Go.Lib.hid hc
  clear h h2 h3 hr hi hc
  go_enter Tryz.func57, Tryz.ntmps57
  go_wp2_with fail
  refine HC.out.mono ?_
  clear HC
  rintro e w1 ⟨rfl, D', hr, hd, ha, hC, hk⟩
  have hk2 := KW.cut (drK D') [(w.heap.size, boxO (.pointer (some ⟨D.d, 0, none⟩)) 25), (w.heap.size + 1, boxO (.int .i64 (b : Int)) 3)] K hk
  have HK := _root_.Go.Lib.hid (And.intro hr (And.intro hd (And.intro ha (And.intro hC hk2))))
  clear hr hd ha hC hk hk2
  go_wp2_with fail
  go_ret
  obtain ⟨hr, hd, ha, hC, hk⟩ := HK.out
  exact ⟨rfl, D', hr, hd, ha, hC, hk⟩
theorem make34 (n : Nat) (hn : n ≤ 100000) (w : World) : (Instr.makeSlice 34 (.int .i64 (n : Int)) (.int .i64 (n : Int))).run Tryz.prog w = .ok (.slice (some ⟨w.heap.size, 0, none⟩) n n) (w.alloc (.cells (ints .u32 (List.replicate n 0)) 38)) := by
  obtain ⟨i0, hi, hz0, hz1, hz2⟩ := info_parts info38
  have e := run_make (P := Tryz.prog) w 34 38 i0 (.int .u32 0) Tryz.underlying34 hi hz0 .i64 .i64 (n : Int) (n : Int) (by omega) (by omega) (by rw [hz2]; omega) (by omega)
  have e2 : madeCells (Value.int .u32 0).cells ((n : Int).toNat * 1) = ints .u32 (List.replicate n 0) := by
    rw [Int.toNat_natCast, Nat.mul_one]
    apply Array.ext
    · simp [madeCells, ints]
    · intro i h1 h2
      simp [madeCells, ints, Value.cells, Nat.mod_one]
  rw [hz1, e2, Int.toNat_natCast] at e
  exact e
def win (ws : List Int) (p n : Nat) : List Int := (List.range n).map fun j => ws.getD (p + j) 0
theorem win_len (ws : List Int) (p n : Nat) : (win ws p n).length = n := by simp [win]
theorem win_at (ws : List Int) (p n j : Nat) (h : j < n) : (win ws p n).getD j 0 = ws.getD (p + j) 0 := by
  simp [win, List.getD_eq_getElem?_getD, h]
/-- What is read when j words are. -/
def winTo (ws : List Int) (p n j : Nat) : List Int := win ws p j ++ List.replicate (n - j) 0
theorem winTo_len (ws : List Int) (p n j : Nat) (h : j ≤ n) : (winTo ws p n j).length = n := by simp [winTo, win]; omega
theorem winTo_succ (ws : List Int) (p n j : Nat) (h : j < n) : (winTo ws p n j).set j (ws.getD (p + j) 0) = winTo ws p n (j + 1) := by
  unfold winTo
  rw [List.set_append_right _ _ (by rw [win_len]; omega), win_len, Nat.sub_self, show n - j = (n - (j + 1)) + 1 by omega, List.replicate_succ, List.set_cons_zero]
  unfold win
  rw [List.range_succ, List.map_append, List.append_assoc]
  rfl
set_option maxRecDepth 100000 in
theorem dread_calls {p n : Nat} (h : KW B W (drK D ++ K) w) (hr : D.Rest) (hi : p + n ≤ 320) (hn : 0 < n) (hn' : n ≤ 64) : Calls Tryz.prog 35 #[.pointer (some ⟨D.d, 0, none⟩), .int .i64 (p : Int), .int .i64 (n : Int)] w fun e w' => ∃ g, e = .returned (.tuple #[.slice (some ⟨g, 0, none⟩) n n, .int .i64 0]) ∧ KW B W (drK { D with F := { D.F with mode := 0 } } ++ ([(g, .cells (ints .u32 (win D.C.ws p n)) 38)] ++ K)) w' := by
  have h2 := KW.mv [(w.heap.size, .cells #[.int .u32 255] 38)] (drK D) _ (h.push (.cells #[.int .u32 255] 38))
  have hc := wr255_calls h2 hr p (by omega)
  have H := _root_.Go.Lib.hid h
  have HC := _root_.Go.Lib.hid (And.intro hc (And.intro hr hi))
  have mk : ∀ w, (Instr.makeSlice 34 (.int .i64 (n : Int)) (.int .i64 (n : Int))).run Tryz.prog w = .ok (.slice (some ⟨w.heap.size, 0, none⟩) n n) (w.alloc (.cells (ints .u32 (List.replicate n 0)) 38)) := make34 n (by omega)
  have g0 : ((n : Int) < 0) = False := eq_false (by omega)
  have g1 : ((n : Int) > 64) = False := eq_false (by omega)
  have g2 : ((n : Int) == 0) = false := by simp; omega
  have g3 : (n = 0) = False := eq_false (by omega)
  clear h h2 hr hc
  go_enter Tryz.func35, Tryz.ntmps35
  go_wp2_with (go_at_call 65; refine (dgood_calls H.out).mono ?_; rintro e w' ⟨rfl, rfl⟩)
  refine HC.out.1.mono ?_
  rintro e w1 ⟨rfl, hk⟩
  have h1 := KW.mv [(w1.heap.size, .cells (ints .u32 (List.replicate n 0)) 38)] (drK { D with F := { D.F with mode := 0 } }) _ (hk.push (.cells (ints .u32 (List.replicate n 0)) 38))
  have HK := _root_.Go.Lib.hid h1
  clear hk h1 H
  go_wp2_with fail
  have h1 := HK.out
  clear HK mk
  generalize World.alloc w1 _ = w2 at h1 ⊢
  generalize w1.heap.size = g at h1 ⊢
  have HK := _root_.Go.Lib.hid h1
  clear h1
  go_loopg [38] n (fun k s38 wr => ∃ j : Nat, j + k = n ∧ s38 = .int .i64 (j : Int) ∧ KW B W (drK { D with F := { D.F with mode := 0 } } ++ ([(g, .cells (ints .u32 (winTo D.C.ws p n j)) 38)] ++ K)) wr)
  case atStart => exact ⟨0, by omega, rfl, by first | exact HK.out | simpa [winTo, win] using HK.out⟩
  case round =>
    clear HK
    obtain ⟨j, hj, rfl, hk⟩ := hrel
    have hi := HC.out.2.2
    by_cases hjn : j < n
    · have hl := winTo_len D.C.ws p n j (by omega)
      have m0 : wr.cell? ⟨D.d, 0, none⟩ = some (.pointer (some ⟨D.F.f, 0, none⟩)) := cell_at (hk.get (g := D.d) (o := drO { D with F := { D.F with mode := 0 } }) (by simp)) 0
      have f0 : wr.frozen? ⟨g, j, none⟩ = false := free_at (hk.get (g := g) (o := .cells (ints .u32 (winTo D.C.ws p n j)) 38) (by simp)) j
      have xg : wr.cell? ⟨g, j, none⟩ = some (.int .u32 ((winTo D.C.ws p n j).getD j 0)) := by
        rw [cell_at (hk.get (g := g) (o := .cells (ints .u32 (winTo D.C.ws p n j)) 38) (by simp)) j]
        exact ints_at (by rw [hl]; exact hjn)
      have hc := fread_calls hk.fl HC.out.2.1.job rfl HC.out.2.1.ok (p + j) (by omega)
      rw [show ((p + j : Nat) : Int) = (p : Int) + (j : Int) by omega] at hc
      have h3 : KW B W (drK { D with F := { D.F with mode := 0 } } ++ ([(g, .cells (ints .u32 (winTo D.C.ws p n (j + 1))) 38)] ++ K)) (wr.setCell ⟨g, j, none⟩ (.int .u32 (D.C.ws.getD (p + j) 0))) :=
        KW.mv [(g, .cells (ints .u32 (winTo D.C.ws p n (j + 1))) 38)] (drK { D with F := { D.F with mode := 0 } }) K (KW.cell (KW.mv (drK { D with F := { D.F with mode := 0 } }) [(g, .cells (ints .u32 (winTo D.C.ws p n j)) 38)] K hk) (by rw [ints_set, winTo_succ _ _ _ _ hjn]))
      have HR := _root_.Go.Lib.hid (And.intro hc (And.intro h3 hj))
      have e1 : wrap64 ((p : Int) + (j : Int)) = (p : Int) + (j : Int) := by unfold wrap64; omega
      generalize (winTo D.C.ws p n j).getD j 0 = y at xg
      generalize D.C.ws.getD (p + j) 0 = x at HR
      clear hk hc h3 hj hl
      go_wp2_with fail
      refine HR.out.1.mono ?_
      rintro e w' ⟨rfl, rfl⟩
      go_wp2_with fail
      go_roundg (n - (j + 1))
      case measure => have := HR.out.2.2; omega
      case rel => exact ⟨j + 1, by have := HR.out.2.2; omega, by first | rfl | go_num, HR.out.2.1⟩
    · have e : j = n := by omega
      subst e
      have HK := _root_.Go.Lib.hid hk
      clear hk hj
      go_wp2_with fail
      refine bodyPost_ret (v := .tuple #[.slice (some ⟨g, 0, none⟩) j j, .int .i64 0]) (by simp [results, Tryz.results35, Sem.run_bind, Result.andThen]) rfl ⟨g, rfl, by have := HK.out; simpa [winTo] using this⟩
end
end Go.Proofs.YtlcbilknfjdceaaGreatDoor
end
