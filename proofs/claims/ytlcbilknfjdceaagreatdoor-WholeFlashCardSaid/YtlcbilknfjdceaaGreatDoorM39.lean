/-
  WholeFlash, part 39 of 44: Model, Works, Worka.
-/
import Derived.Laws.MakeOwn
import Derived.Test.YtlcbilknfjdceaaGreatDoorM38
section
/-
  What sectors may be: two lists of one sector each that has nothing.
-/
set_option linter.unusedVariables false
set_option linter.unusedSimpArgs false
set_option maxRecDepth 100000
namespace Go.Proofs.YtlcbilknfjdceaaGreatDoor
open Go.RowKit Go.Lib Go.Sort
abbrev zero4 : Array Value := #[.int .u32 0, .int .u32 0, .int .u32 0, .int .u32 0]
abbrev stV1 (g : Nat) : Array Value := #[.slice (some ⟨g, 0, none⟩) 1 1, .bool false, .int .i64 0, .int .u32 0, .int .u32 0, .int .u32 0, .int .u32 0]
theorem make75 (w : World) : (Instr.makeSlice 75 (.int .i64 1) (.int .i64 1)).run Tryz.prog w = .ok (.slice (some ⟨w.heap.size, 0, none⟩) 1 1) (w.alloc (.cells zero4 43)) := by kernel_rfl
theorem results21 {tmps : Array Value} {w : World} {rb g : Nat} {t : TypeId} (h2 : tmps.getD 2 undef = .pointer (some ⟨rb, 0, none⟩)) (hg : w.heap[rb]? = some (.cells (stV1 g) t)) :
    (results Tryz.f21 tmps).run Tryz.prog w = .ok (.agg (stV1 g)) w := by
  have hl : (Instr.loadAt 77 (.pointer (some ⟨rb, 0, none⟩))).run Tryz.prog w = .ok (.agg (stV1 g)) w := Mem.run_loadAt_part (by rfl) Tryz.underlying77 hg (by rw [show (Tryz.prog.info? 77).map (·.size) = some 7 by kernel_rfl]; rfl) rfl
  rw [Array.getD_eq_getD_getElem?] at h2
  simp only [Instr.loadAt, Instr.sureAddr, pure_bind] at hl
  simp [results, h2, Result.andThen, asAddr, hl]
theorem new21 (w : World) : Calls Tryz.prog 21 #[.int .i64 1] w fun e w' => ∃ g, e = .returned (.agg (stV1 g)) ∧ w.heap.size ≤ g ∧ w'.heap[g]? = some (.cells zero4 43) ∧ Below w.heap.size w w' := by
  have mk := make75
  have e1 : min (max (1 : Int) 0) 1000 = 1 := by decide
  have e2 : max (1 : Int) 0 = 1 := by decide
  have e3 : min (1 : Int) 1000 = 1 := by decide
  have hk := KW.start (Below.refl w.heap.size w) (Nat.le_refl _)
  have H := _root_.Go.Lib.hid hk
  clear hk
  go_enter Tryz.func21, Tryz.ntmps21
  go_wp2_with fail
  have h2 := (H.out.push (.cells (stV1 (w.heap.size + 1)) 77)).push (.cells zero4 43)
  rw [size_al] at h2
  generalize World.alloc (World.alloc w _) _ = w2 at h2 ⊢
  refine bodyPost_ret (v := .agg (stV1 (w.heap.size + 1))) (results21 (rb := w.heap.size) rfl (h2.get (g := w.heap.size) (o := .cells (stV1 (w.heap.size + 1)) 77) (by simp))) rfl ⟨_, rfl, by omega, h2.get (g := w.heap.size + 1) (o := .cells zero4 43) (by simp), h2.bel⟩
theorem equal46 {g1 g2 c1 c2 : Nat} {w : World} (h1 : w.heap[g1]? = some (.cells zero4 43)) (h2 : w.heap[g2]? = some (.cells zero4 43)) : Calls Tryz.prog 46 #[.slice (some ⟨g1, 0, none⟩) 1 c1, .slice (some ⟨g2, 0, none⟩) 1 c2] w fun e w' => e = .returned (.bool true) ∧ w' = w.drew := by
  have q43 : ∀ w, (Op.equalIn 10000 43 (.agg #[.int .u32 0, .int .u32 0, .int .u32 0, .int .u32 0]) (.agg #[.int .u32 0, .int .u32 0, .int .u32 0, .int .u32 0])).run Tryz.prog w = .ok true w := fun w => eq43 9998 0 0 0 0 0 0 0 0 w
  have a0 : w.cell? ⟨g1, 0, none⟩ = some (.int .u32 0) := cell_at h1 0
  have a1 : w.cell? ⟨g1, 1, none⟩ = some (.int .u32 0) := cell_at h1 1
  have a2 : w.cell? ⟨g1, 2, none⟩ = some (.int .u32 0) := cell_at h1 2
  have a3 : w.cell? ⟨g1, 3, none⟩ = some (.int .u32 0) := cell_at h1 3
  have b0 : w.cell? ⟨g2, 0, none⟩ = some (.int .u32 0) := cell_at h2 0
  have b1 : w.cell? ⟨g2, 1, none⟩ = some (.int .u32 0) := cell_at h2 1
  have b2 : w.cell? ⟨g2, 2, none⟩ = some (.int .u32 0) := cell_at h2 2
  have b3 : w.cell? ⟨g2, 3, none⟩ = some (.int .u32 0) := cell_at h2 3
  clear h1 h2
  go_enter Tryz.func46, Tryz.ntmps46
  go_wp2_with fail
  refine wp_loop_rounds 2 ?_
  rw [rounds_succ]
  go_upto_region 6 with fail
  go_still_tail 8, (by kernel_rfl)
  go_wp2_with fail
  rw [rounds_succ]
  go_wp2_with fail
  go_ret
  exact ⟨rfl, rfl⟩
theorem may20 {g1 g2 c2 : Nat} {w : World} (h1 : w.heap[g1]? = some (.cells zero4 43)) (h2 : w.heap[g2]? = some (.cells zero4 43)) : Calls Tryz.prog 20 #[.agg (stV1 g1), .slice (some ⟨g2, 0, none⟩) 1 c2] w fun e w' => e = .returned (.bool true) ∧ Below w.heap.size w w' := by
  have hk := (KW.start (Below.refl w.heap.size w) (Nat.le_refl _)).push (.cells (stV1 g1) 77)
  have h1' := (Below.heap_alloc w (.cells (stV1 g1) 77) g1 (lt_of_heap h1)).trans h1
  have h2' := (Below.heap_alloc w (.cells (stV1 g1) 77) g2 (lt_of_heap h2)).trans h2
  have H := _root_.Go.Lib.hid (And.intro hk (And.intro h1' h2'))
  clear hk h1 h2 h1' h2'
  go_enter Tryz.func20, Tryz.ntmps20
  go_upto_region 1 with fail
  obtain ⟨hk, h1, h2⟩ := H.out
  clear H
  have hs := hk.get List.mem_cons_self
  generalize hw : w.heap.size = s at hs hk ⊢
  generalize World.alloc w _ = w1 at hk h1 h2 hs ⊢
  have s0 : w1.cell? ⟨s, 0, none⟩ = some (.slice (some ⟨g1, 0, none⟩) 1 1) := cell_at hs 0
  have H := _root_.Go.Lib.hid (And.intro (equal46 (c1 := c2) (c2 := 1) h2 h1) hk)
  clear hk h1 h2 hs
  go_wp2_with (go_at_call 46; refine H.out.1.mono ?_; rintro e w2 ⟨rfl, rfl⟩)
  go_ret
  exact ⟨rfl, by rw [hw]; exact H.out.2.drew.bel⟩
end Go.Proofs.YtlcbilknfjdceaaGreatDoor
end
section
/-
  A box goes one step; what it tells.
-/
set_option linter.unusedVariables false
set_option linter.unusedSimpArgs false
set_option maxRecDepth 100000
namespace Go.Proofs.YtlcbilknfjdceaaGreatDoor
open Go.RowKit Go.Lib Go.Sort
section
variable {B x m r b cl d u se gm g cap : Nat} {S : Sv} {v : Value} {gw sp : Array Value} {n cy pc x1 : Int} {W w : World} {K0 : Blocks}
theorem sv_chip {K : Blocks} (h : KW B W (svK S ++ K) w) : ∃ R, KW B W (chK S.D.C S.D.a ++ R) w := ⟨_, h.store.drive.fl.chip⟩
theorem step16 (h : KW B W (machK m r b cl d u se gm 16 S.s v gw 0 0 2147483648 0 ++ ((g, imgO sp) :: (x, .cells (boxV S.D.a.c (pt S.s) (pt m) g cap) 111) :: (svK S ++ K0))) w) (hgw : gw[0]? = some (.int .u32 5243027)) (hT : Tab W) (hB : 0 < B) :
    Calls Tryz.prog 16 #[pt x, .int .i64 1] w fun e w' => e = .returned (.tuple #[.int .i64 1, .int .i64 0]) ∧ KW B W (machK m r b cl d u se gm 16 S.s v gw 1 1 2147483652 5 ++ ((g, imgO sp) :: (x, .cells (boxV S.D.a.c (pt S.s) (pt m) g cap) 111) :: (svK S ++ K0))) w' := by
  have gx := h.get (g := x) (o := .cells (boxV S.D.a.c (pt S.s) (pt m) g cap) 111) (by simp)
  have x2 : w.cell? ⟨x, 2, none⟩ = some (pt m) := cell_at gx 2
  have hck := check41 gx
  have hst := step42 h hgw hT hB
  have H := _root_.Go.Lib.hid (And.intro hck hst)
  clear h gx hck hst hT hB hgw
  go_enter Tryz.func16, Tryz.ntmps16
  go_wp2_with (go_at_call 41; refine H.out.1.mono ?_; rintro e w1 ⟨rfl, rfl⟩)
  refine wp_loop_rounds 2 ?_
  rw [rounds_succ]
  go_upto_region 12 with (go_at_call 42; refine H.out.2.mono ?_; rintro e w2 ⟨rfl, h2⟩; have H2 := _root_.Go.Lib.hid h2; clear h2)
  have gx := H2.out.get (g := x) (o := .cells (boxV S.D.a.c (pt S.s) (pt m) g cap) 111) (by simp)
  have x0 : w2.cell? ⟨x, 0, none⟩ = some (pt S.D.a.c) := cell_at gx 0
  have hmv : KW B W (svK S ++ ((machK m r b cl d u se gm 16 S.s v gw 1 1 2147483652 5 ++ [(g, imgO sp), (x, .cells (boxV S.D.a.c (pt S.s) (pt m) g cap) 111)]) ++ K0)) w2 := KW.mv (machK m r b cl d u se gm 16 S.s v gw 1 1 2147483652 5 ++ [(g, imgO sp), (x, .cells (boxV S.D.a.c (pt S.s) (pt m) g cap) 111)]) (svK S) K0 (by simpa using H2.out)
  obtain ⟨R, hR⟩ := sv_chip hmv
  have hup := up_calls hR
  have HU := _root_.Go.Lib.hid hup
  clear gx hmv hR hup x2 H
  go_wp2_with (go_at_call 43; refine HU.out.mono ?_; rintro e w3 ⟨rfl, rfl⟩)
  rw [rounds_succ]
  go_wp2_with fail
  refine bodyPost_ret (v := .tuple #[.int .i64 1, .int .i64 0]) (by simp [results, Tryz.results16, Sem.run_bind, Result.andThen]) rfl ⟨rfl, H2.out⟩
theorem machine17 {c s : Nat} (gx : w.heap[x]? = some (.cells (boxV c (pt s) (pt m) g cap) 111)) : Calls Tryz.prog 17 #[pt x] w fun e w' => e = .returned (pt m) ∧ w' = w := by
  have x2 : w.cell? ⟨x, 2, none⟩ = some (pt m) := cell_at gx 2
  have H := _root_.Go.Lib.hid (check41 gx)
  clear gx
  go_enter Tryz.func17, Tryz.ntmps17
  go_wp2_with (go_at_call 41; refine H.out.mono ?_; rintro e w1 ⟨rfl, rfl⟩)
  go_ret
  exact ⟨rfl, rfl⟩
theorem results18 {tmps : Array Value} {w : World} {rb : Nat} {a b c d : Value} {t : TypeId} (h4 : tmps.getD 4 undef = .pointer (some ⟨rb, 0, none⟩)) (h5 : tmps.getD 5 undef = .int .i64 0) (hg : w.heap[rb]? = some (.cells #[a, b, c, d] t)) :
    (results Tryz.f18 tmps).run Tryz.prog w = .ok (.tuple #[.agg #[a, b, c, d], .int .i64 0]) w := by
  have hl : (Instr.loadAt 43 (.pointer (some ⟨rb, 0, none⟩))).run Tryz.prog w = .ok (.agg #[a, b, c, d]) w := Mem.run_loadAt_part (by rfl) Tryz.underlying43 hg (by rw [size43]; rfl) rfl
  rw [Array.getD_eq_getD_getElem?] at h4 h5
  simp only [Instr.loadAt, Instr.sureAddr, pure_bind] at hl
  simp [results, h4, h5, Result.andThen, asAddr, hl]
theorem sector18 {c : Nat} {K : Blocks} (h : KW B W (svK S ++ K) w) (gx : (x, .cells (boxV c (pt S.s) (pt m) g cap) 111) ∈ K) (hf : S.Full 6) (hin : ∀ y, ¬ In S.bs y) :
    Calls Tryz.prog 18 #[pt x, .int .i64 0] w fun e w' => e = .returned (.tuple #[.agg zero4, .int .i64 0]) ∧ ∃ S' : Sv, S'.s = S.s ∧ KW B W (svK S' ++ K) w' := by
  have hp := KW.mv [(w.heap.size, Obj.cells zero4 43)] (svK S) K (h.push (.cells zero4 43))
  have gx' := hp.get (g := x) (o := .cells (boxV c (pt S.s) (pt m) g cap) 111) (by simp [gx])
  have x1 : (w.alloc (.cells zero4 43)).cell? ⟨x, 1, none⟩ = some (pt S.s) := cell_at gx' 1
  have hck := check41 gx'
  have hrd := read14 hp hf (L := fun _ => none) ⟨fun _ _ h => (by cases h), fun _ _ y hy => absurd hy (hin y)⟩ 0 (by decide)
  have H := _root_.Go.Lib.hid (And.intro hck hrd)
  clear h gx hf hin hp gx' hck hrd
  go_enter Tryz.func18, Tryz.ntmps18
  go_upto_region 4 with (go_at_call 41; refine H.out.1.mono ?_; rintro e w1 ⟨rfl, rfl⟩)
  generalize hrb : w.heap.size = rb at *
  go_wp2_with (go_at_call 14; refine H.out.2.mono ?_; rintro e w2 ⟨rfl, S', hf', hle, hbs, hk⟩
               have gr := hk.get (g := rb) (o := .cells zero4 43) (by simp)
               have r0 : w2.cell? ⟨rb, 0, none⟩ = some (.int .u32 0) := cell_at gr 0
               have q0 : w2.frozen? ⟨rb, 0, none⟩ = false := free_at gr 0
               have r1 : w2.cell? ⟨rb, 1, none⟩ = some (.int .u32 0) := cell_at gr 1
               have q1 : w2.frozen? ⟨rb, 1, none⟩ = false := free_at gr 1
               have r2 : w2.cell? ⟨rb, 2, none⟩ = some (.int .u32 0) := cell_at gr 2
               have q2 : w2.frozen? ⟨rb, 2, none⟩ = false := free_at gr 2
               have r3 : w2.cell? ⟨rb, 3, none⟩ = some (.int .u32 0) := cell_at gr 3
               have q3 : w2.frozen? ⟨rb, 3, none⟩ = false := free_at gr 3
               have HK := _root_.Go.Lib.hid (And.intro hle.s hk)
               have hz : dataV none = zero4 := rfl
               clear hk hf' hle hbs gr)
  have h4 := set4 (svK S') K (x0 := .int .u32 0) (x1 := .int .u32 0) (x2 := .int .u32 0) (x3 := .int .u32 0) HK.out.2
  generalize World.setCell _ _ _ = w4 at h4 ⊢
  refine bodyPost_ret (v := .tuple #[.agg zero4, .int .i64 0]) (results18 (rb := rb) rfl rfl (h4.get (g := rb) (o := .cells zero4 43) (by simp))) rfl ⟨rfl, S', HK.out.1, KW.cut (svK S') [_] K h4⟩
theorem results19 {tmps : Array Value} {w : World} {rb : Nat} {cy pc x1 : Int} {t : TypeId} (h2 : tmps.getD 2 undef = .pointer (some ⟨rb, 0, none⟩)) (hg : w.heap[rb]? = some (.cells (hartV cy pc x1) t)) :
    (results Tryz.f19 tmps).run Tryz.prog w = .ok (.agg (hartV cy pc x1)) w := by
  have hl := ld72 hg
  rw [Array.getD_eq_getD_getElem?] at h2
  simp only [Instr.loadAt, Instr.sureAddr, pure_bind] at hl
  simp [results, h2, Result.andThen, asAddr, hl]
theorem hart19 {c u s : Nat} (h : w.heap[m]? = some (machO r b c d u s cy pc x1)) : Calls Tryz.prog 19 #[pt m] w fun e w' => e = .returned (.agg (hartV cy pc x1)) ∧ Below w.heap.size w w' := by
  have hz := zero72
  have h1 := (KW.start (Below.refl w.heap.size w) (Nat.le_refl _)).push (.cells hartZ 72)
  have hm := (Below.heap_alloc w (.cells hartZ 72) m (lt_of_heap h)).trans h
  have hgd := good45 hm
  have hl := mld72 hm
  have hst := st72 cy pc x1 (h1.get List.mem_cons_self) hartZ_size
  have h2 := KW.row (vs := hartV cy pc x1) h1
  have H := _root_.Go.Lib.hid (And.intro hgd (And.intro hl (And.intro hst h2)))
  clear h h1 hm hgd hl hst h2
  go_enter Tryz.func19, Tryz.ntmps19
  go_wp2_with (first | (go_at_call 45; refine H.out.1.mono ?_; rintro e w1 ⟨rfl, rfl⟩) | ((with_reducible apply Mem.ld 72); rfl; exact H.out.2.1) | ((with_reducible apply Mem.st 72); rfl; rfl; exact H.out.2.2.1))
  have h2 := H.out.2.2.2
  generalize World.setRow _ _ _ = w2 at h2 ⊢
  refine bodyPost_ret (v := .agg (hartV cy pc x1)) (results19 (rb := w.heap.size) rfl (h2.get List.mem_cons_self)) rfl ⟨rfl, h2.bel⟩
end
end Go.Proofs.YtlcbilknfjdceaaGreatDoor
end
section
/-
  A box does what is fixed.
-/
set_option linter.unusedVariables false
set_option linter.unusedSimpArgs false
set_option maxRecDepth 100000
namespace Go.Proofs.YtlcbilknfjdceaaGreatDoor
open Go.RowKit Go.Lib Go.Sort
def hartX : Array Value := #[.int .u32 0, .int .u32 5, .int .u32 0, .int .u32 0, .int .u32 0, .int .u32 0, .int .u32 0, .int .u32 0, .int .u32 0, .int .u32 0, .int .u32 0, .int .u32 0, .int .u32 0, .int .u32 0, .int .u32 0, .int .u32 0, .int .u32 0, .int .u32 0, .int .u32 0, .int .u32 0, .int .u32 0, .int .u32 0, .int .u32 0, .int .u32 0, .int .u32 0, .int .u32 0, .int .u32 0, .int .u32 0, .int .u32 0, .int .u32 0, .int .u32 0, .int .u32 0]
theorem field72 (w : World) : (Instr.field 72 (.agg (hartV 1 2147483652 5)) 1).run Tryz.prog w = .ok (.agg hartX) w := by kernel_rfl
theorem index70 (w : World) : (Instr.index 70 (.agg hartX) (.int .i64 1)).run Tryz.prog w = .ok (.int .u32 5) w := by kernel_rfl
theorem works4 {w : World} (hT : Tab w) : Calls Tryz.prog 4 #[] w fun e w' => e = .returned (.bool true) ∧ Below w.heap.size w w' := by
  have h1 := (KW.start (Below.refl w.heap.size w) (Nat.le_refl _)).push (imgO #[])
  have hnw := new15 h1
  have e1 : imgO #[] = .cells #[.int .u32 5243027] 38 := rfl
  rw [e1] at hnw
  have HT := _root_.Go.Lib.hid hT
  have H := _root_.Go.Lib.hid hnw
  clear h1 hnw hT e1
  go_enter Tryz.func4, Tryz.ntmps4
  go_upto_region 2 with (go_at_call 15; refine H.out.mono ?_; rintro e w1 ⟨x, rfl, hb⟩; have HB := _root_.Go.Lib.hid hb; clear hb)
  obtain ⟨S, g, cap, sp, hful, hin, m, r, b, cl, d, u, se, gm, v, gw, hgw, hk⟩ := HB.out
  have hs := step16 hk hgw HT.out HT.out.pos
  have HS := _root_.Go.Lib.hid (And.intro hs (And.intro hful hin))
  clear hs hful hin hgw hk HB H
  go_upto_region 5 with (go_at_call 16; refine HS.out.1.mono ?_; rintro e w2 ⟨rfl, hk⟩; have HK := _root_.Go.Lib.hid hk; clear hk)
  have hk := KW.mv (machK m r b cl d u se gm 16 S.s v gw 1 1 2147483652 5 ++ [(g, imgO sp), (x, .cells (boxV S.D.a.c (pt S.s) (pt m) g cap) 111)]) (svK S) [(w.heap.size, .cells #[.int .u32 5243027] 38)] HK.out
  have hmm := machine17 (hk.get (g := x) (o := .cells (boxV S.D.a.c (pt S.s) (pt m) g cap) 111) (by simp))
  have hsc := sector18 (g := g) (cap := cap) (x := x) (m := m) (c := S.D.a.c) hk (by simp) HS.out.2.1 HS.out.2.2
  have H5 := _root_.Go.Lib.hid (And.intro hmm hsc)
  clear hk hmm hsc HK
  go_upto_region 7 with (first | (go_at_call 17; refine H5.out.1.mono ?_; rintro e w3 ⟨rfl, rfl⟩) | (go_at_call 18; refine H5.out.2.mono ?_; rintro e w4 ⟨rfl, S', hss, hk⟩; have H6 := _root_.Go.Lib.hid hk; clear hk hss))
  have h7 := H6.out.push (.cells zero4 43)
  generalize hq : w4.heap.size = q at h7 ⊢
  generalize World.alloc w4 _ = w5 at h7 ⊢
  have gm := h7.get (g := m) (o := machO r b cl d u se 1 2147483652 5) (by simp)
  have gq := h7.get (g := q) (o := .cells zero4 43) (by simp)
  have hh := hart19 gm
  have q43 : ∀ w, (Op.equalIn 10000 43 (.agg #[.int .u32 0, .int .u32 0, .int .u32 0, .int .u32 0]) (.agg #[.int .u32 0, .int .u32 0, .int .u32 0, .int .u32 0])).run Tryz.prog w = .ok true w := fun w => eq43 9998 0 0 0 0 0 0 0 0 w
  have fl := field72
  have ix := index70
  have H7 := _root_.Go.Lib.hid (And.intro hh h7)
  clear h7 gm gq hh hq H6 H5 HS
  go_wp2_with (first
    | (go_at_call 19; refine H7.out.1.mono ?_; rintro e w6 ⟨rfl, hb⟩
       have h8 := H7.out.2.grown hb
       have gq := h8.get (g := q) (o := .cells zero4 43) (by simp)
       have z0 : w6.cell? ⟨q, 0, none⟩ = some (.int .u32 0) := cell_at gq 0
       have z1 : w6.cell? ⟨q, 1, none⟩ = some (.int .u32 0) := cell_at gq 1
       have z2 : w6.cell? ⟨q, 2, none⟩ = some (.int .u32 0) := cell_at gq 2
       have z3 : w6.cell? ⟨q, 3, none⟩ = some (.int .u32 0) := cell_at gq 3
       have H8 := _root_.Go.Lib.hid h8
       clear h8 gq hb)
    | (go_at_call 21; refine (new21 _).mono ?_; rintro e w7 ⟨gn, rfl, hle, hgn, hb⟩
       have h9 := (H8.out.grown hb).alloc (.cells zero4 43)
       have hm := may20 (c2 := 1) ((Below.heap_alloc w7 (.cells zero4 43) gn (lt_of_heap hgn)).trans hgn) (heap_alloc_new w7 (.cells zero4 43))
       have H9 := _root_.Go.Lib.hid (And.intro hm h9)
       clear hle hgn hb h9 hm)
    | (go_at_call 20; refine H9.out.1.mono ?_; rintro e w8 ⟨rfl, hb⟩
       have h10 := H9.out.2.grown hb
       have H10 := _root_.Go.Lib.hid h10
       clear h10 hb))
  go_ret
  exact ⟨rfl, H10.out.bel⟩
end Go.Proofs.YtlcbilknfjdceaaGreatDoor
end
