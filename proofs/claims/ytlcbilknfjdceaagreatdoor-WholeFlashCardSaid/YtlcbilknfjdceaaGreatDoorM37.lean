/-
  WholeFlash, part 37 of 44: Stepp.
-/
import Derived.Test.YtlcbilknfjdceaaGreatDoorM36
section
/-
  A machine is made.
-/
set_option linter.unusedVariables false
set_option linter.unusedSimpArgs false
set_option maxRecDepth 100000
namespace Go.Proofs.YtlcbilknfjdceaaGreatDoor
open Go.RowKit Go.Lib Go.Sort
abbrev machK (m r b c d u s g cap f : Nat) (v : Value) (gw : Array Value) (n cy pc x1 : Int) : Blocks := [(m, machO r b c d u s cy pc x1), (b, busO r v), (r, ramO g 16 cap), (g, .cells gw 38), (c, clockO n), (d, deskO), (u, uartO), (s, sectO f)]
/-- A machine that begins, and its parts. -/
def BootP (B : Nat) (W : World) (K : Blocks) (f m : Nat) (w : World) : Prop := ∃ r b c d u s g v gw, gw[0]? = some (.int .u32 5243027) ∧ KW B W (machK m r b c d u s g 16 f v gw 0 0 2147483648 0 ++ K) w
theorem mach_bus (r b c d u s : Nat) : (machN r c d u s).setIfInBounds 1 (pt b) = machV r b c d u s 0 2147483648 0 := rfl
def wordsI : Array Value := (wordsZ.toList.take 0 ++ [Value.int .u32 5243027] ++ wordsZ.toList.drop 1).toArray
theorem wordsI_0 : wordsI[0]? = some (.int .u32 5243027) := rfl
theorem copy_image {w : World} {g gi ci : Nat} {cs : Array Value} (hg : w.heap[g]? = some (.cells wordsZ 38)) (hi : w.heap[gi]? = some (.cells cs 38)) (hc : cs[0]? = some (.int .u32 5243027)) :
    (Builtin.copy_ #[34, 34] 3 #[.slice (some ⟨g, 0, none⟩) 16 16, .slice (some ⟨gi, 0, none⟩) 1 ci]).run Tryz.prog w = .ok (.int .i64 1) (w.setRow g wordsI) :=
  run_copy_row (P := Tryz.prog) w 34 34 3 38 g 0 16 16 ⟨gi, 0, none⟩ 1 ci wordsZ 38 [.int .u32 5243027] Tryz.underlying34 (by kernel_rfl) hg rfl (fun j v hj => by
    match j, hj with
    | 0, hj => cases hj; exact (cell_at hi 0).trans hc
    | j + 1, hj => cases hj) (by decide) (by simp [Value.oneCell'])
set_option maxHeartbeats 1000000 in
theorem boot38 {B f gi ci : Nat} {W w : World} {K : Blocks} {cs : Array Value} (h : KW B W ((gi, .cells cs 38) :: K) w) (hc : cs[0]? = some (.int .u32 5243027)) :
    Calls Tryz.prog 38 #[.int .i64 16, .slice (some ⟨gi, 0, none⟩) 1 ci, .iface 30 (pt f)] w fun e w' => ∃ m, e = .returned (pt m) ∧ BootP B W ((gi, .cells cs 38) :: K) f m w' := by
  have H := _root_.Go.Lib.hid (And.intro h hc)
  clear h hc
  go_enter Tryz.func38, Tryz.ntmps38
  go_upto_region 3 with fail
  refine region38 (by kernel_rfl) _ f rfl rfl rfl H.out.1 ?_
  intro N w1 hk1 J hJ
  go_simp
  refine hJ _ ?_
  clear hJ J
  unfold bootL at hk1
  generalize N 1 = g at hk1 ⊢
  generalize N 3 = r at hk1 ⊢
  generalize N 4 = c at hk1 ⊢
  generalize N 5 = d at hk1 ⊢
  generalize N 6 = u at hk1 ⊢
  generalize N 8 = s at hk1 ⊢
  generalize N 12 = m at hk1 ⊢
  have gm := hk1.get (g := m) (o := .cells (machN r c d u s) 122) (by simp)
  have m0 : w1.cell? ⟨m, 0, none⟩ = some (pt r) := cell_at gm 0
  have r1 : w1.cell? ⟨r, 1, none⟩ = some (.slice (some ⟨g, 0, none⟩) 16 16) := cell_at (hk1.get (g := r) (o := ramO g 16 16) (by simp)) 1
  have hcp := copy_image (ci := ci) (hk1.get (g := g) (o := .cells wordsZ 38) (by simp)) (hk1.get (g := gi) (o := .cells cs 38) (by simp)) H.out.2
  have h2 := KW.row (vs := wordsI) hk1
  have HC := _root_.Go.Lib.hid (And.intro trivial h2)
  clear hk1 gm h2 H
  go_upto_region 4 with fail
  go_upto_region 5 with fail
  have h2 := HC.out.2
  clear HC m0 r1 hcp
  generalize World.setRow _ _ _ = w2 at h2 ⊢
  have gm := h2.get (g := m) (o := .cells (machN r c d u s) 122) (by simp)
  have m0 : w2.cell? ⟨m, 0, none⟩ = some (pt r) := cell_at gm 0
  have H2 := _root_.Go.Lib.hid h2
  clear h2 gm
  go_upto_region 6 with (go_at_call 73; refine (bus73 r _).mono ?_; rintro e w3 ⟨rfl, rfl⟩
                         have h3 := H2.out.push (busO r (.slice none 0 0))
                         have m1 : (w2.alloc (busO r (.slice none 0 0))).cell? ⟨m, 1, none⟩ = some (.pointer none) := cell_at (h3.get (g := m) (o := .cells (machN r c d u s) 122) (by simp)) 1
                         have q1 : (w2.alloc (busO r (.slice none 0 0))).frozen? ⟨m, 1, none⟩ = false := free_at (h3.get (g := m) (o := .cells (machN r c d u s) 122) (by simp)) 1
                         have H3 := _root_.Go.Lib.hid h3
                         clear h3)
  have h3 := H3.out
  generalize hbn : w2.heap.size = b at h3 ⊢
  have h4 := KW.cellAt [(b, busO r (.slice none 0 0)), (g, .cells wordsI 38), (r, ramO g 16 16), (c, clockO 0), (d, deskO), (u, uartO), (s, sectO f)] ((gi, .cells cs 38) :: K) (g := m) (i := 1) (x := pt b) (vs := machV r b c d u s 0 2147483648 0) h3 (mach_bus r b c d u s)
  generalize World.setCell _ _ _ = w4 at h4 ⊢
  clear h3 H3 m1 q1 H2 m0 hbn
  have gm := h4.get (g := m) (o := machO r b c d u s 0 2147483648 0) (by simp)
  have m2 : w4.cell? ⟨m, 2, none⟩ = some (pt c) := cell_at gm 2
  have m3 : w4.cell? ⟨m, 3, none⟩ = some (pt d) := cell_at gm 3
  have m4 : w4.cell? ⟨m, 4, none⟩ = some (pt u) := cell_at gm 4
  have m5 : w4.cell? ⟨m, 5, none⟩ = some (pt s) := cell_at gm 5
  have H4 := _root_.Go.Lib.hid h4
  clear h4 gm

  clear m2 m3 m4 m5
  refine wp_region_plan [(true, 0), (true, 1), (true, 2), (true, 3), (true, 4), (true, 5), (true, 6), (true, 7), (true, 8), (true, 9), (true, 10), (true, 11), (true, 12), (true, 13), (true, 14), (true, 15), (true, 16), (true, 17), (true, 18), (true, 19), (true, 20), (true, 21), (true, 22), (true, 23), (true, 26), (false, 24), (true, 25)] [(true, _), (true, _), (true, _), (true, _), (true, _), (true, _), (true, _), (true, _), (true, _), (true, _), (true, _), (true, _), (true, _), (true, _), (true, _), (true, _), (true, _), (true, _), (true, _), (true, _), (true, _), (true, _), (true, _), (true, _), (true, _), (false, _), (true, _)] (fun w => w.heap[m]? = some (machO r b c d u s 0 2147483648 0)) (by kernel_rfl) (by kernel_rfl) rfl (H4.out.drew.get (g := m) (o := machO r b c d u s 0 2147483648 0) (by simp)) ?_
  refine Plan.val (v := pt m) rfl (fun wc hC => ?_) ?_
  · go_simp
  refine Plan.go fun K hK => ?_
  go_simp
  refine hK _ _ ?_
  clear hK K
  refine Plan.val (v := pt m) rfl (fun wc hC => ?_) ?_
  · go_simp
  refine Plan.go fun K hK => ?_
  go_simp
  refine hK _ _ ?_
  clear hK K
  refine Plan.val (v := .pointer (some ⟨m, 2, none⟩)) rfl (fun wc hC => ?_) ?_
  · go_simp
  refine Plan.go fun K hK => ?_
  go_simp
  refine hK _ _ ?_
  clear hK K
  refine Plan.val (v := pt c) rfl (fun wc hC => ?_) ?_
  · have m0 : wc.cell? ⟨m, 2, none⟩ = some (pt c) := cell_at hC 2
    go_simp
  refine Plan.go fun K hK => ?_
  go_simp
  refine hK _ _ ?_
  clear hK K
  refine Plan.val (v := .iface 115 (pt c)) rfl (fun wc hC => ?_) ?_
  · go_simp
  refine Plan.go fun K hK => ?_
  go_simp
  refine hK _ _ ?_
  clear hK K
  refine Plan.val (v := .agg #[.int .u32 33554432, .int .u32 49152, .iface 115 (pt c)]) rfl (fun wc hC => ?_) ?_
  · go_simp
  refine Plan.go fun K hK => ?_
  go_simp
  refine hK _ _ ?_
  clear hK K
  refine Plan.val (v := pt m) rfl (fun wc hC => ?_) ?_
  · go_simp
  refine Plan.go fun K hK => ?_
  go_simp
  refine hK _ _ ?_
  clear hK K
  refine Plan.val (v := pt m) rfl (fun wc hC => ?_) ?_
  · go_simp
  refine Plan.go fun K hK => ?_
  go_simp
  refine hK _ _ ?_
  clear hK K
  refine Plan.val (v := .pointer (some ⟨m, 3, none⟩)) rfl (fun wc hC => ?_) ?_
  · go_simp
  refine Plan.go fun K hK => ?_
  go_simp
  refine hK _ _ ?_
  clear hK K
  refine Plan.val (v := pt d) rfl (fun wc hC => ?_) ?_
  · have m0 : wc.cell? ⟨m, 3, none⟩ = some (pt d) := cell_at hC 3
    go_simp
  refine Plan.go fun K hK => ?_
  go_simp
  refine hK _ _ ?_
  clear hK K
  refine Plan.val (v := .iface 116 (pt d)) rfl (fun wc hC => ?_) ?_
  · go_simp
  refine Plan.go fun K hK => ?_
  go_simp
  refine hK _ _ ?_
  clear hK K
  refine Plan.val (v := .agg #[.int .u32 201326592, .int .u32 12, .iface 116 (pt d)]) rfl (fun wc hC => ?_) ?_
  · go_simp
  refine Plan.go fun K hK => ?_
  go_simp
  refine hK _ _ ?_
  clear hK K
  refine Plan.val (v := pt m) rfl (fun wc hC => ?_) ?_
  · go_simp
  refine Plan.go fun K hK => ?_
  go_simp
  refine hK _ _ ?_
  clear hK K
  refine Plan.val (v := pt m) rfl (fun wc hC => ?_) ?_
  · go_simp
  refine Plan.go fun K hK => ?_
  go_simp
  refine hK _ _ ?_
  clear hK K
  refine Plan.val (v := .pointer (some ⟨m, 4, none⟩)) rfl (fun wc hC => ?_) ?_
  · go_simp
  refine Plan.go fun K hK => ?_
  go_simp
  refine hK _ _ ?_
  clear hK K
  refine Plan.val (v := pt u) rfl (fun wc hC => ?_) ?_
  · have m0 : wc.cell? ⟨m, 4, none⟩ = some (pt u) := cell_at hC 4
    go_simp
  refine Plan.go fun K hK => ?_
  go_simp
  refine hK _ _ ?_
  clear hK K
  refine Plan.val (v := .iface 117 (pt u)) rfl (fun wc hC => ?_) ?_
  · go_simp
  refine Plan.go fun K hK => ?_
  go_simp
  refine hK _ _ ?_
  clear hK K
  refine Plan.val (v := .agg #[.int .u32 268435456, .int .u32 32, .iface 117 (pt u)]) rfl (fun wc hC => ?_) ?_
  · go_simp
  refine Plan.go fun K hK => ?_
  go_simp
  refine hK _ _ ?_
  clear hK K
  refine Plan.val (v := pt m) rfl (fun wc hC => ?_) ?_
  · go_simp
  refine Plan.go fun K hK => ?_
  go_simp
  refine hK _ _ ?_
  clear hK K
  refine Plan.val (v := pt m) rfl (fun wc hC => ?_) ?_
  · go_simp
  refine Plan.go fun K hK => ?_
  go_simp
  refine hK _ _ ?_
  clear hK K
  refine Plan.val (v := .pointer (some ⟨m, 5, none⟩)) rfl (fun wc hC => ?_) ?_
  · go_simp
  refine Plan.go fun K hK => ?_
  go_simp
  refine hK _ _ ?_
  clear hK K
  refine Plan.val (v := .agg #[pt s]) rfl (fun wc hC => ?_) ?_
  · have m0 : wc.cell? ⟨m, 5, none⟩ = some (pt s) := cell_at hC 5
    go_simp
  refine Plan.go fun K hK => ?_
  go_simp
  refine hK _ _ ?_
  clear hK K
  refine Plan.val (v := .iface 120 (.agg #[pt s])) rfl (fun wc hC => ?_) ?_
  · go_simp
  refine Plan.go fun K hK => ?_
  go_simp
  refine hK _ _ ?_
  clear hK K
  refine Plan.val (v := .agg #[.int .u32 268439552, .int .u32 32, .iface 120 (.agg #[pt s])]) rfl (fun wc hC => ?_) ?_
  · go_simp
  refine Plan.go fun K hK => ?_
  go_simp
  refine hK _ _ ?_
  clear hK K
  refine Plan.val (v := .int .i64 0) rfl (fun wc hC => ?_) ?_
  · go_simp
  refine Plan.go fun K hK => ?_
  go_simp
  refine hK _ _ ?_
  clear hK K
  refine Plan.put (v := .slice (some ⟨w4.heap.size, 0, none⟩) 4 4) (w' := w4.drew.alloc (.cells #[.int .u32 33554432, .int .u32 49152, .iface 115 (pt c), .int .u32 201326592, .int .u32 12, .iface 116 (pt d), .int .u32 268435456, .int .u32 32, .iface 117 (pt u), .int .u32 268439552, .int .u32 32, .iface 120 (.agg #[pt s])] 162)) rfl (by go_simp; try rfl) ((H4.out.drew.alloc _).get (g := m) (o := machO r b c d u s 0 2147483648 0) (by simp)) ?_
  refine Plan.go fun K hK => ?_
  go_simp
  refine hK _ _ ?_
  clear hK K
  refine Plan.val (v := .int .i64 4) rfl (fun wc hC => ?_) ?_
  · go_simp
  refine Plan.go fun K hK => ?_
  go_simp
  refine hK _ _ ?_
  clear hK K
  refine Plan.nil ?_
  have h5 := (H4.out.push (.cells #[.int .u32 33554432, .int .u32 49152, .iface 115 (pt c), .int .u32 201326592, .int .u32 12, .iface 116 (pt d), .int .u32 268435456, .int .u32 32, .iface 117 (pt u), .int .u32 268439552, .int .u32 32, .iface 120 (.agg #[pt s])] 162)).drew
  have h5 : KW B W ((w4.heap.size, .cells #[.int .u32 33554432, .int .u32 49152, .iface 115 (pt c), .int .u32 201326592, .int .u32 12, .iface 116 (pt d), .int .u32 268435456, .int .u32 32, .iface 117 (pt u), .int .u32 268439552, .int .u32 32, .iface 120 (.agg #[pt s])] 162) :: (b, busO r (.slice none 0 0)) :: (g, .cells wordsI 38) :: (r, ramO g 16 16) :: (c, clockO 0) :: (d, deskO) :: (u, uartO) :: (s, sectO f) :: (m, machO r b c d u s 0 2147483648 0) :: (gi, .cells cs 38) :: K) (w4.alloc (.cells #[.int .u32 33554432, .int .u32 49152, .iface 115 (pt c), .int .u32 201326592, .int .u32 12, .iface 116 (pt d), .int .u32 268435456, .int .u32 32, .iface 117 (pt u), .int .u32 268439552, .int .u32 32, .iface 120 (.agg #[pt s])] 162)).drew := h5
  generalize hz : w4.heap.size = z at h5 ⊢
  generalize World.drew _ = w5 at h5 ⊢
  clear H4 hz
  go_wp2_with fail
  have hB : BusP B W ((z, .cells #[.int .u32 33554432, .int .u32 49152, .iface 115 (pt c), .int .u32 201326592, .int .u32 12, .iface 116 (pt d), .int .u32 268435456, .int .u32 32, .iface 117 (pt u), .int .u32 268439552, .int .u32 32, .iface 120 (.agg #[pt s])] 162) :: (g, .cells wordsI 38) :: (c, clockO 0) :: (d, deskO) :: (u, uartO) :: (s, sectO f) :: (m, machO r b c d u s 0 2147483648 0) :: (gi, .cells cs 38) :: K) b r g 16 [] w5 := ⟨_, KO.start (h5.perm ((List.Perm.swap (b, busO r (.slice none 0 0)) (z, .cells #[.int .u32 33554432, .int .u32 49152, .iface 115 (pt c), .int .u32 201326592, .int .u32 12, .iface 116 (pt d), .int .u32 268435456, .int .u32 32, .iface 117 (pt u), .int .u32 268439552, .int .u32 32, .iface 120 (.agg #[pt s])] 162) _).trans ((List.perm_middle (l₁ := [(z, .cells #[.int .u32 33554432, .int .u32 49152, .iface 115 (pt c), .int .u32 201326592, .int .u32 12, .iface 116 (pt d), .int .u32 268435456, .int .u32 32, .iface 117 (pt u), .int .u32 268439552, .int .u32 32, .iface 120 (.agg #[pt s])] 162), (g, .cells wordsI 38)]) (a := (r, ramO g 16 16)) (l₂ := (c, clockO 0) :: (d, deskO) :: (u, uartO) :: (s, sectO f) :: (m, machO r b c d u s 0 2147483648 0) :: (gi, .cells cs 38) :: K)).cons _)))⟩
  have HB := _root_.Go.Lib.hid hB
  clear h5 hB
  refine wp_loop_rounds 5 ?_
  rw [rounds_succ]
  obtain ⟨v, hko⟩ := HB.out
  have gz := hko.get (g := z) (o := .cells #[.int .u32 33554432, .int .u32 49152, .iface 115 (pt c), .int .u32 201326592, .int .u32 12, .iface 116 (pt d), .int .u32 268435456, .int .u32 32, .iface 117 (pt u), .int .u32 268439552, .int .u32 32, .iface 120 (.agg #[pt s])] 162) (by simp)
  have z0 : w5.cell? ⟨z, 0, none⟩ = some (.int .u32 33554432) := cell_at gz 0
  have z1 : w5.cell? ⟨z, 1, none⟩ = some (.int .u32 49152) := cell_at gz 1
  have z2 : w5.cell? ⟨z, 2, none⟩ = some (.iface 115 (pt c)) := cell_at gz 2
  have HK := _root_.Go.Lib.hid hko
  clear hko gz HB
  go_upto_region 9 with fail
  have h6 := HK.out.alloc (.cells #[.int .u32 33554432, .int .u32 49152, .iface 115 (pt c)] 162)
  generalize hq : w5.heap.size = q at h6 ⊢
  generalize World.alloc _ _ = w6 at h6 ⊢
  have gq := h6.get (g := q) (o := .cells #[.int .u32 33554432, .int .u32 49152, .iface 115 (pt c)] 162) (by simp)
  have y0 : w6.cell? ⟨q, 0, none⟩ = some (.int .u32 33554432) := cell_at gq 0
  have y1 : w6.cell? ⟨q, 1, none⟩ = some (.int .u32 49152) := cell_at gq 1
  have y2 : w6.cell? ⟨q, 2, none⟩ = some (.iface 115 (pt c)) := cell_at gq 2
  have m1 : w6.cell? ⟨m, 1, none⟩ = some (pt b) := cell_at (h6.get (g := m) (o := machO r b c d u s 0 2147483648 0) (by simp)) 1
  have hbp : BusP B W ((z, .cells #[.int .u32 33554432, .int .u32 49152, .iface 115 (pt c), .int .u32 201326592, .int .u32 12, .iface 116 (pt d), .int .u32 268435456, .int .u32 32, .iface 117 (pt u), .int .u32 268439552, .int .u32 32, .iface 120 (.agg #[pt s])] 162) :: (g, .cells wordsI 38) :: (c, clockO 0) :: (d, deskO) :: (u, uartO) :: (s, sectO f) :: (m, machO r b c d u s 0 2147483648 0) :: (gi, .cells cs 38) :: K) b r g 16 _ w6.drew := ⟨v, h6.drop.grown (Below.refl _ _).drew⟩
  have hadd := add74_0 (i := 115) (q := pt c) hbp (by simp) (by simp)
  have HA := _root_.Go.Lib.hid hadd
  clear hadd hbp h6 gq hq HK z0 z1 z2
  go_still_tail 10, (by kernel_rfl)
  go_wp2_with (go_at_call 74; refine HA.out.mono ?_; rintro e v0 ⟨rfl, hb⟩; have HB := _root_.Go.Lib.hid hb; clear hb)
  clear HA y0 y1 y2 m1
  rw [rounds_succ]
  obtain ⟨v, hko⟩ := HB.out
  have gz := hko.get (g := z) (o := .cells #[.int .u32 33554432, .int .u32 49152, .iface 115 (pt c), .int .u32 201326592, .int .u32 12, .iface 116 (pt d), .int .u32 268435456, .int .u32 32, .iface 117 (pt u), .int .u32 268439552, .int .u32 32, .iface 120 (.agg #[pt s])] 162) (by simp)
  have z0 : v0.cell? ⟨z, 3, none⟩ = some (.int .u32 201326592) := cell_at gz 3
  have z1 : v0.cell? ⟨z, 4, none⟩ = some (.int .u32 12) := cell_at gz 4
  have z2 : v0.cell? ⟨z, 5, none⟩ = some (.iface 116 (pt d)) := cell_at gz 5
  have HK := _root_.Go.Lib.hid hko
  clear hko gz HB
  go_upto_region 9 with fail
  have h6 := HK.out.alloc (.cells #[.int .u32 201326592, .int .u32 12, .iface 116 (pt d)] 162)
  generalize hq : v0.heap.size = q at h6 ⊢
  generalize World.alloc _ _ = w6 at h6 ⊢
  have gq := h6.get (g := q) (o := .cells #[.int .u32 201326592, .int .u32 12, .iface 116 (pt d)] 162) (by simp)
  have y0 : w6.cell? ⟨q, 0, none⟩ = some (.int .u32 201326592) := cell_at gq 0
  have y1 : w6.cell? ⟨q, 1, none⟩ = some (.int .u32 12) := cell_at gq 1
  have y2 : w6.cell? ⟨q, 2, none⟩ = some (.iface 116 (pt d)) := cell_at gq 2
  have m1 : w6.cell? ⟨m, 1, none⟩ = some (pt b) := cell_at (h6.get (g := m) (o := machO r b c d u s 0 2147483648 0) (by simp)) 1
  have hbp : BusP B W ((z, .cells #[.int .u32 33554432, .int .u32 49152, .iface 115 (pt c), .int .u32 201326592, .int .u32 12, .iface 116 (pt d), .int .u32 268435456, .int .u32 32, .iface 117 (pt u), .int .u32 268439552, .int .u32 32, .iface 120 (.agg #[pt s])] 162) :: (g, .cells wordsI 38) :: (c, clockO 0) :: (d, deskO) :: (u, uartO) :: (s, sectO f) :: (m, machO r b c d u s 0 2147483648 0) :: (gi, .cells cs 38) :: K) b r g 16 _ w6.drew := ⟨v, h6.drop.grown (Below.refl _ _).drew⟩
  have hadd := add74_1 (i := 116) (q := pt d) hbp (by simp) (by simp)
  have HA := _root_.Go.Lib.hid hadd
  clear hadd hbp h6 gq hq HK z0 z1 z2
  go_still_tail 10, (by kernel_rfl)
  go_wp2_with (go_at_call 74; refine HA.out.mono ?_; rintro e v1 ⟨rfl, hb⟩; have HB := _root_.Go.Lib.hid hb; clear hb)
  clear HA y0 y1 y2 m1
  rw [rounds_succ]
  obtain ⟨v, hko⟩ := HB.out
  have gz := hko.get (g := z) (o := .cells #[.int .u32 33554432, .int .u32 49152, .iface 115 (pt c), .int .u32 201326592, .int .u32 12, .iface 116 (pt d), .int .u32 268435456, .int .u32 32, .iface 117 (pt u), .int .u32 268439552, .int .u32 32, .iface 120 (.agg #[pt s])] 162) (by simp)
  have z0 : v1.cell? ⟨z, 6, none⟩ = some (.int .u32 268435456) := cell_at gz 6
  have z1 : v1.cell? ⟨z, 7, none⟩ = some (.int .u32 32) := cell_at gz 7
  have z2 : v1.cell? ⟨z, 8, none⟩ = some (.iface 117 (pt u)) := cell_at gz 8
  have HK := _root_.Go.Lib.hid hko
  clear hko gz HB
  go_upto_region 9 with fail
  have h6 := HK.out.alloc (.cells #[.int .u32 268435456, .int .u32 32, .iface 117 (pt u)] 162)
  generalize hq : v1.heap.size = q at h6 ⊢
  generalize World.alloc _ _ = w6 at h6 ⊢
  have gq := h6.get (g := q) (o := .cells #[.int .u32 268435456, .int .u32 32, .iface 117 (pt u)] 162) (by simp)
  have y0 : w6.cell? ⟨q, 0, none⟩ = some (.int .u32 268435456) := cell_at gq 0
  have y1 : w6.cell? ⟨q, 1, none⟩ = some (.int .u32 32) := cell_at gq 1
  have y2 : w6.cell? ⟨q, 2, none⟩ = some (.iface 117 (pt u)) := cell_at gq 2
  have m1 : w6.cell? ⟨m, 1, none⟩ = some (pt b) := cell_at (h6.get (g := m) (o := machO r b c d u s 0 2147483648 0) (by simp)) 1
  have hbp : BusP B W ((z, .cells #[.int .u32 33554432, .int .u32 49152, .iface 115 (pt c), .int .u32 201326592, .int .u32 12, .iface 116 (pt d), .int .u32 268435456, .int .u32 32, .iface 117 (pt u), .int .u32 268439552, .int .u32 32, .iface 120 (.agg #[pt s])] 162) :: (g, .cells wordsI 38) :: (c, clockO 0) :: (d, deskO) :: (u, uartO) :: (s, sectO f) :: (m, machO r b c d u s 0 2147483648 0) :: (gi, .cells cs 38) :: K) b r g 16 _ w6.drew := ⟨v, h6.drop.grown (Below.refl _ _).drew⟩
  have hadd := add74_2 (i := 117) (q := pt u) hbp (by simp) (by simp)
  have HA := _root_.Go.Lib.hid hadd
  clear hadd hbp h6 gq hq HK z0 z1 z2
  go_still_tail 10, (by kernel_rfl)
  go_wp2_with (go_at_call 74; refine HA.out.mono ?_; rintro e v2 ⟨rfl, hb⟩; have HB := _root_.Go.Lib.hid hb; clear hb)
  clear HA y0 y1 y2 m1
  rw [rounds_succ]
  obtain ⟨v, hko⟩ := HB.out
  have gz := hko.get (g := z) (o := .cells #[.int .u32 33554432, .int .u32 49152, .iface 115 (pt c), .int .u32 201326592, .int .u32 12, .iface 116 (pt d), .int .u32 268435456, .int .u32 32, .iface 117 (pt u), .int .u32 268439552, .int .u32 32, .iface 120 (.agg #[pt s])] 162) (by simp)
  have z0 : v2.cell? ⟨z, 9, none⟩ = some (.int .u32 268439552) := cell_at gz 9
  have z1 : v2.cell? ⟨z, 10, none⟩ = some (.int .u32 32) := cell_at gz 10
  have z2 : v2.cell? ⟨z, 11, none⟩ = some (.iface 120 (.agg #[pt s])) := cell_at gz 11
  have HK := _root_.Go.Lib.hid hko
  clear hko gz HB
  go_upto_region 9 with fail
  have h6 := HK.out.alloc (.cells #[.int .u32 268439552, .int .u32 32, .iface 120 (.agg #[pt s])] 162)
  generalize hq : v2.heap.size = q at h6 ⊢
  generalize World.alloc _ _ = w6 at h6 ⊢
  have gq := h6.get (g := q) (o := .cells #[.int .u32 268439552, .int .u32 32, .iface 120 (.agg #[pt s])] 162) (by simp)
  have y0 : w6.cell? ⟨q, 0, none⟩ = some (.int .u32 268439552) := cell_at gq 0
  have y1 : w6.cell? ⟨q, 1, none⟩ = some (.int .u32 32) := cell_at gq 1
  have y2 : w6.cell? ⟨q, 2, none⟩ = some (.iface 120 (.agg #[pt s])) := cell_at gq 2
  have m1 : w6.cell? ⟨m, 1, none⟩ = some (pt b) := cell_at (h6.get (g := m) (o := machO r b c d u s 0 2147483648 0) (by simp)) 1
  have hbp : BusP B W ((z, .cells #[.int .u32 33554432, .int .u32 49152, .iface 115 (pt c), .int .u32 201326592, .int .u32 12, .iface 116 (pt d), .int .u32 268435456, .int .u32 32, .iface 117 (pt u), .int .u32 268439552, .int .u32 32, .iface 120 (.agg #[pt s])] 162) :: (g, .cells wordsI 38) :: (c, clockO 0) :: (d, deskO) :: (u, uartO) :: (s, sectO f) :: (m, machO r b c d u s 0 2147483648 0) :: (gi, .cells cs 38) :: K) b r g 16 _ w6.drew := ⟨v, h6.drop.grown (Below.refl _ _).drew⟩
  have hadd := add74_3 (i := 120) (q := .agg #[pt s]) hbp (by simp) (by simp)
  have HA := _root_.Go.Lib.hid hadd
  clear hadd hbp h6 gq hq HK z0 z1 z2
  go_still_tail 10, (by kernel_rfl)
  go_wp2_with (go_at_call 74; refine HA.out.mono ?_; rintro e v3 ⟨rfl, hb⟩; have HB := _root_.Go.Lib.hid hb; clear hb)
  clear HA y0 y1 y2 m1
  rw [rounds_succ]
  go_wp2_with fail
  go_ret
  obtain ⟨v, hko⟩ := HB.out
  have h9 := KW.cut [(b, busO r v), (r, ramO g 16 16)] [(z, .cells #[.int .u32 33554432, .int .u32 49152, .iface 115 (pt c), .int .u32 201326592, .int .u32 12, .iface 116 (pt d), .int .u32 268435456, .int .u32 32, .iface 117 (pt u), .int .u32 268439552, .int .u32 32, .iface 120 (.agg #[pt s])] 162)] _ hko.kw
  refine ⟨m, rfl, r, b, c, d, u, s, g, v, wordsI, wordsI_0, ?_⟩
  exact h9.perm (List.perm_middle (l₁ := [(b, busO r v), (r, ramO g 16 16), (g, .cells wordsI 38), (c, clockO 0), (d, deskO), (u, uartO), (s, sectO f)]) (a := (m, machO r b c d u s 0 2147483648 0)) (l₂ := (gi, .cells cs 38) :: K))
end Go.Proofs.YtlcbilknfjdceaaGreatDoor
end
