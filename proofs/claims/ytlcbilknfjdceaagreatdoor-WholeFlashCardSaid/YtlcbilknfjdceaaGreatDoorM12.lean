/-
  WholeFlash, part 12 of 44: Page.
-/
import Derived.Test.YtlcbilknfjdceaaGreatDoorM10
import Derived.Test.YtlcbilknfjdceaaGreatDoorM11
section
/-
  Pages: what reads and tells of them.
-/
set_option linter.unusedVariables false
set_option linter.unusedSimpArgs false
namespace Go.Proofs.YtlcbilknfjdceaaGreatDoor
open Go.RowKit Go.Lib
theorem news_mid {w : World} {b off m : Nat} {cs : Array Value} {t : TypeId} {news : List Value} (hb : w.heap[b]? = some (.cells cs t)) (hn : (cs.toList.drop off).take m = news) : ∀ j u, news[j]? = some u → w.cell? ((⟨b, off, none⟩ : Addr).add j) = some u := by
  intro j u hu
  rw [addr_add', cell_at hb, ← hu, ← hn, List.getElem?_take]
  split
  · rw [List.getElem?_drop, Array.getElem?_toList]
  · rename_i h
    rw [← hn, List.getElem?_take, if_neg h] at hu
    cases hu
theorem ret_int' {k : IntKind} {a b : Int} (h : a = b) : Ending.returned (.int k a) = .returned (.int k b) := by rw [h]
theorem xor_ones (c : Int) (h0 : 0 ≤ c) (h1 : c < 4294967296) : bits .xor .u32 IntKind.u32.max c = 4294967295 - c := by
  obtain ⟨n, rfl⟩ := Int.eq_ofNat_of_zero_le h0
  unfold bits
  show IntKind.u32.wrap ((BitVec.ofInt 32 IntKind.u32.max ^^^ BitVec.ofInt 32 (n : Int)).toNat : Int) = _
  have e : BitVec.ofInt 32 IntKind.u32.max = BitVec.allOnes 32 := by decide
  rw [e, BitVec.allOnes_xor, BitVec.toNat_not, ofInt_u32 n (by omega), IntKind.wrap_u32']
  omega
theorem at_calls (b k : Nat) (hb : b < 64) (hk : k < 8) (w : World) : Calls Tryz.prog 36 #[.int .i64 (b : Int), .int .i64 (k : Int)] w fun e w' => e = .returned (.int .i64 ((64 * b + 4 + 7 * k : Nat) : Int)) ∧ w = w' := by
  have g0 : ((b : Int) < 0) = False := eq_false (by omega)
  have g1 : ((b : Int) ≥ 64) = False := eq_false (by omega)
  have g2 : ((k : Int) < 0) = False := eq_false (by omega)
  have g3 : ((k : Int) ≥ 8) = False := eq_false (by omega)
  have g4 : (64 ≤ b) = False := eq_false (by omega)
  have g5 : (8 ≤ k) = False := eq_false (by omega)
  go_enter Tryz.func36, Tryz.ntmps36
  go_wp2
  go_ret
  exact ⟨ret_int' (by omega), rfl⟩
theorem header_calls (c : Int) (h0 : 0 ≤ c) (h1 : c ≤ 2147483648) (w : World) : Calls Tryz.prog 58 #[.int .u32 c] w fun e w' => e = .returned (.slice (some ⟨w.heap.size, 0, none⟩) 4 4) ∧ w' = w.alloc (.cells (ints .u32 (hdW c)) 38) := by
  have g0 : (c > 2147483648) = False := eq_false (by omega)
  go_enter Tryz.func58, Tryz.ntmps58
  go_wp2
  go_ret
  refine ⟨rfl, ?_⟩
  rw [xor_ones c h0 (by omega)]
  rfl
abbrev pgV (p : Pg) : Array Value := #[.int .u32 p.sec, .int .u32 p.seq, .bool p.gone, .int .u32 p.d0, .int .u32 p.d1, .int .u32 p.d2, .int .u32 p.d3]
set_option maxRecDepth 100000 in
theorem right_calls (p : Pg) (h : p.Right) (w : World) : Calls Tryz.prog 137 #[.agg (pgV p)] w fun e w' => e = .returned (.bool true) ∧ Below w.heap.size w w' := by
  obtain ⟨s, q, g, a, b, c, d⟩ := p
  have g0 : (s < 512) = True := eq_true h.s1
  have g1 : (q ≥ 1) = True := eq_true h.q0
  have g2 : (q ≤ 2147483648) = True := eq_true h.q1
  have g3 : (1 ≤ q) = True := eq_true h.q0
  have hg := h.g
  clear h
  cases g
  · clear hg
    go_enter Tryz.func137, Tryz.ntmps137
    go_wp2
    go_ret
    exact ⟨rfl, (Below.refl _ _).alloc (Nat.le_refl _) _⟩
  · obtain ⟨h0, h1, h2, h3⟩ := hg rfl
    simp only at h0 h1 h2 h3
    subst h0 h1 h2 h3
    clear hg
    have he : ∀ w, (Op.equalIn 10000 43 (.agg #[.int .u32 0, .int .u32 0, .int .u32 0, .int .u32 0]) (.agg #[.int .u32 0, .int .u32 0, .int .u32 0, .int .u32 0])).run Tryz.prog w = .ok true w := fun w => by kernel_rfl
    go_enter Tryz.func137, Tryz.ntmps137
    go_wp2
    go_ret
    exact ⟨rfl, (Below.refl _ _).alloc (Nat.le_refl _) _⟩
theorem grow7_calls (w : World) : Calls Tryz.prog 167 #[.slice none 0 0, .int .i64 7] w fun e w' => ∃ cap cur, e = .returned (.slice (some ⟨w.heap.size, 0, none⟩) 0 cap) ∧ 7 ≤ cap ∧ cap ≤ maxLen ∧ cur.size = cap ∧ w' = (w.alloc (.cells cur 38)).drew := by
  obtain ⟨i0, hi, hz0, hz1, hz2⟩ := info_parts info38
  have hr := Lib.run_append_nil_zeros (P := Tryz.prog) w 34 3 34 38 i0 (.int .u32 0) .i64 .i64 Tryz.underlying34 Tryz.underlying3 hi hz0 7 (by decide) (by rw [hz1]; decide) (by decide) (by rw [hz2]; decide)
  have hc : 7 ≤ grownCap w 7 0 38 ∧ grownCap w 7 0 38 ≤ maxLen := ⟨grownCap_ge w 7 0 38, grownCap_le_maxLen w 7 0 38 (by decide)⟩
  have hs : (Builtin.zeroCells (Value.int IntKind.u32 0).cells 7 ++ Builtin.zeroCells (Value.int IntKind.u32 0).cells (grownCap w 7 0 38 - 7)).size = grownCap w 7 0 38 := by
    rw [Array.size_append, size_zeroCells, size_zeroCells]
    show 7 * 1 + (grownCap w 7 0 38 - 7) * 1 = _
    omega
  generalize (Builtin.zeroCells (Value.int IntKind.u32 0).cells 7 ++ Builtin.zeroCells (Value.int IntKind.u32 0).cells (grownCap w 7 0 38 - 7)) = cur at hr hs
  generalize grownCap w 7 0 38 = cap at hr hs hc
  have HR := _root_.Go.Lib.hid (And.intro hr (And.intro hc hs))
  have g1 : 0 ≤ cap := Nat.zero_le _
  clear hr hc hs hi hz0 hz1 hz2
  go_enter Tryz.func167, Tryz.ntmps167
  go_wp2_with (at_builtin; refine Lib.wpList_append_run _ rfl _ _ _ _ rfl _ _ rfl rfl _ _ HR.out.1 ?_)
  go_ret
  obtain ⟨_, hc, hs⟩ := HR.out
  exact ⟨cap, cur, rfl, hc.1, hc.2, hs, rfl⟩
set_option maxRecDepth 100000 in
theorem concat_calls {gs g1 gp g3 c4 : Nat} {x0 x1 x6 : Int} {p : Pg} {w : World} (hs : w.heap[gs]? = some (.cells #[.slice (some ⟨g1, 0, none⟩) 2 2, .slice (some ⟨gp, 3, none⟩) 4 c4, .slice (some ⟨g3, 0, none⟩) 1 1] 34))
    (h1 : w.heap[g1]? = some (.cells #[.int .u32 x0, .int .u32 x1] 38)) (hp : w.heap[gp]? = some (.cells (pgV p) 94)) (h3 : w.heap[g3]? = some (.cells #[.int .u32 x6] 38)) :
    Calls Tryz.prog 138 #[.slice (some ⟨gs, 0, none⟩) 3 3] w fun e w' => ∃ g cap sp, e = .returned (.slice (some ⟨g, 0, none⟩) 7 cap) ∧ 7 ≤ cap ∧ w.heap.size ≤ g ∧ w'.heap[g]? = some (.cells (ints .u32 [x0, x1, p.d0, p.d1, p.d2, p.d3, x6] ++ sp) 38) ∧ Below w.heap.size w w' := by
  obtain ⟨i0, hi, hz0, hz1, hz2⟩ := info_parts info38
  have HI := _root_.Go.Lib.hid (And.intro hi (And.intro hz0 (And.intro hz1 hz2)))
  have m0 : w.cell? ⟨gs, 0, none⟩ = some (.slice (some ⟨g1, 0, none⟩) 2 2) := cell_at hs 0
  have m1 : w.cell? ⟨gs, 1, none⟩ = some (.slice (some ⟨gp, 3, none⟩) 4 c4) := cell_at hs 1
  have m2 : w.cell? ⟨gs, 2, none⟩ = some (.slice (some ⟨g3, 0, none⟩) 1 1) := cell_at hs 2
  have HH := _root_.Go.Lib.hid (And.intro hs (And.intro h1 (And.intro hp h3)))
  clear hi hz0 hz1 hz2 hs h1 hp h3
  go_enter Tryz.func138, Tryz.ntmps138
  go_wp2_with fail
  refine wp_loop_rounds 4 ?_
  rw [rounds_succ]; go_wp2_with fail
  rw [rounds_succ]; go_wp2_with fail
  rw [rounds_succ]; go_wp2_with fail
  rw [rounds_succ]; go_wp2_with fail
  refine (grow7_calls w).mono ?_
  rintro e w1 ⟨cap, cur, rfl, c1, c2, c3, rfl⟩
  have hk : KO w.heap.size w 38 1 (.slice (some ⟨w.heap.size, 0, none⟩) 0 cap) 0 [] [] (w.alloc (.cells cur 38)).drew := ⟨by simp, .inr ⟨_, cap, cur, rfl, by omega, c2, by omega, by simp, ((KW.start (Below.refl _ _) (Nat.le_refl _)).push _).drew⟩⟩
  have HK := _root_.Go.Lib.hid hk
  clear hk c1 c2 c3 m0 m1 m2
  generalize (w.alloc (.cells cur 38)).drew = w1 at HK ⊢
  have old : ∀ {w2 : World} {v n xs} (h : KO w.heap.size w 38 1 v n xs [] w2) {b o}, w.heap[b]? = some o → w2.heap[b]? = some o := fun h _ _ hb => (h.kw.bel.block _ (lt_of_heap hb)).trans hb
  have m : w1.cell? ⟨gs, 0, none⟩ = some (.slice (some ⟨g1, 0, none⟩) 2 2) := cell_at (old HK.out HH.out.1) 0
  have hn := news_mid (off := 0) (m := 2) (news := [.int .u32 x0, .int .u32 x1]) (old HK.out HH.out.2.1) rfl
  have HN := _root_.Go.Lib.hid hn
  clear hn
  go_wp2_with fail
  refine wp_loop_rounds 4 ?_
  rw [rounds_succ]
  go_wp2_with (at_builtin; refine wpList_append_ko rfl _ _ 34 rfl i0 _ 4 Tryz.underlying34 HI.out.1 HI.out.2.1 HI.out.2.2.1 HI.out.2.2.2 rfl (by decide) rfl HK.out ⟨g1, 0, none⟩ 2 2 [.int .u32 x0, .int .u32 x1] rfl rfl HN.out (by simp [Value.oneCell']) (by decide) (by decide) ?_)
  intro v1 w2 hk hnil
  have HK2 := _root_.Go.Lib.hid hk
  clear hk hnil HK HN m
  have HK := HK2
  clear HK2
  go_wp2_with fail
  have m : w2.cell? ⟨gs, 1, none⟩ = some (.slice (some ⟨gp, 3, none⟩) 4 c4) := cell_at (old HK.out HH.out.1) 1
  have hn := news_mid (off := 3) (m := 4) (news := [.int .u32 p.d0, .int .u32 p.d1, .int .u32 p.d2, .int .u32 p.d3]) (old HK.out HH.out.2.2.1) rfl
  have HN := _root_.Go.Lib.hid hn
  clear hn
  rw [rounds_succ]
  go_wp2_with (at_builtin; refine wpList_append_ko rfl _ _ 34 rfl i0 _ 4 Tryz.underlying34 HI.out.1 HI.out.2.1 HI.out.2.2.1 HI.out.2.2.2 rfl (by decide) rfl HK.out ⟨gp, 3, none⟩ 4 c4 [.int .u32 p.d0, .int .u32 p.d1, .int .u32 p.d2, .int .u32 p.d3] rfl rfl HN.out (by simp [Value.oneCell']) (by decide) (by decide) ?_)
  intro v2 w3 hk hnil
  have HK2 := _root_.Go.Lib.hid hk
  clear hk hnil HK HN m
  have HK := HK2
  clear HK2
  go_wp2_with fail
  have m : w3.cell? ⟨gs, 2, none⟩ = some (.slice (some ⟨g3, 0, none⟩) 1 1) := cell_at (old HK.out HH.out.1) 2
  have hn := news_mid (off := 0) (m := 1) (news := [.int .u32 x6]) (old HK.out HH.out.2.2.2) rfl
  have HN := _root_.Go.Lib.hid hn
  clear hn
  rw [rounds_succ]
  go_wp2_with (at_builtin; refine wpList_append_ko rfl _ _ 34 rfl i0 _ 4 Tryz.underlying34 HI.out.1 HI.out.2.1 HI.out.2.2.1 HI.out.2.2.2 rfl (by decide) rfl HK.out ⟨g3, 0, none⟩ 1 1 [.int .u32 x6] rfl rfl HN.out (by simp [Value.oneCell']) (by decide) (by decide) ?_)
  intro v3 w4 hk hnil
  have HK2 := _root_.Go.Lib.hid hk
  clear hk hnil HK HN m
  have HK := HK2
  clear HK2
  go_wp2_with fail
  rw [rounds_succ]
  go_wp2_with fail
  go_ret
  have hk := HK.out
  rcases hk.2 with ⟨_, h0, _⟩ | ⟨g, cap, cur, rfl, hc, _, hs, htake, hkw⟩
  · exact absurd h0 (by decide)
  · refine ⟨g, cap, (cur.toList.drop 7).toArray, rfl, hc, (hkw.kept _ List.mem_cons_self).1, ?_, hkw.bel⟩
    rw [hkw.get List.mem_cons_self]
    congr 2
    apply Array.ext'
    rw [Array.toList_append]
    show cur.toList = _ ++ cur.toList.drop 7
    have e : cur.toList.take (7 * 1) = _ := htake
    rw [← List.take_append_drop 7 cur.toList, show (7 : Nat) = 7 * 1 from rfl, e]
    simp [ints]
end Go.Proofs.YtlcbilknfjdceaaGreatDoor
end
