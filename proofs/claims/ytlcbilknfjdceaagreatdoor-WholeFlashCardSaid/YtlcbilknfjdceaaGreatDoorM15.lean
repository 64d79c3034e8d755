/-
  WholeFlash, part 15 of 44: Counts, Found, Chunk.
-/
import Derived.Deep.WholeRow
import Derived.Deep.LoopGhost
import Derived.Test.YtlcbilknfjdceaaGreatDoorM14
section
/-
  scan.Counts.
-/
set_option linter.unusedVariables false
set_option linter.unusedSimpArgs false
namespace Go.Proofs.YtlcbilknfjdceaaGreatDoor
open Go.RowKit Go.Lib
def zB : Rb := ⟨0, 0, [0, 0, 0, 0, 0, 0, 0, 0], [Pg.z, Pg.z, Pg.z, Pg.z, Pg.z, Pg.z, Pg.z, Pg.z]⟩
theorem zB8 : Rb8 zB := ⟨rfl, rfl⟩
theorem zero140 : ∀ w, (zeroValue 140).run Tryz.prog w = .ok (.agg (rbV zB)) w := fun w => by kernel_rfl
theorem store140_new {b : Rb} (h : Rb8 b) (w : World) : (Instr.storeAt 140 (.pointer (some ⟨w.heap.size, 0, none⟩)) (.agg (rbV b))).run Tryz.prog (w.alloc (.cells (rbV zB) 140)) = .ok () (w.alloc (.cells (rbV b) 140)) :=
  run_storeAt_new w 140 (rbV zB) (rbV b) (by rw [size140, rbV_size h]) (by rw [rbV_size h, rbV_size zB8]) (by have := rbV_one b; rw [List.all_eq_true] at this; rw [Array.all_eq_true_iff_forall_mem]; intro v hv; exact this v (by simpa using hv))
set_option maxRecDepth 100000 in
theorem counts_calls {g c : Nat} {bs : List Rb} {sp : List Value} {w : World} {M : Int} (hg : w.heap[g]? = some (.cells (rowV bs ++ sp).toArray 140)) (hl : bs.length = 5) (h8 : ∀ b ∈ bs, Rb8 b) (hc : ∀ b ∈ bs, 0 ≤ b.count ∧ b.count ≤ M) (hM : 0 ≤ M) :
    Calls Tryz.prog 55 #[.slice (some ⟨g, 0, none⟩) 5 c] w fun e w' => (∃ n, e = .returned (.int .u32 n) ∧ 0 ≤ n ∧ n ≤ M) ∧ Below w.heap.size w w' := by
  have HH := _root_.Go.Lib.hid (And.intro hg (And.intro hl (And.intro h8 hc)))
  have hz := zero140
  clear hg hl h8 hc
  go_enter Tryz.func55, Tryz.ntmps55
  go_wp2_with fail
  go_loopg [2, 7] 5 (fun k s2 s7 wr => ∃ (j : Nat) (n : Int), j + k = 5 ∧ s7 = .int .i64 (j : Int) ∧ s2 = .int .u32 n ∧ 0 ≤ n ∧ n ≤ M ∧ Below w.heap.size w wr)
  case atStart => exact ⟨0, 0, by omega, rfl, rfl, by omega, hM, Below.refl _ _⟩
  case round =>
    obtain ⟨j, n, hj, rfl, rfl, hn0, hn1, hb⟩ := hrel
    by_cases h5 : j < 5
    · obtain ⟨b, hbe⟩ : ∃ b, b = bs.getD j default := ⟨_, rfl⟩
      have hbm : b ∈ bs := by
        rw [hbe, List.getD_eq_getElem?_getD, List.getElem?_eq_getElem (by rw [HH.out.2.1]; exact h5)]
        exact List.getElem_mem _
      have h8 := HH.out.2.2.1 b hbm
      have hcb := HH.out.2.2.2 b hbm
      have hld := load140 h8 (o := j * 66) ((hb.block g (lt_of_heap HH.out.1)).trans HH.out.1) (by rw [hbe]; exact rowV_at HH.out.2.2.1 (by rw [HH.out.2.1]; exact h5) sp)
      have hst := store140_new h8 wr
      have m0 := rbV_head b
      have m1 := rbV_count b
      have HX := _root_.Go.Lib.hid (And.intro hld (And.intro hst (And.intro hb (And.intro hj hcb))))
      have e66 : 66 * j = j * 66 := Nat.mul_comm _ _
      clear hld hst hb hj hcb hbe hbm h8
      go_wp2_with (first | ((with_reducible apply Mem.ld 140); rfl; exact HX.out.1) | ((with_reducible apply Mem.st 140); rfl; rfl; exact HX.out.2.1))
      all_goals
        obtain ⟨_, _, hb, hj, hcb⟩ := HX.out
        go_roundg (5 - (j + 1))
        case measure => omega
        case rel => exact ⟨j + 1, _, by omega, by first | rfl | go_num, rfl, by omega, by omega, hb.alloc hb.size _⟩
    · have e : j = 5 := by omega
      subst e
      have HX := _root_.Go.Lib.hid (And.intro hn0 (And.intro hn1 hb))
      clear hj hb hn0 hn1
      go_wp2_with fail
      go_ret
      exact ⟨⟨n, rfl, HX.out.1, HX.out.2.1⟩, HX.out.2.2⟩
end Go.Proofs.YtlcbilknfjdceaaGreatDoor
end
section
/-
  scan.found of a block whose words are all ones.
-/
set_option linter.unusedVariables false
set_option linter.unusedSimpArgs false
namespace Go.Proofs.YtlcbilknfjdceaaGreatDoor
open Go.RowKit Go.Lib
attribute [local go_sem] Oper.semAt_some
theorem split_at {α : Type} (l : List α) (j : Nat) (h : j < l.length) : l = l.take j ++ l[j] :: l.drop (j + 1) := by rw [List.getElem_cons_drop, List.take_append_drop]
theorem take_one {α : Type} (l : List α) (j : Nat) (h : j < l.length) : l.take (j + 1) = l.take j ++ [l[j]] := List.take_succ_eq_append_getElem h
def encPg (g o c : Nat) (i : Nat) : Array Value := #[.int .i64 (i : Int), .slice (some ⟨g, o + (4 + 7 * i), none⟩) 7 (c - (4 + 7 * i))]
abbrev pagesK (bx g o c : Nat) : Blocks := [(bx, boxO (.slice (some ⟨g, o, none⟩) 64 c) 34)]
set_option maxRecDepth 100000 in
theorem pages_iter {bx g o c : Nat} (hc : 64 ≤ c) : Iter 155 #[.pointer (some ⟨bx, 0, none⟩)] (encPg g o c) (pagesK bx g o c) (List.range 8) := by
  intro n B W0 σ R Rx KK l hY K0 W hJ
  have hJJ : ∀ {pre W}, Jn R KK B W0 pre (pagesK bx g o c ++ K0) W → W.cell? ⟨bx, 0, none⟩ = some (.slice (some ⟨g, o, none⟩) 64 c) := by
    rintro pre W ⟨s, _, hk⟩
    exact cell_at (hk.get (g := bx) (o := boxO (.slice (some ⟨g, o, none⟩) 64 c) 34) (by simp)) 0
  have HJ := _root_.Go.Lib.hid (And.intro hJ (And.intro hY trivial))
  clear hJ hY
  refine callsIn_of_wp Tryz.func155 rfl trivial ?_ rfl
  simp only [Tryz.ntmps155, List.size_toArray, List.length_cons, List.length_nil, Nat.reduceAdd, Nat.reduceSub, Array.replicate_succ, Array.replicate_zero, List.push_toArray, List.append_toArray, List.nil_append, List.cons_append]
  gi_wp2
  gi_loopw [5] (fun p wr => ∃ j : Nat, j ≤ 8 ∧ p = .int .i64 (j : Int) ∧ Jn R KK B W0 ((List.range 8).take j) (pagesK bx g o c ++ K0) wr) (fun p _ => 8 - (intOf p).toNat)
  case atStart => exact ⟨0, by omega, rfl, HJ.out.1⟩
  case round =>
    obtain ⟨j, hj, rfl, hJ⟩ := hrel
    by_cases h8 : j < 8
    · have hs : List.range 8 = (List.range 8).take j ++ j :: (List.range 8).drop (j + 1) := by
        have := split_at (List.range 8) j (by simpa using h8)
        rwa [List.getElem_range] at this
      obtain ⟨fn, tmps, assign, body, hy, hR⟩ := HJ.out.2.1 _ _ _ K0 wr hs hJ
      have m0 := hJJ hJ
      have e7 : (List.range 8).take (j + 1) = (List.range 8).take j ++ [j] := by
        have := take_one (List.range 8) j (by simpa using h8)
        rwa [List.getElem_range] at this
      rw [← e7] at hR
      have HE := _root_.Go.Lib.hid (And.intro hs (And.intro e7 h8))
      have b1 : 4 + 7 * j ≤ 4 + 7 * j + 7 := by omega
      have b2 : 4 + 7 * j + 7 ≤ c := by omega
      have b3 : (c = 4 + 7 * j) = False := eq_false (by omega)
      have b4 : 4 + 7 * j + 7 - (4 + 7 * j) = 7 := by omega
      simp only [encPg] at hy
      clear hs e7 hJ
      have hc36 : Calls Tryz.prog 36 #[.int .i64 0, .int .i64 (j : Int)] wr fun e w' => e = .returned (.int .i64 ((4 + 7 * j : Nat) : Int)) ∧ wr = w' := by
        have := at_calls 0 j (by decide) h8 wr
        rw [Nat.mul_zero, Nat.zero_add] at this
        exact this
      have HC := _root_.Go.Lib.hid hc36
      clear hc36
      have b5 : 4 + 7 * j ≤ 53 := by omega
      generalize 4 + 7 * j = p at hy b1 b2 b3 b4 b5 HC
      have b6 : (p : Int) ≤ 53 := by omega
      gi_wp2_with fail
      refine ⟨trivial, ?_⟩
      refine (callsIn_wide.2 HC.out).mono ?_
      rintro e w' ⟨rfl, rfl⟩
      gi_wp2
      rw [b4]
      refine hR.mono ?_
      rintro e W3 (⟨rfl, hJ3⟩ | ⟨rfl, hJ3⟩)
      · gi_wp2
        go_roundw
        case rel => exact ⟨j + 1, by omega, by first | rfl | go_num, hJ3⟩
        case measure => simp [intOf]; omega
      · gi_wp2
        refine bodyPost_ret (results_none rfl _ _ _) rfl ?_
        exact ⟨⟨_, rfl⟩, .inr ⟨_, j, _, HE.out.1, by rw [← HE.out.2.1]; exact hJ3⟩⟩
    · have e : j = 8 := by omega
      subst e
      have HJ8 := _root_.Go.Lib.hid hJ
      clear hJ
      gi_wp2
      go_end0
      refine ⟨⟨_, rfl⟩, .inl ?_⟩
      have := HJ8.out
      rwa [List.take_of_length_le (by simp)] at this
theorem pages_calls {w : World} {g o n c : Nat} : Calls Tryz.prog 123 #[.slice (some ⟨g, o, none⟩) n c] w fun e w' => e = .returned (.func (.func 155) #[] #[.pointer (some ⟨w.heap.size, 0, none⟩)]) ∧ w' = w.alloc (boxO (.slice (some ⟨g, o, none⟩) n c) 34) := by
  go_enter Tryz.func123, Tryz.ntmps123
  go_wp2
  go_ret
  exact ⟨rfl, rfl⟩
def torn (j : Nat) : Rb := ⟨0, 0, List.replicate j 2 ++ List.replicate (8 - j) 0, [Pg.z, Pg.z, Pg.z, Pg.z, Pg.z, Pg.z, Pg.z, Pg.z]⟩
theorem torn8 {j : Nat} (h : j ≤ 8) : Rb8 (torn j) := ⟨by simp [torn]; omega, rfl⟩
theorem rbV_set {b : Rb} (hk : b.kinds.length = 8) {j : Nat} (hj : j < 8) (v : Int) : (rbV b).setIfInBounds (2 + j) (.int .i64 v) = rbV { b with kinds := b.kinds.set j v } := by
  unfold rbV
  apply Array.ext'
  rw [Array.toList_setIfInBounds, Array.toList_append, Array.toList_append, Array.toList_append, Array.toList_append, List.set_append_right _ _ (by simp), show 2 + j - (#[Value.int .i64 b.head, .int .u32 b.count] : Array Value).toList.length = j by simp, List.set_append_left _ _ (by simp [ints]; omega)]
  simp [ints, List.map_set]
theorem torn_set {j : Nat} (h : j < 8) : (rbV (torn j)).setIfInBounds (2 + j) (.int .i64 2) = rbV (torn (j + 1)) := by
  rw [rbV_set (torn8 (by omega)).k8 h]
  have e : (torn j).kinds.set j 2 = (torn (j + 1)).kinds := by
    match j, h with
    | 0, _ => rfl
    | 1, _ => rfl
    | 2, _ => rfl
    | 3, _ => rfl
    | 4, _ => rfl
    | 5, _ => rfl
    | 6, _ => rfl
    | 7, _ => rfl
  rw [e]
  rfl
theorem torn0 : torn 0 = zB := rfl
theorem torn_end : torn 8 = noneB := rfl
theorem store140 {b b' : Rb} (h : Rb8 b) (h' : Rb8 b') {w : World} {g : Nat} (hg : w.heap[g]? = some (.cells (rbV b) 140)) : (Instr.storeAt 140 (.pointer (some ⟨g, 0, none⟩)) (.agg (rbV b'))).run Tryz.prog w = .ok () (w.setRow g (rbV b')) :=
  Mem.run_storeAt_part hg (by rw [size140, rbV_size h']) (by rw [rbV_size h, rbV_size h']; exact Nat.le_refl _) (rbV_one b') (by
    apply Array.ext'
    rw [rbV_size h', Nat.zero_add, List.drop_of_length_le (by rw [Array.length_toList, rbV_size h]; exact Nat.le_refl _)]
    simp) rfl
set_option maxRecDepth 100000 in
theorem found_calls {g o c : Nat} {w : World} (hc : 64 ≤ c) (h1 : Ones4 w g o) : Calls Tryz.prog 87 #[.slice (some ⟨g, o, none⟩) 64 c] w fun e w' => e = .returned (.agg (rbV noneB)) ∧ Below w.heap.size w w' := by
  have hg : g < w.heap.size := World.block_lt_of_cell? w _ h1.a
  have hz := zero140
  have hcc := count_ones (c := c) (w := w.alloc (.cells (rbV zB) 140)) (g := g) (o := o) ⟨cal _ h1.a, cal _ h1.b, cal _ h1.c, cal _ h1.d⟩
  have hk := (KW.start (Below.refl w.heap.size w) (Nat.le_refl _)).push (.cells (rbV zB) 140)
  have HC := _root_.Go.Lib.hid (And.intro hcc (And.intro hk trivial))
  have b1 : 4 ≤ c := by omega
  have b2 : (c = 0) = False := eq_false (by omega)
  clear hcc hk h1
  refine (callsIn_wide (n := 9)).1 ?_
  refine callsIn_of_wp_marks Tryz.func87 rfl trivial ?_ rfl
  simp only [Tryz.ntmps87, List.size_toArray, List.length_cons, List.length_nil, Nat.reduceAdd, Nat.reduceSub, Array.replicate_succ, Array.replicate_zero, List.push_toArray, List.append_toArray, List.nil_append, List.cons_append]
  gi_wp2_with fail
  refine ⟨trivial, ?_⟩
  refine (callsIn_wide.2 HC.out.1).mono ?_
  rintro e w' ⟨rfl, rfl⟩
  have hk := HC.out.2.1
  generalize w.alloc (.cells (rbV zB) 140) = w1 at hk HC ⊢
  generalize hrb : w.heap.size = rb at hk ⊢
  have m0 : w1.cell? ⟨rb, 0, none⟩ = some (.int .i64 0) := cell_at (hk.get (g := rb) (o := .cells (rbV zB) 140) (by simp)) 0
  have m1 : w1.cell? ⟨rb, 1, none⟩ = some (.int .u32 0) := cell_at (hk.get (g := rb) (o := .cells (rbV zB) 140) (by simp)) 1
  have f0 : w1.frozen? ⟨rb, 0, none⟩ = false := free_at (hk.get (g := rb) (o := .cells (rbV zB) 140) (by simp)) 0
  have f1 : w1.frozen? ⟨rb, 1, none⟩ = false := free_at (hk.get (g := rb) (o := .cells (rbV zB) 140) (by simp)) 1
  have hk2 : KW rb w [(rb, .cells (rbV (torn 0)) 140)] ((w1.setCell ⟨rb, 1, none⟩ (.int .u32 0)).setCell ⟨rb, 0, none⟩ (.int .i64 0)) := KW.cell (KW.cell (vs := rbV zB) hk rfl) rfl
  have HK := _root_.Go.Lib.hid (And.intro hk2 (And.intro hrb hc))
  clear hk hk2 HC hrb hc
  gi_wp2_with fail
  have hk2 := HK.out.1
  generalize World.setCell _ _ _ = w2 at hk2 ⊢
  clear m0 m1 f0 f1
  refine ⟨trivial, ?_⟩
  refine (callsIn_wide.2 pages_calls).mono ?_
  rintro e w3 ⟨rfl, rfl⟩
  have hk3 := hk2.push (boxO (.slice (some ⟨g, o, none⟩) 64 c) 34)
  generalize w2.heap.size = bx at hk3 ⊢
  generalize w2.alloc _ = w3 at hk3 ⊢
  have HK3 := _root_.Go.Lib.hid hk3
  clear hk2 hk3
  gi_wp2_with fail
  refine wpIn_range_kw (n := 7) (gf := 155) (lb := #[.pointer (some ⟨bx, 0, none⟩)]) rfl (enters_of Tryz.func155 (by kernel_rfl) rfl) (pages_iter (bx := bx) (g := g) (o := o) HK.out.2.2) (fun _ => rfl)
    (fun pre (j : Nat) => j = pre.length) (fun _ _ _ => False) (fun j => [(rb, .cells (rbV (torn j)) 140)])
    (fun i a' Kx => Kx = [] ∧ a' = { tmps := #[.slice (some ⟨g, o, none⟩) 64 c, undef, .pointer (some ⟨rb, 0, none⟩), .int .i64 (i : Int), .slice (some ⟨g, o + (4 + 7 * i), none⟩) 7 (c - (4 + 7 * i)), .tuple #[.int .u32 0, .int .i64 0], .slice (some ⟨g, o, none⟩) 64 c, .slice (some ⟨g, o, none⟩) 4 c, .tuple #[.int .u32 0, .int .i64 0], .int .u32 0, .int .i64 0, .pointer (some ⟨rb, 1, none⟩), .pointer (some ⟨rb, 0, none⟩), .slice (some ⟨g, o, none⟩) 64 c, .func (.func 155) #[] #[.pointer (some ⟨bx, 0, none⟩)], .int .i64 (i : Int), .slice (some ⟨g, o + (4 + 7 * i), none⟩) 7 (c - (4 + 7 * i)), undef, undef, undef, undef, undef, undef, undef, undef, undef, undef, undef, undef, undef, undef, undef, undef, undef, undef], defers := [] }) (K0 := []) ⟨0, rfl, HK3.out⟩ ?assign ?body ?done ?stop
  case assign =>
    rintro l i pre K1 s W hk
    have HK := _root_.Go.Lib.hid hk
    clear hk
    simp only [encPg]
    gi_wp2
    exact ⟨[], by simp, HK.out⟩
  case body =>
    rintro l pre i post a' Kx K1 s W hf ⟨rfl, rfl⟩ rfl _ hk
    have hi : i = pre.length ∧ i < 8 := by
      have h8 : i ∈ List.range 8 := by rw [hf]; simp
      have : (List.range 8)[pre.length]? = some i := by rw [hf]; simp
      have hlt : pre.length < 8 := by have := congrArg List.length hf; simp at this; omega
      rw [List.getElem?_range hlt] at this
      injection this with this
      exact ⟨this.symm, by omega⟩
    obtain ⟨hi, i8⟩ := hi
    rw [← hi] at hk
    have t8 := torn8 (j := i) (by omega)
    have m0 : W.cell? ⟨rb, 0, none⟩ = some (.int .i64 0) := by rw [cell_at (hk.get (g := rb) (o := .cells (rbV (torn i)) 140) (by simp)) 0]; exact rbV_head (torn i)
    have mi : W.cell? ⟨rb, 2 + i, none⟩ = some (.int .i64 ((torn i).kinds.getD i 0)) := by rw [cell_at (hk.get (g := rb) (o := .cells (rbV (torn i)) 140) (by simp)) (2 + i)]; exact rbV_kind t8.k8 i i8
    have fi : W.frozen? ⟨rb, 2 + i, none⟩ = false := free_at (hk.get (g := rb) (o := .cells (rbV (torn i)) 140) (by simp)) (2 + i)
    have hs : KW rb w (pagesK bx g o c ++ ([] ++ K1) ++ [(rb, .cells (rbV (torn (i + 1))) 140)]) (W.setCell ⟨rb, 2 + i, none⟩ (.int .i64 2)) :=
      KW.into (p := (rb, .cells (rbV (torn (i + 1))) 140)) (KW.cell (hk.perm List.perm_middle) (torn_set i8))
    have m0' : (W.setCell ⟨rb, 2 + i, none⟩ (.int .i64 2)).cell? ⟨rb, 0, none⟩ = some (.int .i64 0) := by rw [cell_at (hs.get (g := rb) (o := .cells (rbV (torn (i + 1))) 140) (by simp)) 0]; exact rbV_head (torn (i + 1))
    generalize (torn i).kinds.getD i 0 = y at mi
    have HS := _root_.Go.Lib.hid (And.intro hs hi)
    clear hs hk hf hi t8
    gi_wp2
    exact ⟨i + 1, by have := HS.out.2; simp; omega, HS.out.1⟩
  case done =>
    rintro D s W rfl hk
    rw [List.length_range, torn_end] at hk
    have n8 : Rb8 noneB := ⟨rfl, rfl⟩
    have hg := hk.get (g := rb) (o := .cells (rbV noneB) 140) (by simp)
    have hld := load140_0 n8 hg
    have hst := store140 n8 n8 hg
    have hs : KW rb w ((D, .deferred (some [])) :: (pagesK bx g o c ++ []) ++ [(rb, .cells (rbV noneB) 140)]) (W.setRow rb (rbV noneB)) := KW.into (p := (rb, .cells (rbV noneB) 140)) (KW.row (hk.perm List.perm_middle))
    have HS := _root_.Go.Lib.hid (And.intro hs (And.intro hld hst))
    clear hs hld hst hk hg
    gi_wp2_with (first | ((with_reducible apply Mem.ldIn 140); rfl; exact HS.out.2.1) | ((with_reducible apply Mem.stIn 140); rfl; rfl; exact HS.out.2.2))
    have h2 := HS.out.1
    generalize W.setRow _ _ = W2 at h2 ⊢
    refine ⟨by simp, .inl ⟨_, _, rfl, run_takeDeferred (h2.get (g := D) (o := .deferred (some [])) (by simp)), ?_⟩⟩
    have h3 : KW rb w _ (W2.putObj D (.deferred none)) := KW.putMid (L := []) h2
    have hg2 := h3.get (g := rb) (o := .cells (rbV noneB) 140) (by simp)
    have hb := h3.bel
    rw [← HK.out.2.1] at hb
    exact ⟨.agg (rbV noneB), results_cell_row (P := Tryz.prog) (fn := Tryz.f87) (p := 2) (ty := 140) rfl _ _ rb 140 (rbV noneB) (0, 0) _ rfl hg2 Tryz.underlying140 rfl (by rw [size140, rbV_size n8]), rfl, hb⟩
  case stop =>
    rintro D c pre x post s W hf h hk
    exact h.elim
end Go.Proofs.YtlcbilknfjdceaaGreatDoor
end
section
/-
  slices.Chunk of words.
-/
set_option linter.unusedVariables false
set_option linter.unusedSimpArgs false
namespace Go.Proofs.YtlcbilknfjdceaaGreatDoor
open Go.RowKit Go.Lib
attribute [local go_sem] Oper.semAt_some
def encCh (g : Nat) (j : Nat) : Array Value := #[.slice (some ⟨g, 64 * j, none⟩) 64 64]
abbrev chunkK (b1 b2 g c : Nat) : Blocks := [(b1, boxO (.slice (some ⟨g, 0, none⟩) 320 c) 34), (b2, boxO (.int .i64 64) 3)]
set_option maxHeartbeats 2000000 in
set_option maxRecDepth 100000 in
theorem chunk_iter {b1 b2 g c : Nat} (hc : 320 ≤ c) : Iter 121 #[.pointer (some ⟨b1, 0, none⟩), .pointer (some ⟨b2, 0, none⟩)] (encCh g) (chunkK b1 b2 g c) (List.range 5) := by
  intro n B W0 σ R Rx KK l hY K0 W hJ
  have hJJ : ∀ {pre W}, Jn R KK B W0 pre (chunkK b1 b2 g c ++ K0) W → W.cell? ⟨b1, 0, none⟩ = some (.slice (some ⟨g, 0, none⟩) 320 c) ∧ W.cell? ⟨b2, 0, none⟩ = some (.int .i64 64) := by
    rintro pre W ⟨s, _, hk⟩
    exact ⟨cell_at (hk.get (g := b1) (o := boxO (.slice (some ⟨g, 0, none⟩) 320 c) 34) (by simp)) 0, cell_at (hk.get (g := b2) (o := boxO (.int .i64 64) 3) (by simp)) 0⟩
  have hdr : ∀ {pre W}, Jn R KK B W0 pre (chunkK b1 b2 g c ++ K0) W → Jn R KK B W0 pre (chunkK b1 b2 g c ++ K0) W.drew := fun ⟨s, hs, hk⟩ => ⟨s, hs, hk.drew⟩
  have mixed : Tryz.prog.follows .mixedOrders = true := by kernel_rfl
  have HJ := _root_.Go.Lib.hid (And.intro hJ (And.intro hY trivial))
  clear hJ hY
  refine callsIn_of_wp Tryz.func121 rfl trivial ?_ rfl
  simp only [Tryz.ntmps121, List.size_toArray, List.length_cons, List.length_nil, Nat.reduceAdd, Nat.reduceSub, Array.replicate_succ, Array.replicate_zero, List.push_toArray, List.append_toArray, List.nil_append, List.cons_append]
  gi_wp2
  gi_loopw [4] (fun p wr => ∃ j : Nat, j ≤ 5 ∧ p = .int .i64 ((64 * j : Nat) : Int) ∧ Jn R KK B W0 ((List.range 5).take j) (chunkK b1 b2 g c ++ K0) wr) (fun p _ => 320 - (intOf p).toNat)
  case atStart => exact ⟨0, by omega, rfl, HJ.out.1⟩
  case round =>
    obtain ⟨j, hj, rfl, hJ⟩ := hrel
    by_cases h8 : j < 5
    · have hs : List.range 5 = (List.range 5).take j ++ j :: (List.range 5).drop (j + 1) := by
        have := split_at (List.range 5) j (by simpa using h8)
        rwa [List.getElem_range] at this
      obtain ⟨fn, tmps, assign, body, hy, hR⟩ := HJ.out.2.1 _ _ _ K0 wr.drew hs (hdr hJ)
      have m0 := hJJ hJ
      obtain ⟨m1, m2⟩ := m0
      have e7 : (List.range 5).take (j + 1) = (List.range 5).take j ++ [j] := by
        have := take_one (List.range 5) j (by simpa using h8)
        rwa [List.getElem_range] at this
      rw [← e7] at hR
      simp only [encCh] at hy
      obtain ⟨p, hp⟩ : ∃ p, p = 64 * j := ⟨_, rfl⟩
      rw [← hp] at hy
      have e9 : 64 * (j + 1) = p + 64 := by omega
      have HE := _root_.Go.Lib.hid (And.intro hs (And.intro e7 (And.intro h8 (And.intro hp e9))))
      have q1 : p + 64 ≤ 320 := by omega
      have q2 : (p : Int) + 64 ≤ 320 := by omega
      have q3 : (c = p) = False := eq_false (by omega)
      have q4 : p + 64 - p = 64 := by omega
      have q5 : p ≤ 320 := by omega
      have q6 : p ≤ p + 64 := by omega
      have q7 : (p + 64 = p) = False := eq_false (by omega)
      have q8 : p + 64 ≤ c := by omega
      have q9 : p < 320 := by omega
      have q10 : (((320 - p : Nat) : Int) < 64) = False := eq_false (by omega)
      rw [← hp]
      clear hs e7 hJ hp e9
      gi_wp2_with fail
      gi_region_with_o (fail)
      all_goals
        gi_wp2
        rw [q4]
        refine hR.mono ?_
        rintro e W3 (⟨rfl, hJ3⟩ | ⟨rfl, hJ3⟩)
        · have m3 := (hJJ hJ3).2
          gi_wp2
          go_roundw
          case rel => exact ⟨j + 1, by have := HE.out.2.2.1; omega, by rw [HE.out.2.2.2.2]; first | rfl | go_num, hJ3⟩
          case measure => simp [intOf]; omega
        · gi_wp2
          refine bodyPost_ret (results_none rfl _ _ _) rfl ?_
          exact ⟨⟨_, rfl⟩, .inr ⟨_, j, _, HE.out.1, by rw [← HE.out.2.1]; exact hJ3⟩⟩
    · have e : j = 5 := by omega
      subst e
      have m1 := (hJJ hJ).1
      have HJ8 := _root_.Go.Lib.hid hJ
      clear hJ
      gi_wp2
      go_end0
      refine ⟨⟨_, rfl⟩, .inl ?_⟩
      have := HJ8.out
      rwa [List.take_of_length_le (by simp)] at this
theorem chunk_calls {w : World} {g c : Nat} : Calls Tryz.prog 86 #[.slice (some ⟨g, 0, none⟩) 320 c, .int .i64 64] w fun e w' => e = .returned (.func (.func 121) #[] #[.pointer (some ⟨w.heap.size, 0, none⟩), .pointer (some ⟨w.heap.size + 1, 0, none⟩)]) ∧ w' = (w.alloc (boxO (.slice (some ⟨g, 0, none⟩) 320 c) 34)).alloc (boxO (.int .i64 64) 3) := by
  go_enter Tryz.func86, Tryz.ntmps86
  go_wp2
  go_ret
  exact ⟨rfl, rfl⟩
end Go.Proofs.YtlcbilknfjdceaaGreatDoor
end
