/-
  WholeFlash, part 13 of 44: Pagew, Pagec.
-/
import Derived.Deep.RegionHeld3
import Derived.Deep.RegionWith
import Derived.Deep.Cut
import Derived.LoopN
import Derived.Test.YtlcbilknfjdceaaGreatDoorM12
section
/-
  Pages: the words of one.
-/
set_option linter.unusedVariables false
set_option linter.unusedSimpArgs false
namespace Go.Proofs.YtlcbilknfjdceaaGreatDoor
open Go.RowKit Go.Lib
theorem or_top (s : Int) (h0 : 0 ≤ s) (h1 : s < 512) : bits .or .u32 s 2147483648 = s + 2147483648 := by
  rw [u32_or s 2147483648 h0 (by omega) (by decide) (by decide)]
  obtain ⟨n, rfl⟩ := Int.eq_ofNat_of_zero_le h0
  have : (n ||| 2147483648 : Nat) = n + 2147483648 := by
    have := Nat.two_pow_add_eq_or_of_lt (i := 31) (b := n) (by omega) 1
    rw [Nat.or_comm]
    simp only [Nat.reducePow, Nat.mul_one] at this
    omega
  simp only [Int.toNat_natCast]
  have e : (2147483648 : Int).toNat = 2147483648 := rfl
  rw [e, this]
  omega
theorem cal {w : World} {a : Addr} {v : Value} (o : Obj) (h : w.cell? a = some v) : (w.alloc o).cell? a = some v := by
  have hb : (w.alloc o).heap[a.block]? = w.heap[a.block]? := Below.heap_alloc w o a.block (World.block_lt_of_cell? w a h)
  rw [World.cell?_of_block hb]
  exact h
theorem cald {w : World} {a : Addr} {v : Value} (o : Obj) (h : w.cell? a = some v) : (w.alloc o).drew.cell? a = some v := cal o h
theorem keepB {w w' : World} {a : Addr} {v : Value} (hb : Below w.heap.size w w') (h : w.cell? a = some v) : w'.cell? a = some v := (hb.cell (World.block_lt_of_cell? w a h)).trans h
def ConcatTo (w : World) (l : List Int) (e : Ending) (w' : World) : Prop := ∃ g cap sp, e = .returned (.slice (some ⟨g, 0, none⟩) 7 cap) ∧ 7 ≤ cap ∧ w.heap.size ≤ g ∧ w'.heap[g]? = some (.cells (ints .u32 l ++ sp) 38) ∧ Below w.heap.size w w'
theorem concat_of {w w2 : World} {gs : Nat} {l : List Int} (hb : Below w.heap.size w w2) (hs : w.heap.size ≤ w2.heap.size) (h : Calls Tryz.prog 138 #[.slice (some ⟨gs, 0, none⟩) 3 3] w2 fun e w' => ∃ g cap sp, e = .returned (.slice (some ⟨g, 0, none⟩) 7 cap) ∧ 7 ≤ cap ∧ w2.heap.size ≤ g ∧ w'.heap[g]? = some (.cells (ints .u32 l ++ sp) 38) ∧ Below w2.heap.size w2 w') :
    Calls Tryz.prog 138 #[.slice (some ⟨gs, 0, none⟩) 3 3] w2 (ConcatTo w l) := h.mono fun e w' ⟨g, cap, sp, a, b, c, d, f⟩ => ⟨g, cap, sp, a, b, Nat.le_trans hs c, d, hb.trans (f.mono hs)⟩
theorem heap3 {w : World} {A B C : Obj} : (((w.alloc A).alloc B).alloc C).drew.heap[w.heap.size]? = some A ∧ (((w.alloc A).alloc B).alloc C).drew.heap[w.heap.size + 1]? = some B ∧ (((w.alloc A).alloc B).alloc C).drew.heap[w.heap.size + 1 + 1]? = some C ∧ (∀ (k : Nat) (o : Obj), w.heap[k]? = some o → (((w.alloc A).alloc B).alloc C).drew.heap[k]? = some o) ∧ Below w.heap.size w (((w.alloc A).alloc B).alloc C).drew ∧ (((w.alloc A).alloc B).alloc C).drew.heap.size = w.heap.size + 1 + 1 + 1 := by
  have a1 := heap_alloc_new w A
  have a2 := heap_alloc_new (w.alloc A) B
  have a3 := heap_alloc_new ((w.alloc A).alloc B) C
  have o2 := fun k h => Below.heap_alloc (w.alloc A) B k h
  have o3 := fun k h => Below.heap_alloc ((w.alloc A).alloc B) C k h
  simp only [World.size_alloc] at a2 a3 o2 o3
  refine ⟨?_, ?_, a3, fun k o h => ?_, ?_, ?_⟩
  · exact (o3 _ (by omega)).trans ((o2 _ (by omega)).trans a1)
  · exact (o3 _ (by omega)).trans a2
  · have hk := lt_of_heap h
    exact (o3 _ (by omega)).trans ((o2 _ (by omega)).trans ((Below.heap_alloc w A k hk).trans h))
  · exact ((((Below.refl _ _).alloc (Nat.le_refl _) _).alloc (by simp) _).alloc (by simp; omega) _).drew
  · show (((w.alloc A).alloc B).alloc C).heap.size = _
    simp only [World.size_alloc]
theorem concat_a {w : World} {gp : Nat} {p : Pg} (x0 x1 x6 : Int) (hp : w.heap[gp]? = some (.cells (pgV p) 94)) :
    Calls Tryz.prog 138 #[.slice (some ⟨w.heap.size + 1 + 1, 0, none⟩) 3 3] (((w.alloc (.cells #[.int .u32 x0, .int .u32 x1] 38)).alloc (.cells #[.int .u32 x6] 38)).alloc (.cells #[.slice (some ⟨w.heap.size, 0, none⟩) 2 2, .slice (some ⟨gp, 3, none⟩) 4 4, .slice (some ⟨w.heap.size + 1, 0, none⟩) 1 1] 34)).drew (ConcatTo w [x0, x1, p.d0, p.d1, p.d2, p.d3, x6]) := by
  obtain ⟨a1, a2, a3, a4, a5, a6⟩ := heap3 (w := w) (A := .cells #[.int .u32 x0, .int .u32 x1] 38) (B := .cells #[.int .u32 x6] 38) (C := .cells #[.slice (some ⟨w.heap.size, 0, none⟩) 2 2, .slice (some ⟨gp, 3, none⟩) 4 4, .slice (some ⟨w.heap.size + 1, 0, none⟩) 1 1] 34)
  exact concat_of a5 (by omega) (concat_calls a3 a1 (a4 _ _ hp) a2)
theorem concat_b {w : World} {gp : Nat} {p : Pg} (x0 x1 x6 : Int) (hp : w.heap[gp]? = some (.cells (pgV p) 94)) :
    Calls Tryz.prog 138 #[.slice (some ⟨w.heap.size + 1 + 1, 0, none⟩) 3 3] (((w.alloc (.cells #[.int .u32 x6] 38)).alloc (.cells #[.int .u32 x0, .int .u32 x1] 38)).alloc (.cells #[.slice (some ⟨w.heap.size + 1, 0, none⟩) 2 2, .slice (some ⟨gp, 3, none⟩) 4 4, .slice (some ⟨w.heap.size, 0, none⟩) 1 1] 34)).drew (ConcatTo w [x0, x1, p.d0, p.d1, p.d2, p.d3, x6]) := by
  obtain ⟨a1, a2, a3, a4, a5, a6⟩ := heap3 (w := w) (A := .cells #[.int .u32 x6] 38) (B := .cells #[.int .u32 x0, .int .u32 x1] 38) (C := .cells #[.slice (some ⟨w.heap.size + 1, 0, none⟩) 2 2, .slice (some ⟨gp, 3, none⟩) 4 4, .slice (some ⟨w.heap.size, 0, none⟩) 1 1] 34)
  exact concat_of a5 (by omega) (concat_calls a3 a2 (a4 _ _ hp) a1)
set_option maxRecDepth 100000 in
theorem words_page_calls (p : Pg) (h : p.Right) (w : World) : Calls Tryz.prog 99 #[.agg (pgV p)] w fun e w' => ∃ g cap sp, e = .returned (.slice (some ⟨g, 0, none⟩) 7 cap) ∧ 7 ≤ cap ∧ w.heap.size ≤ g ∧ w'.heap[g]? = some (.cells (ints .u32 (pgW p) ++ sp) 38) ∧ Below w.heap.size w w' := by
  have hc := right_calls p h (w.alloc (.cells (pgV p) 94))
  have ho := or_top p.sec h.s0 h.s1
  have HC := _root_.Go.Lib.hid (And.intro hc h)
  clear hc h
  go_enter Tryz.func99, Tryz.ntmps99
  go_wp2_with fail
  refine HC.out.1.mono ?_
  rintro e w1 ⟨rfl, hb⟩
  have hp : w1.heap[w.heap.size]? = some (.cells (pgV p) 94) := (hb.block w.heap.size (by simp)).trans (heap_alloc_new w _)
  have hbw : Below w.heap.size w w1 := ((Below.refl w.heap.size w).alloc (Nat.le_refl _) _).trans (hb.mono (by simp))
  have c0 : w1.cell? ⟨w.heap.size, 0, none⟩ = some (.int .u32 p.sec) := cell_at hp 0
  have c1 : w1.cell? ⟨w.heap.size, 1, none⟩ = some (.int .u32 p.seq) := cell_at hp 1
  have c2 : w1.cell? ⟨w.heap.size, 2, none⟩ = some (.bool p.gone) := cell_at hp 2
  have HB := _root_.Go.Lib.hid (And.intro hp hbw)
  clear hb hp hbw
  generalize hgp : w.heap.size = gp at c0 c1 c2 HB ⊢
  have HG := _root_.Go.Lib.hid hgp
  clear hgp
  obtain ⟨s, q, g, a, b, c, d⟩ := p
  simp only at c0 c1 c2 ho
  cases g
  · go_wp2_with fail
    have HS := _root_.Go.Lib.hid c1
    have ca := concat_a s q 1526644958 HB.out.1
    have cb := concat_b s q 1526644958 HB.out.1
    have HA := _root_.Go.Lib.hid (And.intro ca cb)
    clear ca cb c2 c0 ho
    go_region_held3 (fun w' => w'.cell? ⟨gp, 1, none⟩ = some (.int .u32 q)) (first | exact keepB hb HS.out | exact cald _ (cal _ (cal _ HS.out)) | exact cald _ (cal _ HS.out) | exact cald _ HS.out | exact HS.out | go_keep) (first | (go_at_call 138; (with_reducible refine (HA.out.1).mono ?_); rintro e w' ⟨g, cap, sp, rfl, hcap, hgg, hrow, hb⟩) | (go_at_call 138; (with_reducible refine (HA.out.2).mono ?_); rintro e w' ⟨g, cap, sp, rfl, hcap, hgg, hrow, hb⟩))
    all_goals
      go_wp2_with fail
      go_ret
      exact ⟨g, cap, sp, rfl, hcap, Nat.le_trans (by have := lt_of_heap HB.out.1; have := HG.out; omega) hgg, hrow, by have := HB.out.2; rw [← HG.out] at this; exact this.trans (hb.mono (by have := lt_of_heap HB.out.1; have := HG.out; omega))⟩
  · go_wp2_with fail
    have HS := _root_.Go.Lib.hid c1
    have ca := concat_a (s + 2147483648) q 1526644958 HB.out.1
    have cb := concat_b (s + 2147483648) q 1526644958 HB.out.1
    have HA := _root_.Go.Lib.hid (And.intro ca cb)
    clear ca cb c2 c0 ho
    go_region_held3 (fun w' => w'.cell? ⟨gp, 1, none⟩ = some (.int .u32 q)) (first | exact keepB hb HS.out | exact cald _ (cal _ (cal _ HS.out)) | exact cald _ (cal _ HS.out) | exact cald _ HS.out | exact HS.out | go_keep) (first | (go_at_call 138; (with_reducible refine (HA.out.1).mono ?_); rintro e w' ⟨g, cap, sp, rfl, hcap, hgg, hrow, hb⟩) | (go_at_call 138; (with_reducible refine (HA.out.2).mono ?_); rintro e w' ⟨g, cap, sp, rfl, hcap, hgg, hrow, hb⟩))
    all_goals
      go_wp2_with fail
      go_ret
      exact ⟨g, cap, sp, rfl, hcap, Nat.le_trans (by have := lt_of_heap HB.out.1; have := HG.out; omega) hgg, hrow, by have := HB.out.2; rw [← HG.out] at this; exact this.trans (hb.mono (by have := lt_of_heap HB.out.1; have := HG.out; omega))⟩
end Go.Proofs.YtlcbilknfjdceaaGreatDoor
end
section
/-
  Pages: a head whose words are all ones.
-/
set_option linter.unusedVariables false
set_option linter.unusedSimpArgs false
namespace Go.Proofs.YtlcbilknfjdceaaGreatDoor
open Go.RowKit Go.Lib
structure Ones4 (w : World) (g o : Nat) : Prop where
  a : w.cell? ⟨g, o, none⟩ = some (.int .u32 4294967295)
  b : w.cell? ⟨g, o + 1, none⟩ = some (.int .u32 4294967295)
  c : w.cell? ⟨g, o + 2, none⟩ = some (.int .u32 4294967295)
  d : w.cell? ⟨g, o + 3, none⟩ = some (.int .u32 4294967295)
set_option maxRecDepth 100000 in
theorem indexf_calls {g o c : Nat} {w : World} (h : Ones4 w g o) : Calls Tryz.prog 219 #[.slice (some ⟨g, o, none⟩) 4 c, .func (.func 187) #[] #[]] w fun e w' => e = .returned (.int .i64 (-1)) ∧ w = w' := by
  have ha := h.a
  have hb := h.b
  have hc := h.c
  have hd := h.d
  clear h
  go_enter Tryz.func219, Tryz.ntmps219
  go_wp2
  refine wp_loop_rounds 5 ?_
  rw [rounds_succ]; go_wp2
  rw [rounds_succ]; go_wp2
  rw [rounds_succ]; go_wp2
  rw [rounds_succ]; go_wp2
  rw [rounds_succ]; go_wp2
  go_ret
  exact ⟨rfl, rfl⟩
theorem header_no (w : World) : Calls Tryz.prog 58 #[.int .u32 4294967295] w fun e w' => e = .returned (.slice none 0 0) ∧ w = w' := by
  go_enter Tryz.func58, Tryz.ntmps58
  go_wp2
  go_ret
  exact ⟨rfl, rfl⟩
theorem kind_ones {g o c : Nat} {w : World} (h : Ones4 w g o) : Calls Tryz.prog 154 #[.slice (some ⟨g, o, none⟩) 4 c, .slice none 0 0, .int .i64 4] w fun e w' => e = .returned (.int .i64 0) ∧ w = w' := by
  have H := _root_.Go.Lib.hid h
  clear h
  go_enter Tryz.func154, Tryz.ntmps154
  go_wp2_with (first | (go_at_call 219; refine (indexf_calls H.out).mono ?_; rintro e w' ⟨rfl, rfl⟩) | go_in)
  go_ret
  exact ⟨rfl, rfl⟩
theorem count_ones {g o c : Nat} {w : World} (h : Ones4 w g o) : Calls Tryz.prog 122 #[.slice (some ⟨g, o, none⟩) 4 c] w fun e w' => e = .returned (.tuple #[.int .u32 0, .int .i64 0]) ∧ w = w' := by
  have hb := h.b
  have H := _root_.Go.Lib.hid h
  clear h
  go_enter Tryz.func122, Tryz.ntmps122
  go_wp2_with (first | (go_at_call 58; refine (header_no _).mono ?_; rintro e w' ⟨rfl, rfl⟩) | (go_at_call 154; refine (kind_ones H.out).mono ?_; rintro e w' ⟨rfl, rfl⟩))
  refine bodyPost_ret (v := .tuple #[.int .u32 0, .int .i64 0]) (by simp [results, Tryz.results122, Sem.run_bind, Result.andThen]) rfl ⟨rfl, rfl⟩
end Go.Proofs.YtlcbilknfjdceaaGreatDoor
end
