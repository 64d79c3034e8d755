/-
  WholeFlash, part 20 of 44: Cmpf, Coll.
-/
import Derived.StillTailTactics
import Derived.Sort.Grow
import Derived.Test.YtlcbilknfjdceaaGreatDoorM19
section
/-
  How two places stand: cmp.Compare, cmp.Or, Place.compare, Place.stands.
-/
set_option linter.unusedVariables false
set_option linter.unusedSimpArgs false
namespace Go.Proofs.YtlcbilknfjdceaaGreatDoor
open Go.RowKit Go.Lib
theorem nan193 (x : Int) (w : World) : Calls Tryz.prog 193 #[.int .u32 x] w fun e w' => e = .returned (.bool false) ∧ w' = w := by
  go_enter Tryz.func193, Tryz.ntmps193
  go_wp2
  go_ret
  exact ⟨by simp, rfl⟩
set_option maxHeartbeats 1000000 in
theorem compare159 (x y : Int) (w : World) : Calls Tryz.prog 159 #[.int .u32 x, .int .u32 y] w fun e w' => e = .returned (.int .i64 (cmpI x y)) ∧ w' = w := by
  go_enter Tryz.func159, Tryz.ntmps159
  go_wp2_with (go_at_call 193; refine (nan193 _ _).mono ?_; rintro e w' ⟨rfl, hw⟩; rw [hw])
  all_goals (go_ret; refine ⟨?_, rfl⟩; unfold cmpI; (repeat' split) <;> first | rfl | (exfalso; omega))
theorem nan194 (x : Int) (w : World) : Calls Tryz.prog 194 #[.int .i64 x] w fun e w' => e = .returned (.bool false) ∧ w' = w := by
  go_enter Tryz.func194, Tryz.ntmps194
  go_wp2
  go_ret
  exact ⟨by simp, rfl⟩
set_option maxHeartbeats 1000000 in
theorem compare160 (x y : Int) (w : World) : Calls Tryz.prog 160 #[.int .i64 x, .int .i64 y] w fun e w' => e = .returned (.int .i64 (cmpI x y)) ∧ w' = w := by
  go_enter Tryz.func160, Tryz.ntmps160
  go_wp2_with (go_at_call 194; refine (nan194 _ _).mono ?_; rintro e w' ⟨rfl, hw⟩; rw [hw])
  all_goals (go_ret; refine ⟨?_, rfl⟩; unfold cmpI; (repeat' split) <;> first | rfl | (exfalso; omega))
def orI (a b c d : Int) : Int := if a ≠ 0 then a else if b ≠ 0 then b else if c ≠ 0 then c else d
set_option maxRecDepth 100000 in
theorem or_calls {w : World} {g : Nat} {a b c d : Int} (ha : w.cell? ⟨g, 0, none⟩ = some (.int .i64 a)) (hb : w.cell? ⟨g, 1, none⟩ = some (.int .i64 b)) (hc : w.cell? ⟨g, 2, none⟩ = some (.int .i64 c)) (hd : w.cell? ⟨g, 3, none⟩ = some (.int .i64 d)) :
    Calls Tryz.prog 158 #[.slice (some ⟨g, 0, none⟩) 4 4] w fun e w' => e = .returned (.int .i64 (orI a b c d)) ∧ w' = w := by
  unfold orI
  go_enter Tryz.func158, Tryz.ntmps158
  go_wp2
  refine wp_loop_rounds 5 ?_
  by_cases h1 : a = 0
  · subst h1
    rw [rounds_succ]; go_wp2
    by_cases h2 : b = 0
    · subst h2
      rw [rounds_succ]; go_wp2
      by_cases h3 : c = 0
      · subst h3
        rw [rounds_succ]; go_wp2
        by_cases h4 : d = 0
        · subst h4
          rw [rounds_succ]; go_wp2
          rw [rounds_succ]; go_wp2
          go_ret
          exact ⟨rfl, rfl⟩
        · have h4' : (d == 0) = false := by simp [h4]
          rw [rounds_succ]; go_wp2
          go_ret
          exact ⟨by simp, rfl⟩
      · have h3' : (c == 0) = false := by simp [h3]
        rw [rounds_succ]; go_wp2
        go_ret
        exact ⟨by simp [h3], rfl⟩
    · have h2' : (b == 0) = false := by simp [h2]
      rw [rounds_succ]; go_wp2
      go_ret
      exact ⟨by simp [h2], rfl⟩
  · have h1' : (a == 0) = false := by simp [h1]
    rw [rounds_succ]; go_wp2
    go_ret
    exact ⟨by simp [h1], rfl⟩
theorem cfP_or (x y : Pc) : orI (cmpI x.p.sec y.p.sec) (cmpI y.p.seq x.p.seq) (cmpI x.b y.b) (cmpI x.k y.k) = cfP x y := rfl
open Go.Sort in
set_option maxHeartbeats 1000000 in
set_option maxRecDepth 100000 in
theorem compare127 (x y : Pc) (w : World) : Calls Tryz.prog 127 #[.agg (pcV x), .agg (pcV y)] w fun e w' => e = .returned (.int .i64 (cfP x y)) ∧ ∃ q os', w' = grow (w.drewN q) os' := by
  rw [← cfP_or]
  go_enter Tryz.func127, Tryz.ntmps127
  go_wp2
  have hk := (KW.start (B := w.heap.size) (Below.refl w.heap.size w) (Nat.le_refl _)).push2 (.cells (pcV x) 102) (.cells (pcV y) 102)
  obtain ⟨os, hos⟩ : ∃ os, (w.alloc (.cells (pcV x) 102)).alloc (.cells (pcV y) 102) = grow w os := ⟨_, by rw [alloc_eq_grow, alloc_eq_grow, grow_grow]⟩
  generalize (w.alloc (.cells (pcV x) 102)).alloc (.cells (pcV y) 102) = w2 at hk hos ⊢
  have mx0 : w2.cell? ⟨w.heap.size, 0, none⟩ = some (.int .i64 (x.b : Int)) := cell_at (hk.get (g := w.heap.size) (o := .cells (pcV x) 102) (by simp)) 0
  have mx1 : w2.cell? ⟨w.heap.size, 1, none⟩ = some (.int .i64 (x.k : Int)) := cell_at (hk.get (g := w.heap.size) (o := .cells (pcV x) 102) (by simp)) 1
  have mx2 : w2.cell? ⟨w.heap.size, 2, none⟩ = some (.int .u32 x.p.sec) := cell_at (hk.get (g := w.heap.size) (o := .cells (pcV x) 102) (by simp)) 2
  have mx3 : w2.cell? ⟨w.heap.size, 3, none⟩ = some (.int .u32 x.p.seq) := cell_at (hk.get (g := w.heap.size) (o := .cells (pcV x) 102) (by simp)) 3
  have my0 : w2.cell? ⟨w.heap.size + 1, 0, none⟩ = some (.int .i64 (y.b : Int)) := cell_at (hk.get (g := w.heap.size + 1) (o := .cells (pcV y) 102) (by simp)) 0
  have my1 : w2.cell? ⟨w.heap.size + 1, 1, none⟩ = some (.int .i64 (y.k : Int)) := cell_at (hk.get (g := w.heap.size + 1) (o := .cells (pcV y) 102) (by simp)) 1
  have my2 : w2.cell? ⟨w.heap.size + 1, 2, none⟩ = some (.int .u32 y.p.sec) := cell_at (hk.get (g := w.heap.size + 1) (o := .cells (pcV y) 102) (by simp)) 2
  have my3 : w2.cell? ⟨w.heap.size + 1, 3, none⟩ = some (.int .u32 y.p.seq) := cell_at (hk.get (g := w.heap.size + 1) (o := .cells (pcV y) 102) (by simp)) 3
  generalize w.heap.size = gx at *
  have HG := _root_.Go.Lib.hid hos
  clear hk hos
  refine wp_region_still_tail 24 (by kernel_rfl) (by kernel_rfl) ?_
  simp only [List.take_succ_cons, List.take_zero, List.drop_succ_cons, List.drop_zero]
  repeat (first | still_step | still_call (compare159 _ _ _) | still_call (compare160 _ _ _))
  refine wpStill_nil ?_
  clear mx0 mx1 mx2 mx3 my0 my1 my2 my3
  go_wp2_with fail
  refine (or_calls (cell_at (heap_alloc_new _ _) 0) (cell_at (heap_alloc_new _ _) 1) (cell_at (heap_alloc_new _ _) 2) (cell_at (heap_alloc_new _ _) 3)).mono ?_
  rintro e w' ⟨rfl, rfl⟩
  go_wp2_with fail
  go_ret
  have e2 := HG.out
  exact ⟨rfl, 1, _, by rw [e2, alloc_eq_grow, grow_grow]; rfl⟩
open Go.Sort in
theorem same129 (x y : Pc) (w : World) : Calls Tryz.prog 129 #[.agg (pcV x), .agg (pcV y)] w fun e w' => e = .returned (.bool (x.p.sec == y.p.sec)) ∧ ∃ os', w' = grow w os' := by
  go_enter Tryz.func129, Tryz.ntmps129
  go_wp2
  go_ret
  exact ⟨by simp, _, by rw [alloc_eq_grow, alloc_eq_grow, grow_grow]⟩
theorem eq43 (n : Nat) (a b c d a' b' c' d' : Int) (w : World) : (Op.equalIn (n + 2) 43 (.agg #[.int .u32 a, .int .u32 b, .int .u32 c, .int .u32 d]) (.agg #[.int .u32 a', .int .u32 b', .int .u32 c', .int .u32 d'])).run Tryz.prog w = .ok (a == a' && (b == b' && (c == c' && d == d'))) w := by
  have u38 := Tryz.underlying38
  have a38 := Tryz.isAgg38
  have z38 := Tryz.sizeOf38
  have u43 : Tryz.prog.underlying 43 = some (.array 4 38) := by kernel_rfl
  rw [show n + 2 = (n + 1) + 1 from rfl, Op.equalIn]
  simp only [Sem.run_bind, run_underlying u43, Result.andThen_ok]
  simp only [Std.Legacy.Range.forIn_eq_forIn_range', Std.Legacy.Range.size]
  simp only [show List.range' 0 ((4 - 0 + 1 - 1) / 1) 1 = [0, 1, 2, 3] from rfl, List.forIn_cons, List.forIn_nil]
  go_simp
  by_cases h1 : a = a' <;> by_cases h2 : b = b' <;> by_cases h3 : c = c' <;> by_cases h4 : d = d' <;> simp [h1, h2, h3, h4]
open Go.Sort in
set_option maxHeartbeats 1000000 in
set_option maxRecDepth 100000 in
theorem stands165 (x y : Pc) (w : World) : Calls Tryz.prog 165 #[.agg (pcV x), .agg (pcV y)] w fun e w' => (∃ b, e = .returned (.bool b)) ∧ ∃ os', w' = grow w os' := by
  have q43 := eq43 9996
  go_enter Tryz.func165, Tryz.ntmps165
  go_wp2
  all_goals (try (go_ret; exact ⟨⟨_, by first | rfl | simp⟩, _, by rw [alloc_eq_grow, alloc_eq_grow, grow_grow]⟩))
end Go.Proofs.YtlcbilknfjdceaaGreatDoor
end
section
/-
  slices.Collect of all pages.
-/
set_option linter.unusedVariables false
set_option linter.unusedSimpArgs false
namespace Go.Proofs.YtlcbilknfjdceaaGreatDoor
open Go.RowKit Go.Lib
attribute [local go_sem] Oper.semAt_some
theorem wpListIn_append_ko {F : Fence} {n : Nat} {B : Nat} {W w : World} {K : Blocks} {e : TypeId} {sz k : Nat} {v : Value} {xs : List Value} {P : Program} {ops : Array Oper} {rest : List Oper} {o : Oper} {a : Act} {Q : Exit → Act → World → Prop} (hgd : o.guard = none) (s x : Operand) (t : TypeId)
    (ho : o.op = .call { callee := .builtin .append, args := #[s, x], argTypes := #[t, t] })
    (i : TypeInfo) (z : Value) (bytes : Nat) (ht : P.underlying t = some (.slice e)) (hi : P.info? e = some i) (hz : i.zero = some z)
    (hsize : i.size = sz) (hby : i.bytes = bytes) (hzs : z.cells.size = sz) (hsz : 0 < sz)
    (hs : a.eval s = v) (hk : KO B W e sz v k xs K w)
    (ad : Addr) (m c : Nat) (news : List Value) (hx : a.eval x = .slice (some ad) m c) (hl : news.length = m * sz) (hnews : ∀ j u, news[j]? = some u → w.cell? (ad.add j) = some u) (h1 : ∀ u ∈ news, u.oneCell' = true)
    (h63 : k + m ≤ maxLen) (hbytes : (k + m) * bytes ≤ 140737488355328)
    (h : ∀ v' w', KO B W e sz v' (k + m) (xs ++ news) K w' → (v' = .slice none 0 0 ↔ v = .slice none 0 0 ∧ m = 0) → wpListIn F n P ops Q rest (a.put o.dst v') w') : wpListIn F n P ops Q (o :: rest) a w :=
  by
  refine wpListIn_plain hgd fun K hK => ?_
  obtain ⟨v', w', hr, h2, h3, h4, h5⟩ := run_append_own_at (P := P) w B t o.type e i z sz bytes ht hi hz hsize hby hzs hsz v k xs hk.owns ad m c news hl hnews h1 h63 hbytes hk.kw.size
  unfold Oper.wpIn
  refine ⟨by simp [Oper.about, ho, resolve, Target.leads, Sem.run_pure], ?_⟩
  rw [Oper.semAt_plain F _ _ (by rw [ho]; intro c hc'; cases hc')]
  simp [execOp, ho, resolve, invoke, builtin, hs, hx, hr, Result.andThen]
  exact hK _ _ (h v' w' (hk.after h2 h3 h5) h4)
def flatP (l : List Pc) : List Value := (l.map fun x => (pcV x).toList).flatten
theorem flatP_len (l : List Pc) : (flatP l).length = l.length * 9 := by
  unfold flatP
  induction l with
  | nil => rfl
  | cons x l ih => rw [List.map_cons, List.flatten_cons, List.length_append, ih, List.length_cons]; simp; omega
theorem flatP_snoc (l : List Pc) (x : Pc) : flatP (l ++ [x]) = flatP l ++ (pcV x).toList := by unfold flatP; simp
theorem info102 : (Tryz.prog.info? 102).map (fun i => (i.zero, i.size, i.bytes)) = some (some (.agg (pcV ⟨0, 0, Pg.z⟩)), 9, 48) := by kernel_rfl
abbrev collR (pre : List Pc) (s : Value × Blocks) : Prop := OwnR 102 9 s.1 pre.length (flatP pre) s.2
abbrev collK (ob : Nat) (s : Value × Blocks) : Blocks := s.2 ++ [(ob, boxO s.1 181)]
theorem KW.lastCell {B : Nat} {W w : World} {L : Blocks} {ob : Nat} {t : TypeId} {x y : Value} (h : KW B W (L ++ [(ob, .cells #[x] t)]) w) : KW B W (L ++ [(ob, .cells #[y] t)]) (w.setCell ⟨ob, 0, none⟩ y) :=
  (KW.cell (i := 0) (vs := #[y]) (h.perm (List.perm_append_comm (l₂ := [(ob, Obj.cells #[x] t)]))) rfl).perm (List.perm_append_comm (l₁ := [(ob, Obj.cells #[y] t)]))
theorem KO.shape {B : Nat} {W w : World} {e : TypeId} {sz n : Nat} {v : Value} {xs : List Value} {K : Blocks} (h : KO B W e sz v n xs K w) : ∃ p c, v = .slice p n c := by
  rcases h.2 with ⟨rfl, rfl, _⟩ | ⟨_, _, _, rfl, _⟩ <;> exact ⟨_, _, rfl⟩
theorem KO.one {B : Nat} {W w : World} {e : TypeId} {sz n : Nat} {v : Value} {xs : List Value} {K : Blocks} (h : KO B W e sz v n xs K w) : v.oneCell' = true := by
  rcases h.2 with ⟨rfl, _⟩ | ⟨_, _, _, rfl, _⟩ <;> rfl
set_option maxHeartbeats 1000000 in
set_option maxRecDepth 100000 in
theorem append190 {B bx g cap : Nat} {W w : World} {K : Blocks} {bs : List Rb} {sp : List Value} (h : KW B W (allKt bx g 5 cap bs sp ++ K) w) (h8 : ∀ b ∈ bs, Rb8 b) (hl : bs.length = 5) :
    Calls Tryz.prog 190 #[.slice none 0 0, .func (.func 125) #[] #[.pointer (some ⟨bx, 0, none⟩)]] w fun e w' => ∃ v, e = .returned v ∧ KO B W 102 9 v (allL bs).length (flatP (allL bs)) (allKt bx g 5 cap bs sp ++ K) w' := by
  obtain ⟨i0, hi, hz0, hz1, hz2⟩ := info_parts info102
  have hlen := allL_len bs
  have HH := _root_.Go.Lib.hid (And.intro h (And.intro h8 (And.intro hl hlen)))
  have HI := _root_.Go.Lib.hid (And.intro hi (And.intro hz0 (And.intro hz1 hz2)))
  clear h h8 hl hi hz0 hz1 hz2 hlen
  refine (callsIn_wide (n := 9)).1 ?_
  refine callsIn_of_wp_marks Tryz.func190 rfl trivial ?_ rfl
  simp only [Tryz.ntmps190, List.size_toArray, List.length_cons, List.length_nil, Nat.reduceAdd, Nat.reduceSub, Array.replicate_succ, Array.replicate_zero, List.push_toArray, List.append_toArray, List.nil_append, List.cons_append]
  gi_wp2_with fail
  obtain ⟨h, h8, hl, hlen⟩ := HH.out
  have hk := h.push (boxO (.slice none 0 0) 181)
  generalize w.alloc _ = w2 at hk ⊢
  generalize w.heap.size = ob at hk ⊢
  have hk2 : KW B W (allKt bx g 5 cap bs sp ++ K ++ collK ob (.slice none 0 0, [])) w2 := hk.perm (List.perm_append_comm (l₁ := [(ob, boxO (.slice none 0 0) 181)]) (l₂ := allKt bx g 5 cap bs sp ++ K))
  have HK := _root_.Go.Lib.hid hk2
  clear h hk hk2 h8 hl hlen
  refine wpIn_range_kw (n := 7) (gf := 125) (lb := #[.pointer (some ⟨bx, 0, none⟩)]) rfl (enters_of Tryz.func125 (by kernel_rfl) rfl) (all_iter (bx := bx) (g := g) (cap := cap) (sp := sp) HH.out.2.1 HH.out.2.2.1) (fun _ => rfl)
    collR (fun _ _ _ => False) (collK ob)
    (fun x a' Kx => ∃ gx, Kx = [(gx, .cells (pcV x) 102)] ∧ a' = { tmps := #[.slice none 0 0, .func (.func 125) #[] #[.pointer (some ⟨bx, 0, none⟩)], .pointer (some ⟨ob, 0, none⟩), undef, .slice none 0 0, .pointer (some ⟨gx, 0, none⟩), .func (.func 125) #[] #[.pointer (some ⟨bx, 0, none⟩)], .agg (pcV x), undef, undef, undef, undef, undef], defers := [] }) (K0 := K) ⟨(.slice none 0 0, []), OwnR.nil, HK.out⟩ ?assign ?body ?done ?stop
  case assign =>
    rintro l x pre K1 s W hk
    have hk2 := hk.push (.cells (pcV x) 102)
    have HK := _root_.Go.Lib.hid hk2
    clear hk hk2
    simp only [encPc]
    gi_wp2
    refine ⟨[(W.heap.size, .cells (pcV x) 102)], ⟨_, rfl, rfl⟩, ?_⟩
    have := HK.out
    exact this.perm (by
      have e := List.perm_append_comm_assoc [(W.heap.size, Obj.cells (pcV x) 102)] (allKt bx g 5 cap bs sp) (K1 ++ collK ob s)
      simpa [List.append_assoc] using e)
  case body =>
    rintro l pre x post a' Kx K1 ⟨v, Ks⟩ W hf ⟨gx, rfl, rfl⟩ hR _ hk
    have hn : pre.length < 40 := by have := congrArg List.length hf; have h1 := HH.out.2.2.2; have h2 := HH.out.2.2.1; simp at this; omega
    have m2 : W.cell? ⟨ob, 0, none⟩ = some v := cell_at (hk.get (g := ob) (o := boxO v 181) (by simp)) 0
    have f2 : W.frozen? ⟨ob, 0, none⟩ = false := free_at (hk.get (g := ob) (o := boxO v 181) (by simp)) 0
    have hg := hk.get (g := gx) (o := .cells (pcV x) 102) (by simp)
    have mx0 : W.cell? ⟨gx, 0, none⟩ = some (.int .i64 (x.b : Int)) := cell_at hg 0
    have mx1 : W.cell? ⟨gx, 1, none⟩ = some (.int .i64 (x.k : Int)) := cell_at hg 1
    have mx2 : W.cell? ⟨gx, 2, none⟩ = some (.int .u32 x.p.sec) := cell_at hg 2
    have mx3 : W.cell? ⟨gx, 3, none⟩ = some (.int .u32 x.p.seq) := cell_at hg 3
    have mx4 : W.cell? ⟨gx, 4, none⟩ = some (.bool x.p.gone) := cell_at hg 4
    have mx5 : W.cell? ⟨gx, 5, none⟩ = some (.int .u32 x.p.d0) := cell_at hg 5
    have mx6 : W.cell? ⟨gx, 6, none⟩ = some (.int .u32 x.p.d1) := cell_at hg 6
    have mx7 : W.cell? ⟨gx, 7, none⟩ = some (.int .u32 x.p.d2) := cell_at hg 7
    have mx8 : W.cell? ⟨gx, 8, none⟩ = some (.int .u32 x.p.d3) := cell_at hg 8
    have hk0 : KO B _ 102 9 v pre.length (flatP pre) ((allKt bx g 5 cap bs sp ++ ([(gx, .cells (pcV x) 102)] ++ K1)) ++ [(ob, boxO v 181)]) W := OwnR.ko hR hk
    have HB := _root_.Go.Lib.hid hk0
    clear hk hk0 hg hR hf
    gi_wp2_with (refine wpListIn_append_ko rfl (.tmp 8) (.tmp 10) 181 rfl i0 _ 48 Tryz.underlying181 HI.out.1 HI.out.2.1 HI.out.2.2.1 HI.out.2.2.2 rfl (by decide) rfl (HB.out.alloc _) ⟨_, 0, none⟩ 1 1 (pcV x).toList rfl rfl (news_mid (off := 0) (m := 9) (heap_alloc_new _ _) rfl) (by simp [Value.oneCell']) (by unfold maxLen; omega) (by omega) ?_)
    rintro v' w4 hk4 -
    have hk5 := hk4.drop
    rw [← flatP_snoc] at hk5
    obtain ⟨vp, vc, rfl⟩ := hk5.shape
    have m4 : w4.cell? ⟨ob, 0, none⟩ = some v := cell_at (hk5.get (g := ob) (o := boxO v 181) (by simp)) 0
    have f4 : w4.frozen? ⟨ob, 0, none⟩ = false := free_at (hk5.get (g := ob) (o := boxO v 181) (by simp)) 0
    have hk6 := hk5.turn (K' := (allKt bx g 5 cap bs sp ++ ([(gx, .cells (pcV x) 102)] ++ K1)) ++ [(ob, boxO (.slice vp (pre.length + 1) vc) 181)]) (w' := w4.setCell ⟨ob, 0, none⟩ (.slice vp (pre.length + 1) vc)) fun K0 h => by
      rw [← List.append_assoc]
      refine KW.lastCell (x := v) ?_
      rw [List.append_assoc]
      exact h
    have H6 := _root_.Go.Lib.hid hk6
    clear hk4 hk5 hk6
    gi_wp2_with fail
    obtain ⟨Ks', hR', hk'⟩ := H6.out.ownR
    refine ⟨(.slice vp (pre.length + 1) vc, Ks'), ?_, hk'⟩
    rw [collR, List.length_append, List.length_singleton]
    exact hR'
  case done =>
    rintro D ⟨v, Ks⟩ W hR hk
    have m2 : W.cell? ⟨ob, 0, none⟩ = some v := cell_at (hk.get (g := ob) (o := boxO v 181) (by simp)) 0
    have HS := _root_.Go.Lib.hid (And.intro hk hR)
    clear hk hR
    gi_wp2
    have h2 := HS.out.1
    refine ⟨by simp, .inl ⟨_, _, rfl, run_takeDeferred (h2.get (g := D) (o := .deferred (some [])) (by simp)), ?_⟩⟩
    have h3 : KW B _ _ (W.putObj D (.deferred none)) := KW.putMid (L := []) h2
    refine ⟨v, by simp [results, Tryz.results190, Sem.run_bind, Result.andThen], v, rfl, ?_⟩
    have h5 := (OwnR.ko (K0 := (D, .deferred none) :: (allKt bx g 5 cap bs sp ++ K)) (Kc := [(ob, boxO v 181)]) HS.out.2 (by simpa [List.append_assoc] using h3)).drop
    exact (h5.perm (List.perm_append_comm (l₂ := [(ob, boxO v 181)]))).drop
  case stop =>
    rintro D c pre x post s W hf h hk
    exact h.elim
theorem collect156 {B bx g cap : Nat} {W w : World} {K : Blocks} {bs : List Rb} {sp : List Value} (h : KW B W (allKt bx g 5 cap bs sp ++ K) w) (h8 : ∀ b ∈ bs, Rb8 b) (hl : bs.length = 5) :
    Calls Tryz.prog 156 #[.func (.func 125) #[] #[.pointer (some ⟨bx, 0, none⟩)]] w fun e w' => ∃ v, e = .returned v ∧ KO B W 102 9 v (allL bs).length (flatP (allL bs)) (allKt bx g 5 cap bs sp ++ K) w' := by
  have HC := _root_.Go.Lib.hid (append190 h h8 hl)
  clear h h8
  go_enter Tryz.func156, Tryz.ntmps156
  go_wp2_with (go_at_call 190; refine HC.out.mono ?_)
  rintro e w2 ⟨v, rfl, hk⟩
  have HK := _root_.Go.Lib.hid hk
  clear hk
  go_wp2_with fail
  go_ret
  exact ⟨v, rfl, HK.out⟩
end Go.Proofs.YtlcbilknfjdceaaGreatDoor
end
