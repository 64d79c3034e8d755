/-
  WholeFlash, part 19 of 44: All, Top.
-/
import Derived.Test.YtlcbilknfjdceaaGreatDoorM17
import Derived.Test.YtlcbilknfjdceaaGreatDoorM18
section
/-
  All pages that count, given one by one.
-/
set_option linter.unusedVariables false
set_option linter.unusedSimpArgs false
namespace Go.Proofs.YtlcbilknfjdceaaGreatDoor
open Go.RowKit Go.Lib
attribute [local go_sem] Oper.semAt_some
abbrev pcV (x : Pc) : Array Value := #[.int .i64 (x.b : Int), .int .i64 (x.k : Int), .int .u32 x.p.sec, .int .u32 x.p.seq, .bool x.p.gone, .int .u32 x.p.d0, .int .u32 x.p.d1, .int .u32 x.p.d2, .int .u32 x.p.d3]
def encPc (x : Pc) : Array Value := #[.agg (pcV x)]
abbrev allKt (bx g n cap : Nat) (bs : List Rb) (sp : List Value) : Blocks := [(bx, boxO (.slice (some ⟨g, 0, none⟩) n cap) 84), (g, .cells (rowV bs ++ sp).toArray 140)]
theorem size95 : (Tryz.prog.info? 95).map (·.size) = some 8 := by kernel_rfl
theorem size94 : (Tryz.prog.info? 94).map (·.size) = some 7 := by kernel_rfl
theorem rbV_kinds {b : Rb} (h : Rb8 b) : ((rbV b).toList.drop 2).take 8 = (ints .i64 b.kinds).toList := by
  unfold rbV
  rw [Array.toList_append, Array.toList_append]
  have e : (#[Value.int .i64 b.head, .int .u32 b.count] : Array Value).toList.length = 2 := rfl
  rw [List.drop_append_of_le_length (by simp), show (#[Value.int .i64 b.head, .int .u32 b.count] : Array Value).toList.drop 2 = [] from rfl, List.nil_append, List.take_append_of_le_length (by simp [ints, h.k8]), List.take_of_length_le (by simp [ints, h.k8])]
theorem rbV_page {b : Rb} (h : Rb8 b) {k : Nat} (hk : k < 8) : ((rbV b).toList.drop (10 + 7 * k)).take 7 = (pgV (b.pages.getD k Pg.z)).toList := by
  unfold rbV
  rw [Array.toList_append, Array.toList_append, ← List.append_assoc]
  have e : ((#[Value.int .i64 b.head, .int .u32 b.count] : Array Value).toList ++ (ints .i64 b.kinds).toList).length = 10 := by simp [ints, h.k8]
  rw [← List.drop_drop, show (10 : Nat) = ((#[Value.int .i64 b.head, .int .u32 b.count] : Array Value).toList ++ (ints .i64 b.kinds).toList).length from e.symm, List.drop_left]
  have := flatN (l := b.pages.map fun p => (pgV p).toList) (n := 7) (by intro x hx; obtain ⟨p, _, rfl⟩ := List.mem_map.1 hx; rfl) k (by rw [List.length_map, h.p8]; exact hk)
  rw [Nat.mul_comm] at this
  rw [show ((b.pages.map fun p => (pgV p).toList).flatten.toArray).toList = (b.pages.map fun p => (pgV p).toList).flatten from rfl, this, List.getD_eq_getElem?_getD, List.getElem?_map, List.getD_eq_getElem?_getD, List.getElem?_eq_getElem (by rw [h.p8]; exact hk)]
  rfl
set_option maxRecDepth 100000 in
theorem load95 {b : Rb} (h : Rb8 b) {w : World} {g : Nat} {t : TypeId} {fr : Nat × Nat} (hg : w.heap[g]? = some (.cells (rbV b) t fr)) : (Instr.loadAt 95 (.pointer (some ⟨g, 2, none⟩))).run Tryz.prog w = .ok (.agg (ints .i64 b.kinds)) w :=
  Mem.run_loadAt_part (by rfl) Tryz.underlying95 hg (by rw [size95]; simp [ints, h.k8]) (by rw [show (ints .i64 b.kinds).size = 8 by simp [ints, h.k8]]; exact rbV_kinds h)
theorem load94 {b : Rb} (h : Rb8 b) {w : World} {g k : Nat} (hk : k < 8) {t : TypeId} {fr : Nat × Nat} (hg : w.heap[g]? = some (.cells (rbV b) t fr)) : (Instr.loadAt 94 (.pointer (some ⟨g, 10 + 7 * k, none⟩))).run Tryz.prog w = .ok (.agg (pgV (b.pages.getD k Pg.z))) w :=
  Mem.run_loadAt_part (by rfl) Tryz.underlying94 hg (by rw [size94]; rfl) (rbV_page h hk)
theorem ldIng {F : Fence} {n : Nat} {P : Program} {ops : Array Oper} {rest : List Oper} {a : Act} {w : World} {Q : Exit → Act → World → Prop} {x : Operand} {dst : Option Tmp} {t' : TypeId} {ps : String} {af : Array Edge} (ty : TypeId) {gd : Nat × Bool} {p v : Value}
    (hw : Region.wanted { dst := dst, op := .load ty x, type := t', pos := ps, after := af, guard := some gd } (yielded ops a.tmps) = true) (hx : a.eval x = p) (hr : (Instr.loadAt ty p).run P w = .ok v w)
    (h : wpListIn F n P ops Q rest (a.put dst v) w) : wpListIn F n P ops Q ({ dst := dst, op := .load ty x, type := t', pos := ps, after := af, guard := some gd } :: rest) a w := by
  refine BigFrame.wpListIn_want hw fun K hK => ⟨fun f hf => (by simp [Oper.about] at hf), ?_⟩
  rw [Oper.semAt_eq _ _ _ (by simp), Mem.ex_load (ty := ty) (x := x) rfl hx hr]
  exact hK _ _ h
theorem index95 {ks : List Int} {k : Nat} {v : Int} (hk : k < 8) (h : (ints .i64 ks)[k]? = some (.int .i64 v)) (w : World) : (Instr.index 95 (.agg (ints .i64 ks)) (.int .i64 (k : Int))).run Tryz.prog w = .ok (.int .i64 v) w := by
  have hu : Tryz.prog.underlying 95 = some (.array 8 3) := by kernel_rfl
  have hs : ∀ w, (sizeOf 3).run Tryz.prog w = .ok 1 w := fun w => by kernel_rfl
  have ha : ∀ w, (isAgg 3).run Tryz.prog w = .ok false w := fun w => by kernel_rfl
  have h0 : (0 : Int) ≤ (k : Int) ∧ (k : Int) < 8 := ⟨by omega, by omega⟩
  simp [Instr.index, asIntOf, run_underlying hu, h0.2, hs, part, ha, h, Sem.run_bind, Result.andThen]
  intro hh
  omega
set_option maxHeartbeats 1000000 in
set_option maxRecDepth 100000 in
theorem all_iter {bx g cap : Nat} {bs : List Rb} {sp : List Value} (h8 : ∀ b ∈ bs, Rb8 b) (hl : bs.length = 5) : Iter 125 #[.pointer (some ⟨bx, 0, none⟩)] encPc (allKt bx g 5 cap bs sp) (allL bs) := by
  intro n B W0 σ R Rx KK l hY K0 W hJ
  have hJJ : ∀ {pre K0 W}, Jn R KK B W0 pre (allKt bx g 5 cap bs sp ++ K0) W → W.cell? ⟨bx, 0, none⟩ = some (.slice (some ⟨g, 0, none⟩) 5 cap) ∧ W.heap[g]? = some (.cells (rowV bs ++ sp).toArray 140) := by
    rintro pre K0 W ⟨s, _, hk⟩
    exact ⟨cell_at (hk.get (g := bx) (o := boxO (.slice (some ⟨g, 0, none⟩) 5 cap) 84) (by simp)) 0, hk.get (g := g) (o := .cells (rowV bs ++ sp).toArray 140) (by simp)⟩
  have m0 := (hJJ hJ).1
  have hz := zero140
  have HJ := _root_.Go.Lib.hid (And.intro hJ (And.intro hY (And.intro h8 hl)))
  clear hJ hY h8 hl
  refine callsIn_of_wp Tryz.func125 rfl trivial ?_ rfl
  simp only [Tryz.ntmps125, List.size_toArray, List.length_cons, List.length_nil, Nat.reduceAdd, Nat.reduceSub, Array.replicate_succ, Array.replicate_zero, List.push_toArray, List.append_toArray, List.nil_append, List.cons_append]
  gi_wp2
  clear m0
  gi_loopw [9] (fun p wr => ∃ i : Nat, i ≤ 5 ∧ p = .int .i64 (i : Int) ∧ Jn R KK B W0 (allI bs i) (allKt bx g 5 cap bs sp ++ K0) wr) (fun p _ => 5 - (intOf p).toNat)
  case atStart => exact ⟨0, by omega, rfl, HJ.out.1⟩
  case round =>
    obtain ⟨i, hi5, rfl, hJ⟩ := hrel
    by_cases h5 : i < 5
    · obtain ⟨b, hbe⟩ : ∃ b, b = bs.getD i default := ⟨_, rfl⟩
      have hbm : b ∈ bs := by
        rw [hbe, List.getD_eq_getElem?_getD, List.getElem?_eq_getElem (by rw [HJ.out.2.2.2]; exact h5)]
        exact List.getElem_mem _
      have h8 := HJ.out.2.2.1 b hbm
      have hg := (hJJ hJ).2
      have hld := load140 h8 (o := i * 66) hg (by rw [hbe]; exact rowV_at HJ.out.2.2.1 (by rw [HJ.out.2.2.2]; exact h5) sp)
      have hst := store140_new h8 wr
      obtain ⟨s, hR, hk⟩ := hJ
      have hk2 := KW.mv [(wr.heap.size, .cells (rbV b) 140)] (allKt bx g 5 cap bs sp) _ (hk.push (.cells (rbV b) 140))
      have hg2 : (wr.alloc (.cells (rbV b) 140)).heap[wr.heap.size]? = some (.cells (rbV b) 140) := heap_alloc_new _ _
      have hld2 := load95 h8 hg2
      have hJ2 : Jn R KK B W0 (allI bs i) (allKt bx g 5 cap bs sp ++ ((wr.heap.size, .cells (rbV b) 140) :: K0)) (wr.alloc (.cells (rbV b) 140)) := ⟨s, hR, hk2⟩
      have HX := _root_.Go.Lib.hid (And.intro hld (And.intro hst (And.intro hld2 (And.intro hJ2 (And.intro h8 hbe)))))
      have e66 : 66 * i = i * 66 := Nat.mul_comm _ _
      clear hld hst hld2 hJ2 hR hk hk2 hg hg2 hbm h8 hbe
      gi_wp2_with (first | ((with_reducible apply Mem.ldIn 140); rfl; exact HX.out.1) | ((with_reducible apply Mem.stIn 140); rfl; rfl; exact HX.out.2.1) | ((with_reducible apply Mem.ldIn 95); rfl; exact HX.out.2.2.1))
      obtain ⟨_, _, _, hJ2, h8, hbe⟩ := HX.out
      generalize wr.alloc _ = w1 at hJ2 ⊢
      generalize wr.heap.size = t4 at hJ2 ⊢
      have HB := _root_.Go.Lib.hid (And.intro hJ2 (And.intro h8 hbe))
      clear HX hJ2 h8 hbe
      gi_loopw [16] (fun p wq => ∃ k : Nat, k ≤ 8 ∧ p = .int .i64 (k : Int) ∧ Jn R KK B W0 (allI bs i ++ allK i b k) (allKt bx g 5 cap bs sp ++ ((t4, .cells (rbV b) 140) :: K0)) wq) (fun p _ => 8 - (intOf p).toNat)
      case atStart => exact ⟨0, by omega, rfl, by have := HB.out.1; simpa [allK] using this⟩
      case round =>
        obtain ⟨k, hk8, rfl, hJ⟩ := hrel
        obtain ⟨_, h8, hbe⟩ := HB.out
        by_cases hk : k < 8
        · have hix : (ints .i64 b.kinds)[k]? = some (.int .i64 (b.kinds.getD k 0)) := ints_at (by rw [h8.k8]; exact hk)
          have hg : wr.heap[t4]? = some (.cells (rbV b) 140) := by
            obtain ⟨s, _, hh⟩ := hJ
            exact hh.get (g := t4) (o := .cells (rbV b) 140) (by simp)
          by_cases h1 : b.kinds.getD k 0 = 1
          · obtain ⟨post, hpost⟩ := allL_at bs (i := i) (k := k) (by rw [HJ.out.2.2.2]; exact h5) hk (by rw [← hbe]; exact h1)
            rw [← hbe] at hpost
            have hld := load94 h8 hk hg
            rw [Nat.mul_comm 7 k] at hld
            obtain ⟨fn, tmps, assign, body, hy, hR⟩ := HJ.out.2.1 _ _ _ ((t4, .cells (rbV b) 140) :: K0) wr hpost hJ
            have e7 : allI bs i ++ allK i b (k + 1) = (allI bs i ++ allK i b k) ++ [⟨i, k, b.pages.getD k Pg.z⟩] := by
              rw [allK]; unfold pageK; rw [if_pos h1, List.append_assoc]
            rw [← e7] at hR
            rw [h1] at hix
            generalize b.pages.getD k Pg.z = p at hld hy hpost e7
            have hixr := index95 hk hix
            have HE := _root_.Go.Lib.hid (And.intro hpost (And.intro e7 (And.intro hld hix)))
            simp only [encPc] at hy
            have e10 : 7 * k = k * 7 := Nat.mul_comm _ _
            clear hpost e7 hld hg hJ h8 hbe h1 hix
            gi_wp2_with ((with_reducible apply ldIng 94); rfl; rfl; exact HE.out.2.2.1)
            refine hR.mono ?_
            rintro e W3 (⟨rfl, hJ3⟩ | ⟨rfl, hJ3⟩)
            · gi_wp2
              go_roundw
              case rel => exact ⟨k + 1, by omega, by first | rfl | go_num, hJ3⟩
              case measure => simp [intOf]; omega
            · have hJ4 : Jn Rx KK B W0 ((allI bs i ++ allK i b k) ++ [⟨i, k, p⟩]) (allKt bx g 5 cap bs sp ++ K0) W3 := by
                rw [← HE.out.2.1]
                obtain ⟨s, hs, hh⟩ := hJ3
                have hh := KW.cut (allKt bx g 5 cap bs sp) [(t4, .cells (rbV b) 140)] (K0 ++ KK s) (by simpa [List.append_assoc] using hh)
                exact ⟨s, hs, by simpa [List.append_assoc] using hh⟩
              gi_wp2
              refine bodyPost_ret (results_none rfl _ _ _) rfl ?_
              exact ⟨⟨_, rfl⟩, .inr ⟨_, ⟨i, k, p⟩, _, HE.out.1, hJ4⟩⟩
          · have e7 : allI bs i ++ allK i b (k + 1) = allI bs i ++ allK i b k := by
              rw [allK]; unfold pageK; rw [if_neg h1, List.append_nil]
            rw [← e7] at hJ
            generalize b.kinds.getD k 0 = v at hix h1
            have h2 : (v == 1) = false := by simp [h1]
            have hixr := index95 hk hix
            have HE := _root_.Go.Lib.hid hJ
            clear hix hJ e7 hg h8 hbe
            gi_wp2
            refine ⟨fun _ h => (by cases h), ?_⟩
            gi_wp2
            go_roundw
            case rel => exact ⟨k + 1, by omega, by first | rfl | go_num, HE.out⟩
            case measure => simp [intOf]; omega
        · have e : k = 8 := by omega
          subst e
          have hJ4 : Jn R KK B W0 (allI bs (i + 1)) (allKt bx g 5 cap bs sp ++ K0) wr := by
            rw [allI, ← hbe]
            obtain ⟨s, hs, hh⟩ := hJ
            have hh := KW.cut (allKt bx g 5 cap bs sp) [(t4, .cells (rbV b) 140)] (K0 ++ KK s) (by simpa [List.append_assoc] using hh)
            exact ⟨s, hs, by simpa [List.append_assoc] using hh⟩
          have HE := _root_.Go.Lib.hid hJ4
          clear hJ hJ4 h8 hbe
          gi_wp2
          go_roundw
          case rel => exact ⟨i + 1, by omega, by first | rfl | go_num, HE.out⟩
          case measure => simp [intOf]; omega
    · have e : i = 5 := by omega
      subst e
      have HJ8 := _root_.Go.Lib.hid hJ
      clear hJ
      gi_wp2
      go_end0
      refine ⟨⟨_, rfl⟩, .inl ?_⟩
      have := HJ8.out
      unfold allL
      rw [HJ.out.2.2.2]
      exact this
theorem all_calls {w : World} {g n c : Nat} : Calls Tryz.prog 88 #[.slice (some ⟨g, 0, none⟩) n c] w fun e w' => e = .returned (.func (.func 125) #[] #[.pointer (some ⟨w.heap.size, 0, none⟩)]) ∧ w' = w.alloc (boxO (.slice (some ⟨g, 0, none⟩) n c) 84) := by
  go_enter Tryz.func88, Tryz.ntmps88
  go_wp2
  go_ret
  exact ⟨rfl, rfl⟩
end Go.Proofs.YtlcbilknfjdceaaGreatDoor
end
section
/-
  latest.Top where no page counts; slices.Collect of all pages.
-/
set_option linter.unusedVariables false
set_option linter.unusedSimpArgs false
namespace Go.Proofs.YtlcbilknfjdceaaGreatDoor
open Go.RowKit Go.Lib
attribute [local go_sem] Oper.semAt_some
abbrev rowO (bs : List Rb) (sp : List Value) : Obj := .cells (rowV bs ++ sp).toArray 140
set_option maxRecDepth 100000 in
theorem top_calls {B g cap : Nat} {W w : World} {K : Blocks} {bs : List Rb} {sp : List Value} (h : KW B W ((g, rowO bs sp) :: K) w) (h8 : ∀ b ∈ bs, Rb8 b) (hl : bs.length = 5) (h0 : allL bs = []) :
    Calls Tryz.prog 53 #[.slice (some ⟨g, 0, none⟩) 5 cap] w fun e w' => e = .returned (.int .u32 0) ∧ KW B W ((g, rowO bs sp) :: K) w' := by
  have HH := _root_.Go.Lib.hid (And.intro h (And.intro h8 (And.intro hl h0)))
  clear h h8 hl h0
  refine (callsIn_wide (n := 9)).1 ?_
  refine callsIn_of_wp_marks Tryz.func53 rfl trivial ?_ rfl
  simp only [Tryz.ntmps53, List.size_toArray, List.length_cons, List.length_nil, Nat.reduceAdd, Nat.reduceSub, Array.replicate_succ, Array.replicate_zero, List.push_toArray, List.append_toArray, List.nil_append, List.cons_append]
  gi_wp2_with fail
  refine ⟨trivial, ?_⟩
  refine (callsIn_wide.2 all_calls).mono ?_
  rintro e w2 ⟨rfl, rfl⟩
  obtain ⟨h, h8, hl, h0⟩ := HH.out
  have hk := h.push2 (boxO (.int .u32 0) 38) (boxO (.slice (some ⟨g, 0, none⟩) 5 cap) 84)
  rw [World.size_alloc]
  generalize (w.alloc _).alloc _ = w2 at hk ⊢
  generalize w.heap.size = rc at hk ⊢
  have hk2 : KW B W (allKt (rc + 1) g 5 cap bs sp ++ K ++ [(rc, boxO (.int .u32 0) 38)]) w2 := hk.perm (((List.Perm.swap _ _ _).trans ((List.Perm.swap _ _ _).symm)).trans (by
    refine List.Perm.cons _ ?_
    exact (List.perm_append_comm (l₁ := [(rc, boxO (.int .u32 0) 38)]) (l₂ := (g, rowO bs sp) :: K))))
  have HK := _root_.Go.Lib.hid hk2
  clear h hk hk2 h8 hl h0
  gi_wp2_with fail
  refine wpIn_range_kw (n := 7) (gf := 125) (lb := #[.pointer (some ⟨rc + 1, 0, none⟩)]) rfl (enters_of Tryz.func125 (by kernel_rfl) rfl) (all_iter (bx := rc + 1) (g := g) (cap := cap) (sp := sp) HH.out.2.1 HH.out.2.2.1) (fun _ => rfl)
    (fun pre (s : Unit) => True) (fun _ _ _ => False) (fun s => [(rc, boxO (.int .u32 0) 38)])
    (fun x a' Kx => ∃ g, Kx = [(g, .cells (pcV x) 102)]) (K0 := K) ⟨(), trivial, HK.out⟩ ?assign ?body ?done ?stop
  case assign =>
    rintro l x pre K1 s W hk
    have hk2 := hk.push (.cells (pcV x) 102)
    have HK := _root_.Go.Lib.hid hk2
    clear hk hk2
    simp only [encPc]
    gi_wp2
    refine ⟨[(W.heap.size, .cells (pcV x) 102)], ⟨_, rfl⟩, ?_⟩
    have := HK.out
    exact this.perm (by
      have e := List.perm_append_comm_assoc [(W.heap.size, Obj.cells (pcV x) 102)] (allKt (rc + 1) g 5 cap bs sp) (K1 ++ [(rc, boxO (.int .u32 0) 38)])
      simpa [List.append_assoc] using e)
  case body =>
    intro l pre x post a' Kx K1 s W hf _ _ _ _
    rw [HH.out.2.2.2] at hf
    exact absurd hf (by simp)
  case done =>
    rintro D s W _ hk
    have m : W.cell? ⟨rc, 0, none⟩ = some (.int .u32 0) := cell_at (hk.get (g := rc) (o := boxO (.int .u32 0) 38) (by simp)) 0
    have f : W.frozen? ⟨rc, 0, none⟩ = false := free_at (hk.get (g := rc) (o := boxO (.int .u32 0) 38) (by simp)) 0
    have hs := KW.into (p := (rc, boxO (.int .u32 0) 38)) (KW.cell (i := 0) (x := .int .u32 0) (vs := #[.int .u32 0]) (hk.perm List.perm_middle) rfl)
    have HS := _root_.Go.Lib.hid hs
    clear hk hs
    gi_wp2
    have h2 := HS.out
    generalize W.setCell _ _ = W2 at h2 ⊢
    refine ⟨by simp, .inl ⟨_, _, rfl, run_takeDeferred (h2.get (g := D) (o := .deferred (some [])) (by simp)), ?_⟩⟩
    have h3 : KW B _ _ (W2.putObj D (.deferred none)) := KW.putMid (L := []) h2
    have mc : (W2.putObj D (.deferred none)).cell? ⟨rc, 0, none⟩ = some (.int .u32 0) := cell_at (h3.get (g := rc) (o := boxO (.int .u32 0) 38) (by simp)) 0
    refine ⟨.int .u32 0, by simp [results, Tryz.results53, go_sem, mc], rfl, ?_⟩
    have h4 := KW.cut [] [(D, .deferred none), (rc + 1, boxO (.slice (some ⟨g, 0, none⟩) 5 cap) 84)] ((g, rowO bs sp) :: (K ++ [(rc, boxO (.int .u32 0) 38)])) h3
    exact KW.outof (L := (g, rowO bs sp) :: K) (K := []) h4 |>.perm (by simp)
  case stop =>
    rintro D c pre x post s W hf h hk
    exact h.elim
end Go.Proofs.YtlcbilknfjdceaaGreatDoor
end
