/-
  WholeFlash, part 28 of 44: Put, Renew, Svl, Collect, Room, Writes, Trims, Readf.
-/
import Derived.Test.YtlcbilknfjdceaaGreatDoorM26
import Derived.Test.YtlcbilknfjdceaaGreatDoorM27
import Derived.Test.YtlcbilknfjdceaaGreatDoorM23
section
/-
  ftl: a page put.
-/
set_option linter.unusedVariables false
set_option linter.unusedSimpArgs false
namespace Go.Proofs.YtlcbilknfjdceaaGreatDoor
open Go.RowKit Go.Lib
theorem KW.cellAt {B : Nat} {W w : World} (L R : Blocks) {g i : Nat} {t : TypeId} {cs vs : Array Value} {x : Value} (h : KW B W (L ++ (g, .cells cs t) :: R) w) (hv : cs.setIfInBounds i x = vs) : KW B W (L ++ (g, .cells vs t) :: R) (w.setCell ⟨g, i, none⟩ x) := ((h.perm List.perm_middle).cell hv).perm List.perm_middle.symm
theorem KW.rowAt {B : Nat} {W w : World} (L R : Blocks) {g : Nat} {t : TypeId} {cs vs : Array Value} (h : KW B W (L ++ (g, .cells cs t) :: R) w) : KW B W (L ++ (g, .cells vs t) :: R) (w.setRow g vs) := ((h.perm List.perm_middle).row).perm List.perm_middle.symm
theorem KW.objAt {B : Nat} {W w : World} (L R : Blocks) {g : Nat} {o o' : Obj} (h : KW B W (L ++ (g, o) :: R) w) : KW B W (L ++ (g, o') :: R) { w with heap := w.heap.setIfInBounds g o' } := ((h.perm List.perm_middle).obj).perm List.perm_middle.symm
theorem rbV_cell {b : Rb} (h : b.kinds.length = 8) {k : Nat} (hk : k < 8) (v : Int) : (rbV b).toList.take (2 + k) ++ (#[Value.int .i64 v] : Array Value).toList ++ (rbV b).toList.drop (2 + k + (#[Value.int .i64 v] : Array Value).size) = (rbV { b with kinds := b.kinds.set k v }).toList := by
  have hl : 2 + k < (rbV b).toList.length := by
    unfold rbV
    simp [ints, h]
    omega
  rw [← rbV_set h hk, Array.toList_setIfInBounds, List.set_eq_take_append_cons_drop, if_pos hl]
  simp
theorem size3 : (Tryz.prog.info? 3).map (·.size) = some 1 := by kernel_rfl
theorem fa3 {g o : Nat} {w : World} {f : Operand → Value} (h : f (.tmp 46) = .pointer (some ⟨g, o, none⟩)) : (execOp f { dst := some 47, op := .fieldAddr 140 (.tmp 46) 3, type := 0, pos := "ftl.go:245", after := #[{ on := 9, ground := Ground.data }], guard := none }).run Tryz.prog w = .ok (.value (.pointer (some ⟨g, o + 10, none⟩))) w := by
  go_simp
theorem load94_0 {p : Pg} {w : World} {g : Nat} {t : TypeId} {fr : Nat × Nat} (hg : w.heap[g]? = some (.cells (pgV p) t fr)) : (Instr.loadAt 94 (.pointer (some ⟨g, 0, none⟩))).run Tryz.prog w = .ok (.agg (pgV p)) w :=
  Mem.run_loadAt_part (by rfl) Tryz.underlying94 hg (by rw [size94]; rfl) rfl
/-- What a put does. -/
def PutP (B : Nat) (W : World) (K : Blocks) (S : Sv) (t k : Nat) (p : Pg) (w' : World) : Prop := ∃ D' es' ck', D'.Rest ∧ D'.d = S.D.d ∧ D'.a = S.D.a ∧ D'.C = { S.D.C with ws := progs S.D.C.ws (64 * t + 4 + 7 * k) (pgW p) } ∧ KeysE es' ∧ (∀ s, lookE es' s = if s = p.sec then some (.agg (pcV ⟨t, k, p⟩)) else lookE S.es s) ∧ KW B W (svK (S.put t k p D' es' ck') ++ K) w'
set_option maxHeartbeats 600000 in
set_option maxRecDepth 100000 in
theorem put60 {B : Nat} {W w : World} {K : Blocks} {S : Sv} {t k : Nat} {p : Pg} (h : KW B W (svK S ++ K) w) (hr : S.D.Rest) (hb : Rests S.bs) (hke : KeysE S.es) (ht : t < 5) (hk : nextB (S.bs.getD t default) = (k : Int)) (hk8 : k < 8) (hp : p.Right) :
    Calls Tryz.prog 60 #[.pointer (some ⟨S.s, 0, none⟩), .int .i64 (t : Int), .agg (pgV p)] w fun e w' => e = .returned (.int .i64 0) ∧ PutP B W K S t k p w' := by
  have hst := h.store.push (.cells (pgV p) 94)
  have HS := _root_.Go.Lib.hid (And.intro hst (And.intro hr (And.intro hb (And.intro hk (And.intro hp (And.intro hke (And.intro ht hk8)))))))
  clear h hst hr hb hk hp hke
  go_enter Tryz.func60, Tryz.ntmps60
  go_upto_region 1 with fail
  obtain ⟨hst, hr, hb, hk, hp, hke, _, _⟩ := HS.out
  generalize World.alloc w _ = w1 at hst ⊢
  generalize w.heap.size = pb at hst ⊢
  have m1 : w1.cell? ⟨S.s, 1, none⟩ = some (.slice (some ⟨S.g, 0, none⟩) 5 S.cap) := cell_at (hst.get (g := S.s) (o := svO S) (by simp)) 1
  obtain ⟨b, hbe⟩ : ∃ b, b = S.bs.getD t default := ⟨_, rfl⟩
  have h8b : Rb8 b := by rw [hbe]; exact getD_rb8 hb.rb8 (by rw [hb.1]; exact ht)
  have hld := load140 h8b (o := t * 66) (hst.get (g := S.g) (o := rowO S.bs S.sp) (by simp)) (by rw [hbe]; exact rowV_at hb.rb8 (by rw [hb.1]; exact ht) S.sp)
  have hc := next_calls b h8b.k8 w1
  rw [← hbe] at hk
  rw [hk] at hc
  have HX := _root_.Go.Lib.hid (And.intro hst (And.intro hr (And.intro hb (And.intro hk (And.intro hp (And.intro hld (And.intro hc (And.intro hbe (And.intro h8b hke)))))))))
  clear hst hr hb hk hp hld hc hbe HS h8b hke
  go_upto_region 3 with (first | ((with_reducible apply Mem.ld 140); rfl; exact HX.out.2.2.2.2.2.1) | (go_at_call 98; refine HX.out.2.2.2.2.2.2.1.mono ?_; rintro e w2 ⟨rfl, hb2⟩))
  obtain ⟨hst, hr, hb, hk, hp, _, _, hbe, h8b, hke⟩ := HX.out
  have hst2 := hst.grown hb2
  have HX := _root_.Go.Lib.hid (And.intro hst2 (And.intro hr (And.intro hb (And.intro hk (And.intro hp (And.intro hbe (And.intro h8b hke)))))))
  clear hst2 hst hr hb hk hp hbe h8b hke m1 hb2
  have hcell : w2.cell? ⟨S.g, t * 66 + 2 + k, none⟩ = some (.int .i64 (b.kinds.getD k 0)) := by
    obtain ⟨hst, hr, hb, hk, hp, hbe, h8b, hke⟩ := HX.out
    rw [cell_at (hst.get (g := S.g) (o := rowO S.bs S.sp) (by simp)) (t * 66 + 2 + k)]
    have h1 := rbV_kind h8b.k8 k hk8
    have h2 := rowV_at hb.rb8 (show t < S.bs.length by rw [hb.1]; exact ht) S.sp
    rw [← hbe] at h2
    rw [← Array.getElem?_toList, ← h2, List.getElem?_take, if_pos (by omega), List.getElem?_drop] at h1
    rw [← h1]
    simp only [List.getElem?_toArray, Nat.add_assoc]
  have hfree : w2.frozen? ⟨S.g, t * 66 + 2 + k, none⟩ = false := free_at (HX.out.1.get (g := S.g) (o := rowO S.bs S.sp) (by simp)) (t * 66 + 2 + k)
  go_upto_region 4 with fail
  obtain ⟨hst2, hr, hb, hk, hp, hbe, h8b, hke⟩ := HX.out
  clear HX hcell hfree
  have hl5 : t < S.bs.length := by rw [hb.1]; exact ht
  have hst3 := KW.cellAt [(pb, .cells (pgV p) 94), (S.s, svO S)] ([(S.mp, .map S.es S.ck), (S.rt, .map #[] S.ck2)] ++ (drK S.D ++ K)) (g := S.g) (i := t * 66 + 2 + k) (x := .int .i64 2) (vs := (rowV (S.bs.set t { b with kinds := b.kinds.set k 2 }) ++ S.sp).toArray) hst2 (by
    rw [Nat.add_assoc]
    exact row_one hb.rb8 hl5 (by omega) (by rw [← hbe]; exact rbV_set h8b.k8 hk8 2) S.sp)
  generalize World.setCell w2 _ _ = w3 at hst3 ⊢
  have cs0 : w3.heap[S.s]? = some (svO S) := hst3.get (g := S.s) (o := svO S) (by simp)
  have cp0 : w3.heap[pb]? = some (.cells (pgV p) 94) := hst3.get (g := pb) (o := .cells (pgV p) 94) (by simp)
  refine wp_region_reads 8 (fun w => w.heap[S.s]? = some (svO S) ∧ w.heap[pb]? = some (.cells (pgV p) 94)) (by kernel_rfl) (by kernel_rfl) ⟨cs0, cp0⟩ ?_
  simp only [List.take_succ_cons, List.take_zero, List.drop_succ_cons, List.drop_zero]
  refine Reads.val (v := .pointer (some ⟨S.s, 0, none⟩)) rfl (fun wc hC => ?_) ?_
  · go_simp
  refine Reads.go fun K hK => ?_
  go_simp
  refine hK _ ?_
  clear hK K
  refine Reads.val (v := .pointer (some ⟨S.s, 0, none⟩)) rfl (fun wc hC => ?_) ?_
  · go_simp
  refine Reads.go fun K hK => ?_
  go_simp
  refine hK _ ?_
  clear hK K
  refine Reads.val (v := .pointer (some ⟨S.s, 0, none⟩)) rfl (fun wc hC => ?_) ?_
  · go_simp
  refine Reads.go fun K hK => ?_
  go_simp
  refine hK _ ?_
  clear hK K
  refine Reads.val (v := .pointer (some ⟨S.D.d, 0, none⟩)) rfl (fun wc hC => ?_) ?_
  · have m0 : wc.cell? ⟨S.s, 0, none⟩ = some (.pointer (some ⟨S.D.d, 0, none⟩)) := cell_at hC.1 0
    go_simp
  refine Reads.go fun K hK => ?_
  go_simp
  refine hK _ ?_
  clear hK K
  refine Reads.val (v := .int .i64 (t : Int)) rfl (fun wc hC => ?_) ?_
  · go_simp
  refine Reads.go fun K hK => ?_
  go_simp
  refine hK _ ?_
  clear hK K
  refine Reads.val (v := .int .i64 (k : Int)) rfl (fun wc hC => ?_) ?_
  · go_simp
  refine Reads.go fun K hK => ?_
  go_simp
  refine hK _ ?_
  clear hK K
  refine Reads.call (v := .int .i64 ((64 * t + 4 + 7 * k : Nat) : Int)) (f := 36) (fs := #[.tmp 29, .tmp 30]) (ts := #[3, 3]) rfl rfl (enters_of Tryz.func36 (by kernel_rfl) rfl) (gs := #[.int .i64 (t : Int), .int .i64 (k : Int)]) (by go_simp) (fun wc _ => (at_calls t k (by omega) hk8 wc).mono fun e w' h => ⟨h.1, h.2.symm⟩) ?_
  refine Reads.ld (p := .pointer (some ⟨pb, 0, none⟩)) (v := .agg (pgV p)) (by go_simp) (fun wc hC => load94_0 hC.2) ?_
  refine Reads.go fun K hK => ?_
  go_simp
  refine hK _ ?_
  clear hK K
  show wpListR _ _ _ _ _ _ _
  refine wpListR_call (f := 99) (fs := #[.tmp 32]) (ts := #[94]) rfl rfl (enters_of Tryz.func99 (by kernel_rfl) rfl) (gs := #[.agg (pgV p)]) (by go_simp) (words_page_calls p hp _) ?_
  rintro e w4 ⟨gw, cw, spw, rfl, hcw, hgw, hrow, hbw⟩
  have hst4 := KW.fresh hst3.drew hbw hgw hrow
  refine ⟨_, rfl, ⟨hst4.get (g := S.s) (o := svO S) (by simp), hst4.get (g := pb) (o := .cells (pgV p) 94) (by simp)⟩, ?_⟩
  have hst5 : KW B W (drK S.D ++ ([(gw, .cells (ints .u32 (pgW p) ++ spw) 38)] ++ ([(pb, .cells (pgV p) 94), (S.s, svO S), (S.g, rowO (S.bs.set t { b with kinds := b.kinds.set k 2 }) S.sp), (S.mp, .map S.es S.ck), (S.rt, .map #[] S.ck2)] ++ K))) w4 := KW.mv [(gw, .cells (ints .u32 (pgW p) ++ spw) 38), (pb, .cells (pgV p) 94), (S.s, svO S), (S.g, rowO (S.bs.set t { b with kinds := b.kinds.set k 2 }) S.sp), (S.mp, .map S.es S.ck), (S.rt, .map #[] S.ck2)] (drK S.D) K hst4
  refine wpListR_call (f := 56) (fs := #[.tmp 28, .tmp 31, .tmp 33]) (ts := #[25, 3, 34]) rfl rfl (enters_of Tryz.func56 (by kernel_rfl) rfl) (gs := #[.pointer (some ⟨S.D.d, 0, none⟩), .int .i64 ((64 * t + 4 + 7 * k : Nat) : Int), .slice (some ⟨gw, 0, none⟩) 7 cw]) (by go_simp) (dprog_calls hst5 hr rfl (by omega) (by decide)) ?_
  rintro e w5 ⟨rfl, D', hr', hd', ha', hC', hk5⟩
  have hst6 : KW B W (drK D' ++ ([(pb, .cells (pgV p) 94), (S.s, svO S), (S.g, rowO (S.bs.set t { b with kinds := b.kinds.set k 2 }) S.sp), (S.mp, .map S.es S.ck), (S.rt, .map #[] S.ck2)] ++ K)) w5 := KW.cut (drK D') [_] _ hk5
  refine ⟨_, rfl, ⟨hst6.get (g := S.s) (o := svO S) (by simp), hst6.get (g := pb) (o := .cells (pgV p) 94) (by simp)⟩, ?_⟩
  refine wpListR_val (v := .int .i64 0) (w' := w5) rfl (by go_simp) ⟨hst6.get (g := S.s) (o := svO S) (by simp), hst6.get (g := pb) (o := .cells (pgV p) 94) (by simp)⟩ ?_
  refine wpListR_nil ?_
  have HY := _root_.Go.Lib.hid (And.intro hst6 (And.intro hr' (And.intro hd' (And.intro ha' (And.intro hC' (And.intro hb (And.intro hk (And.intro hp (And.intro hbe (And.intro h8b (And.intro hke hl5)))))))))))
  clear hst6 hr' hd' ha' hC' hb hk hp hbe h8b hke hst2 hst3 cs0 cp0 hst4 hst5 hk5 hrow hbw hgw hcw hr
  go_upto_region 7 with fail
  obtain ⟨hst6, hr', hd', ha', hC', hb, hk, hp, hbe, h8b, hke, hl5⟩ := HY.out
  clear HY
  have cp0 : w5.heap[pb]? = some (.cells (pgV p) 94) := hst6.get (g := pb) (o := .cells (pgV p) 94) (by simp)
  refine wp_region_readsI [0, 1, 2, 3, 4, 5, 6, 7, 9, 10] [8, 11, 12] [_, _, _, _, _, _, _, _, _, _] [_, _, _] (fun w => w.heap[pb]? = some (.cells (pgV p) 94)) (by kernel_rfl) (by kernel_rfl) rfl rfl cp0 ?_
  refine Reads.val (v := .pointer (some ⟨S.g, t * 66, none⟩)) rfl (fun wc hC => ?_) ?_
  · go_simp
  refine Reads.go fun K hK => ?_
  go_simp
  refine hK _ ?_
  clear hK K
  refine Reads.val (v := .int .i64 (k : Int)) rfl (fun wc hC => ?_) ?_
  · go_simp
  refine Reads.go fun K hK => ?_
  go_simp
  refine hK _ ?_
  clear hK K
  refine Reads.val (v := .pointer (some ⟨S.g, t * 66, none⟩)) rfl (fun wc hC => ?_) ?_
  · go_simp
  refine Reads.go fun K hK => ?_
  go_simp
  refine hK _ ?_
  clear hK K
  refine Reads.val (v := .int .i64 (k : Int)) rfl (fun wc hC => ?_) ?_
  · go_simp
  refine Reads.go fun K hK => ?_
  go_simp
  refine hK _ ?_
  clear hK K
  refine Reads.ld (p := .pointer (some ⟨pb, 0, none⟩)) (v := .agg (pgV p)) (by go_simp) (fun wc hC => load94_0 hC) ?_
  refine Reads.go fun K hK => ?_
  go_simp
  refine hK _ ?_
  clear hK K
  refine Reads.val (v := .pointer (some ⟨S.g, t * 66, none⟩)) rfl (fun wc hC => ?_) ?_
  · go_simp
  refine Reads.go fun K hK => ?_
  go_simp
  refine hK _ ?_
  clear hK K
  refine Reads.val (v := .pointer (some ⟨S.g, t * 66 + 2, none⟩)) rfl (fun wc hC => ?_) ?_
  · go_simp
  refine Reads.go fun K hK => ?_
  go_simp
  refine hK _ ?_
  clear hK K
  refine Reads.val (v := .pointer (some ⟨S.g, t * 66 + 2 + k, none⟩)) rfl (fun wc hC => ?_) ?_
  · go_simp
    intro hh
    exact absurd hh (by omega)
  refine Reads.go fun K hK => ?_
  go_simp
  refine hK _ ?_
  clear hK K
  refine Reads.val (v := .pointer (some ⟨S.g, t * 66, none⟩)) rfl (fun wc hC => ?_) ?_
  · go_simp
  refine Reads.go fun K hK => ?_
  go_simp
  refine hK _ ?_
  clear hK K
  refine Reads.val (v := .pointer (some ⟨S.g, t * 66 + 10, none⟩)) rfl (fun wc hC => fa3 (by go_simp)) ?_
  refine Reads.go fun K hK => ?_
  go_simp
  refine hK _ ?_
  clear hK K
  show wpListR _ _ _ _ _ _ _
  obtain ⟨b2, hb2⟩ : ∃ b2 : Rb, b2 = { b with kinds := b.kinds.set k 2 } := ⟨_, rfl⟩
  rw [← hb2] at hst6
  have hk2 : b2.kinds.length = 8 := by rw [hb2]; show (b.kinds.set k 2).length = 8; rw [List.length_set]; exact h8b.k8
  have h8b2 : Rb8 b2 := ⟨hk2, by rw [hb2]; exact h8b.p8⟩
  have h6 : ∀ x ∈ S.bs.set t b2, Rb8 x := fun x hx => (List.mem_or_eq_of_mem_set hx).elim (hb.rb8 x) fun e => by rw [e]; exact h8b2
  have l6 : t < (S.bs.set t b2).length := by rw [List.length_set]; exact hl5
  have g6 : (S.bs.set t b2).getD t default = b2 := by rw [getD_setG, if_pos ⟨rfl, hl5⟩]
  have hA : (Instr.storeAt 3 (.pointer (some ⟨S.g, t * 66 + 2 + k, none⟩)) (.int .i64 1)).run Tryz.prog w5.drew = .ok () (w5.drew.setRow S.g (rowV (S.bs.set t { b2 with kinds := b2.kinds.set k 1 }) ++ S.sp).toArray) :=
    Mem.run_storeAt_cell (hst6.drew.get (g := S.g) (o := rowO (S.bs.set t b2) S.sp) (by simp)) size3 (by
      rw [List.size_toArray, List.length_append, rowV_len h6, List.length_set, hb.1]
      omega) rfl (by
      rw [Nat.add_assoc]
      have := row_part h6 l6 (o := 2 + k) (vs := #[.int .i64 1]) (by simp; omega) (b' := { b2 with kinds := b2.kinds.set k 1 }) (by rw [g6]; exact rbV_cell hk2 hk8 1) S.sp
      rw [List.set_set] at this
      exact this) rfl
  have hst7 := KW.rowAt (drK D' ++ [(pb, .cells (pgV p) 94), (S.s, svO S)]) ([(S.mp, .map S.es S.ck), (S.rt, .map #[] S.ck2)] ++ K) (g := S.g) (vs := (rowV (S.bs.set t { b2 with kinds := b2.kinds.set k 1 }) ++ S.sp).toArray) hst6.drew
  refine wpListR_skip rfl (Mem.ex_store (v := .int .i64 1) rfl (by go_simp) rfl hA) (hst7.get (g := pb) (o := .cells (pgV p) 94) (by simp)) ?_
  clear hA cp0 hst6
  generalize World.setRow w5.drew _ _ = w6 at hst7 ⊢
  refine ListR.go fun K hK => ?_
  go_simp
  refine hK _ _ ?_
  clear hK K
  refine wpListR_val (v := .pointer (some ⟨S.g, t * 66 + 10 + k * 7, none⟩)) (w' := w6) rfl (by
    go_simp
    intro hh
    exact absurd hh (by omega)) (hst7.get (g := pb) (o := .cells (pgV p) 94) (by simp)) ?_
  obtain ⟨b3, hb3⟩ : ∃ b3 : Rb, b3 = { b2 with kinds := b2.kinds.set k 1 } := ⟨_, rfl⟩
  rw [← hb3] at hst7
  have h8b3 : Rb8 b3 := ⟨by rw [hb3]; show (b2.kinds.set k 1).length = 8; rw [List.length_set]; exact hk2, by rw [hb3]; exact h8b2.p8⟩
  have h7 : ∀ x ∈ S.bs.set t b3, Rb8 x := fun x hx => (List.mem_or_eq_of_mem_set hx).elim (hb.rb8 x) fun e => by rw [e]; exact h8b3
  have l7 : t < (S.bs.set t b3).length := by rw [List.length_set]; exact hl5
  have g7 : (S.bs.set t b3).getD t default = b3 := by rw [getD_setG, if_pos ⟨rfl, hl5⟩]
  have e4 : ({ b3 with pages := b3.pages.set k p } : Rb) = putB (S.bs.getD t default) k p := by
    rw [hb3, hb2, hbe]
    unfold putB
    simp only [List.set_set]
  have hB : (Instr.storeAt 94 (.pointer (some ⟨S.g, t * 66 + 10 + k * 7, none⟩)) (.agg (pgV p))).run Tryz.prog w6 = .ok () (w6.setRow S.g (rowV (S.bs.set t (putB (S.bs.getD t default) k p)) ++ S.sp).toArray) :=
    Mem.run_storeAt_part (hst7.get (g := S.g) (o := rowO (S.bs.set t b3) S.sp) (by simp)) (by rw [size94]; rfl) (by
      refine Nat.le_trans (m := 330) (show t * 66 + 10 + k * 7 + 7 ≤ 330 by omega) ?_
      rw [List.size_toArray, List.length_append, rowV_len h7, List.length_set, hb.1]
      omega) rfl (by
      rw [show t * 66 + 10 + k * 7 = t * 66 + (10 + 7 * k) by omega]
      have := row_part h7 l7 (o := 10 + 7 * k) (vs := pgV p) (by show 10 + 7 * k + 7 ≤ 66; omega) (b' := { b3 with pages := b3.pages.set k p }) (by rw [g7]; exact rbV_part h8b3 hk8 p) S.sp
      rw [List.set_set, e4] at this
      exact this) rfl
  have hst8 := KW.rowAt (drK D' ++ [(pb, .cells (pgV p) 94), (S.s, svO S)]) ([(S.mp, .map S.es S.ck), (S.rt, .map #[] S.ck2)] ++ K) (g := S.g) (vs := (rowV (S.bs.set t (putB (S.bs.getD t default) k p)) ++ S.sp).toArray) hst7
  refine wpListR_skip rfl (Mem.ex_store (v := .agg (pgV p)) rfl (by go_simp) (by go_simp) hB) (hst8.get (g := pb) (o := .cells (pgV p) 94) (by simp)) ?_
  clear hB hst7
  generalize World.setRow w6 _ _ = w7 at hst8 ⊢
  refine ListR.go fun K hK => ?_
  go_simp
  refine hK _ _ ?_
  clear hK K
  refine wpListR_nil ?_
  have HY := _root_.Go.Lib.hid (And.intro hst8 (And.intro hr' (And.intro hd' (And.intro ha' (And.intro hC' (And.intro hp hke))))))
  clear hst8 hr' hd' ha' hC' hp hke hb hk hbe h8b hl5 hb2 hk2 h8b2 h6 l6 g6 hb3 h8b3 h7 l7 g7 e4
  go_upto_region 8 with fail
  obtain ⟨hst8, hr', hd', ha', hC', hp, hke⟩ := HY.out
  clear HY
  have hpb := hst8.get (g := pb) (o := .cells (pgV p) 94) (by simp)
  have mm : w7.cell? ⟨S.s, 2, none⟩ = some (.map (some S.mp)) := cell_at (hst8.get (g := S.s) (o := svO S) (by simp)) 2
  have y0 : w7.cell? ⟨pb, 0, none⟩ = some (.int .u32 p.sec) := cell_at hpb 0
  have y1 : w7.cell? ⟨pb, 1, none⟩ = some (.int .u32 p.seq) := cell_at hpb 1
  have y2 : w7.cell? ⟨pb, 2, none⟩ = some (.bool p.gone) := cell_at hpb 2
  have y3 : w7.cell? ⟨pb, 3, none⟩ = some (.int .u32 p.d0) := cell_at hpb 3
  have y4 : w7.cell? ⟨pb, 4, none⟩ = some (.int .u32 p.d1) := cell_at hpb 4
  have y5 : w7.cell? ⟨pb, 5, none⟩ = some (.int .u32 p.d2) := cell_at hpb 5
  have y6 : w7.cell? ⟨pb, 6, none⟩ = some (.int .u32 p.d3) := cell_at hpb 6
  obtain ⟨es', ck', hmu, hke', hlk⟩ := update85 (w := w7.drew) (hst8.get (g := S.mp) (o := .map S.es S.ck) (by simp)) hke p.sec (.agg (pcV ⟨t, k, p⟩))
  have hst9 := KW.objAt (drK D' ++ [(pb, .cells (pgV p) 94), (S.s, svO S), (S.g, rowO (S.bs.set t (putB (S.bs.getD t default) k p)) S.sp)]) ([(S.rt, .map #[] S.ck2)] ++ K) (g := S.mp) (o' := .map es' ck') hst8.drew
  generalize { w7.drew with heap := w7.drew.heap.setIfInBounds S.mp (.map es' ck') } = w8 at hmu hst9
  have HY := _root_.Go.Lib.hid (And.intro hst9 (And.intro hr' (And.intro hd' (And.intro ha' (And.intro hC' (And.intro hke' hlk))))))
  clear hst8 hst9 hr' hd' ha' hC' hp hke hke' hlk hpb
  simp only [pcV] at hmu
  go_still_tail 10, (by kernel_rfl)
  go_wp2_with fail
  go_ret
  obtain ⟨hst9, hr', hd', ha', hC', hke', hlk⟩ := HY.out
  refine ⟨rfl, ?_⟩
  unfold PutP
  refine ⟨D', es', ck', hr', hd', ha', hC', hke', hlk, ?_⟩
  have h1 := KW.cut (drK D') [(pb, .cells (pgV p) 94)] ([(S.s, svO S), (S.g, rowO (S.bs.set t (putB (S.bs.getD t default) k p)) S.sp), (S.mp, .map es' ck'), (S.rt, .map #[] S.ck2)] ++ K) hst9
  have e : svO (S.put t k p D' es' ck') = svO S := by simp [svO, Sv.dv, Sv.put, hd']
  have e2 : svR (S.put t k p D' es' ck') = [(S.s, svO S), (S.g, rowO (S.bs.set t (putB (S.bs.getD t default) k p)) S.sp), (S.mp, .map es' ck'), (S.rt, .map #[] S.ck2)] := by unfold svR; rw [e]
  show KW B W ((drK D' ++ svR (S.put t k p D' es' ck')) ++ K) w8
  rw [e2, List.append_assoc]
  exact h1
end Go.Proofs.YtlcbilknfjdceaaGreatDoor
end
section
/-
  ftl: a block renewed.
-/
set_option linter.unusedVariables false
set_option linter.unusedSimpArgs false
namespace Go.Proofs.YtlcbilknfjdceaaGreatDoor
open Go.RowKit Go.Lib
def tornB : Rb := { zB with head := 2 }
theorem tornN8 : Rb8 tornB := ⟨rfl, rfl⟩
theorem fresh8 (c : Int) : Rb8 (freshB c) := ⟨rfl, rfl⟩
theorem row_at {bs : List Rb} (h : ∀ b ∈ bs, Rb8 b) {t : Nat} (ht : t < bs.length) {j : Nat} (hj : j < 66) (sp : List Value) {w : World} {g : Nat} (hg : w.heap[g]? = some (rowO bs sp)) : w.cell? ⟨g, t * 66 + j, none⟩ = (rbV (bs.getD t default))[j]? := by
  have e : (rbV (bs.getD t default))[j]? = (rbV (bs.getD t default)).toList[j]? := by simp
  rw [cell_at hg (t * 66 + j), e, ← rowV_at h ht sp, List.getElem?_take, if_pos hj, List.getElem?_drop]
  simp only [List.getElem?_toArray]
theorem store_row {bs : List Rb} (h : ∀ b ∈ bs, Rb8 b) {t : Nat} (ht : t < bs.length) {b' : Rb} (h' : Rb8 b') {l : List Value} (hl : l = (rbV b').toList) (sp : List Value) {w : World} {g : Nat} (hg : w.heap[g]? = some (rowO bs sp)) :
    Sem.run Tryz.prog (storeCells ⟨g, t * 66, none⟩ l) w = .ok () (w.setRow g (rowV (bs.set t b') ++ sp).toArray) := by
  have hst := run_storeCells_at Tryz.prog g (t * 66) 140 (rbV b').toList 0 (rowV bs ++ sp).toArray w hg (by
    rw [Array.length_toList, rbV_size h', List.size_toArray, List.length_append, rowV_len h]
    omega) (fun v hv => List.all_eq_true.1 (rbV_one b') v hv)
  simp only [Nat.add_zero, Array.length_toList] at hst
  rw [row_whole h ht h' sp] at hst
  rw [hl]
  exact hst
theorem torn_cells : Tryz.zeroCells140.toList.set 0 (.int .i64 2) = (rbV tornB).toList := by kernel_rfl
theorem fresh_cells (c : Int) : (Tryz.zeroCells140.toList.set 0 (.int .i64 1)).set 1 (.int .u32 c) = (rbV (freshB c)).toList := by kernel_rfl
/-- What a renewal does. -/
def RenP (B : Nat) (W : World) (K : Blocks) (S : Sv) (t : Nat) (M : Int) (w' : World) : Prop := ∃ c D', 0 ≤ c ∧ c ≤ M + 1 ∧ D'.Rest ∧ D'.d = S.D.d ∧ D'.a = S.D.a ∧ D'.C = renewC S.D.C t c ∧ KW B W (svK (S.renew t c D') ++ K) w'
set_option maxHeartbeats 600000 in
set_option maxRecDepth 100000 in
theorem renew27 {B : Nat} {W w : World} {K : Blocks} {S : Sv} {t : Nat} {M : Int} (h : KW B W (svK S ++ K) w) (ho : S.Ok M) (ht : t < 5) (hM' : M < S.D.C.endure) :
    Calls Tryz.prog 27 #[.pointer (some ⟨S.s, 0, none⟩), .int .i64 (t : Int)] w fun e w' => e = .returned (.int .i64 0) ∧ RenP B W K S t M w' := by
  have hst := h.store
  have hM0 : 1 ≤ M := Int.le_trans ho.q0 ho.q1
  have hM : M < 100000 := Int.lt_of_lt_of_le hM' ho.endure
  have HM := _root_.Go.Lib.hid hM'
  clear hM'
  have hl5 : t < S.bs.length := by rw [ho.bs.1]; exact ht
  have hc := counts_calls (c := S.cap) (M := M) (hst.get (g := S.g) (o := rowO S.bs S.sp) (by simp)) ho.bs.1 ho.bs.rb8 (fun b hb => ⟨(ho.bs.2 b hb).c0, ho.counts b hb⟩) (by omega)
  have m1 : w.cell? ⟨S.s, 1, none⟩ = some (.slice (some ⟨S.g, 0, none⟩) 5 S.cap) := cell_at (hst.get (g := S.s) (o := svO S) (by simp)) 1
  have HX := _root_.Go.Lib.hid (And.intro hst (And.intro ho (And.intro hM (And.intro hM0 (And.intro hl5 hc)))))
  clear h hst ho hM hM0 hl5 hc
  go_enter Tryz.func27, Tryz.ntmps27
  go_upto_region 2 with (go_at_call 55; refine HX.out.2.2.2.2.2.mono ?_; rintro e w1 ⟨⟨n, rfl, hn0, hn1⟩, hb1⟩)
  obtain ⟨hst, ho, hM, hM0, hl5, _⟩ := HX.out
  have hst1 := hst.grown hb1
  clear HX m1 hst hb1
  obtain ⟨b, hbe⟩ : ∃ b, b = S.bs.getD t default := ⟨_, rfl⟩
  have hR := ho.bs.at ht
  rw [← hbe] at hR
  have hcm : b.count ≤ M := by
    rw [hbe, List.getD_eq_getElem?_getD, List.getElem?_eq_getElem hl5]
    exact ho.counts _ (List.getElem_mem hl5)
  have m1 : w1.cell? ⟨S.s, 1, none⟩ = some (.slice (some ⟨S.g, 0, none⟩) 5 S.cap) := cell_at (hst1.get (g := S.s) (o := svO S) (by simp)) 1
  have x0 : w1.cell? ⟨S.g, t * 66, none⟩ = some (.int .i64 b.head) := by
    have := row_at ho.bs.rb8 hl5 (j := 0) (by omega) S.sp (hst1.get (g := S.g) (o := rowO S.bs S.sp) (by simp))
    rw [← hbe, rbV_head] at this
    exact this
  have x1 : w1.cell? ⟨S.g, t * 66 + 1, none⟩ = some (.int .u32 b.count) := by
    have := row_at ho.bs.rb8 hl5 (j := 1) (by omega) S.sp (hst1.get (g := S.g) (o := rowO S.bs S.sp) (by simp))
    rw [← hbe, rbV_count] at this
    exact this
  have hc0 := hR.c0
  have hhd := hR.hd
  obtain ⟨c0, hc0e⟩ : ∃ c0, c0 = b.count := ⟨_, rfl⟩
  obtain ⟨mx, hmx⟩ : ∃ mx, mx = max n 1 := ⟨_, rfl⟩
  have hm0 : 0 ≤ mx ∧ mx ≤ M + 1 := by omega
  rw [← hmx]
  rw [← hc0e] at x1 hc0 hcm
  have HX := _root_.Go.Lib.hid (And.intro hst1 (And.intro ho (And.intro hM (And.intro hM0 hl5))))
  clear hst1 ho hM0 hmx hn0 hn1 hR
  rcases hhd with hhd | hhd
  focus
    rw [hhd] at x0
    obtain ⟨c, hce⟩ : ∃ c, c = c0 + 1 := ⟨_, rfl⟩
    have hwr : IntKind.u32.wrap (c0 + 1) = c := by rw [IntKind.wrap_u32']; omega
    have HC := _root_.Go.Lib.hid (show 0 ≤ c ∧ c ≤ M + 1 by omega)
    clear hce hm0 hcm hc0e hc0 hbe hhd
    go_upto_region 4 with fail
  rotate_left
  focus
    rw [hhd] at x0
    have HC := _root_.Go.Lib.hid hm0
    clear hm0 hcm hc0e hc0 hbe hhd
    go_upto_region 4 with fail
    generalize mx = c at HC ⊢
  all_goals
    clear m1 x0 x1
    obtain ⟨hst1, ho, hM, hM0, hl5⟩ := HX.out
    have m0 : w1.cell? ⟨S.s, 0, none⟩ = some (.pointer (some ⟨S.D.d, 0, none⟩)) := cell_at (hst1.get (g := S.s) (o := svO S) (by simp)) 0
    have hq := KW.mv ((w1.heap.size, .cells (ints .u32 [0] ++ #[]) 38) :: svR S) (drK S.D) K (hst1.push (.cells (ints .u32 [0] ++ #[]) 38))
    have hP : Calls Tryz.prog 56 #[.pointer (some ⟨S.D.d, 0, none⟩), .int .i64 ((64 * t + 3 : Nat) : Int), .slice (some ⟨w1.heap.size, 0, none⟩) 1 1] (w1.alloc (.cells #[.int .u32 0] 38)) _ := dprog_calls (p := 64 * t + 3) (n := 1) (cap := 1) (L := [0]) (sp := #[]) hq ho.rest rfl (by omega) (by decide)
    rw [show ((64 * t + 3 : Nat) : Int) = (t : Int) * 64 + 4 - 1 by omega] at hP
    have HP := _root_.Go.Lib.hid hP
    clear hst1 ho hM0 hl5 hq hP
    go_upto_region 6 with (go_at_call 56; refine HP.out.mono ?_; rintro e w2 ⟨rfl, D1, hr1, hd1, ha1, hC1, hk1⟩)
    obtain ⟨_, ho, hM, hM0, hl5⟩ := HX.out
    have hst2 : KW B W (drK D1 ++ (svR S ++ K)) w2 := KW.cut (drK D1) [_] (svR S ++ K) hk1
    clear hk1 m0 HP
    obtain ⟨tb, htb⟩ : ∃ tb : Rb, tb = tornB := ⟨_, rfl⟩
    have h8t : Rb8 tb := by rw [htb]; exact tornN8
    have hcl : Tryz.zeroCells140.toList.set 0 (.int .i64 2) = (rbV tb).toList := by rw [htb]; exact torn_cells
    clear htb
    have hsr := store_row ho.bs.rb8 hl5 h8t hcl S.sp (hst2.get (g := S.g) (o := rowO S.bs S.sp) (by simp))
    have m1 : w2.cell? ⟨S.s, 1, none⟩ = some (.slice (some ⟨S.g, 0, none⟩) 5 S.cap) := cell_at (hst2.get (g := S.s) (o := svO S) (by simp)) 1
    have HS := _root_.Go.Lib.hid (And.intro hsr (And.intro hst2 (And.intro ho (And.intro hM (And.intro hM0 (And.intro hl5 (And.intro hr1 (And.intro hd1 (And.intro ha1 hC1)))))))))
    clear hcl hst2 ho hM hM0 hl5 hr1 hd1 ha1 hC1 HX
    go_upto_region 8 with fail
    clear hsr
    obtain ⟨_, hst2, ho, hM, hM0, hl5, hr1, hd1, ha1, hC1⟩ := HS.out
    have hst3 := KW.rowAt (drK D1 ++ [(S.s, svO S)]) ([(S.mp, .map S.es S.ck), (S.rt, .map #[] S.ck2)] ++ K) (g := S.g) (vs := (rowV (S.bs.set t tb) ++ S.sp).toArray) hst2
    clear hst2 m1 HS
    generalize World.setRow w2 _ _ = w3 at hst3 ⊢
    have m0 : w3.cell? ⟨S.s, 0, none⟩ = some (.pointer (some ⟨S.D.d, 0, none⟩)) := cell_at (hst3.get (g := S.s) (o := svO S) (by simp)) 0
    have hE := derase_calls (D := D1) (b := t) hst3 hr1 (by
      rw [hC1]
      have h1 := ho.wear t ht
      have h2 := ho.endure
      have h3 := HM.out
      refine ⟨ht, h1.1, ?_, ?_⟩
      · show S.D.C.wear.getD t 0 < S.D.C.endure
        omega
      · show S.D.C.endure < 1000000
        omega)
    rw [hd1] at hE
    have HE := _root_.Go.Lib.hid (And.intro hE (And.intro ho (And.intro hM (And.intro hM0 (And.intro hl5 (And.intro hd1 (And.intro ha1 hC1)))))))
    clear hE ho hM hM0 hl5 hr1 hd1 ha1 hC1 hst3
    go_upto_region 14 with (go_at_call 57; refine HE.out.1.mono ?_; rintro e w4 ⟨rfl, D2, hr2, hd2, ha2, hC2, hk2⟩)
    have cs0 : w4.heap[S.s]? = some (svO S) := hk2.get (g := S.s) (o := svO S) (by simp)
    have HK := _root_.Go.Lib.hid (And.intro hk2 (And.intro hr2 (And.intro hd2 (And.intro ha2 hC2))))
    clear hk2 hr2 hd2 ha2 hC2 m0
    refine wp_region_reads 6 (fun w => w.heap[S.s]? = some (svO S)) (by kernel_rfl) (by kernel_rfl) cs0 ?_
    clear cs0
    simp only [List.take_succ_cons, List.take_zero, List.drop_succ_cons, List.drop_zero]
    refine Reads.val (v := .pointer (some ⟨S.s, 0, none⟩)) rfl (fun wc hC => ?_) ?_
    · go_simp
    refine Reads.go fun K hK => ?_
    go_simp
    refine hK _ ?_
    clear hK K
    refine Reads.val (v := .pointer (some ⟨S.s, 0, none⟩)) rfl (fun wc hC => ?_) ?_
    · go_simp
    refine Reads.go fun K hK => ?_
    go_simp
    refine hK _ ?_
    clear hK K
    refine Reads.val (v := .pointer (some ⟨S.s, 0, none⟩)) rfl (fun wc hC => ?_) ?_
    · go_simp
    refine Reads.go fun K hK => ?_
    go_simp
    refine hK _ ?_
    clear hK K
    refine Reads.val (v := .pointer (some ⟨S.D.d, 0, none⟩)) rfl (fun wc hC => ?_) ?_
    · have m0 : wc.cell? ⟨S.s, 0, none⟩ = some (.pointer (some ⟨S.D.d, 0, none⟩)) := cell_at hC 0
      go_simp
    refine Reads.go fun K hK => ?_
    go_simp
    refine hK _ ?_
    clear hK K
    refine Reads.val (v := .int .i64 ((t : Int) * 64)) rfl (fun wc hC => ?_) ?_
    · go_simp
    refine Reads.go fun K hK => ?_
    go_simp
    refine hK _ ?_
    clear hK K
    refine Reads.val (v := .int .u32 c) rfl (fun wc hC => ?_) ?_
    · go_simp
    refine Reads.go fun K hK => ?_
    go_simp
    refine hK _ ?_
    clear hK K
    show wpListR _ _ _ _ _ _ _
    obtain ⟨hk2, hr2, hd2, ha2, hC2⟩ := HK.out
    obtain ⟨_, ho, hM, hM0, hl5, hd1, ha1, hC1⟩ := HE.out
    refine wpListR_call (f := 58) (fs := #[.tmp 78]) (ts := #[38]) rfl rfl (enters_of Tryz.func58 (by kernel_rfl) rfl) (gs := #[.int .u32 c]) (by go_simp) (header_calls c HC.out.1 (by have := HC.out.2; omega) _) ?_
    rintro e w5 ⟨rfl, rfl⟩
    have hst5 := KW.mv [(_, .cells (ints .u32 (hdW c) ++ #[]) 38)] (drK D2) ([(S.s, svO S), (S.g, rowO (S.bs.set t tb) S.sp), (S.mp, .map S.es S.ck), (S.rt, .map #[] S.ck2)] ++ K) (hk2.drew.push (.cells (ints .u32 (hdW c) ++ #[]) 38))
    refine ⟨_, rfl, hst5.get (g := S.s) (o := svO S) (by simp), ?_⟩
    refine ListR.go fun K hK => ?_
    go_simp
    refine hK _ _ ?_
    clear hK K
    have hP := dprog_calls (p := 64 * t) (n := 4) (cap := 4) (L := hdW c) (sp := #[]) hst5 hr2 rfl (by omega) (by decide)
    rw [show ((64 * t : Nat) : Int) = (t : Int) * 64 by omega, hd2] at hP
    refine wpListR_call (f := 56) (fs := #[.tmp 76, .tmp 77, .tmp 79]) (ts := #[25, 3, 34]) rfl rfl (enters_of Tryz.func56 (by kernel_rfl) rfl) (gs := #[.pointer (some ⟨S.D.d, 0, none⟩), .int .i64 ((t : Int) * 64), .slice (some ⟨_, 0, none⟩) 4 4]) (by go_simp) hP ?_
    rintro e w6 ⟨rfl, D3, hr3, hd3, ha3, hC3, hk3⟩
    have hst6 := KW.cut (drK D3) [_] _ hk3
    refine ⟨_, rfl, hst6.get (g := S.s) (o := svO S) (by simp), ?_⟩
    refine ListR.go fun K hK => ?_
    go_simp
    refine hK _ _ ?_
    clear hK K
    refine wpListR_val (v := .int .i64 0) (w' := w6) rfl (by go_simp) (hst6.get (g := S.s) (o := svO S) (by simp)) ?_
    refine ListR.go fun K hK => ?_
    go_simp
    refine hK _ _ ?_
    clear hK K
    refine wpListR_nil ?_
    obtain ⟨fb, hfb⟩ : ∃ fb : Rb, fb = freshB c := ⟨_, rfl⟩
    have h8f : Rb8 fb := by rw [hfb]; exact fresh8 c
    have h6 : ∀ x ∈ S.bs.set t tb, Rb8 x := fun x hx => (List.mem_or_eq_of_mem_set hx).elim (ho.bs.rb8 x) fun e => by rw [e]; exact h8t
    have hcl : (Tryz.zeroCells140.toList.set 0 (.int .i64 1)).set 1 (.int .u32 c) = (rbV fb).toList := by rw [hfb]; exact fresh_cells c
    have hsr := store_row h6 (by rw [List.length_set]; exact hl5) h8f hcl S.sp (hst6.get (g := S.g) (o := rowO (S.bs.set t tb) S.sp) (by simp))
    rw [List.set_set] at hsr
    have m1 : w6.cell? ⟨S.s, 1, none⟩ = some (.slice (some ⟨S.g, 0, none⟩) 5 S.cap) := cell_at (hst6.get (g := S.s) (o := svO S) (by simp)) 1
    have HZ := _root_.Go.Lib.hid (And.intro hsr (And.intro hst6 (And.intro hr3 (And.intro hd3 (And.intro ha3 (And.intro hC3 (And.intro hd2 (And.intro ha2 (And.intro hC2 (And.intro hd1 (And.intro ha1 (And.intro hC1 hfb))))))))))))
    clear hcl hst6 hr3 hd3 ha3 hC3 hd2 ha2 hC2 hd1 ha1 hC1 hfb hk3 hP hst5 h6 ho hM0 hr2 hk2
    go_upto_region 18 with fail
    clear hsr m1
    obtain ⟨_, hst6, hr3, hd3, ha3, hC3, hd2, ha2, hC2, hd1, ha1, hC1, hfb⟩ := HZ.out
    have hst7 := KW.rowAt (drK D3 ++ [(S.s, svO S)]) ([(S.mp, .map S.es S.ck), (S.rt, .map #[] S.ck2)] ++ K) (g := S.g) (vs := (rowV (S.bs.set t fb) ++ S.sp).toArray) hst6
    clear hst6 HZ
    generalize World.setRow w6 _ _ = w7 at hst7 ⊢
    have HZ := _root_.Go.Lib.hid (And.intro hst7 (And.intro hr3 (And.intro hd3 (And.intro ha3 (And.intro hC3 (And.intro hd2 (And.intro ha2 (And.intro hC2 (And.intro hd1 (And.intro ha1 (And.intro hC1 hfb)))))))))))
    clear hst7 hr3 hd3 ha3 hC3 hd2 ha2 hC2 hd1 ha1 hC1 hfb
    go_wp2_with fail
    go_ret
    obtain ⟨hst7, hr3, hd3, ha3, hC3, hd2, ha2, hC2, hd1, ha1, hC1, hfb⟩ := HZ.out
    refine ⟨rfl, ?_⟩
    unfold RenP
    have e1 : D3.C = renewC S.D.C t c := by rw [hC3, hC2, hC1]
    have ed : D3.d = S.D.d := hd3
    refine ⟨c, D3, HC.out.1, HC.out.2, hr3, ed, ha3.trans (ha2.trans ha1), e1, ?_⟩
    rw [hfb] at hst7
    have e : svO (S.renew t c D3) = svO S := by simp [svO, Sv.dv, Sv.renew, ed]
    have e2 : svR (S.renew t c D3) = [(S.s, svO S), (S.g, rowO (S.bs.set t (freshB c)) S.sp), (S.mp, .map S.es S.ck), (S.rt, .map #[] S.ck2)] := by unfold svR; rw [e]
    show KW B W ((drK D3 ++ svR (S.renew t c D3)) ++ K) w7
    rw [e2, List.append_assoc]
    exact hst7
end Go.Proofs.YtlcbilknfjdceaaGreatDoor
end
section
/-
  A store whole: the asks of it, and where the sectors are told anew.
-/
set_option linter.unusedVariables false
set_option linter.unusedSimpArgs false
namespace Go.Proofs.YtlcbilknfjdceaaGreatDoor
open Go.RowKit Go.Lib
section
variable {B : Nat} {W w : World} {K : Blocks} {S : Sv}
theorem KW.asB (h : KW B W (svK S ++ K) w) : KW B W (stB S.s S.g S.cap S.rt S.dv (.map (some S.mp)) S.seq S.bs S.sp S.ck2 ((S.mp, .map S.es S.ck) :: (drK S.D ++ K))) w := h.store.perm (List.Perm.cons _ (List.Perm.cons _ (List.Perm.swap _ _ _)))
theorem KW.ofB (h : KW B W (stB S.s S.g S.cap S.rt S.dv (.map (some S.mp)) S.seq S.bs S.sp S.ck2 ((S.mp, .map S.es S.ck) :: (drK S.D ++ K))) w) : KW B W (svK S ++ K) w := (h.perm (List.Perm.cons _ (List.Perm.cons _ (List.Perm.swap _ _ _)))).whole
theorem KW.asG (h : KW B W (svK S ++ K) w) : KW B W ((S.g, rowO S.bs S.sp) :: ((S.s, svO S) :: (S.mp, .map S.es S.ck) :: (S.rt, .map #[] S.ck2) :: (drK S.D ++ K))) w := h.store.perm (List.Perm.swap _ _ _)
theorem perm_g : ((S.g, rowO S.bs S.sp) :: ((S.s, svO S) :: (S.mp, .map S.es S.ck) :: (S.rt, .map #[] S.ck2) :: (drK S.D ++ K))).Perm (svK S ++ K) := by
  refine (List.Perm.swap _ _ _).trans ?_
  have := List.perm_append_comm_assoc (svR S) (drK S.D) K
  rw [← List.append_assoc] at this
  refine this.trans ?_
  rw [List.append_assoc]
theorem sv_victim (h : KW B W (svK S ++ K) w) (hb : Rests S.bs) : Calls Tryz.prog 134 #[.pointer (some ⟨S.s, 0, none⟩)] w fun e w' => (∃ r : Int, e = .returned (.int .i64 r) ∧ vicR r) ∧ KW B W (svK S ++ K) w' :=
  (victim134 h.asB hb.rb8 hb.1).mono fun e w' ⟨a, b⟩ => ⟨a, b.ofB⟩
/-- What asking for an empty block tells. -/
def EmpR (bs : List Rb) (r : Int) : Prop := (∃ x : Fin 5, r = (x.val : Int) ∧ nextB (bOf bs x) = 0) ∨ r = -1
theorem sv_empty (h : KW B W (svK S ++ K) w) (hb : Rests S.bs) : Calls Tryz.prog 96 #[.pointer (some ⟨S.s, 0, none⟩)] w fun e w' => (∃ r : Int, e = .returned (.int .i64 r) ∧ EmpR S.bs r ∧ ((∃ x : Fin 5, (bOf S.bs x).head = 1 ∧ emptyB (bOf S.bs x) = true) → r ≠ -1)) ∧ KW B W (svK S ++ K) w' :=
  (empty96 h.asB hb.rb8 hb.1).mono fun e w' ⟨⟨r, hr, hx⟩, b⟩ => ⟨⟨r, hr, by
    unfold EmpR
    rcases hx with ⟨x, hx, _, he⟩ | ⟨hx, he⟩
    · exact ⟨.inl ⟨x, hx, by simpa [emptyB] using he⟩, fun _ => by omega⟩
    · exact ⟨.inr hx, fun ⟨x, h1, h2⟩ => by rw [he x h1] at h2; cases h2⟩⟩, b.ofB⟩
theorem sv_begun (h : KW B W (svK S ++ K) w) (hb : Rests S.bs) : Calls Tryz.prog 94 #[.pointer (some ⟨S.s, 0, none⟩)] w fun e w' => (∃ r : Int, e = .returned (.int .i64 r) ∧ ((∃ x : Fin 5, r = (x.val : Int) ∧ 0 < nextB (bOf S.bs x)) ∨ r = -1)) ∧ KW B W (svK S ++ K) w' :=
  (begun94 h.asB hb.rb8 hb.1).mono fun e w' ⟨⟨r, hr, hx⟩, b⟩ => ⟨⟨r, hr, by
    rcases hx with ⟨x, hx, _, he⟩ | ⟨hx, he⟩
    · exact .inl ⟨x, hx, by simpa [begunB] using he⟩
    · exact .inr hx⟩, b.ofB⟩
theorem sv_empties (h : KW B W (svK S ++ K) w) (hb : Rests S.bs) : Calls Tryz.prog 95 #[.pointer (some ⟨S.s, 0, none⟩)] w fun e w' => (∃ r : Int, e = .returned (.int .i64 r) ∧ (0 < r → ∃ x : Fin 5, (bOf S.bs x).head = 1 ∧ emptyB (bOf S.bs x) = true)) ∧ KW B W (svK S ++ K) w' :=
  (empties95 h.asB hb.rb8 hb.1).mono fun e w' ⟨a, b⟩ => ⟨a, b.ofB⟩
theorem sv_needed (h : KW B W (svK S ++ K) w) (hb : Rests S.bs) (tb : Nat) : Calls Tryz.prog 135 #[.slice (some ⟨S.g, 0, none⟩) 5 S.cap, .int .i64 (tb : Int)] w fun e w' => ∃ v xs, e = .returned v ∧ (∀ x ∈ xs, In S.bs x ∧ x.b = tb) ∧ xs.length ≤ 8 ∧ KO B W 102 9 v xs.length (flatP xs) (svK S ++ K) w' :=
  (needed135 (tb := tb) (cap := S.cap) h.asG hb.rb8 hb.1).mono fun e w' ⟨v, xs, a, b, c, d⟩ => ⟨v, xs, a, b, c, d.perm perm_g⟩
abbrev Sv.map (S : Sv) (mp : Nat) (es : Array MapEntry) (ck : Nat) : Sv := { S with mp := mp, es := es, ck := ck }
theorem sv_refresh (h : KW B W (svK S ++ K) w) (hb : Rests S.bs) : Calls Tryz.prog 54 #[.pointer (some ⟨S.s, 0, none⟩)] w fun e w' => e = .returned (.tuple #[]) ∧ ∃ mp es ck L, Latest S.bs L ∧ PlacesE es L ∧ KW B W (svK (S.map mp es ck) ++ K) w' :=
  (refresh54 h.store hb.rb8 hb.1).mono fun e w' ⟨a, mp, es, ck, L, b, c, d⟩ => ⟨a, mp, es, ck, L, b, c, by
    have h1 := KW.cut [(S.s, sO S.dv S.g S.cap (.map (some mp)) (.map (some S.rt)) S.seq), (S.g, rowO S.bs S.sp), (mp, .map es ck)] [(S.mp, .map S.es S.ck)] ((S.rt, .map #[] S.ck2) :: (drK S.D ++ K)) d
    exact KW.whole (S := S.map mp es ck) h1⟩
theorem Sv.Le.map (S : Sv) (mp : Nat) (es : Array MapEntry) (ck : Nat) : S.Le (S.map mp es ck) := ⟨rfl, rfl, rfl, LeC.refl _ _, rfl⟩
theorem Sv.Ok.map {M : Int} (h : S.Ok M) {mp : Nat} {es : Array MapEntry} {ck : Nat} (hk : KeysE es) : (S.map mp es ck).Ok M := ⟨h.rest, h.bs, h.words, hk, h.q0, h.q1, h.seqs, h.counts, h.wear, h.endure⟩
theorem In.right {bs : List Rb} (h : Rests bs) {x : Pc} (hx : In bs x) : x.p.Right := by
  have hb : x.b < 5 := by have := hx.1; rw [h.1] at this; exact this
  rcases (h.at hb).pg x.k hx.2.1 with ⟨h1, _⟩ | ⟨_, h2, _⟩ | ⟨h1, _⟩
  · rw [hx.2.2.1] at h1; cases h1
  · rw [← hx.2.2.2]; exact h2
  · rw [hx.2.2.1] at h1; cases h1
end
end Go.Proofs.YtlcbilknfjdceaaGreatDoor
end
section
/-
  ftl: what is needed of a block is moved, and it is renewed.
-/
set_option linter.unusedVariables false
set_option linter.unusedSimpArgs false
namespace Go.Proofs.YtlcbilknfjdceaaGreatDoor
open Go.RowKit Go.Lib
/-- What holds behind a call that may have changed the store. -/
def ColP (B : Nat) (W : World) (K : Blocks) (S : Sv) (M : Int) (w' : World) : Prop := ∃ S' : Sv, S'.Full M ∧ S.Le S' ∧ KW B W (svK S' ++ K) w'
/-- The store in a round of the moving. -/
structure ColS (S T : Sv) (M : Int) (y i : Nat) : Prop where
  ok : T.Ok M
  le : S.Le T
  seq : T.seq = S.seq
  next : i < 8 → nextB (T.bs.getD y default) = (i : Int)
set_option maxHeartbeats 600000 in
set_option maxRecDepth 100000 in
theorem collect97 {B : Nat} {W w : World} {K : Blocks} {S : Sv} {M : Int} (h : KW B W (svK S ++ K) w) (ho : S.Full M) (hM : M < S.D.C.endure) :
    Calls Tryz.prog 97 #[.pointer (some ⟨S.s, 0, none⟩)] w fun e w' => ∃ r : Int, e = .returned (.int .i64 r) ∧ r ≠ 4 ∧ ColP B W K S (M + 1) w' := by
  have hc := sv_victim h ho.1.bs
  have HX := _root_.Go.Lib.hid (And.intro hc (And.intro ho hM))
  clear h hc ho hM
  go_enter Tryz.func97, Tryz.ntmps97
  go_wp2_with (go_at_call 134; refine HX.out.1.mono ?_; rintro e w1 ⟨⟨r, rfl, hr⟩, hk1⟩)
  have hc := sv_empty hk1 HX.out.2.1.1.bs
  have HC := _root_.Go.Lib.hid (And.intro hc hr)
  clear hc hr hk1
  refine HC.out.1.mono ?_
  rintro e w2 ⟨⟨q, rfl, hq, _⟩, hk2⟩
  have hr := HC.out.2
  clear HC
  rcases hr with rfl | ⟨x, rfl⟩
  · have HK := _root_.Go.Lib.hid hk2
    clear hk2 hq
    go_wp2_with fail
    go_ret
    exact ⟨9, rfl, by decide, S, HX.out.2.1.mono (by omega), Sv.Le.refl S, HK.out⟩
  · have m1 : w2.cell? ⟨S.s, 1, none⟩ = some (.slice (some ⟨S.g, 0, none⟩) 5 S.cap) := cell_at (hk2.get (g := S.s) (o := svO S) (by simp)) 1
    have hn := sv_needed hk2 HX.out.2.1.1.bs x.val
    have HN := _root_.Go.Lib.hid (And.intro hn hq)
    clear hn hk2 hq
    go_upto_region 5 with (go_at_call 135; refine HN.out.1.mono ?_; rintro e w3 ⟨v, xs, rfl, hxs, hxl, hko⟩; obtain ⟨np, nc, rfl⟩ := hko.shape)
    have hq := HN.out.2
    generalize hnn : xs.length = n at hxl hko ⊢
    clear m1 HN
    have hto : (q = -1 ∧ 0 < n) ∨ (∃ y : Fin 5, q = (y.val : Int) ∧ nextB (bOf S.bs y) = 0) ∨ (q = -1 ∧ n = 0) := by
      rcases hq with h | h
      · exact .inr (.inl h)
      · by_cases e : n = 0
        · exact .inr (.inr ⟨h, e⟩)
        · exact .inl ⟨h, by omega⟩
    clear hq
    rcases hto with ⟨rfl, hn⟩ | hto
    · have HK := _root_.Go.Lib.hid hko.kw
      clear hko hxs hnn hxl
      go_wp2_with fail
      go_ret
      exact ⟨9, rfl, by decide, S, HX.out.2.1.mono (by omega), Sv.Le.refl S, HK.out⟩
    · have HT := _root_.Go.Lib.hid (And.intro hto (And.intro hko (And.intro hxs (And.intro hnn hxl))))
      clear hko hxs hnn
      have hqq : 0 ≤ q ∨ (q = -1 ∧ n = 0) := by
        rcases hto with ⟨y, rfl, _⟩ | ⟨h1, h2⟩
        · omega
        · exact .inr ⟨h1, h2⟩
      clear hto
      rcases hqq with hq0 | ⟨rfl, rfl⟩
      · have hqn : ¬ q < 0 := by omega
        go_upto_region 7 with fail
        clear hqn hq0
        go_wp2_with fail
        go_loopg [31] n (fun k s31 wr => ∃ (i : Nat) (T : Sv), i + k = n ∧ s31 = .int .i64 (i : Int) ∧ T.Ok M ∧ S.Le T ∧ Heads1 T.bs ∧ T.seq = S.seq ∧ (∀ y : Fin 5, q = (y.val : Int) → i < 8 → nextB (bOf T.bs y) = (i : Int)) ∧ KO B W 102 9 (.slice np n nc) n (flatP xs) (svK T ++ K) wr)
        case atStart =>
          obtain ⟨hto, hko, hxs, hnn, hxl⟩ := HT.out
          refine ⟨0, S, by omega, rfl, HX.out.2.1.1, Sv.Le.refl S, HX.out.2.1.2.2, rfl, fun y hy _ => ?_, hko⟩
          rcases hto with ⟨y', hy', he⟩ | ⟨h1, _⟩
          · have : y = y' := Fin.ext (by omega)
            rw [this]
            exact he
          · omega
        case round =>
          obtain ⟨i, T, hik, rfl, hok, hle, hhd, hsq, hnx, hk⟩ := hrel
          by_cases hin : i < n
          · rcases hk.2 with ⟨_, h0, _⟩ | ⟨gt, tcap, cur, hv, hcap, hmax, hsz, htk, hkw⟩
            · omega
            · simp only [Value.slice.injEq] at hv
              obtain ⟨rfl, rfl⟩ : np = some ⟨gt, 0, none⟩ ∧ nc = tcap := ⟨hv.1, hv.2.2⟩
              have hto := HT.out.1
              rcases hto with ⟨y, hy, _⟩ | ⟨_, h0⟩
              · have hxl := HT.out.2.2.2.2
                have hnn := HT.out.2.2.2.1
                obtain ⟨z, hz⟩ : ∃ z, xs[i]? = some z := ⟨_, List.getElem?_eq_getElem (by omega)⟩
                have hzin := HT.out.2.2.1 z (List.mem_of_getElem? hz)
                have hc : cur = rowP xs (cur.toList.drop (n * 9)) := by
                  unfold rowP
                  rw [← htk, List.take_append_drop, Array.toArray_toList]
                have hg := hkw.get (g := gt) (o := .cells cur 102) List.mem_cons_self
                rw [hc] at hg
                have x0 : wr.cell? ⟨gt, i * 9, none⟩ = some (.int .i64 (z.b : Int)) := cellP hg hz 0 rfl
                have x1 : wr.cell? ⟨gt, i * 9 + 1, none⟩ = some (.int .i64 (z.k : Int)) := cellP hg hz 1 rfl
                have x2 : wr.cell? ⟨gt, i * 9 + 2, none⟩ = some (.int .u32 z.p.sec) := cellP hg hz 2 rfl
                have x3 : wr.cell? ⟨gt, i * 9 + 3, none⟩ = some (.int .u32 z.p.seq) := cellP hg hz 3 rfl
                have x4 : wr.cell? ⟨gt, i * 9 + 4, none⟩ = some (.bool z.p.gone) := cellP hg hz 4 rfl
                have x5 : wr.cell? ⟨gt, i * 9 + 5, none⟩ = some (.int .u32 z.p.d0) := cellP hg hz 5 rfl
                have x6 : wr.cell? ⟨gt, i * 9 + 6, none⟩ = some (.int .u32 z.p.d1) := cellP hg hz 6 rfl
                have x7 : wr.cell? ⟨gt, i * 9 + 7, none⟩ = some (.int .u32 z.p.d2) := cellP hg hz 7 rfl
                have x8 : wr.cell? ⟨gt, i * 9 + 8, none⟩ = some (.int .u32 z.p.d3) := cellP hg hz 8 rfl
                have hk2 := hk.alloc (.cells (pcV z) 102)
                have HK := _root_.Go.Lib.hid (And.intro hk2 (And.intro hok (And.intro (And.intro hle hhd) (And.intro hsq (And.intro hnx (And.intro hzin (And.intro hik (And.intro hxl hy))))))))
                clear hk hk2 hok hle hhd hsq hnx hzin hik hz hkw hv hcap hmax hsz htk hc hg hxl hnn hy
                go_upto_region 10 with fail
                clear x0 x1 x2 x3 x4 x5 x6 x7 x8
                obtain ⟨hk2, hok, ⟨hle, hhd⟩, hsq, hnx, hzin, hik, hxl, hy⟩ := HK.out
                clear HK
                generalize World.alloc wr _ = w4 at hk2 ⊢
                generalize wr.heap.size = gx at hk2 ⊢
                have hgx := hk2.get (g := gx) (o := .cells (pcV z) 102) (by simp)
                obtain ⟨Ks, hR, hkw⟩ := KO.ownR (K0 := (gx, .cells (pcV z) 102) :: svK T) (Kc := K) hk2
                have y0 : w4.cell? ⟨gx, 0, none⟩ = some (.int .i64 (z.b : Int)) := cell_at hgx 0
                have y1 : w4.cell? ⟨gx, 1, none⟩ = some (.int .i64 (z.k : Int)) := cell_at hgx 1
                have y2 : w4.cell? ⟨gx, 2, none⟩ = some (.int .u32 z.p.sec) := cell_at hgx 2
                have y3 : w4.cell? ⟨gx, 3, none⟩ = some (.int .u32 z.p.seq) := cell_at hgx 3
                have y4 : w4.cell? ⟨gx, 4, none⟩ = some (.bool z.p.gone) := cell_at hgx 4
                have y5 : w4.cell? ⟨gx, 5, none⟩ = some (.int .u32 z.p.d0) := cell_at hgx 5
                have y6 : w4.cell? ⟨gx, 6, none⟩ = some (.int .u32 z.p.d1) := cell_at hgx 6
                have y7 : w4.cell? ⟨gx, 7, none⟩ = some (.int .u32 z.p.d2) := cell_at hgx 7
                have y8 : w4.cell? ⟨gx, 8, none⟩ = some (.int .u32 z.p.d3) := cell_at hgx 8
                have hkp : KW B W (svK T ++ ([(gx, .cells (pcV z) 102)] ++ (Ks ++ K))) w4 := KW.mv [(gx, .cells (pcV z) 102)] (svK T) (Ks ++ K) hkw
                have hsec : z.p.seq < T.seq := by
                  rw [hsq]
                  exact HX.out.2.1.1.seqs z hzin.1
                have hri : z.p.Right := In.right HX.out.2.1.1.bs hzin.1
                have hi8 : i < 8 := by omega
                have hnx1 := hnx y hy hi8
                have hP := put60 (t := y.val) (k := i) (p := z.p) hkp hok.rest hok.bs hok.keys y.isLt hnx1 hi8 hri
                rw [← hy, hle.s] at hP
                have HP := _root_.Go.Lib.hid (And.intro hP (And.intro hok (And.intro (And.intro hle hhd) (And.intro hsq (And.intro hnx1 (And.intro hsec (And.intro hri (And.intro hi8 (And.intro hik (And.intro hy hR))))))))))
                clear hP hok hle hhd hsq hnx hnx1 hsec hri hi8 hzin hik hxl hk2 hgx hkw hkp hR hy
                go_wp2_with (go_at_call 60; refine HP.out.1.mono ?_; rintro e w5 ⟨rfl, hput⟩)
                obtain ⟨_, hok, ⟨hle, hhd⟩, hsq, hnx1, hsec, hri, hi8, hik, hy, hR⟩ := HP.out
                unfold PutP at hput
                obtain ⟨D', es', ck', hr', hd', ha', hC', hke', _, hk5⟩ := hput
                have hk6 : KW B W (svK (T.put y.val i z.p D' es' ck') ++ (Ks ++ K)) w5 := KW.cut (svK (T.put y.val i z.p D' es' ck')) [(gx, .cells (pcV z) 102)] (Ks ++ K) hk5
                have hko := OwnR.ko (K0 := svK (T.put y.val i z.p D' es' ck')) (Kc := K) hR hk6
                go_roundg (n - (i + 1))
                case measure => omega
                case rel =>
                  refine ⟨i + 1, T.put y.val i z.p D' es' ck', by omega, by first | rfl | go_num, hok.put y.isLt hnx1 hi8 hri hsec hr' hC' hke' ck', hle.trans (Sv.Le.put hd' ha' hC' es' ck'), hhd.put hnx1 z.p, hsq, fun y' hy' hi' => ?_, hko⟩
                  have : y' = y := Fin.ext (by omega)
                  subst this
                  have hb8 : (T.bs.getD y'.val default).kinds.length = 8 := (hok.bs.at y'.isLt).k8
                  have := next_put hnx1 hi8 hb8 z.p
                  show nextB ((T.bs.set y'.val (putB (T.bs.getD y'.val default) i z.p)).getD y'.val default) = _
                  rw [getD_setG, if_pos ⟨rfl, by rw [hok.bs.1]; exact y'.isLt⟩, this, if_neg (by omega)]
                  omega
              · omega
          · have e : i = n := by omega
            subst e
            have hkT := hk.kw
            have hRn := renew27 (t := x.val) hkT hok x.isLt (by rw [hle.e]; exact HX.out.2.2)
            rw [hle.s] at hRn
            have HR := _root_.Go.Lib.hid (And.intro hRn (And.intro hok (And.intro hle hhd)))
            clear hk hkT hok hle hhd hsq hnx hik hRn hin
            go_wp2_with (go_at_call 27; refine HR.out.1.mono ?_; rintro e w7 ⟨rfl, hren⟩)
            obtain ⟨_, hok, hle, hhd⟩ := HR.out
            unfold RenP at hren
            obtain ⟨c, D', hc0, hc1, hr', hd', ha', hC', hk7⟩ := hren
            have hok7 := hok.renew x.isLt hc0 hc1 (by have := HX.out.2.2; have := HX.out.2.1.1.endure; omega) hr' hC'
            have hle7 := hle.trans (Sv.Le.renew (c := c) hok.rest.ok x.isLt hd' ha' hC')
            have hF := sv_refresh hk7 hok7.bs
            have eS : (T.renew x.val c D').s = S.s := hle.s
            rw [eS] at hF
            have HF := _root_.Go.Lib.hid (And.intro hF (And.intro hok7 (And.intro hle7 (hhd.renew x.val c))))
            clear hok hle hhd HR hc0 hc1 hr' hd' ha' hC' hk7 hok7 hle7 hF eS
            refine HF.out.1.mono ?_
            rintro e w8 ⟨rfl, mp, es, ck, L, hL, hP, hk8⟩
            have HE := _root_.Go.Lib.hid (And.intro hL (And.intro hP hk8))
            clear hL hP hk8
            go_wp2_with fail
            go_ret
            obtain ⟨hL, hP, hk8⟩ := HE.out
            obtain ⟨_, hok7, hle7, hhd⟩ := HF.out
            exact ⟨0, rfl, by decide, (T.renew x.val c D').map mp es ck, ⟨hok7.map hP.1, ⟨L, hL, hP⟩, hhd⟩, hle7.trans (Sv.Le.map _ _ _ _), hk8⟩
      · go_upto_region 7 with fail
        go_wp2_with fail
        go_loopg [31] 0 (fun k s31 wr => ∃ (i : Nat) (T : Sv), i + k = 0 ∧ s31 = .int .i64 (i : Int) ∧ T.Ok M ∧ S.Le T ∧ Heads1 T.bs ∧ T.seq = S.seq ∧ (∀ y : Fin 5, (-1) = (y.val : Int) → i < 8 → nextB (bOf T.bs y) = (i : Int)) ∧ KO B W 102 9 (.slice np 0 nc) 0 (flatP xs) (svK T ++ K) wr)
        case atStart =>
          obtain ⟨hto, hko, hxs, hnn, hxl⟩ := HT.out
          refine ⟨0, S, by omega, rfl, HX.out.2.1.1, Sv.Le.refl S, HX.out.2.1.2.2, rfl, fun y hy _ => ?_, hko⟩
          rcases hto with ⟨y', hy', he⟩ | ⟨h1, _⟩
          · omega
          · omega
        case round =>
          obtain ⟨i, T, hik, rfl, hok, hle, hhd, hsq, hnx, hk⟩ := hrel
          by_cases hin : i < 0
          · omega
          · have e : i = 0 := by omega
            subst e
            have hkT := hk.kw
            have hRn := renew27 (t := x.val) hkT hok x.isLt (by rw [hle.e]; exact HX.out.2.2)
            rw [hle.s] at hRn
            have HR := _root_.Go.Lib.hid (And.intro hRn (And.intro hok (And.intro hle hhd)))
            clear hk hkT hok hle hhd hsq hnx hik hRn hin
            go_wp2_with (go_at_call 27; refine HR.out.1.mono ?_; rintro e w7 ⟨rfl, hren⟩)
            obtain ⟨_, hok, hle, hhd⟩ := HR.out
            unfold RenP at hren
            obtain ⟨c, D', hc0, hc1, hr', hd', ha', hC', hk7⟩ := hren
            have hok7 := hok.renew x.isLt hc0 hc1 (by have := HX.out.2.2; have := HX.out.2.1.1.endure; omega) hr' hC'
            have hle7 := hle.trans (Sv.Le.renew (c := c) hok.rest.ok x.isLt hd' ha' hC')
            have hF := sv_refresh hk7 hok7.bs
            have eS : (T.renew x.val c D').s = S.s := hle.s
            rw [eS] at hF
            have HF := _root_.Go.Lib.hid (And.intro hF (And.intro hok7 (And.intro hle7 (hhd.renew x.val c))))
            clear hok hle hhd HR hc0 hc1 hr' hd' ha' hC' hk7 hok7 hle7 hF eS
            refine HF.out.1.mono ?_
            rintro e w8 ⟨rfl, mp, es, ck, L, hL, hP, hk8⟩
            have HE := _root_.Go.Lib.hid (And.intro hL (And.intro hP hk8))
            clear hL hP hk8
            go_wp2_with fail
            go_ret
            obtain ⟨hL, hP, hk8⟩ := HE.out
            obtain ⟨_, hok7, hle7, hhd⟩ := HF.out
            exact ⟨0, rfl, by decide, (T.renew x.val c D').map mp es ck, ⟨hok7.map hP.1, ⟨L, hL, hP⟩, hhd⟩, hle7.trans (Sv.Le.map _ _ _ _), hk8⟩
end Go.Proofs.YtlcbilknfjdceaaGreatDoor
end
section
/-
  ftl: a block that has room.
-/
set_option linter.unusedVariables false
set_option linter.unusedSimpArgs false
namespace Go.Proofs.YtlcbilknfjdceaaGreatDoor
open Go.RowKit Go.Lib
theorem nx_lt {f : Nat → Int} : ∀ n, n ≤ 8 → nx f n < 8
  | 0, _ => by show (0 : Int) < 8; decide
  | n + 1, hn => by
    unfold nx
    by_cases e : f n = 0
    · rw [if_neg (by simpa using e)]
      exact nx_lt n (by omega)
    · rw [if_pos e]
      split <;> omega
theorem next_nat {b : Rb} (h : 0 ≤ nextB b) : ∃ k : Nat, k < 8 ∧ nextB b = (k : Int) := by
  have h8 : nextB b < 8 := by
    rw [nextB_eq]
    split
    · decide
    · exact nx_lt 8 (Nat.le_refl _)
  exact ⟨(nextB b).toNat, by omega, by omega⟩
/-- What asking for room tells. -/
def RoomP (B : Nat) (W : World) (K : Blocks) (S : Sv) (M : Int) (w' : World) (i e : Int) : Prop := ∃ S' : Sv, S'.Full M ∧ S.Le S' ∧ KW B W (svK S' ++ K) w' ∧ e ≠ 4 ∧ (e = 0 → ∃ (t k : Nat), t < 5 ∧ i = (t : Int) ∧ k < 8 ∧ nextB (S'.bs.getD t default) = (k : Int))
set_option maxHeartbeats 600000 in
set_option maxRecDepth 100000 in
theorem room59 {B : Nat} {W w : World} {K : Blocks} {S : Sv} {M : Int} (h : KW B W (svK S ++ K) w) (ho : S.Full M) (hM : M + 10 < S.D.C.endure) :
    Calls Tryz.prog 59 #[.pointer (some ⟨S.s, 0, none⟩)] w fun e w' => ∃ i r : Int, e = .returned (.tuple #[.int .i64 i, .int .i64 r]) ∧ RoomP B W K S (M + 10) w' i r := by
  have m1 : w.cell? ⟨S.s, 1, none⟩ = some (.slice (some ⟨S.g, 0, none⟩) 5 S.cap) := cell_at (h.store.get (g := S.s) (o := svO S) (by simp)) 1
  have HX := _root_.Go.Lib.hid (And.intro h (And.intro ho hM))
  clear h ho hM
  go_enter Tryz.func59, Tryz.ntmps59
  go_wp2_with fail
  go_loopg [12] 10 (fun k s12 wr => ∃ (j : Nat) (T : Sv), j + k = 10 ∧ s12 = .int .i64 (j : Int) ∧ T.Full (M + (j : Int)) ∧ S.Le T ∧ KW B W (svK T ++ K) wr)
  case atStart => exact ⟨0, S, by omega, rfl, HX.out.2.1.mono (by omega), Sv.Le.refl S, HX.out.1⟩
  case round =>
    clear m1
    obtain ⟨j, T, hjk, rfl, hok, hle, hk⟩ := hrel
    by_cases hj : j < 10
    · have hB := sv_begun hk hok.1.bs
      rw [hle.s] at hB
      have H1 := _root_.Go.Lib.hid (And.intro hB (And.intro hok (And.intro hle hjk)))
      clear hB hok hle hk hjk
      go_upto_region 4 with (go_at_call 94; refine H1.out.1.mono ?_; rintro e w1 ⟨⟨r, rfl, hr⟩, hk1⟩)
      rcases hr with ⟨x, rfl, hx⟩ | rfl
      · have H2 := _root_.Go.Lib.hid (And.intro hk1 hx)
        clear hk1 hx
        go_wp2_with fail
        refine bodyPost_ret (v := .tuple #[.int .i64 (x.val : Int), .int .i64 (0)]) (by simp [results, Tryz.results59, Sem.run_bind, Result.andThen]) rfl ?_
        obtain ⟨k, hk8, hkn⟩ := next_nat (b := bOf T.bs x) (by have := H2.out.2; omega)
        exact ⟨(x.val : Int), 0, rfl, T, H1.out.2.1.mono (by omega), H1.out.2.2.1, H2.out.1, by decide, fun _ => ⟨x.val, k, x.isLt, rfl, hk8, hkn⟩⟩
      · have hE := sv_empties hk1 H1.out.2.1.1.bs
        rw [H1.out.2.2.1.s] at hE
        have H2 := _root_.Go.Lib.hid hE
        clear hE hk1
        go_wp2_with fail
        refine H2.out.mono ?_
        rintro e w2 ⟨⟨r, rfl, hr⟩, hk2⟩
        by_cases hr1 : 1 < r
        · have hE := sv_empty hk2 H1.out.2.1.1.bs
          rw [H1.out.2.2.1.s] at hE
          have H3 := _root_.Go.Lib.hid (And.intro hE (hr (by omega)))
          clear hE hk2 hr
          go_wp2_with (go_at_call 96; refine H3.out.1.mono ?_; rintro e w3 ⟨⟨q, rfl, hq, hq1⟩, hk3⟩)
          have hq1 := hq1 H3.out.2
          have H4 := _root_.Go.Lib.hid (And.intro hq (And.intro hq1 hk3))
          clear hq hq1 hk3
          refine bodyPost_ret (v := .tuple #[.int .i64 (q), .int .i64 (0)]) (by simp [results, Tryz.results59, Sem.run_bind, Result.andThen]) rfl ?_
          rcases H4.out.1 with ⟨y, hy, hy0⟩ | hy
          · exact ⟨q, 0, rfl, T, H1.out.2.1.mono (by omega), H1.out.2.2.1, H4.out.2.2, by decide, fun _ => ⟨y.val, 0, y.isLt, hy, by omega, hy0⟩⟩
          · exact absurd hy H4.out.2.1
        · have hC := collect97 hk2 H1.out.2.1 (by rw [H1.out.2.2.1.e]; have := HX.out.2.2; omega)
          rw [H1.out.2.2.1.s] at hC
          have H3 := _root_.Go.Lib.hid hC
          clear hC hk2 hr
          go_wp2_with fail
          refine H3.out.mono ?_
          rintro e w3 ⟨q, rfl, hq4, hcol⟩
          by_cases hq0 : q = 0
          · subst hq0
            unfold ColP at hcol
            obtain ⟨T', hok', hle', hk'⟩ := hcol
            have H4 := _root_.Go.Lib.hid (And.intro hok' (And.intro hle' hk'))
            clear hok' hle' hk' hq4
            go_wp2_with fail
            go_roundg (10 - (j + 1))
            case measure => have := H1.out.2.2.2; omega
            case rel =>
              refine ⟨j + 1, T', by omega, by first | rfl | go_num, ?_, H1.out.2.2.1.trans H4.out.2.1, H4.out.2.2⟩
              have := H4.out.1
              rw [show M + (j : Int) + 1 = M + ((j + 1 : Nat) : Int) by omega] at this
              exact this
          · have H4 := _root_.Go.Lib.hid (And.intro hq4 hcol)
            clear hq4 hcol
            go_wp2_with fail
            refine bodyPost_ret (v := .tuple #[.int .i64 (-1), .int .i64 (q)]) (by simp [results, Tryz.results59, Sem.run_bind, Result.andThen]) rfl ?_
            obtain ⟨hq4, hcol⟩ := H4.out
            unfold ColP at hcol
            obtain ⟨T', hok', hle', hk'⟩ := hcol
            exact ⟨-1, q, rfl, T', hok'.mono (by omega), H1.out.2.2.1.trans hle', hk', hq4, fun h => absurd h hq0⟩
    · have e : j = 10 := by omega
      subst e
      have H1 := _root_.Go.Lib.hid (And.intro hok (And.intro hle hk))
      clear hok hle hk
      go_wp2_with fail
      refine bodyPost_ret (v := .tuple #[.int .i64 (-1), .int .i64 (9)]) (by simp [results, Tryz.results59, Sem.run_bind, Result.andThen]) rfl ?_
      exact ⟨-1, 9, rfl, T, H1.out.1.mono (by omega), H1.out.2.1, H1.out.2.2, by decide, fun h => by cases h⟩
end Go.Proofs.YtlcbilknfjdceaaGreatDoor
end
section
/-
  ftl: a page of a sector written.
-/
set_option linter.unusedVariables false
set_option linter.unusedSimpArgs false
namespace Go.Proofs.YtlcbilknfjdceaaGreatDoor
open Go.RowKit Go.Lib
/-- A page's data, as it may be. -/
structure DataOk (p : Pg) : Prop where
  a0 : 0 ≤ p.d0 ∧ p.d0 < 4294967296
  a1 : 0 ≤ p.d1 ∧ p.d1 < 4294967296
  a2 : 0 ≤ p.d2 ∧ p.d2 < 4294967296
  a3 : 0 ≤ p.d3 ∧ p.d3 < 4294967296
  g : p.gone = true → p.d0 = 0 ∧ p.d1 = 0 ∧ p.d2 = 0 ∧ p.d3 = 0
abbrev Sv.next (S : Sv) : Sv := { S with seq := S.seq + 1 }
set_option maxHeartbeats 600000 in
set_option maxRecDepth 100000 in
theorem write30 {B : Nat} {W w : World} {K : Blocks} {S : Sv} {M : Int} {p : Pg} (h : KW B W (svK S ++ K) w) (ho : S.Full M) (hM : M + 10 < S.D.C.endure) (i : Int) (hp : DataOk p) :
    Calls Tryz.prog 30 #[.pointer (some ⟨S.s, 0, none⟩), .int .i64 i, .agg (pgV p)] w fun e w' => (∃ r : Int, e = .returned (.int .i64 r)) ∧ ColP B W K S (M + 11) w' := by
  have hst : KW B W (svK S ++ ((w.heap.size, .cells (pgV p) 94) :: K)) (w.alloc (.cells (pgV p) 94)) := KW.mv [(w.heap.size, .cells (pgV p) 94)] (svK S) K (h.push (.cells (pgV p) 94))
  have HX := _root_.Go.Lib.hid (And.intro hst (And.intro ho (And.intro hM hp)))
  clear h ho hM hp hst
  go_enter Tryz.func30, Tryz.ntmps30
  go_upto_region 1 with fail
  obtain ⟨hst, ho, hM, hp⟩ := HX.out
  clear HX
  generalize World.alloc w _ = w1 at hst ⊢
  generalize w.heap.size = pb at hst ⊢
  have HX := _root_.Go.Lib.hid (And.intro hst (And.intro ho (And.intro hM hp)))
  clear ho hM hp
  have hC := check34 (stAt hst.store) i
  have HC := _root_.Go.Lib.hid hC
  clear hst hC
  go_upto_region 2 with (go_at_call 34; refine HC.out.mono ?_; rintro e w2 ⟨rfl, rfl⟩)
  by_cases hi : i < 0 ∨ 12 ≤ i
  · have e1 : chkV i = 10 := if_pos hi
    rw [e1]
    clear hi e1
    go_wp2_with fail
    go_ret
    exact ⟨⟨10, rfl⟩, S, HX.out.2.1.mono (by omega), Sv.Le.refl S, KW.cut (svK S) [(pb, .cells (pgV p) 94)] K HX.out.1⟩
  · have e1 : chkV i = 0 := if_neg hi
    rw [e1]
    have hR := room59 HX.out.1 HX.out.2.1 HX.out.2.2.1
    have HR := _root_.Go.Lib.hid (And.intro hR hi)
    clear hi e1 hR HC
    go_upto_region 5 with (go_at_call 59; refine HR.out.1.mono ?_; rintro e w3 ⟨q, r, rfl, hroom⟩)
    unfold RoomP at hroom
    obtain ⟨T, hok, hle, hk, hr4, hr0⟩ := hroom
    by_cases hrz : r = 0
    · subst hrz
      obtain ⟨t, k, ht, rfl, hk8, hkn⟩ := hr0 rfl
      have hpb := hk.get (g := pb) (o := .cells (pgV p) 94) (by simp)
      have hs := hk.store.get (g := T.s) (o := svO T) (by simp)
      rw [hle.s] at hs
      have m4 : w3.drew.cell? ⟨S.s, 4, none⟩ = some (.int .u32 T.seq) := cell_at hs 4
      have y0 : w3.cell? ⟨pb, 0, none⟩ = some (.int .u32 p.sec) := cell_at hpb 0
      have y1 : w3.cell? ⟨pb, 1, none⟩ = some (.int .u32 p.seq) := cell_at hpb 1
      have f0 : w3.frozen? ⟨pb, 0, none⟩ = false := free_at hpb 0
      have f1 : w3.frozen? ⟨pb, 1, none⟩ = false := free_at hpb 1
      have hwi : IntKind.u32.wrap i = i := by
        have := HR.out.2
        rw [IntKind.wrap_u32']
        omega
      have HK := _root_.Go.Lib.hid (And.intro hok (And.intro hle (And.intro ht (And.intro hk8 hkn))))
      have HL := _root_.Go.Lib.hid (And.intro hk hle.s)
      clear hk hok hle hr4 hr0 hkn hk8 ht hpb hs
      go_upto_region 7 with fail
      refine wp_region_reads 6 (fun w => w.cell? ⟨S.s, 4, none⟩ = some (.int .u32 T.seq)) (by kernel_rfl) (by kernel_rfl) m4 ?_
      simp only [List.take_succ_cons, List.take_zero, List.drop_succ_cons, List.drop_zero]
      refine Reads.val (v := .int .i64 i) rfl (fun wc hC => ?_) ?_
      · go_simp
      refine Reads.go fun K hK => ?_
      go_simp
      refine hK _ ?_
      clear hK K
      refine Reads.val (v := .int .u32 i) rfl (fun wc hC => ?_) ?_
      · go_simp
      refine Reads.go fun K hK => ?_
      go_simp
      refine hK _ ?_
      clear hK K
      refine Reads.val (v := .pointer (some ⟨S.s, 0, none⟩)) rfl (fun wc hC => ?_) ?_
      · go_simp
      refine Reads.go fun K hK => ?_
      go_simp
      refine hK _ ?_
      clear hK K
      refine Reads.val (v := .pointer (some ⟨S.s, 0, none⟩)) rfl (fun wc hC => ?_) ?_
      · go_simp
      refine Reads.go fun K hK => ?_
      go_simp
      refine hK _ ?_
      clear hK K
      refine Reads.val (v := .pointer (some ⟨S.s, 4, none⟩)) rfl (fun wc hC => ?_) ?_
      · go_simp
      refine Reads.go fun K hK => ?_
      go_simp
      refine hK _ ?_
      clear hK K
      refine Reads.val (v := .int .u32 T.seq) rfl (fun wc hC => ?_) ?_
      · go_simp
      refine Reads.go fun K hK => ?_
      go_simp
      refine hK _ ?_
      clear hK K
      show wpListR _ _ _ _ _ _ _
      clear hwi
      refine wpListR_val (v := .pointer (some ⟨pb, 0, none⟩)) (w' := w3.drew) rfl (by go_simp) m4 ?_
      refine ListR.go fun K hK => ?_
      go_simp
      refine hK _ _ ?_
      clear hK K
      have hkA := KW.cellAt (svK T) K (g := pb) (i := 0) (x := .int .u32 i) (vs := pgV { p with sec := i }) HL.out.1.drew rfl
      have m5 : (w3.drew.setCell ⟨pb, 0, none⟩ (.int .u32 i)).cell? ⟨S.s, 4, none⟩ = some (.int .u32 T.seq) := by
        have hs := hkA.store.get (g := T.s) (o := svO T) (by simp)
        rw [HL.out.2] at hs
        exact cell_at hs 4
      have hpb := hkA.get (g := pb) (o := .cells (pgV { p with sec := i }) 94) (by simp)
      have y1' : (w3.drew.setCell ⟨pb, 0, none⟩ (.int .u32 i)).cell? ⟨pb, 1, none⟩ = some (.int .u32 p.seq) := cell_at hpb 1
      have f1' : (w3.drew.setCell ⟨pb, 0, none⟩ (.int .u32 i)).frozen? ⟨pb, 1, none⟩ = false := free_at hpb 1
      have y0' : w3.drew.cell? ⟨pb, 0, none⟩ = some (.int .u32 p.sec) := y0
      have f0' : w3.drew.frozen? ⟨pb, 0, none⟩ = false := f0
      refine wpListR_skip (w' := w3.drew.setCell ⟨pb, 0, none⟩ (.int .u32 i)) rfl (by go_simp) m5 ?_
      have HA := _root_.Go.Lib.hid hkA
      clear hpb y0' f0' y0 y1 f0 f1 m4 HL hkA
      generalize World.setCell w3.drew _ _ = wA at HA m5 y1' f1' ⊢
      refine ListR.go fun K hK => ?_
      go_simp
      refine hK _ _ ?_
      clear hK K
      refine wpListR_val (v := .pointer (some ⟨pb, 1, none⟩)) (w' := wA) rfl (by go_simp) m5 ?_
      refine ListR.go fun K hK => ?_
      go_simp
      refine hK _ _ ?_
      clear hK K
      have hkB := KW.cellAt (svK T) K (g := pb) (i := 1) (x := .int .u32 T.seq) (vs := pgV { p with sec := i, seq := T.seq }) HA.out rfl
      have m6 : (wA.setCell ⟨pb, 1, none⟩ (.int .u32 T.seq)).cell? ⟨S.s, 4, none⟩ = some (.int .u32 T.seq) := by
        have hs := hkB.store.get (g := T.s) (o := svO T) (by simp)
        rw [HK.out.2.1.s] at hs
        exact cell_at hs 4
      have n6 : (wA.setCell ⟨pb, 1, none⟩ (.int .u32 T.seq)).frozen? ⟨S.s, 4, none⟩ = false := by
        have hs := hkB.store.get (g := T.s) (o := svO T) (by simp)
        rw [HK.out.2.1.s] at hs
        exact free_at hs 4
      refine wpListR_skip (w' := wA.setCell ⟨pb, 1, none⟩ (.int .u32 T.seq)) rfl (by go_simp) m6 ?_
      have HB := _root_.Go.Lib.hid hkB
      clear m5 y1' f1' HA hkB
      generalize World.setCell wA _ _ = wB at HB m6 n6 ⊢
      refine ListR.go fun K hK => ?_
      go_simp
      refine hK _ _ ?_
      clear hK K
      refine wpListR_nil ?_
      have hws : IntKind.u32.wrap (T.seq + 1) = T.seq + 1 := by
        have h1 := HK.out.1.1.q0
        have h2 := HK.out.1.1.q1
        have h3 := HX.out.2.2.1
        have h4 := HK.out.1.1.endure
        have h5 := HK.out.2.1.e
        rw [IntKind.wrap_u32']
        omega
      go_upto_region 9 with fail
      have hkC : KW B W (svR T.next ++ (drK T.next.D ++ ((pb, .cells (pgV { p with sec := i, seq := T.seq }) 94) :: K))) (wB.setCell ⟨S.s, 4, none⟩ (.int .u32 (T.seq + 1))) := by
        rw [← HK.out.2.1.s]
        exact KW.cellAt [] ([(T.g, rowO T.bs T.sp), (T.mp, .map T.es T.ck), (T.rt, .map #[] T.ck2)] ++ (drK T.D ++ ((pb, .cells (pgV { p with sec := i, seq := T.seq }) 94) :: K))) HB.out.store rfl
      have hkC := hkC.whole
      clear m6 n6 HB hws
      generalize World.setCell wB _ _ = wC at hkC ⊢
      have hpb := hkC.get (g := pb) (o := .cells (pgV { p with sec := i, seq := T.seq }) 94) (by simp)
      have z0 : wC.cell? ⟨pb, 0, none⟩ = some (.int .u32 i) := cell_at hpb 0
      have z1 : wC.cell? ⟨pb, 1, none⟩ = some (.int .u32 T.seq) := cell_at hpb 1
      have z2 : wC.cell? ⟨pb, 2, none⟩ = some (.bool p.gone) := cell_at hpb 2
      have z3 : wC.cell? ⟨pb, 3, none⟩ = some (.int .u32 p.d0) := cell_at hpb 3
      have z4 : wC.cell? ⟨pb, 4, none⟩ = some (.int .u32 p.d1) := cell_at hpb 4
      have z5 : wC.cell? ⟨pb, 5, none⟩ = some (.int .u32 p.d2) := cell_at hpb 5
      have z6 : wC.cell? ⟨pb, 6, none⟩ = some (.int .u32 p.d3) := cell_at hpb 6
      clear hpb
      obtain ⟨hok, hle, ht, hk8, hkn⟩ := HK.out
      have hM := HX.out.2.2.1
      have hEn := hok.1.endure
      have hEe := hle.e
      have hp := HX.out.2.2.2
      have hi := HR.out.2
      have hok1 : T.next.Ok (M + 11) := ⟨hok.1.rest, hok.1.bs, hok.1.words, hok.1.keys, by have := hok.1.q0; show 1 ≤ T.seq + 1; omega, by have := hok.1.q1; show T.seq + 1 ≤ M + 11; omega, fun x hx => by have := hok.1.seqs x hx; show x.p.seq < T.seq + 1; omega, fun b hb => Int.le_trans (hok.1.counts b hb) (by omega), fun b hb => ⟨(hok.1.wear b hb).1, Int.le_trans (hok.1.wear b hb).2 (by omega)⟩, hok.1.endure⟩
      obtain ⟨p2, hp2⟩ : ∃ p2 : Pg, p2 = { p with sec := i, seq := T.seq } := ⟨_, rfl⟩
      have hri : p2.Right := by
        have h1 := hok.1.q0
        have h2 := hok.1.q1
        rw [hp2]
        exact ⟨show 0 ≤ i by omega, show i < 512 by omega, h1, show T.seq ≤ 2147483648 by omega, hp.a0, hp.a1, hp.a2, hp.a3, hp.g⟩
      have hq2 : p2.seq = T.seq := by rw [hp2]
      have hP := put60 (S := T.next) (t := t) (k := k) (p := p2) hkC hok1.rest hok1.bs hok1.keys ht hkn hk8 hri
      have eS : T.next.s = S.s := hle.s
      have eV : pgV p2 = #[.int .u32 i, .int .u32 T.seq, .bool p.gone, .int .u32 p.d0, .int .u32 p.d1, .int .u32 p.d2, .int .u32 p.d3] := by rw [hp2]
      rw [eS, eV] at hP
      have HP := _root_.Go.Lib.hid (And.intro hP (And.intro hok1 (And.intro hle (And.intro ht (And.intro hk8 (And.intro hkn (And.intro hri (And.intro hq2 hok))))))))
      clear hok hle ht hk8 hkn hM hEn hEe hp hi hok1 hri hq2 hP hkC eS eV hp2 HK
      go_wp2_with (go_at_call 60; refine HP.out.1.mono ?_; rintro e w5 ⟨rfl, hput⟩)
      obtain ⟨_, hok1, hle, ht, hk8, hkn, hri, hq2, hok⟩ := HP.out
      unfold PutP at hput
      obtain ⟨D', es', ck', hr', hd', ha', hC', hke', hlk, hk5⟩ := hput
      have hK := keep37 hk5.store (e := 0) (by decide)
      have eS : (T.next.put t k p2 D' es' ck').s = S.s := hle.s
      rw [eS] at hK
      have hq1 : p2.seq < T.next.seq := by rw [hq2]; show T.seq < T.seq + 1; omega
      have hok2 := hok1.put ht hkn hk8 hri hq1 hr' hC' hke' ck'
      obtain ⟨L, hL, hPl⟩ := hok.2.1
      have hL2 := latest_put hok1.bs ht hk8 ((next_free hkn).2 k (Nat.le_refl _) hk8) hL (fun x hx => by rw [hq2]; exact hok.1.seqs x hx)
      have hP2 := PlacesE.put hPl ⟨t, k, p2⟩ hke' hlk
      have hF : (T.next.put t k p2 D' es' ck').Full (M + 11) := ⟨hok2, ⟨_, hL2, hP2⟩, Heads1.put hok.2.2 hkn p2⟩
      have hle2 : T.Le T.next := ⟨rfl, rfl, rfl, LeC.refl _ _, rfl⟩
      have H6 := _root_.Go.Lib.hid (And.intro hK (And.intro hF (And.intro ((hle.trans hle2).trans (Sv.Le.put hd' ha' hC' es' ck')) eS)))
      clear hok1 hle ht hk8 hkn hri hq2 hok hr' hd' ha' hC' hke' hlk hk5 hK eS hq1 hok2 hL hPl hL2 hP2 hF hle2
      refine H6.out.1.mono ?_
      rintro e w6 ⟨rfl, hk6⟩
      have H7 := _root_.Go.Lib.hid hk6
      clear hk6
      go_wp2_with fail
      go_ret
      obtain ⟨_, hF, hle, eS⟩ := H6.out
      refine ⟨⟨0, rfl⟩, _, hF, hle, ?_⟩
      have h8 := H7.out
      rw [← eS] at h8
      exact KW.cut (svK (T.next.put t k p2 D' es' ck')) [(pb, .cells (pgV { p with sec := i, seq := T.seq }) 94)] K h8.whole
    · have hK := keep37 hk.store hr4
      rw [hle.s] at hK
      have H1 := _root_.Go.Lib.hid (And.intro hK (And.intro hok hle))
      clear hK hok hle hk hr4 hr0
      go_wp2_with (go_at_call 37; refine H1.out.1.mono ?_; rintro e w4 ⟨rfl, hk4⟩)
      have H2 := _root_.Go.Lib.hid hk4
      clear hk4
      first | go_ret | (go_wp2_with fail; go_ret)
      refine ⟨⟨r, rfl⟩, T, H1.out.2.1.mono (by omega), H1.out.2.2, ?_⟩
      have h5 := H2.out
      rw [← H1.out.2.2.s] at h5
      exact KW.cut (svK T) [(pb, .cells (pgV p) 94)] K h5.whole
end Go.Proofs.YtlcbilknfjdceaaGreatDoor
end
section
/-
  ftl: Write, Trim.
-/
set_option linter.unusedVariables false
set_option linter.unusedSimpArgs false
namespace Go.Proofs.YtlcbilknfjdceaaGreatDoor
open Go.RowKit Go.Lib
set_option maxRecDepth 100000 in
theorem trim9 {B : Nat} {W w : World} {K : Blocks} {S : Sv} {M : Int} (h : KW B W (svK S ++ K) w) (ho : S.Full M) (hM : M + 10 < S.D.C.endure) (i : Int) :
    Calls Tryz.prog 9 #[.pointer (some ⟨S.s, 0, none⟩), .int .i64 i] w fun e w' => (∃ r : Int, e = .returned (.int .i64 r)) ∧ ColP B W K S (M + 11) w' := by
  have hc := write30 h ho hM i (p := { Pg.z with gone := true }) ⟨by decide, by decide, by decide, by decide, fun _ => ⟨rfl, rfl, rfl, rfl⟩⟩
  have HC := _root_.Go.Lib.hid hc
  clear h ho hM hc
  go_enter Tryz.func9, Tryz.ntmps9
  go_wp2_with (go_at_call 30; refine HC.out.mono ?_; rintro e w1 ⟨⟨r, rfl⟩, h1⟩)
  have H1 := _root_.Go.Lib.hid h1
  clear h1
  first | go_ret | (go_wp2_with fail; go_ret)
  exact ⟨⟨r, rfl⟩, H1.out⟩
set_option maxRecDepth 100000 in
theorem write10 {B : Nat} {W w : World} {K : Blocks} {S : Sv} {M : Int} (h : KW B W (svK S ++ K) w) (ho : S.Full M) (hM : M + 10 < S.D.C.endure) (i : Int) {d0 d1 d2 d3 : Int} (h0 : 0 ≤ d0 ∧ d0 < 4294967296) (h1 : 0 ≤ d1 ∧ d1 < 4294967296) (h2 : 0 ≤ d2 ∧ d2 < 4294967296) (h3 : 0 ≤ d3 ∧ d3 < 4294967296) :
    Calls Tryz.prog 10 #[.pointer (some ⟨S.s, 0, none⟩), .int .i64 i, .agg #[.int .u32 d0, .int .u32 d1, .int .u32 d2, .int .u32 d3]] w fun e w' => (∃ r : Int, e = .returned (.int .i64 r)) ∧ ColP B W K S (M + 11) w' := by
  have hst : KW B W (svK S ++ ((w.heap.size, .cells #[.int .u32 d0, .int .u32 d1, .int .u32 d2, .int .u32 d3] 43) :: K)) (w.alloc (.cells #[.int .u32 d0, .int .u32 d1, .int .u32 d2, .int .u32 d3] 43)) := KW.mv [(w.heap.size, .cells #[.int .u32 d0, .int .u32 d1, .int .u32 d2, .int .u32 d3] 43)] (svK S) K (h.push _)
  have hc := write30 hst ho hM i (p := ⟨0, 0, false, d0, d1, d2, d3⟩) ⟨h0, h1, h2, h3, fun h => (by cases h)⟩
  have HC := _root_.Go.Lib.hid hc
  clear h ho hM hc h0 h1 h2 h3 hst
  go_enter Tryz.func10, Tryz.ntmps10
  go_wp2_with (go_at_call 30; refine HC.out.mono ?_; rintro e w1 ⟨⟨r, rfl⟩, h1⟩)
  have H1 := _root_.Go.Lib.hid h1
  clear h1
  first | go_ret | (go_wp2_with fail; go_ret)
  refine ⟨⟨r, rfl⟩, ?_⟩
  have h2 := H1.out
  unfold ColP at h2 ⊢
  obtain ⟨S', a, b, c⟩ := h2
  exact ⟨S', a, b, KW.cut (svK S') [_] K c⟩
end Go.Proofs.YtlcbilknfjdceaaGreatDoor
end
section
/-
  ftl: Read.
-/
set_option linter.unusedVariables false
set_option linter.unusedSimpArgs false
namespace Go.Proofs.YtlcbilknfjdceaaGreatDoor
open Go.RowKit Go.Lib
theorem win_page {bs : List Rb} (h : Rests bs) {x : Pc} (hx : In bs x) : win (encW bs) (64 * x.b + 4 + 7 * x.k) 7 = pgW x.p := by
  have hb : x.b < 5 := by have := hx.1; rw [h.1] at this; exact this
  have hr := h.at hb
  have h1 : (bs.getD x.b default).head = 1 := by
    rcases hr.pg x.k hx.2.1 with ⟨a, _, c⟩ | ⟨_, _, c⟩ | ⟨a, _, _⟩
    · exact c
    · exact c
    · rw [hx.2.2.1] at a; cases a
  apply List.ext_getElem?
  intro j
  by_cases hj : j < 7
  · have e := win_at (encW bs) (64 * x.b + 4 + 7 * x.k) 7 j hj
    rw [show 64 * x.b + 4 + 7 * x.k + j = 64 * x.b + (4 + (7 * x.k + j)) by omega, encW_at h x.b _ hb (by have := hx.2.1; omega), encB_page hr h1 x.k j hx.2.1 hj, hx.2.2.1, hx.2.2.2] at e
    have e2 : encP 1 x.p = pgW x.p := if_pos rfl
    rw [e2, List.getD_eq_getElem?_getD, List.getD_eq_getElem?_getD, List.getElem?_eq_getElem (by rw [win_len]; exact hj), List.getElem?_eq_getElem (by rw [pgW_len]; exact hj)] at e
    rw [List.getElem?_eq_getElem (by rw [win_len]; exact hj), List.getElem?_eq_getElem (by rw [pgW_len]; exact hj)]
    exact congrArg some e
  · rw [List.getElem?_eq_none (by rw [win_len]; omega), List.getElem?_eq_none (by rw [pgW_len]; omega)]
theorem set4 {B : Nat} {W w : World} (L R : Blocks) {g : Nat} {t : TypeId} {a b c d x0 x1 x2 x3 : Value} (h : KW B W (L ++ (g, .cells #[a, b, c, d] t) :: R) w) : KW B W (L ++ (g, .cells #[x0, x1, x2, x3] t) :: R) ((((w.setCell ⟨g, 0, none⟩ x0).setCell ⟨g, 1, none⟩ x1).setCell ⟨g, 2, none⟩ x2).setCell ⟨g, 3, none⟩ x3) :=
  KW.cellAt L R (KW.cellAt L R (KW.cellAt L R (KW.cellAt L R (vs := #[x0, b, c, d]) h rfl) (vs := #[x0, x1, c, d]) rfl) (vs := #[x0, x1, x2, d]) rfl) rfl
theorem size43 : (Tryz.prog.info? 43).map (·.size) = some 4 := by kernel_rfl
theorem results14 {tmps : Array Value} {w : World} {rb : Nat} {a b c d : Value} {t : TypeId} (h4 : tmps.getD 4 undef = .pointer (some ⟨rb, 0, none⟩)) (h5 : tmps.getD 5 undef = .int .i64 0) (hg : w.heap[rb]? = some (.cells #[a, b, c, d] t)) :
    (results Tryz.f14 tmps).run Tryz.prog w = .ok (.tuple #[.agg #[a, b, c, d], .int .i64 0]) w := by
  have hl : (Instr.loadAt 43 (.pointer (some ⟨rb, 0, none⟩))).run Tryz.prog w = .ok (.agg #[a, b, c, d]) w := Mem.run_loadAt_part (by rfl) Tryz.underlying43 hg (by rw [size43]; rfl) rfl
  rw [Array.getD_eq_getD_getElem?] at h4 h5
  simp only [Instr.loadAt, Instr.sureAddr, pure_bind] at hl
  simp [results, h4, h5, Result.andThen, asAddr, hl]
/-- What a sector has. -/
def dataV : Option Pc → Array Value
  | none => #[.int .u32 0, .int .u32 0, .int .u32 0, .int .u32 0]
  | some x => #[.int .u32 x.p.d0, .int .u32 x.p.d1, .int .u32 x.p.d2, .int .u32 x.p.d3]
/-- What holds behind a reading. -/
def ReadP (B : Nat) (W : World) (K : Blocks) (S : Sv) (M : Int) (w' : World) : Prop := ∃ S' : Sv, S'.Full M ∧ S.Le S' ∧ S'.bs = S.bs ∧ KW B W (svK S' ++ K) w'
set_option maxHeartbeats 600000 in
set_option maxRecDepth 100000 in
theorem read14 {B : Nat} {W w : World} {K : Blocks} {S : Sv} {M : Int} (h : KW B W (svK S ++ K) w) (ho : S.Full M) {L : Int → Option Pc} (hL : Latest S.bs L) (i : Nat) (hi : i < 12) :
    Calls Tryz.prog 14 #[.pointer (some ⟨S.s, 0, none⟩), .int .i64 (i : Int)] w fun e w' => e = .returned (.tuple #[.agg (dataV (L (i : Int))), .int .i64 0]) ∧ ReadP B W K S M w' := by
  have hst : KW B W (svK S ++ ((w.heap.size, .cells #[.int .u32 0, .int .u32 0, .int .u32 0, .int .u32 0] 43) :: K)) (w.alloc (.cells #[.int .u32 0, .int .u32 0, .int .u32 0, .int .u32 0] 43)) := KW.mv [(w.heap.size, .cells #[.int .u32 0, .int .u32 0, .int .u32 0, .int .u32 0] 43)] (svK S) K (h.push _)
  have hP : PlacesE S.es L := by
    obtain ⟨L', hL', hP'⟩ := ho.2.1
    exact ⟨hP'.1, fun q => by rw [hP'.2 q, hL.same hL' q]⟩
  have HX := _root_.Go.Lib.hid (And.intro hst (And.intro ho (And.intro hL hP)))
  clear h ho hL hst hP
  go_enter Tryz.func14, Tryz.ntmps14
  go_upto_region 1 with fail
  obtain ⟨hst, ho, hL, hP⟩ := HX.out
  clear HX
  generalize World.alloc w _ = w1 at hst ⊢
  generalize w.heap.size = rb at hst ⊢
  have hC := check34 (stAt hst.store) (i : Int)
  rw [show chkV (i : Int) = 0 from if_neg (by omega)] at hC
  have hwi : IntKind.u32.wrap (i : Int) = (i : Int) := by rw [IntKind.wrap_u32']; omega
  have m2 : w1.cell? ⟨S.s, 2, none⟩ = some (.map (some S.mp)) := cell_at (hst.store.get (g := S.s) (o := svO S) (by simp)) 2
  have hlk := hP.2 (i : Int)
  have hmp := hst.get (g := S.mp) (o := .map S.es S.ck) (by simp)
  have HX := _root_.Go.Lib.hid (And.intro hst (And.intro ho hL))
  have HC := _root_.Go.Lib.hid hC
  have ho' := ho.1
  clear hst ho hC
  cases hLi : L (i : Int) with
  | none =>
    rw [hLi] at hlk
    have hl := look85_none hmp hP.1 hlk
    have HI := _root_.Go.Lib.hid hLi
    clear hL hmp hlk hLi hP ho'
    go_upto_region 4 with (go_at_call 34; refine HC.out.mono ?_; rintro e w2 ⟨rfl, rfl⟩)
    go_upto_region 5 with fail
    have hst := HX.out.1.alloc (.cells #[.int .i64 0, .int .i64 0, .int .u32 0, .int .u32 0, .bool false, .int .u32 0, .int .u32 0, .int .u32 0, .int .u32 0] 102)
    generalize World.alloc w2 _ = w3 at hst ⊢
    generalize w2.heap.size = gx at hst ⊢
    have hrb := hst.get (g := rb) (o := .cells #[.int .u32 0, .int .u32 0, .int .u32 0, .int .u32 0] 43) (by simp)
    have r0 : w3.cell? ⟨rb, 0, none⟩ = some (.int .u32 0) := cell_at hrb 0
    have q0 : w3.frozen? ⟨rb, 0, none⟩ = false := free_at hrb 0
    have r1 : w3.cell? ⟨rb, 1, none⟩ = some (.int .u32 0) := cell_at hrb 1
    have q1 : w3.frozen? ⟨rb, 1, none⟩ = false := free_at hrb 1
    have r2 : w3.cell? ⟨rb, 2, none⟩ = some (.int .u32 0) := cell_at hrb 2
    have q2 : w3.frozen? ⟨rb, 2, none⟩ = false := free_at hrb 2
    have r3 : w3.cell? ⟨rb, 3, none⟩ = some (.int .u32 0) := cell_at hrb 3
    have q3 : w3.frozen? ⟨rb, 3, none⟩ = false := free_at hrb 3
    have HK := _root_.Go.Lib.hid hst
    clear hst hrb m2 hl
    go_wp2_with fail
    have h4 := set4 (svK S) K (x0 := .int .u32 0) (x1 := .int .u32 0) (x2 := .int .u32 0) (x3 := .int .u32 0) HK.out
    generalize World.setCell _ _ _ = w4 at h4 ⊢
    have hrb := h4.get (g := rb) (o := .cells #[.int .u32 0, .int .u32 0, .int .u32 0, .int .u32 0] 43) (by simp)
    refine bodyPost_ret (v := .tuple #[.agg #[.int .u32 0, .int .u32 0, .int .u32 0, .int .u32 0], .int .i64 0]) (results14 rfl rfl hrb) rfl ?_
    rw [HI.out]
    exact ⟨rfl, S, HX.out.2.1, Sv.Le.refl S, rfl, KW.cut (svK S) [_] K h4⟩
  | some x =>
    rw [hLi] at hlk
    have hl := look85_some hmp hP.1 hlk
    have hb := hL.yes _ _ hLi
    have hri := In.right ho'.bs hb.1.has
    have HI := _root_.Go.Lib.hid (And.intro hLi (And.intro hb hri))
    clear hL hmp hlk hLi hP hb hri ho'
    go_upto_region 4 with (go_at_call 34; refine HC.out.mono ?_; rintro e w2 ⟨rfl, rfl⟩)
    simp only [pcV] at hl
    go_upto_region 5 with fail
    have hst : KW B W (svK S ++ ((w2.heap.size, .cells (pcV x) 102) :: (rb, .cells #[.int .u32 0, .int .u32 0, .int .u32 0, .int .u32 0] 43) :: K)) (w2.alloc (.cells (pcV x) 102)) := KW.mv [(w2.heap.size, .cells (pcV x) 102)] (svK S) ((rb, .cells #[.int .u32 0, .int .u32 0, .int .u32 0, .int .u32 0] 43) :: K) (HX.out.1.push (.cells (pcV x) 102))
    generalize World.alloc w2 _ = w3 at hst ⊢
    generalize w2.heap.size = gx at hst ⊢
    have hrb := hst.get (g := rb) (o := .cells #[.int .u32 0, .int .u32 0, .int .u32 0, .int .u32 0] 43) (by simp)
    have hgx := hst.get (g := gx) (o := .cells (pcV x) 102) (by simp)
    have y4 : w3.cell? ⟨gx, 4, none⟩ = some (.bool x.p.gone) := cell_at hgx 4
    obtain ⟨gg, hgg⟩ : ∃ gg, gg = x.p.gone := ⟨_, rfl⟩
    rw [← hgg] at y4
    have HG := _root_.Go.Lib.hid hgg
    have HK := _root_.Go.Lib.hid hst
    clear hst m2 hl hgg
    cases gg with
    | true =>
      have r0 : w3.cell? ⟨rb, 0, none⟩ = some (.int .u32 0) := cell_at hrb 0
      have q0 : w3.frozen? ⟨rb, 0, none⟩ = false := free_at hrb 0
      have r1 : w3.cell? ⟨rb, 1, none⟩ = some (.int .u32 0) := cell_at hrb 1
      have q1 : w3.frozen? ⟨rb, 1, none⟩ = false := free_at hrb 1
      have r2 : w3.cell? ⟨rb, 2, none⟩ = some (.int .u32 0) := cell_at hrb 2
      have q2 : w3.frozen? ⟨rb, 2, none⟩ = false := free_at hrb 2
      have r3 : w3.cell? ⟨rb, 3, none⟩ = some (.int .u32 0) := cell_at hrb 3
      have q3 : w3.frozen? ⟨rb, 3, none⟩ = false := free_at hrb 3
      clear hrb hgx
      go_wp2_with fail
      have h4 := set4 (svK S ++ [(gx, .cells (pcV x) 102)]) K (g := rb) (a := .int .u32 0) (b := .int .u32 0) (c := .int .u32 0) (d := .int .u32 0) (x0 := .int .u32 0) (x1 := .int .u32 0) (x2 := .int .u32 0) (x3 := .int .u32 0) (t := 43) (w := w3) (B := B) (W := W) (by have := HK.out; rw [List.append_assoc]; exact this)
      generalize World.setCell _ _ _ = w4 at h4 ⊢
      have hrb := h4.get (g := rb) (o := .cells #[.int .u32 0, .int .u32 0, .int .u32 0, .int .u32 0] 43) (by simp)
      refine bodyPost_ret (v := .tuple #[.agg #[.int .u32 0, .int .u32 0, .int .u32 0, .int .u32 0], .int .i64 0]) (results14 rfl rfl hrb) rfl ?_
      have hg := HI.out.2.2.g HG.out.symm
      rw [HI.out.1]
      refine ⟨?_, S, HX.out.2.1, Sv.Le.refl S, rfl, ?_⟩
      · simp only [dataV, hg.1, hg.2.1, hg.2.2.1, hg.2.2.2]
      · have h5 : KW B W (svK S ++ ([(gx, .cells (pcV x) 102), (rb, .cells #[.int .u32 0, .int .u32 0, .int .u32 0, .int .u32 0] 43)] ++ K)) w4 := by have := h4; rw [List.append_assoc] at this; exact this
        exact KW.cut (svK S) [(gx, .cells (pcV x) 102), (rb, .cells #[.int .u32 0, .int .u32 0, .int .u32 0, .int .u32 0] 43)] K h5
    | false =>
      go_upto_region 7 with fail
      have cs0 : w3.heap[S.s]? = some (svO S) := HK.out.store.get (g := S.s) (o := svO S) (by simp)
      clear y4 hrb
      refine wp_region_plan [(true, 0), (true, 1), (true, 2), (true, 3), (true, 4), (true, 5), (true, 6), (true, 7), (true, 8), (false, 9), (true, 10), (true, 11), (true, 12), (true, 13), (true, 14)] [(true, _), (true, _), (true, _), (true, _), (true, _), (true, _), (true, _), (true, _), (true, _), (false, _), (true, _), (true, _), (true, _), (true, _), (true, _)] (fun w => w.heap[S.s]? = some (svO S) ∧ w.heap[gx]? = some (.cells (pcV x) 102)) (by kernel_rfl) (by kernel_rfl) rfl ⟨cs0, hgx⟩ ?_
      clear cs0 hgx
      refine Plan.val (v := .pointer (some ⟨S.s, 0, none⟩)) rfl (fun wc hC => ?_) ?_
      · go_simp
      refine Plan.go fun K hK => ?_
      go_simp
      refine hK _ _ ?_
      clear hK K
      refine Plan.val (v := .pointer (some ⟨S.s, 0, none⟩)) rfl (fun wc hC => ?_) ?_
      · go_simp
      refine Plan.go fun K hK => ?_
      go_simp
      refine hK _ _ ?_
      clear hK K
      refine Plan.val (v := .pointer (some ⟨S.s, 0, none⟩)) rfl (fun wc hC => ?_) ?_
      · go_simp
      refine Plan.go fun K hK => ?_
      go_simp
      refine hK _ _ ?_
      clear hK K
      refine Plan.val (v := .pointer (some ⟨S.D.d, 0, none⟩)) rfl (fun wc hC => ?_) ?_
      · have m0 : wc.cell? ⟨S.s, 0, none⟩ = some (.pointer (some ⟨S.D.d, 0, none⟩)) := cell_at hC.1 0
        go_simp
      refine Plan.go fun K hK => ?_
      go_simp
      refine hK _ _ ?_
      clear hK K
      refine Plan.val (v := .pointer (some ⟨gx, 0, none⟩)) rfl (fun wc hC => ?_) ?_
      · go_simp
      refine Plan.go fun K hK => ?_
      go_simp
      refine hK _ _ ?_
      clear hK K
      refine Plan.val (v := .int .i64 (x.b : Int)) rfl (fun wc hC => ?_) ?_
      · have y0 : wc.cell? ⟨gx, 0, none⟩ = some (.int .i64 (x.b : Int)) := cell_at hC.2 0
        go_simp
      refine Plan.go fun K hK => ?_
      go_simp
      refine hK _ _ ?_
      clear hK K
      refine Plan.val (v := .pointer (some ⟨gx, 1, none⟩)) rfl (fun wc hC => ?_) ?_
      · go_simp
      refine Plan.go fun K hK => ?_
      go_simp
      refine hK _ _ ?_
      clear hK K
      refine Plan.val (v := .int .i64 (x.k : Int)) rfl (fun wc hC => ?_) ?_
      · have y1 : wc.cell? ⟨gx, 1, none⟩ = some (.int .i64 (x.k : Int)) := cell_at hC.2 1
        go_simp
      refine Plan.go fun K hK => ?_
      go_simp
      refine hK _ _ ?_
      clear hK K
      have hxb : x.b < 5 := by have := HI.out.2.1.1.has.1; rw [HX.out.2.1.1.bs.1] at this; exact this
      have hxk := HI.out.2.1.1.has.2.1
      have HB := _root_.Go.Lib.hid (And.intro hxb hxk)
      clear hxb hxk
      refine Plan.read (v := .int .i64 ((64 * x.b + 4 + 7 * x.k : Nat) : Int)) (f := 36) (fs := #[.tmp 42, .tmp 44]) (ts := #[3, 3]) rfl rfl (enters_of Tryz.func36 (by kernel_rfl) rfl) (gs := #[.int .i64 (x.b : Int), .int .i64 (x.k : Int)]) (by go_simp) (fun wc _ => (at_calls x.b x.k (by have := HB.out.1; omega) HB.out.2 wc).mono fun e w' h => ⟨h.1, h.2.symm⟩) ?_
      refine Plan.go fun K hK => ?_
      go_simp
      refine hK _ _ ?_
      clear hK K
      have hks : KW B W (drK S.D ++ (svR S ++ ((gx, .cells (pcV x) 102) :: (rb, .cells #[.int .u32 0, .int .u32 0, .int .u32 0, .int .u32 0] 43) :: K))) w3 := by have := HK.out; rw [List.append_assoc] at this; exact this
      have hD := dread_calls (p := 64 * x.b + 4 + 7 * x.k) (n := 7) hks.drew HX.out.2.1.1.rest (by have := HB.out; omega) (by decide) (by decide)
      refine Plan.call (f := 35) (fs := #[.tmp 40, .tmp 45, .const (.int .i64 7)]) (ts := #[25, 3, 3]) rfl rfl (enters_of Tryz.func35 (by kernel_rfl) rfl) (gs := #[.pointer (some ⟨S.D.d, 0, none⟩), .int .i64 ((64 * x.b + 4 + 7 * x.k : Nat) : Int), .int .i64 7]) (by go_simp) hD ?_
      rintro e w5 ⟨gw, rfl, hk5⟩
      have hk5 : KW B W (drK { S.D with F := { S.D.F with mode := 0 } } ++ ([(gw, .cells (ints .u32 (win S.D.C.ws (64 * x.b + 4 + 7 * x.k) 7)) 38)] ++ (svR S ++ ((gx, .cells (pcV x) 102) :: (rb, .cells #[.int .u32 0, .int .u32 0, .int .u32 0, .int .u32 0] 43) :: K)))) w5 := hk5
      refine ⟨_, rfl, ⟨hk5.get (g := S.s) (o := svO S) (by simp), hk5.get (g := gx) (o := .cells (pcV x) 102) (by simp)⟩, ?_⟩
      rw [HX.out.2.1.1.words, win_page HX.out.2.1.1.bs HI.out.2.1.1.has] at hk5
      have HW := _root_.Go.Lib.hid hk5
      clear hk5 hks hD
      refine Plan.go fun K hK => ?_
      go_simp
      refine hK _ _ ?_
      clear hK K
      refine Plan.val (v := .tuple #[.slice (some ⟨gw, 0, none⟩) 7 7, .int .i64 0]) rfl (fun wc hC => ?_) ?_
      · go_simp
      refine Plan.go fun K hK => ?_
      go_simp
      refine hK _ _ ?_
      clear hK K
      refine Plan.val (v := .slice (some ⟨gw, 0, none⟩) 7 7) rfl (fun wc hC => ?_) ?_
      · go_simp
      refine Plan.go fun K hK => ?_
      go_simp
      refine hK _ _ ?_
      clear hK K
      refine Plan.val (v := .int .i64 0) rfl (fun wc hC => ?_) ?_
      · go_simp
      refine Plan.go fun K hK => ?_
      go_simp
      refine hK _ _ ?_
      clear hK K
      refine Plan.val (v := .slice (some ⟨gw, 0, none⟩) 7 7) rfl (fun wc hC => ?_) ?_
      · go_simp
      refine Plan.go fun K hK => ?_
      go_simp
      refine hK _ _ ?_
      clear hK K
      refine Plan.val (v := .int .i64 0) rfl (fun wc hC => ?_) ?_
      · go_simp
      refine Plan.go fun K hK => ?_
      go_simp
      refine hK _ _ ?_
      clear hK K
      refine Plan.nil ?_
      have hgw := HW.out.get (g := gw) (o := .cells (ints .u32 (pgW x.p)) 38) (by simp)
      have g2 : w5.cell? ⟨gw, 2, none⟩ = some (.int .u32 x.p.d0) := cell_at hgw 2
      have g3 : w5.cell? ⟨gw, 3, none⟩ = some (.int .u32 x.p.d1) := cell_at hgw 3
      have g4 : w5.cell? ⟨gw, 4, none⟩ = some (.int .u32 x.p.d2) := cell_at hgw 4
      have g5 : w5.cell? ⟨gw, 5, none⟩ = some (.int .u32 x.p.d3) := cell_at hgw 5
      have hrb := HW.out.get (g := rb) (o := .cells #[.int .u32 0, .int .u32 0, .int .u32 0, .int .u32 0] 43) (by simp)
      have r0 : w5.cell? ⟨rb, 0, none⟩ = some (.int .u32 0) := cell_at hrb 0
      have q0 : w5.frozen? ⟨rb, 0, none⟩ = false := free_at hrb 0
      have r1 : w5.cell? ⟨rb, 1, none⟩ = some (.int .u32 0) := cell_at hrb 1
      have q1 : w5.frozen? ⟨rb, 1, none⟩ = false := free_at hrb 1
      have r2 : w5.cell? ⟨rb, 2, none⟩ = some (.int .u32 0) := cell_at hrb 2
      have q2 : w5.frozen? ⟨rb, 2, none⟩ = false := free_at hrb 2
      have r3 : w5.cell? ⟨rb, 3, none⟩ = some (.int .u32 0) := cell_at hrb 3
      have q3 : w5.frozen? ⟨rb, 3, none⟩ = false := free_at hrb 3
      clear hgw hrb
      have ha : ∀ w, Sem.run Tryz.prog (Instr.arrayAt 43 (.slice (some ⟨gw, 2, none⟩) 5 5)) w = .ok (.pointer (some ⟨gw, 2, none⟩)) w := fun w => by kernel_rfl
      go_wp2_with fail
      have h4 := set4 (drK { S.D with F := { S.D.F with mode := 0 } } ++ ((gw, .cells (ints .u32 (pgW x.p)) 38) :: (svR S ++ [(gx, .cells (pcV x) 102)]))) K (x0 := .int .u32 x.p.d0) (x1 := .int .u32 x.p.d1) (x2 := .int .u32 x.p.d2) (x3 := .int .u32 x.p.d3) HW.out
      generalize World.setCell _ _ _ = w6 at h4 ⊢
      have hrb := h4.get (g := rb) (o := .cells #[.int .u32 x.p.d0, .int .u32 x.p.d1, .int .u32 x.p.d2, .int .u32 x.p.d3] 43) (by simp)
      refine bodyPost_ret (v := .tuple #[.agg #[.int .u32 x.p.d0, .int .u32 x.p.d1, .int .u32 x.p.d2, .int .u32 x.p.d3], .int .i64 0]) (results14 rfl rfl hrb) rfl ?_
      rw [HI.out.1]
      have hS := HX.out.2.1
      have h5 : KW B W (drK { S.D with F := { S.D.F with mode := 0 } } ++ ([(gw, .cells (ints .u32 (pgW x.p)) 38)] ++ (svR S ++ ([(gx, .cells (pcV x) 102), (rb, .cells #[.int .u32 x.p.d0, .int .u32 x.p.d1, .int .u32 x.p.d2, .int .u32 x.p.d3] 43)] ++ K)))) w6 := h4
      have h6 : KW B W (svK { S with D := { S.D with F := { S.D.F with mode := 0 } } } ++ ([(gx, .cells (pcV x) 102), (rb, .cells #[.int .u32 x.p.d0, .int .u32 x.p.d1, .int .u32 x.p.d2, .int .u32 x.p.d3] 43)] ++ K)) w6 := KW.cut (drK { S.D with F := { S.D.F with mode := 0 } }) [_] _ h5
      refine ⟨rfl, { S with D := { S.D with F := { S.D.F with mode := 0 } } }, ⟨⟨⟨hS.1.rest.job, hS.1.rest.wait, hS.1.rest.ok, hS.1.rest.room⟩, hS.1.bs, hS.1.words, hS.1.keys, hS.1.q0, hS.1.q1, hS.1.seqs, hS.1.counts, hS.1.wear, hS.1.endure⟩, hS.2⟩, ⟨rfl, rfl, rfl, LeC.refl _ _, rfl⟩, rfl, ?_⟩
      exact KW.cut (svK { S with D := { S.D with F := { S.D.F with mode := 0 } } }) _ K h6
end Go.Proofs.YtlcbilknfjdceaaGreatDoor
end
