/-
  WholeFlash, part 17 of 44: Words.
-/
import Derived.Test.YtlcbilknfjdceaaGreatDoorM16
section
/-
  scan.Words of words that are all ones.
-/
set_option linter.unusedVariables false
set_option linter.unusedSimpArgs false
namespace Go.Proofs.YtlcbilknfjdceaaGreatDoor
open Go.RowKit Go.Lib
attribute [local go_sem] Oper.semAt_some
/-- The blocks of an own slice. -/
def OwnR (e : TypeId) (sz : Nat) (v : Value) (n : Nat) (xs : List Value) (Ks : Blocks) : Prop :=
  xs.length = n * sz ∧ ((v = .slice none 0 0 ∧ n = 0 ∧ Ks = []) ∨ ∃ g cap cur, v = .slice (some ⟨g, 0, none⟩) n cap ∧ n ≤ cap ∧ cap ≤ maxLen ∧ cur.size = cap * sz ∧ cur.toList.take (n * sz) = xs ∧ Ks = [(g, .cells cur e)])
section
variable {B : Nat} {W w w' : World} {K0 Kc Ks : Blocks} {e : TypeId} {sz n : Nat} {v : Value} {xs : List Value}
theorem OwnR.nil : OwnR e sz (.slice none 0 0) 0 [] [] := ⟨by simp, .inl ⟨rfl, rfl, rfl⟩⟩
theorem OwnR.ko (h : OwnR e sz v n xs Ks) (hk : KW B W (K0 ++ (Ks ++ Kc)) w) : KO B W e sz v n xs (K0 ++ Kc) w := by
  refine ⟨h.1, ?_⟩
  rcases h.2 with ⟨a, b, rfl⟩ | ⟨g, cap, cur, a, b, c, d, f, rfl⟩
  · exact .inl ⟨a, b, hk⟩
  · exact .inr ⟨g, cap, cur, a, b, c, d, f, KW.mv K0 [(g, .cells cur e)] Kc hk⟩
theorem KO.ownR (h : KO B W e sz v n xs (K0 ++ Kc) w) : ∃ Ks, OwnR e sz v n xs Ks ∧ KW B W (K0 ++ (Ks ++ Kc)) w := by
  rcases h.2 with ⟨a, b, hk⟩ | ⟨g, cap, cur, a, b, c, d, f, hk⟩
  · exact ⟨[], ⟨h.1, .inl ⟨a, b, rfl⟩⟩, hk⟩
  · exact ⟨_, ⟨h.1, .inr ⟨g, cap, cur, a, b, c, d, f, rfl⟩⟩, KW.mv [(g, .cells cur e)] K0 Kc hk⟩
theorem KO.grown (h : KO B W e sz v n xs K0 w) (hb : Below w.heap.size w w') : KO B W e sz v n xs K0 w' := h.turn fun K1 h => h.grown hb
theorem KO.drew (h : KO B W e sz v n xs K0 w) : KO B W e sz v n xs K0 w.drew := h.turn fun K1 h => h.drew
theorem KO.alloc (h : KO B W e sz v n xs K0 w) (o : Obj) : KO B W e sz v n xs ((w.heap.size, o) :: K0) (w.alloc o) := h.turn fun K1 h => KW.into (h.push o)
theorem KO.drop {p : Nat × Obj} (h : KO B W e sz v n xs (p :: K0) w) : KO B W e sz v n xs K0 w := h.turn fun K1 h => KW.outof h
theorem KO.get (h : KO B W e sz v n xs K0 w) {g : Nat} {o : Obj} (hp : (g, o) ∈ K0) : w.heap[g]? = some o := h.kw.get hp
end
theorem ex_build {a : Act} {w w' : World} {o : Oper} {t : TypeId} {len : Nat} {parts : Array (Nat × Operand)} {v : Value} {qs : Array (Nat × Value)} (h : o.op = .buildSlice t len parts) (hq : parts.map (fun (i, x) => (i, a.eval x)) = qs) (hr : (Instr.buildSlice t len qs).run Tryz.prog w = .ok v w') : (execOp a.eval o).run Tryz.prog w = .ok (.value v) w' := by
  subst hq
  cases o; simp only at h; subst h
  simp only [execOp, Sem.run_bind, hr]
  rfl
/-- Words that are all ones. -/
def AllOnes (w : World) (g : Nat) : Prop := ∀ i, i < 320 → w.cell? ⟨g, i, none⟩ = some (.int .u32 4294967295)
theorem AllOnes.four {w : World} {g : Nat} (h : AllOnes w g) {j : Nat} (hj : j < 5) : Ones4 w g (64 * j) := ⟨h _ (by omega), h _ (by omega), h _ (by omega), h _ (by omega)⟩
theorem AllOnes.below {w w' : World} {g : Nat} (h : AllOnes w g) (hb : Below w.heap.size w w') : AllOnes w' g := fun i hi => keepB hb (h i hi)
theorem rowV_rep_snoc (n : Nat) : rowV (List.replicate (n + 1) noneB) = rowV (List.replicate n noneB) ++ (rbV noneB).toList := by
  unfold rowV
  rw [List.replicate_succ', List.map_append, List.flatten_append]
  simp
abbrev wordsR (pre : List Nat) (s : Value × Blocks) : Prop := OwnR 140 66 s.1 pre.length (rowV (List.replicate pre.length noneB)) s.2
abbrev wordsK (ob : Nat) (s : Value × Blocks) : Blocks := s.2 ++ [(ob, boxO s.1 84)]
set_option maxHeartbeats 2000000 in
set_option maxRecDepth 100000 in
theorem swords_calls {g c : Nat} {w : World} (hc : 320 ≤ c) (h1 : AllOnes w g) : Calls Tryz.prog 52 #[.slice (some ⟨g, 0, none⟩) 320 c] w fun e w' => ∃ g' cap sp, e = .returned (.tuple #[.slice (some ⟨g', 0, none⟩) 5 cap, .int .i64 0]) ∧ 5 ≤ cap ∧ w.heap.size ≤ g' ∧ w'.heap[g']? = some (.cells (rowV (List.replicate 5 noneB) ++ sp).toArray 140) ∧ Below w.heap.size w w' := by
  have n8 : Rb8 noneB := ⟨rfl, rfl⟩
  obtain ⟨i0, hi, hz0, hz1, hz2⟩ := info_parts info140
  have HI := _root_.Go.Lib.hid (And.intro hi (And.intro hz0 (And.intro hz1 (And.intro hz2 (And.intro n8 (And.intro h1 hc))))))
  have mixed : Tryz.prog.follows .mixedOrders = true := by kernel_rfl
  have hk := ((KW.start (Below.refl w.heap.size w) (Nat.le_refl _)).push (boxO (.slice none 0 0) 84))
  have HK := _root_.Go.Lib.hid hk
  clear hi hz0 hz1 hz2 n8 h1 hk hc
  refine (callsIn_wide (n := 9)).1 ?_
  refine callsIn_of_wp_marks Tryz.func52 rfl trivial ?_ rfl
  simp only [Tryz.ntmps52, List.size_toArray, List.length_cons, List.length_nil, Nat.reduceAdd, Nat.reduceSub, Array.replicate_succ, Array.replicate_zero, List.push_toArray, List.append_toArray, List.nil_append, List.cons_append]
  gi_wp2_with fail
  have hk := HK.out
  clear HK
  generalize w.alloc (.cells #[.slice none 0 0] 84) = w1 at hk ⊢
  generalize hob : w.heap.size = ob at hk ⊢
  refine ⟨trivial, ?_⟩
  refine (callsIn_wide.2 chunk_calls).mono ?_
  rintro e w2 ⟨rfl, rfl⟩
  have hk2 := hk.push2 (boxO (.slice (some ⟨g, 0, none⟩) 320 c) 34) (boxO (.int .i64 64) 3)
  generalize (w1.alloc _).alloc _ = w2 at hk2 ⊢
  generalize w1.heap.size = b1 at hk2 ⊢
  have hk3 : KW ob w (chunkK b1 (b1 + 1) g c ++ [] ++ wordsK ob (.slice none 0 0, [])) w2 := hk2.perm (List.Perm.swap _ _ _)
  obtain ⟨b2, hb2⟩ : ∃ b2, b2 = b1 + 1 := ⟨_, rfl⟩
  rw [← hb2] at hk3 ⊢
  have HX := _root_.Go.Lib.hid (And.intro hob hk3)
  clear hk hk2 hk3 hob hb2
  gi_wp2_with fail
  refine wpIn_range_kw (n := 7) (gf := 121) (lb := #[.pointer (some ⟨b1, 0, none⟩), .pointer (some ⟨b2, 0, none⟩)]) rfl (enters_of Tryz.func121 (by kernel_rfl) rfl) (chunk_iter (b1 := b1) (b2 := b2) (g := g) HI.out.2.2.2.2.2.2) (fun _ => rfl)
    wordsR (fun _ _ _ => False) (wordsK ob)
    (fun x a' Kx => Kx = [] ∧ a' = { tmps := #[.slice (some ⟨g, 0, none⟩) 320 c, undef, .slice none 0 0, .int .i64 0, .int .i64 5, .pointer (some ⟨ob, 0, none⟩), .slice (some ⟨g, 64 * x, none⟩) 64 64, .slice (some ⟨g, 0, none⟩) 320 c, .int .i64 320, .int .i64 5, .slice (some ⟨g, 0, none⟩) 320 c, .int .i64 320, .int .i64 0, .bool false, .bool false, .int .i64 5, .bool false, .bool false, .bool false, .int .i64 5, .bool false, .bool false, .slice (some ⟨g, 0, none⟩) 320 c, .func (.func 121) #[] #[.pointer (some ⟨b1, 0, none⟩), .pointer (some ⟨b2, 0, none⟩)], .slice (some ⟨g, 64 * x, none⟩) 64 64, undef, undef, undef, undef, undef, undef], defers := [] }) (K0 := []) ⟨(.slice none 0 0, []), OwnR.nil, HX.out.2⟩ ?assign ?body ?done ?stop
  case assign =>
    rintro l i pre K1 s W hk
    have HK := _root_.Go.Lib.hid hk
    clear hk
    simp only [encCh]
    gi_wp2
    exact ⟨[], by simp, HK.out⟩
  case body =>
    rintro l pre x post a' Kx K1 ⟨v, Ks⟩ W hf ⟨rfl, rfl⟩ hR _ hk
    obtain ⟨hi, hz0, hz1, hz2, n8, h1, hc⟩ := HI.out
    have hx : x < 5 := by
      have : x ∈ List.range 5 := by rw [hf]; simp
      simpa using this
    have hn : pre.length < 5 := by have := congrArg List.length hf; simp at this; omega
    have hk0 : KO ob w 140 66 v pre.length (rowV (List.replicate pre.length noneB)) ((chunkK b1 b2 g c ++ ([] ++ K1)) ++ [(ob, boxO v 84)]) W.drew := (OwnR.ko hR hk).drew
    have fin : ∀ (v' : Value) (w5 : World), KO ob w 140 66 v' (pre.length + 1) (rowV (List.replicate pre.length noneB) ++ (rbV noneB).toList) ((chunkK b1 b2 g c ++ ([] ++ K1)) ++ [(ob, boxO v' 84)]) w5 → ∃ s, wordsR (pre ++ [x]) s ∧ KW ob w (chunkK b1 b2 g c ++ ([] ++ K1) ++ wordsK ob s) w5 := by
      intro v' w5 h5
      rw [← rowV_rep_snoc] at h5
      obtain ⟨Ks', hR', hk'⟩ := h5.ownR
      exact ⟨(v', Ks'), by rw [wordsR, List.length_append, List.length_singleton]; exact hR', hk'⟩
    have ones : ∀ (w : World) (K : Blocks) {m : Nat} {ys : List Value} {vv : Value} {w' : World}, True := fun _ _ => trivial
    have ones : ∀ {vv : Value} {m : Nat} {ys : List Value} {K : Blocks} {w5 : World}, KO ob w 140 66 vv m ys K w5 → Ones4 w5 g (64 * x) := fun h => by
      have hb := h.kw.bel
      rw [← HX.out.1] at hb
      exact (h1.below hb).four hx
    have hone : ∀ {vv : Value} {m : Nat} {ys : List Value} {K : Blocks} {w5 : World}, KO ob w 140 66 vv m ys K w5 → vv.oneCell' = true := fun h => by
      rcases h.2 with ⟨rfl, _⟩ | ⟨_, _, _, rfl, _⟩ <;> rfl
    clear hR hk hf
    gi_wp2_with fail
    refine wpIn_region_any mixed ?_
    change wpAnyIn _ _ _ _ _ _ _ _ _ W.drew
    refine wpAnyIn_ready (rs := [0, 1]) (by kernel_rfl) (by simp) ?_
    refine AllReadyIn.cons rfl (fun K hK => ?_) ?_
    · refine stV rfl (by simp) rfl (Mem.ex_load (ty := 84) (x := .tmp 5) (v1 := .pointer (some ⟨ob, 0, none⟩)) rfl rfl (Mem.run_loadAt_cell (by rfl) Tryz.underlying84 (hk0.get (g := ob) (o := boxO v 84) (by simp)) (v := v) rfl)) ?_
      refine hK _ _ ?_
      clear hK K
      refine wpAnyIn_ready (rs := [1]) (by kernel_rfl) (by simp) ?_
      refine AllReadyIn.cons rfl (fun K hK => ?_) ?_
      · refine stV (w' := _) (v := .slice (some ⟨g, 64 * x, none⟩) 64 64) rfl (by simp) rfl rfl ?_
        refine hK _ _ ?_
        clear hK K
        refine wpAnyIn_ready (rs := [2]) (by kernel_rfl) (by simp) ?_
        refine AllReadyIn.cons rfl (fun K hK => ?_) ?_
        · refine stC (f := 87) (fs := #[.tmp 26]) (ts := #[34]) rfl rfl trivial (fun h => (by cases h)) (enters_of Tryz.func87 (by kernel_rfl) rfl) (gs := #[.slice (some ⟨g, 64 * x, none⟩) 64 64]) (by rw [List.map_toArray]; rfl) (CallsIn.inRound l (callsIn_wide.2 (found_calls (c := 64) (Nat.le_refl _) (ones hk0)))) ?_
          rintro e w2 ⟨rfl, hb⟩
          refine ⟨_, rfl, ?_⟩
          have hk1 := hk0.grown hb
          refine hK _ _ ?_
          clear hK K
          refine wpAnyIn_ready (rs := [3]) (by kernel_rfl) (by simp) ?_
          refine AllReadyIn.cons rfl (fun K hK => ?_) ?_
          · refine stV rfl (by simp) rfl (ex_build (t := 84) (len := 1) (parts := #[(0, .tmp 27)]) rfl (by rw [List.map_toArray]; rfl) (bs140 n8 _)) ?_
            have hk2 := hk1.alloc (.cells (rbV noneB) 140)
            refine hK _ _ ?_
            clear hK K
            refine wpAnyIn_ready (rs := [4]) (by kernel_rfl) (by simp) ?_
            refine AllReadyIn.cons rfl (fun K hK => ?_) ?_
            · refine stA (Kb := _ :: ((chunkK b1 b2 g c ++ ([] ++ K1)) ++ [(ob, boxO v 84)])) rfl (.tmp 25) (.tmp 28) 84 rfl i0 _ 304 Tryz.underlying84 hi hz0 hz1 hz2 (rbV_size zB8) (by decide) (v := v) rfl hk2 ⟨_, 0, none⟩ 1 1 (rbV noneB).toList rfl (by rw [Array.length_toList, rbV_size n8]) (news_mid (off := 0) (m := 66) (hk2.get List.mem_cons_self) (by rw [List.drop_zero, List.take_of_length_le (by rw [Array.length_toList, rbV_size n8]; exact Nat.le_refl _)])) (List.all_eq_true.1 (rbV_one noneB)) (by unfold maxLen; omega) (by omega) ?_
              intro v' w4 hk4
              have hk3 := hk4.drop
              refine hK _ _ ?_
              clear hK K
              refine wpAnyIn_ready (rs := [5]) (by kernel_rfl) (by simp) ?_
              refine AllReadyIn.cons rfl (fun K hK => ?_) ?_
              · refine stS rfl (by simp) rfl (Mem.ex_store (ty := 84) (x := .tmp 5) (y := .tmp 29) (v1 := .pointer (some ⟨ob, 0, none⟩)) (v := v') rfl rfl rfl (Mem.run_storeAt_cell (hk3.get (g := ob) (o := boxO v 84) (by simp)) (by kernel_rfl) (by simp) (hone hk3) rfl rfl)) ?_
                have hk4 := hk3.turn (K' := (chunkK b1 b2 g c ++ ([] ++ K1)) ++ [(ob, boxO v' 84)]) (w' := _) fun K0 h => by
                  rw [← List.append_assoc] at h ⊢
                  exact KW.into (K := []) (KW.row (vs := #[v']) (KW.perm h List.perm_middle))
                refine hK _ _ ?_
                clear hK K
                refine wpAnyIn_done (by kernel_rfl) ?_ _
                exact fin _ _ hk4
              exact AllReadyIn.nil
            exact AllReadyIn.nil
          exact AllReadyIn.nil
        exact AllReadyIn.nil
      exact AllReadyIn.nil
    refine AllReadyIn.cons rfl (fun K hK => ?_) ?_
    · refine stV (w' := _) (v := .slice (some ⟨g, 64 * x, none⟩) 64 64) rfl (by simp) rfl rfl ?_
      refine hK _ _ ?_
      clear hK K
      refine wpAnyIn_ready (rs := [0, 2]) (by kernel_rfl) (by simp) ?_
      refine AllReadyIn.cons rfl (fun K hK => ?_) ?_
      · refine stV rfl (by simp) rfl (Mem.ex_load (ty := 84) (x := .tmp 5) (v1 := .pointer (some ⟨ob, 0, none⟩)) rfl rfl (Mem.run_loadAt_cell (by rfl) Tryz.underlying84 (hk0.get (g := ob) (o := boxO v 84) (by simp)) (v := v) rfl)) ?_
        refine hK _ _ ?_
        clear hK K
        refine wpAnyIn_ready (rs := [2]) (by kernel_rfl) (by simp) ?_
        refine AllReadyIn.cons rfl (fun K hK => ?_) ?_
        · refine stC (f := 87) (fs := #[.tmp 26]) (ts := #[34]) rfl rfl trivial (fun h => (by cases h)) (enters_of Tryz.func87 (by kernel_rfl) rfl) (gs := #[.slice (some ⟨g, 64 * x, none⟩) 64 64]) (by rw [List.map_toArray]; rfl) (CallsIn.inRound l (callsIn_wide.2 (found_calls (c := 64) (Nat.le_refl _) (ones hk0)))) ?_
          rintro e w2 ⟨rfl, hb⟩
          refine ⟨_, rfl, ?_⟩
          have hk1 := hk0.grown hb
          refine hK _ _ ?_
          clear hK K
          refine wpAnyIn_ready (rs := [3]) (by kernel_rfl) (by simp) ?_
          refine AllReadyIn.cons rfl (fun K hK => ?_) ?_
          · refine stV rfl (by simp) rfl (ex_build (t := 84) (len := 1) (parts := #[(0, .tmp 27)]) rfl (by rw [List.map_toArray]; rfl) (bs140 n8 _)) ?_
            have hk2 := hk1.alloc (.cells (rbV noneB) 140)
            refine hK _ _ ?_
            clear hK K
            refine wpAnyIn_ready (rs := [4]) (by kernel_rfl) (by simp) ?_
            refine AllReadyIn.cons rfl (fun K hK => ?_) ?_
            · refine stA (Kb := _ :: ((chunkK b1 b2 g c ++ ([] ++ K1)) ++ [(ob, boxO v 84)])) rfl (.tmp 25) (.tmp 28) 84 rfl i0 _ 304 Tryz.underlying84 hi hz0 hz1 hz2 (rbV_size zB8) (by decide) (v := v) rfl hk2 ⟨_, 0, none⟩ 1 1 (rbV noneB).toList rfl (by rw [Array.length_toList, rbV_size n8]) (news_mid (off := 0) (m := 66) (hk2.get List.mem_cons_self) (by rw [List.drop_zero, List.take_of_length_le (by rw [Array.length_toList, rbV_size n8]; exact Nat.le_refl _)])) (List.all_eq_true.1 (rbV_one noneB)) (by unfold maxLen; omega) (by omega) ?_
              intro v' w4 hk4
              have hk3 := hk4.drop
              refine hK _ _ ?_
              clear hK K
              refine wpAnyIn_ready (rs := [5]) (by kernel_rfl) (by simp) ?_
              refine AllReadyIn.cons rfl (fun K hK => ?_) ?_
              · refine stS rfl (by simp) rfl (Mem.ex_store (ty := 84) (x := .tmp 5) (y := .tmp 29) (v1 := .pointer (some ⟨ob, 0, none⟩)) (v := v') rfl rfl rfl (Mem.run_storeAt_cell (hk3.get (g := ob) (o := boxO v 84) (by simp)) (by kernel_rfl) (by simp) (hone hk3) rfl rfl)) ?_
                have hk4 := hk3.turn (K' := (chunkK b1 b2 g c ++ ([] ++ K1)) ++ [(ob, boxO v' 84)]) (w' := _) fun K0 h => by
                  rw [← List.append_assoc] at h ⊢
                  exact KW.into (K := []) (KW.row (vs := #[v']) (KW.perm h List.perm_middle))
                refine hK _ _ ?_
                clear hK K
                refine wpAnyIn_done (by kernel_rfl) ?_ _
                exact fin _ _ hk4
              exact AllReadyIn.nil
            exact AllReadyIn.nil
          exact AllReadyIn.nil
        exact AllReadyIn.nil
      refine AllReadyIn.cons rfl (fun K hK => ?_) ?_
      · refine stC (f := 87) (fs := #[.tmp 26]) (ts := #[34]) rfl rfl trivial (fun h => (by cases h)) (enters_of Tryz.func87 (by kernel_rfl) rfl) (gs := #[.slice (some ⟨g, 64 * x, none⟩) 64 64]) (by rw [List.map_toArray]; rfl) (CallsIn.inRound l (callsIn_wide.2 (found_calls (c := 64) (Nat.le_refl _) (ones hk0)))) ?_
        rintro e w2 ⟨rfl, hb⟩
        refine ⟨_, rfl, ?_⟩
        have hk1 := hk0.grown hb
        refine hK _ _ ?_
        clear hK K
        refine wpAnyIn_ready (rs := [0, 3]) (by kernel_rfl) (by simp) ?_
        refine AllReadyIn.cons rfl (fun K hK => ?_) ?_
        · refine stV rfl (by simp) rfl (Mem.ex_load (ty := 84) (x := .tmp 5) (v1 := .pointer (some ⟨ob, 0, none⟩)) rfl rfl (Mem.run_loadAt_cell (by rfl) Tryz.underlying84 (hk1.get (g := ob) (o := boxO v 84) (by simp)) (v := v) rfl)) ?_
          refine hK _ _ ?_
          clear hK K
          refine wpAnyIn_ready (rs := [3]) (by kernel_rfl) (by simp) ?_
          refine AllReadyIn.cons rfl (fun K hK => ?_) ?_
          · refine stV rfl (by simp) rfl (ex_build (t := 84) (len := 1) (parts := #[(0, .tmp 27)]) rfl (by rw [List.map_toArray]; rfl) (bs140 n8 _)) ?_
            have hk2 := hk1.alloc (.cells (rbV noneB) 140)
            refine hK _ _ ?_
            clear hK K
            refine wpAnyIn_ready (rs := [4]) (by kernel_rfl) (by simp) ?_
            refine AllReadyIn.cons rfl (fun K hK => ?_) ?_
            · refine stA (Kb := _ :: ((chunkK b1 b2 g c ++ ([] ++ K1)) ++ [(ob, boxO v 84)])) rfl (.tmp 25) (.tmp 28) 84 rfl i0 _ 304 Tryz.underlying84 hi hz0 hz1 hz2 (rbV_size zB8) (by decide) (v := v) rfl hk2 ⟨_, 0, none⟩ 1 1 (rbV noneB).toList rfl (by rw [Array.length_toList, rbV_size n8]) (news_mid (off := 0) (m := 66) (hk2.get List.mem_cons_self) (by rw [List.drop_zero, List.take_of_length_le (by rw [Array.length_toList, rbV_size n8]; exact Nat.le_refl _)])) (List.all_eq_true.1 (rbV_one noneB)) (by unfold maxLen; omega) (by omega) ?_
              intro v' w4 hk4
              have hk3 := hk4.drop
              refine hK _ _ ?_
              clear hK K
              refine wpAnyIn_ready (rs := [5]) (by kernel_rfl) (by simp) ?_
              refine AllReadyIn.cons rfl (fun K hK => ?_) ?_
              · refine stS rfl (by simp) rfl (Mem.ex_store (ty := 84) (x := .tmp 5) (y := .tmp 29) (v1 := .pointer (some ⟨ob, 0, none⟩)) (v := v') rfl rfl rfl (Mem.run_storeAt_cell (hk3.get (g := ob) (o := boxO v 84) (by simp)) (by kernel_rfl) (by simp) (hone hk3) rfl rfl)) ?_
                have hk4 := hk3.turn (K' := (chunkK b1 b2 g c ++ ([] ++ K1)) ++ [(ob, boxO v' 84)]) (w' := _) fun K0 h => by
                  rw [← List.append_assoc] at h ⊢
                  exact KW.into (K := []) (KW.row (vs := #[v']) (KW.perm h List.perm_middle))
                refine hK _ _ ?_
                clear hK K
                refine wpAnyIn_done (by kernel_rfl) ?_ _
                exact fin _ _ hk4
              exact AllReadyIn.nil
            exact AllReadyIn.nil
          exact AllReadyIn.nil
        refine AllReadyIn.cons rfl (fun K hK => ?_) ?_
        · refine stV rfl (by simp) rfl (ex_build (t := 84) (len := 1) (parts := #[(0, .tmp 27)]) rfl (by rw [List.map_toArray]; rfl) (bs140 n8 _)) ?_
          have hk2 := hk1.alloc (.cells (rbV noneB) 140)
          refine hK _ _ ?_
          clear hK K
          refine wpAnyIn_ready (rs := [0]) (by kernel_rfl) (by simp) ?_
          refine AllReadyIn.cons rfl (fun K hK => ?_) ?_
          · refine stV rfl (by simp) rfl (Mem.ex_load (ty := 84) (x := .tmp 5) (v1 := .pointer (some ⟨ob, 0, none⟩)) rfl rfl (Mem.run_loadAt_cell (by rfl) Tryz.underlying84 (hk2.get (g := ob) (o := boxO v 84) (by simp)) (v := v) rfl)) ?_
            refine hK _ _ ?_
            clear hK K
            refine wpAnyIn_ready (rs := [4]) (by kernel_rfl) (by simp) ?_
            refine AllReadyIn.cons rfl (fun K hK => ?_) ?_
            · refine stA (Kb := _ :: ((chunkK b1 b2 g c ++ ([] ++ K1)) ++ [(ob, boxO v 84)])) rfl (.tmp 25) (.tmp 28) 84 rfl i0 _ 304 Tryz.underlying84 hi hz0 hz1 hz2 (rbV_size zB8) (by decide) (v := v) rfl hk2 ⟨_, 0, none⟩ 1 1 (rbV noneB).toList rfl (by rw [Array.length_toList, rbV_size n8]) (news_mid (off := 0) (m := 66) (hk2.get List.mem_cons_self) (by rw [List.drop_zero, List.take_of_length_le (by rw [Array.length_toList, rbV_size n8]; exact Nat.le_refl _)])) (List.all_eq_true.1 (rbV_one noneB)) (by unfold maxLen; omega) (by omega) ?_
              intro v' w4 hk4
              have hk3 := hk4.drop
              refine hK _ _ ?_
              clear hK K
              refine wpAnyIn_ready (rs := [5]) (by kernel_rfl) (by simp) ?_
              refine AllReadyIn.cons rfl (fun K hK => ?_) ?_
              · refine stS rfl (by simp) rfl (Mem.ex_store (ty := 84) (x := .tmp 5) (y := .tmp 29) (v1 := .pointer (some ⟨ob, 0, none⟩)) (v := v') rfl rfl rfl (Mem.run_storeAt_cell (hk3.get (g := ob) (o := boxO v 84) (by simp)) (by kernel_rfl) (by simp) (hone hk3) rfl rfl)) ?_
                have hk4 := hk3.turn (K' := (chunkK b1 b2 g c ++ ([] ++ K1)) ++ [(ob, boxO v' 84)]) (w' := _) fun K0 h => by
                  rw [← List.append_assoc] at h ⊢
                  exact KW.into (K := []) (KW.row (vs := #[v']) (KW.perm h List.perm_middle))
                refine hK _ _ ?_
                clear hK K
                refine wpAnyIn_done (by kernel_rfl) ?_ _
                exact fin _ _ hk4
              exact AllReadyIn.nil
            exact AllReadyIn.nil
          exact AllReadyIn.nil
        exact AllReadyIn.nil
      exact AllReadyIn.nil
    exact AllReadyIn.nil
  case done =>
    rintro D ⟨v, Ks⟩ W hR hk
    rw [wordsR, List.length_range] at hR
    rcases hR.2 with ⟨_, h0, _⟩ | ⟨g', cap, cur, rfl, hcap, _, _, htake, rfl⟩
    · exact absurd h0 (by decide)
    · have m5 : W.cell? ⟨ob, 0, none⟩ = some (.slice (some ⟨g', 0, none⟩) 5 cap) := cell_at (hk.get (g := ob) (o := boxO (.slice (some ⟨g', 0, none⟩) 5 cap) 84) (by simp)) 0
      have HS := _root_.Go.Lib.hid (And.intro hk (And.intro htake hcap))
      clear hk htake hR hcap
      gi_wp2
      have h2 := HS.out.1
      refine ⟨by simp, .inl ⟨_, _, rfl, run_takeDeferred (h2.get (g := D) (o := .deferred (some [])) (by simp)), ?_⟩⟩
      have h3 : KW ob w _ (W.putObj D (.deferred none)) := KW.putMid (L := []) h2
      have hb := h3.bel
      have hg := h3.kept (g', .cells cur 140) (by simp)
      rw [← HX.out.1] at hb hg
      refine ⟨.tuple #[.slice (some ⟨g', 0, none⟩) 5 cap, .int .i64 0], by simp [results, Tryz.results52, Sem.run_bind, Result.andThen], g', cap, cur.toList.drop (5 * 66), rfl, HS.out.2.2, hg.1, ?_, hb⟩
      rw [hg.2, ← HS.out.2.1, List.take_append_drop]
  case stop =>
    rintro D c pre x post s W hf h hk
    exact h.elim
end Go.Proofs.YtlcbilknfjdceaaGreatDoor
end
