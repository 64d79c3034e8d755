/-
  WholeFlash, part 5 of 44: Nord, Clone, Cfi, Tick.
-/
import Derived.Deep.RegionWith
import Derived.Laws.AppendOwn
import Derived.OwnWalk
import Derived.Deep.Cut
import Derived.Test.YtlcbilknfjdceaaGreatDoorM04
section
/-
  A chip of five blocks: a word programmed, a block erased.
-/
set_option linter.unusedVariables false
set_option linter.unusedSimpArgs false
namespace Go.Proofs.YtlcbilknfjdceaaGreatDoor
open Go.RowKit Go.Lib
section
variable {B : Nat} {W w : World} {K L : Blocks} {p : Nat × Obj} {C : Ch} {a : At}
theorem KW.into (h : KW B W (p :: (L ++ K)) w) : KW B W (L ++ p :: K) w := h.perm List.perm_middle.symm
theorem KW.outof (h : KW B W (L ++ p :: K) w) : KW B W (L ++ K) w := (h.perm List.perm_middle).tail
/-- A word programmed. -/
abbrev Ch.prog (C : Ch) (i : Nat) (v : Int) : Ch := C.put (C.ws.set i (bits .and .u32 (C.ws.getD i 0) v))
theorem Ch.Ok.prog (h : C.Ok) (i : Nat) (v : Int) : (C.prog i v).Ok := ⟨by show (C.ws.set i _).length = 320; rw [List.length_set]; exact h.hw, h.hr⟩
theorem prog_calls (h : KW B W (chK C a ++ K) w) (ho : C.Ok) (ha : 320 ≤ a.n) (i : Nat) (hi : i < 320) (v : Int) : Calls Tryz.prog 197 #[.pointer (some ⟨a.c, 0, none⟩), .int .i64 (i : Int), .int .u32 v] w fun e w' => e = .returned (.int .i64 0) ∧ KW B W (chK (C.prog i v) a ++ K) w' := by
  have h2 := (h.push (.cells #[.int .u32 v] 38)).into
  have H := _root_.Go.Lib.hid h2
  have HO := _root_.Go.Lib.hid (And.intro ho (And.intro ha hi))
  clear h h2 ho ha hi
  go_enter Tryz.func197, Tryz.ntmps197
  go_wp2_with (go_at_call 142; refine (check_calls H.out (i : Int) 64 (.inl rfl) (by omega) (by have := HO.out.2.2; omega)).mono ?_; rintro e w' ⟨rfl, rfl⟩)
  refine (changeP_calls v _ H.out HO.out.1 HO.out.2.1 i 1 (by decide) (by have := HO.out.2.2; omega)).mono ?_
  rintro e w1 ⟨rfl, hk⟩
  have HK := _root_.Go.Lib.hid hk.outof
  clear hk
  go_wp2_with fail
  go_ret
  exact ⟨rfl, HK.out⟩
attribute [local irreducible] chg
/-- A block erased. -/
abbrev Ch.erase (C : Ch) (b : Nat) : Ch := { C with ws := chg (fun _ => 4294967295) C.ws (b * 64) 64, wear := C.wear.set b (C.wear.getD b 0 + 1) }
theorem Ch.Ok.erase (h : C.Ok) (b : Nat) : (C.erase b).Ok := ⟨(chg_len _ _ _ _).trans h.hw, by show (C.wear.set b _).length = 5; rw [List.length_set]; exact h.hr⟩
set_option maxRecDepth 100000 in
theorem erase_calls (h : KW B W (chK C a ++ K) w) (ho : C.Ok) (ha : 320 ≤ a.n) (b : Nat) (hb : b < 5) (h0 : 0 ≤ C.wear.getD b 0) (h1 : C.wear.getD b 0 < C.endure) (h2 : C.endure < 1000000) : Calls Tryz.prog 199 #[.pointer (some ⟨a.c, 0, none⟩), .int .i64 (b : Int)] w fun e w' => e = .returned (.int .i64 0) ∧ KW B W (chK (C.erase b) a ++ K) w' := by
  obtain ⟨x, hx⟩ : ∃ x, x = C.wear.getD b 0 := ⟨_, rfl⟩
  obtain ⟨E, hE⟩ : ∃ E, E = C.endure := ⟨_, rfl⟩
  have er : C.erase b = { C with ws := chg (fun _ => 4294967295) C.ws (b * 64) 64, wear := C.wear.set b (x + 1) } := by rw [hx]
  rw [er]
  rw [← hx] at h0 h1
  rw [← hE] at h1 h2
  have m1 : w.drew.cell? ⟨a.c, 1, none⟩ = some (.slice (some ⟨a.v, 0, none⟩) 5 a.m) := cell_at (h.drew.get (g := a.c) (o := chO C a) (by simp)) 1
  have m2 : w.drew.cell? ⟨a.c, 2, none⟩ = some (.int .i64 E) := by rw [hE]; exact cell_at (h.drew.get (g := a.c) (o := chO C a) (by simp)) 2
  have mb : w.drew.cell? ⟨a.v, b, none⟩ = some (.int .i64 x) := by
    rw [cell_at (h.drew.get (g := a.v) (o := .cells (ints .i64 C.wear) 3) (by simp)) b, hx]
    exact ints_at (by rw [ho.hr]; exact hb)
  have fb : w.drew.frozen? ⟨a.v, b, none⟩ = false := free_at (h.drew.get (g := a.v) (o := .cells (ints .i64 C.wear) 3) (by simp)) b
  have H := _root_.Go.Lib.hid h
  have HO := _root_.Go.Lib.hid (And.intro ho (And.intro ha (And.intro hb (And.intro hx (And.intro hE er)))))
  have g1 : (x ≥ E) = False := eq_false (by omega)
  have g2 : wrap64 (x + 1) = x + 1 := by unfold wrap64; omega
  have g3 : wrap64 ((b : Int) * 64) = (b : Int) * 64 := by unfold wrap64; omega
  have hb5 : b < 5 := hb
  clear h ho ha h0 h1 h2 hx hE er hb
  go_enter Tryz.func199, Tryz.ntmps199
  go_wp2_with (go_at_call 142; refine (check_calls H.out (b : Int) 1 (.inr rfl) (by omega) (by have := HO.out.2.2.1; omega)).mono ?_; rintro e w' ⟨rfl, rfl⟩)
  go_cut [23] from 6 (fun s23 wx => s23 = .bool false ∧ w.drew = wx)
  case first =>
    focus go_region_with fail
    all_goals
      go_wp2
      go_meet
      case rel => exact ⟨rfl, rfl⟩
  case rest =>
    obtain ⟨rfl, rfl⟩ := hcut
    go_upto_region 7 with fail
    have k := (KW.third (vs := ints .i64 (C.wear.set b (x + 1))) H.out ints_set).drew
    generalize World.drew _ = w1 at k ⊢
    have H1 := _root_.Go.Lib.hid k
    clear k
    go_wp2_with fail
    obtain ⟨ho, ha, hb, hx, hE, er⟩ := HO.out
    have ok : Ch.Ok { C with wear := C.wear.set b (x + 1) } := ⟨ho.hw, by show (C.wear.set b _).length = 5; rw [List.length_set]; exact ho.hr⟩
    have hc := changeE_calls (C := { C with wear := C.wear.set b (x + 1) }) H1.out ok ha (b * 64) 64 (by decide) (by omega)
    rw [show ((b * 64 : Nat) : Int) = (b : Int) * 64 by omega] at hc
    clear ho ha hb hx hE er ok
    refine hc.mono ?_
    rintro e w2 ⟨rfl, hk⟩
    have HK := _root_.Go.Lib.hid hk
    clear hk hc H1
    go_wp2_with fail
    go_ret
    exact ⟨rfl, HK.out⟩
end
end Go.Proofs.YtlcbilknfjdceaaGreatDoor
end
section
/-
  slices.Clone of words; a chip's words told; its wear told.
-/
set_option linter.unusedVariables false
set_option linter.unusedSimpArgs false
namespace Go.Proofs.YtlcbilknfjdceaaGreatDoor
open Go.RowKit Go.Lib
theorem info38 : (Tryz.prog.info? 38).map (fun i => (i.zero, i.size, i.bytes)) = some (some (.int .u32 0), 1, 4) := by kernel_rfl
theorem addr_add' (g o j : Nat) : (⟨g, o, none⟩ : Addr).add j = ⟨g, o + j, none⟩ := by unfold Addr.add; split <;> simp_all
set_option maxRecDepth 100000 in
theorem clone_calls {b n c : Nat} {l : List Int} {sp : Array Value} {w : World} (hn : 0 < n) (hl : l.length = n) (hmax : n ≤ 100000) (hb : w.heap[b]? = some (.cells (ints .u32 l ++ sp) 38)) :
    Calls Tryz.prog 29 #[.slice (some ⟨b, 0, none⟩) n c] w fun e w' => ∃ g cap sp', e = .returned (.slice (some ⟨g, 0, none⟩) n cap) ∧ n ≤ cap ∧ w.heap.size ≤ g ∧ w'.heap[g]? = some (.cells (ints .u32 l ++ sp') 38) ∧ Below w.heap.size w w' := by
  obtain ⟨i0, hi, hz0, hz1, hz2⟩ := info_parts info38
  have HI := _root_.Go.Lib.hid (And.intro hi (And.intro hz0 (And.intro hz1 hz2)))
  have hlt := lt_of_heap hb
  have hnews : ∀ (o : Obj) j u, (l.map (Value.int .u32))[j]? = some u → (w.alloc o).cell? ((⟨b, 0, none⟩ : Addr).add j) = some u := by
    intro o j u hu
    have hj : j < l.length := by
      rcases Nat.lt_or_ge j l.length with h | h
      · exact h
      · rw [List.getElem?_eq_none (by simpa using h)] at hu; cases hu
    rw [addr_add', Nat.zero_add, cell_at (show (w.alloc o).heap[b]? = _ by rw [Below.heap_alloc w o b hlt]; exact hb) j, Array.getElem?_append_left (by unfold ints; simpa using hj)]
    unfold ints
    simpa using hu
  have hnil : ∀ w, (binOp .eql 34 (.slice (some ⟨b, 0, none⟩) n c) (.slice none 0 0)).run Tryz.prog w = .ok (.bool false) w := fun _ => by kernel_rfl
  have HN := _root_.Go.Lib.hid (And.intro hnews (And.intro hl (And.intro hmax hn)))
  clear hi hz0 hz1 hz2 hnews hl hmax hn hb
  go_enter Tryz.func29, Tryz.ntmps29
  go_wp2_with (at_builtin; refine wpList_append_own _ rfl _ _ 34 rfl w.heap.size 38 i0 _ 1 4 Tryz.underlying34 HI.out.1 HI.out.2.1 HI.out.2.2.1 HI.out.2.2.2 rfl (by decide) _ 0 [] rfl (World.ownsRow_made w #[] 0 (Nat.le_refl _) (by decide) rfl) ⟨b, 0, none⟩ n c (l.map (Value.int .u32)) rfl ?c1 (HN.out.1 _) ?c2 ?c3 ?c4 ?c5 ?_)
  case c1 => rw [List.length_map, HN.out.2.1, Nat.mul_one]
  case c2 =>
    intro u hu
    obtain ⟨x, _, rfl⟩ := List.mem_map.1 hu
    rfl
  case c3 => have := HN.out.2.2.1; unfold maxLen; omega
  case c4 => have := HN.out.2.2.1; omega
  case c5 => rw [World.size_alloc]; omega
  intro v' w3 ho hg _
  have HX := _root_.Go.Lib.hid (And.intro ho hg)
  clear ho hg
  go_wp2_with fail
  go_ret
  obtain ⟨ho, hg⟩ := HX.out
  obtain ⟨_, ⟨_, h0⟩ | ⟨g, cap, cur, rfl, hgb, hgg, hnc, hcap, hsz, htake⟩⟩ := ho
  · have := HN.out.2.2.2; omega
  · refine ⟨g, cap, (cur.toList.drop n).toArray, rfl, by omega, hgb, ?_, ?_⟩
    · rw [hgg]
      congr 2
      apply Array.ext'
      have ht : cur.toList.take n = l.map (Value.int .u32) := by simpa using htake
      show cur.toList = (ints .u32 l ++ (cur.toList.drop n).toArray).toList
      rw [Array.toList_append]
      show cur.toList = (l.map (Value.int .u32)) ++ cur.toList.drop n
      rw [← ht, List.take_append_drop]
    · refine ⟨hg.os, hg.tape, hg.output, Nat.le_trans (by rw [World.size_alloc]; omega) hg.size, fun k hk => ?_⟩
      rw [hg.block k (by rw [World.size_alloc]; omega) (by simp [Value.ownBlock]; omega), Below.heap_alloc w _ k hk]
section
variable {B : Nat} {W w w' : World} {K L : Blocks} {C : Ch} {a : At}
theorem KW.fresh {g : Nat} {o : Obj} (h : KW B W L w) (hb : Below w.heap.size w w') (hs : w.heap.size ≤ g) (hg : w'.heap[g]? = some o) : KW B W ((g, o) :: L) w' := by
  have h1 := h.grown hb
  refine ⟨h1.bel, h1.size, fun p hp => ?_, ?_⟩
  · rcases List.mem_cons.1 hp with rfl | hp
    · exact ⟨Nat.le_trans h.size hs, hg⟩
    · exact h1.kept p hp
  · rw [List.map_cons, List.nodup_cons]
    refine ⟨fun hm => ?_, h1.nodup⟩
    obtain ⟨p, hp, e⟩ := List.mem_map.1 hm
    have := lt_of_heap (h.kept p hp).2
    omega
theorem words_calls (h : KW B W (chK C a ++ K) w) (ho : C.Ok) : Calls Tryz.prog 7 #[.pointer (some ⟨a.c, 0, none⟩)] w fun e w' => ∃ g cap sp', e = .returned (.slice (some ⟨g, 0, none⟩) 320 cap) ∧ 320 ≤ cap ∧ KW B W ((g, .cells (ints .u32 C.ws ++ sp') 38) :: (chK C a ++ K)) w' := by
  have m0 : w.cell? ⟨a.c, 0, none⟩ = some (.slice (some ⟨a.w, 0, none⟩) 320 a.n) := cell_at (h.get (g := a.c) (o := chO C a) (by simp)) 0
  have hc := clone_calls (c := a.n) (by decide) ho.hw (by decide) (h.get (g := a.w) (o := .cells (ints .u32 C.ws ++ a.sp) 38) (by simp))
  have H := _root_.Go.Lib.hid (And.intro h hc)
  clear h hc
  go_enter Tryz.func7, Tryz.ntmps7
  go_wp2_with (go_at_call 28; refine (blocks_calls H.out.1).mono ?_; rintro e w' ⟨rfl, rfl⟩)
  refine H.out.2.mono ?_
  rintro e w1 ⟨g, cap, sp', rfl, hn, hs, hg, hb⟩
  have k := H.out.1.fresh hb hs hg
  have HK := _root_.Go.Lib.hid (And.intro hn k)
  clear hn k hs hg hb
  go_wp2_with fail
  go_ret
  exact ⟨g, cap, sp', rfl, HK.out.1, HK.out.2⟩
theorem wear_calls (h : KW B W (chK C a ++ K) w) (ho : C.Ok) (b : Nat) (hb : b < 5) : Calls Tryz.prog 8 #[.pointer (some ⟨a.c, 0, none⟩), .int .i64 (b : Int)] w fun e w' => e = .returned (.int .i64 (C.wear.getD b 0)) ∧ w = w' := by
  have m1 : w.cell? ⟨a.c, 1, none⟩ = some (.slice (some ⟨a.v, 0, none⟩) 5 a.m) := cell_at (h.get (g := a.c) (o := chO C a) (by simp)) 1
  have mb : w.cell? ⟨a.v, b, none⟩ = some (.int .i64 (C.wear.getD b 0)) := by
    rw [cell_at (h.get (g := a.v) (o := .cells (ints .i64 C.wear) 3) (by simp)) b]
    exact ints_at (by rw [ho.hr]; exact hb)
  generalize C.wear.getD b 0 = x at mb ⊢
  have H := _root_.Go.Lib.hid h
  clear h
  have g0 : ((b : Int) < 0) = False := eq_false (by omega)
  have g1 : ((b : Int) ≥ 5) = False := eq_false (by omega)
  have g2 : (5 ≤ b) = False := eq_false (by omega)
  go_enter Tryz.func8, Tryz.ntmps8
  go_wp2_with (go_at_call 28; refine (blocks_calls H.out).mono ?_; rintro e w' ⟨rfl, rfl⟩)
  go_ret
  exact ⟨rfl, rfl⟩
end
end Go.Proofs.YtlcbilknfjdceaaGreatDoor
end
section
/-
  The flash before the chip: what reads of it.
-/
set_option linter.unusedVariables false
set_option linter.unusedSimpArgs false
namespace Go.Proofs.YtlcbilknfjdceaaGreatDoor
open Go.RowKit Go.Lib
/-- What a flash holds beside its chip: its mode, what it waits for, its locks, its job. No error is set. -/
structure Fl where
  f : Nat
  m : Nat
  mode : Int
  wait : Value
  job : Value
abbrev flO (F : Fl) (a : At) : Obj := .cells #[.pointer (some ⟨a.c, 0, none⟩), .int .i64 F.mode, F.wait, .int .u32 0, .map (some F.m), F.job] 132
abbrev flK (F : Fl) (C : Ch) (a : At) : Blocks := (F.f, flO F a) :: (F.m, .map #[] 0) :: chK C a
section
variable {B : Nat} {W w : World} {K : Blocks} {C : Ch} {a : At} {F : Fl}
theorem KW.chip (h : KW B W (flK F C a ++ K) w) : KW B W (chK C a ++ ([(F.f, flO F a), (F.m, .map #[] 0)] ++ K)) w := h.perm (List.perm_append_comm_assoc [(F.f, flO F a), (F.m, .map #[] 0)] (chK C a) K)
theorem KW.flash (h : KW B W (chK C a ++ ([(F.f, flO F a), (F.m, .map #[] 0)] ++ K)) w) : KW B W (flK F C a ++ K) w := h.perm (List.perm_append_comm_assoc (chK C a) [(F.f, flO F a), (F.m, .map #[] 0)] K)
theorem fnew_calls (h : KW B W (chK C a ++ K) w) : Calls Tryz.prog 23 #[.pointer (some ⟨a.c, 0, none⟩)] w fun e w' => ∃ F : Fl, e = .returned (.pointer (some ⟨F.f, 0, none⟩)) ∧ F.mode = 0 ∧ F.wait = .nilFunc ∧ F.job = .pointer none ∧ KW B W (flK F C a ++ K) w' := by
  have h2 := (h.push (.map #[] 0)).push (flO ⟨w.heap.size + 1, w.heap.size, 0, .nilFunc, .pointer none⟩ a)
  rw [World.size_alloc] at h2
  have H := _root_.Go.Lib.hid h
  have H2 := _root_.Go.Lib.hid h2
  have mk : ∀ w, (Instr.makeMap 86 none).run Tryz.prog w = .ok (.map (some w.heap.size)) (w.alloc (.map #[] 0)) := fun w => rfl
  clear h h2
  go_enter Tryz.func23, Tryz.ntmps23
  go_wp2_with (go_at_call 28; refine (blocks_calls H.out).mono ?_; rintro e w' ⟨rfl, rfl⟩)
  go_ret
  exact ⟨⟨w.heap.size + 1, w.heap.size, 0, .nilFunc, .pointer none⟩, rfl, rfl, rfl, rfl, H2.out⟩
theorem fgood_calls (h : KW B W (flK F C a ++ K) w) : Calls Tryz.prog 141 #[.pointer (some ⟨F.f, 0, none⟩)] w fun e w' => e = .returned (.bool true) ∧ w = w' := by
  have m0 : w.cell? ⟨F.f, 0, none⟩ = some (.pointer (some ⟨a.c, 0, none⟩)) := cell_at (h.get (g := F.f) (o := flO F a) (by simp)) 0
  clear h
  go_enter Tryz.func141, Tryz.ntmps141
  go_wp2
  go_ret
  exact ⟨rfl, rfl⟩
theorem status_calls (h : KW B W (flK F C a ++ K) w) (x : Int) (hx : (F.job = .pointer none ∧ x = 128) ∨ ((∃ j, F.job = .pointer (some ⟨j, 0, none⟩)) ∧ x = 0)) : Calls Tryz.prog 106 #[.pointer (some ⟨F.f, 0, none⟩)] w fun e w' => e = .returned (.int .u32 x) ∧ w = w' := by
  have m5 : w.cell? ⟨F.f, 5, none⟩ = some F.job := cell_at (h.get (g := F.f) (o := flO F a) (by simp)) 5
  have m3 : w.cell? ⟨F.f, 3, none⟩ = some (.int .u32 0) := cell_at (h.get (g := F.f) (o := flO F a) (by simp)) 3
  have H := _root_.Go.Lib.hid h
  clear h
  have g1 : bits .or .u32 0 128 = 128 := by kernel_rfl
  rcases hx with ⟨hj, rfl⟩ | ⟨⟨j, hj⟩, rfl⟩
  · rw [hj] at m5
    clear hj
    go_enter Tryz.func106, Tryz.ntmps106
    go_wp2_with (go_at_call 141; refine (fgood_calls H.out).mono ?_; rintro e w' ⟨rfl, rfl⟩)
    go_ret
    exact ⟨by first | rfl | exact congrArg (fun z => Ending.returned (.int .u32 z)) g1, rfl⟩
  · rw [hj] at m5
    clear hj
    go_enter Tryz.func106, Tryz.ntmps106
    go_wp2_with (go_at_call 141; refine (fgood_calls H.out).mono ?_; rintro e w' ⟨rfl, rfl⟩)
    go_ret
    exact ⟨rfl, rfl⟩
theorem fcheck_calls (h : KW B W (flK F C a ++ K) w) (i : Int) (h0 : 0 ≤ i) (h1 : i < 320) : Calls Tryz.prog 105 #[.pointer (some ⟨F.f, 0, none⟩), .int .i64 i] w fun e w' => e = .returned (.int .i64 0) ∧ w = w' := by
  have m0 : w.cell? ⟨F.f, 0, none⟩ = some (.pointer (some ⟨a.c, 0, none⟩)) := cell_at (h.get (g := F.f) (o := flO F a) (by simp)) 0
  have H := _root_.Go.Lib.hid h
  clear h
  have g0 : (i < 0) = False := eq_false (by omega)
  have g1 : (i ≥ 320) = False := eq_false (by omega)
  clear h0 h1
  go_enter Tryz.func105, Tryz.ntmps105
  go_wp2_with (first | (go_at_call 141; refine (fgood_calls H.out).mono ?_; rintro e w' ⟨rfl, rfl⟩) | (go_at_call 43; refine (up_calls H.out.chip).mono ?_; rintro e w' ⟨rfl, rfl⟩) | (go_at_call 28; refine (blocks_calls H.out.chip).mono ?_; rintro e w' ⟨rfl, rfl⟩))
  go_ret
  exact ⟨rfl, rfl⟩
end
end Go.Proofs.YtlcbilknfjdceaaGreatDoor
end
section
/-
  The flash before the chip: time goes on.
-/
set_option linter.unusedVariables false
set_option linter.unusedSimpArgs false
namespace Go.Proofs.YtlcbilknfjdceaaGreatDoor
open Go.RowKit Go.Lib
abbrev jobO (left : Int) (d : Value) : Obj := .cells #[.int .i64 left, d] 271
section
variable {B : Nat} {W w : World} {K : Blocks} {C : Ch} {a : At} {F : Fl}
set_option maxRecDepth 100000 in
theorem tick_wait (j : Nat) (left : Int) (d : Value) (h : KW B W (flK F C a ++ (j, jobO left d) :: K) w) (hj : F.job = .pointer (some ⟨j, 0, none⟩)) (h1 : 1 < left) (h2 : left < 1000) :
    Calls Tryz.prog 130 #[.pointer (some ⟨F.f, 0, none⟩), .int .i64 1] w fun e w' => e = .returned (.int .i64 0) ∧ KW B W (flK F C a ++ (j, jobO (left - 1) d) :: K) w' := by
  have m5 : w.cell? ⟨F.f, 5, none⟩ = some (.pointer (some ⟨j, 0, none⟩)) := by rw [← hj]; exact cell_at (h.get (g := F.f) (o := flO F a) (by simp)) 5
  have mj : w.cell? ⟨j, 0, none⟩ = some (.int .i64 left) := cell_at (h.get (g := j) (o := jobO left d) (by simp)) 0
  have fj : w.frozen? ⟨j, 0, none⟩ = false := free_at (h.get (g := j) (o := jobO left d) (by simp)) 0
  have hk := KW.into (KW.cell (i := 0) (x := .int .i64 (left - 1)) (vs := #[.int .i64 (left - 1), d]) (h.perm List.perm_middle) rfl).drew
  have H := _root_.Go.Lib.hid h
  have HK := _root_.Go.Lib.hid hk
  have g1 : wrap64 (left - 1) = left - 1 := by unfold wrap64; omega
  have g8 : IntKind.i64.wrap (left - 1) = left - 1 := by rw [IntKind.wrap_i64]; omega
  have g2 : (left - 1 > 0) = True := eq_true (by omega)
  have g3 : (0 < left - 1) = True := eq_true (by omega)
  have g4 : min 1 left = 1 := by omega
  have g5 : (left < 1) = False := eq_false (by omega)
  have g6 : (1 < left) = True := eq_true h1
  have g7 : (1 ≤ left) = True := eq_true (by omega)
  clear h hk hj h1 h2
  go_enter Tryz.func130, Tryz.ntmps130
  go_upto_region 9 with (go_at_call 105; refine (fcheck_calls H.out 0 (by decide) (by decide)).mono ?_; rintro e w' ⟨rfl, rfl⟩)
  go_cut [6] from 7 (fun s6 wx => s6 = .pointer (some ⟨j, 0, none⟩) ∧ KW B W (flK F C a ++ (j, jobO (left - 1) d) :: K) wx)
  case first =>
    focus go_region_with fail
    all_goals
      go_wp2
      go_meet
      case rel => exact ⟨rfl, HK.out⟩
  case rest =>
    obtain ⟨rfl, hk⟩ := hcut
    have m0 : wc.cell? ⟨j, 0, none⟩ = some (.int .i64 (left - 1)) := cell_at (hk.get (g := j) (o := jobO (left - 1) d) (by simp)) 0
    have HX := _root_.Go.Lib.hid hk
    clear hk HK H m5 mj fj
    go_wp2_with fail
    go_ret
    exact ⟨rfl, HX.out⟩
end
end Go.Proofs.YtlcbilknfjdceaaGreatDoor
end
