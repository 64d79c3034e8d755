/-
  TrapNests: traps within traps come back to where it was.
-/
import Derived.Test.YtkebphpfedgokaaDoorAlive
import Derived.Test.YtkebphpfedgokaaDoorTlines
import Derived.Laws.AppendOwn
import Derived.OwnWalk
import Derived.Deep.LoopGhost
import Derived.Deep.CutRange
set_option linter.unusedVariables false
set_option linter.unusedSimpArgs false
namespace Go.Proofs.YtkebphpfedgokaaDoor
open Go.RowKit Go.Lib

abbrev nS0 (pc c : Int) : St := ⟨0, 0, 0, 0, 0, 0, 0, 0, 0, 0, 0, 0, 0, 0, 0, 0, 0, 0, pc⟩
abbrev nS1 (pc c : Int) : St := ⟨0, 0, 0, 0, 0, 0, 0, pc, c, pc, 0, 0, 0, 0, 0, 0, 0, 3, 0⟩
abbrev nS2 (pc c : Int) : St := ⟨6144, 0, 0, 0, 0, 0, 0, 0, c, pc, 0, 0, 0, 0, 0, 0, 0, 3, 0⟩
def nB2 : Int := sMach 6144
def nB0 : Int := bits .andNot .u32 (sMach 0) 131072
abbrev nR2 (pc c : Int) : St := ⟨nB2, 0, 0, 0, 0, 0, 0, 0, c, pc, 0, 0, 0, 0, 0, 0, 0, 3, 0⟩
abbrev nR0 (pc c : Int) : St := ⟨nB0, 0, 0, 0, 0, 0, 0, pc, c, pc, 0, 0, 0, 0, 0, 0, 0, 0, pc⟩
theorem target_zero (c : Int) : tTarget 0 c = 0 := by
  unfold tTarget
  rw [has_zero, Bool.and_false, zero_andNot]
  rfl
theorem down_zero (s : St) (c : Int) (h1 : s.x1 = 0) (h2 : s.x2 = 0) : sDown s c = false := by
  unfold sDown
  rw [h1, h2]
  cases tInt c <;> simp [has_zero]
theorem nTake0 (pc c : Int) : sTake (nS0 pc c) c pc = nS1 pc c := by
  unfold sTake
  rw [down_zero _ _ rfl rfl]
  show takeUp _ _ _ = _
  unfold takeUp
  simp only [target_zero]
  rfl
theorem nTake1 (pc c : Int) : sTake (nS1 pc c) c pc = nS2 pc c := by
  unfold sTake
  rw [down_zero _ _ rfl rfl]
  show takeUp _ _ _ = _
  unfold takeUp
  simp only [target_zero]
  rfl
theorem nTake2 (pc c : Int) : sTake (nS2 pc c) c pc = nS2 pc c := by
  unfold sTake
  rw [down_zero _ _ rfl rfl]
  show takeUp _ _ _ = _
  unfold takeUp
  simp only [target_zero]
  rfl
theorem sp6144 : sPriv 6144 = 3 := by decide
theorem sp0 : sPriv 0 = 0 := by decide
theorem nBack2 (pc c : Int) : sBack (nS2 pc c) true = nR2 pc c := by
  have h : sPriv (nS2 pc c).x0 = 3 := sp6144
  show backM _ = _
  unfold backM
  rw [h, if_pos rfl, if_neg (by decide)]
  rfl
theorem nBack1 (pc c : Int) : sBack (nS1 pc c) true = nR0 pc c := by
  have h : sPriv (nS1 pc c).x0 = 0 := sp0
  show backM _ = _
  unfold backM
  rw [h, if_neg (by decide), if_neg (by decide)]
  rfl
/-- What an append leaves of the blocks that are known. -/
theorem KW.app {B : Nat} {W w w' : World} {sb : Nat} {o : Obj} {row : Option Nat} (h : KW B W [(sb, o)] w) (hg : w.grownBy w' row) (hr : ∀ k, row = some k → sb + 1 ≤ k) : KW B W [(sb, o)] w' := by
  have hs := h.kept (sb, o) (by simp)
  have hlt := lt_of_heap hs.2
  refine ⟨h.bel.trans ⟨hg.os, hg.tape, hg.output, hg.size, fun k hk => hg.block k (Nat.lt_of_lt_of_le hk h.size) fun e => ?_⟩, Nat.le_trans h.size hg.size, fun p hp => ?_, h.nodup⟩
  · have := hr k e.symm
    have := hs.1
    simp only at this
    omega
  · simp only [List.mem_cons, List.not_mem_nil, or_false] at hp
    subst hp
    refine ⟨hs.1, ?_⟩
    rw [hg.block sb hlt fun e => by have := hr sb e.symm; omega]
    exact hs.2
theorem own_below {w w' : World} {base : Nat} {e : TypeId} {size : Nat} {v : Value} {n : Nat} {xs : List Value} (h : w.ownsRow base e size v n xs) (hb : Below w.heap.size w w') : w'.ownsRow base e size v n xs := by
  refine ⟨h.1, ?_⟩
  rcases h.2 with hn | ⟨g, cap, cur, rfl, hbs, hgg, rest⟩
  · exact .inl hn
  · exact .inr ⟨g, cap, cur, rfl, hbs, by rw [hb.block g (lt_of_heap hgg)]; exact hgg, rest⟩
theorem own_row {w : World} {sb : Nat} {vs : Array Value} {e : TypeId} {size : Nat} {v : Value} {n : Nat} {xs : List Value} (h : w.ownsRow (sb + 1) e size v n xs) : (w.setRow sb vs).ownsRow (sb + 1) e size v n xs := by
  refine ⟨h.1, ?_⟩
  rcases h.2 with hn | ⟨g, cap, cur, rfl, hbs, hgg, rest⟩
  · exact .inl hn
  · exact .inr ⟨g, cap, cur, rfl, hbs, by rw [setRow_other w sb g vs (by omega)]; exact hgg, rest⟩
theorem news_at {w : World} {vs : Array Value} {t : TypeId} : ∀ j u, vs.toList[j]? = some u → (w.alloc (.cells vs t)).cell? ((⟨w.heap.size, 0, none⟩ : Addr).add j) = some u := by
  intro j u h
  rw [Go.Mem.addr_add, Nat.zero_add, cell_at (heap_alloc_new w _) j]
  rw [← Array.getElem?_toList]
  exact h
theorem take_at {cur : Array Value} {n : Nat} {xs : List Value} (h : cur.toList.take n = xs) {j : Nat} {u : Value} (hu : xs[j]? = some u) : cur[j]? = some u := by
  rw [← h, List.getElem?_take] at hu
  split at hu
  · simpa using hu
  · cases hu
theorem KW.two {B : Nat} {W w : World} {sb g : Nat} {o o2 : Obj} (h : KW B W [(sb, o)] w) (hg : w.heap[g]? = some o2) (hs : sb + 1 ≤ g) : KW B W [(sb, o), (g, o2)] w := by
  have h1 := h.kept (sb, o) (by simp)
  refine ⟨h.bel, h.size, fun p hp => ?_, ?_⟩
  · simp only [List.mem_cons, List.not_mem_nil, or_false] at hp
    rcases hp with rfl | rfl
    · exact h1
    · exact ⟨by have := h1.1; simp only at this ⊢; omega, hg⟩
  · simp only [List.map_cons, List.map_nil, List.nodup_cons, List.mem_cons, List.not_mem_nil, or_false, not_false_iff, List.nodup_nil, and_true]
    omega
theorem info32 : (Tryd.prog.info? 32).map (fun i => (i.zero, i.size, i.bytes)) = some (some (.agg (St.r ⟨0, 0, 0, 0, 0, 0, 0, 0, 0, 0, 0, 0, 0, 0, 0, 0, 0, 0, 0⟩)), 19, 88) := by kernel_rfl
set_option maxRecDepth 100000 in
set_option maxHeartbeats 1600000 in
theorem tnests_calls (pc cause : Int) (w : World) (hT : Tab w) : Calls Tryd.prog 7 #[.int .u32 pc, .int .u32 cause] w fun e w' => e = .returned (.bool true) ∧ Below w.heap.size w w' := by
  obtain ⟨i0, hi, hz0, hz1, hz2⟩ := info_parts info32
  have HI := _root_.Go.Lib.hid (And.intro hi (And.intro hz0 (And.intro hz1 hz2)))
  clear hi hz0 hz1 hz2
  have HT := _root_.Go.Lib.hid hT
  clear hT
  obtain ⟨c, hcc⟩ : ∃ c, c = bits .and .u32 cause 15 := ⟨_, rfl⟩
  have tk0 : ∀ w, Calls Tryd.prog 15 #[.agg (St.r (nS0 pc c)), .int .u32 (bits .and .u32 cause 15), .int .u32 pc] w fun e w' => e = .returned (.agg (St.r (nS1 pc c))) ∧ Below w.heap.size w w' := fun w => by
    have h := take_calls (nS0 pc c) c pc w
    rw [nTake0 pc c] at h
    rw [← hcc]
    exact h
  have tk1 : ∀ w, Calls Tryd.prog 15 #[.agg (St.r (nS1 pc c)), .int .u32 (bits .and .u32 cause 15), .int .u32 pc] w fun e w' => e = .returned (.agg (St.r (nS2 pc c))) ∧ Below w.heap.size w w' := fun w => by
    have h := take_calls (nS1 pc c) c pc w
    rw [nTake1 pc c] at h
    rw [← hcc]
    exact h
  have tk2 : ∀ w, Calls Tryd.prog 15 #[.agg (St.r (nS2 pc c)), .int .u32 (bits .and .u32 cause 15), .int .u32 pc] w fun e w' => e = .returned (.agg (St.r (nS2 pc c))) ∧ Below w.heap.size w w' := fun w => by
    have h := take_calls (nS2 pc c) c pc w
    rw [nTake2 pc c] at h
    rw [← hcc]
    exact h
  have bk2 : ∀ w, Calls Tryd.prog 17 #[.agg (St.r (nS2 pc c)), .bool true] w fun e w' => e = .returned (.agg (St.r (nR2 pc c))) ∧ Below w.heap.size w w' := fun w => by
    have h := back_calls (nS2 pc c) true w
    rw [nBack2 pc c] at h
    exact h
  have bk1 : ∀ w, Calls Tryd.prog 17 #[.agg (St.r (nS1 pc c)), .bool true] w fun e w' => e = .returned (.agg (St.r (nR0 pc c))) ∧ Below w.heap.size w w' := fun w => by
    have h := back_calls (nS1 pc c) true w
    rw [nBack1 pc c] at h
    exact h
  have TK := _root_.Go.Lib.hid (And.intro tk0 (And.intro tk1 (And.intro tk2 (And.intro bk2 bk1))))
  clear tk0 tk1 tk2 bk2 bk1 hcc
  have k0 := KW.start (Below.refl w.heap.size w) (Nat.le_refl _)
  have H0 := _root_.Go.Lib.hid k0
  clear k0
  go_enter Tryd.func7, Tryd.ntmps7
  go_wp2_with fail
  refine (alive_calls _ (HT.out.below H0.out.bel HT.out.pos)).mono ?_
  rintro e w1 ⟨rfl, hb⟩
  have k := H0.out.grown hb
  clear hb H0
  have H1 := _root_.Go.Lib.hid k
  clear k
  have k := H1.out.push resO
  have P := _root_.Go.Lib.hid k
  clear k
  go_upto_region 4 with ((with_reducible apply wpList_store_at 32); rfl; rfl; (exact P.out.get (g := w1.heap.size) (o := resO) (by simp)); exact size32; rfl; rfl; rfl; (have h := KW.row (vs := St.r (nS0 pc c)) P.out); (generalize World.setRow _ (World.heap w1).size _ = w2 at h ⊢))
  generalize (World.heap w1).size = sb at h ⊢
  clear P H1 w1
  have H2 := _root_.Go.Lib.hid h
  clear h
  go_wp2_with fail
  go_loopg [6, 14] 3 (fun k v i wr => (k = 3 ∧ i = .int .i64 0 ∧ KW w.heap.size w [(sb, St.o (nS0 pc c))] wr ∧ wr.ownsRow (sb + 1) 32 19 v 0 ([]) ∧ v = .slice none 0 0) ∨ (k = 2 ∧ i = .int .i64 1 ∧ KW w.heap.size w [(sb, St.o (nS1 pc c))] wr ∧ wr.ownsRow (sb + 1) 32 19 v 1 ((St.r (nS1 pc c)).toList)) ∨ (k = 1 ∧ i = .int .i64 2 ∧ KW w.heap.size w [(sb, St.o (nS2 pc c))] wr ∧ wr.ownsRow (sb + 1) 32 19 v 2 ((St.r (nS1 pc c)).toList ++ (St.r (nS2 pc c)).toList)) ∨ (k = 0 ∧ i = .int .i64 3 ∧ KW w.heap.size w [(sb, St.o (nS2 pc c))] wr ∧ wr.ownsRow (sb + 1) 32 19 v 3 ((St.r (nS1 pc c)).toList ++ (St.r (nS2 pc c)).toList ++ (St.r (nS2 pc c)).toList)))
  case atStart => exact .inl ⟨rfl, rfl, H2.out, World.ownsRow_nil _ _ _ _, rfl⟩
  clear H2 w2
  case round =>
    rcases hrel with ⟨rfl, rfl, hk, ho, hv⟩ | ⟨rfl, rfl, hk, ho⟩ | ⟨rfl, rfl, hk, ho⟩ | ⟨rfl, rfl, hk, ho⟩
    · subst hv
      have H := _root_.Go.Lib.hid hk
      have HO := _root_.Go.Lib.hid ho
      clear hk ho
      go_wp2_with ((with_reducible apply wpList_load_at 32 Tryd.underlying32); rfl; exact H.out.get (g := sb) (o := St.o (nS0 pc c)) (by simp); rfl; exact size32)
      refine (TK.out.1 _).mono ?_
      rintro e w1 ⟨rfl, hb⟩
      have hk := H.out.grown hb
      have ho := own_below HO.out hb
      clear hb H HO
      have HA := _root_.Go.Lib.hid hk
      have HO := _root_.Go.Lib.hid ho
      clear hk ho
      go_upto_region 8 with ((with_reducible apply wpList_store_at 32); rfl; rfl; (exact HA.out.get (g := sb) (o := St.o (nS0 pc c)) (by simp)); exact size32; rfl; rfl; rfl; (have hk := KW.row (vs := St.r (nS1 pc c)) HA.out); (have ho := own_row (vs := St.r (nS1 pc c)) HO.out); (generalize World.setRow _ sb _ = w2 at hk ho ⊢))
      clear HA HO w1
      have HA := _root_.Go.Lib.hid hk
      have HO := _root_.Go.Lib.hid ho
      clear hk ho
      go_wp2_with (first | ((with_reducible apply wpList_load_at 32 Tryd.underlying32); rfl; exact HA.out.get (g := sb) (o := St.o (nS1 pc c)) (by simp); rfl; exact size32) | (at_builtin; refine wpList_append_own _ rfl _ _ 44 rfl (sb + 1) 32 i0 _ 19 88 Tryd.underlying44 HI.out.1 HI.out.2.1 HI.out.2.2.1 HI.out.2.2.2 rfl (by decide) _ 0 _ rfl (HO.out.alloc _) ⟨w2.heap.size, 0, none⟩ 1 1 ((St.r (nS1 pc c)).toList) rfl rfl news_at ?c2 ?c3 (by decide) ?c5 ?_))
      case c2 => first | exact ⟨rfl, rfl, rfl, rfl, rfl, rfl, rfl, rfl⟩ | simp [Value.oneCell']
      case c3 => unfold maxLen; omega
      case c5 =>
        have := lt_of_heap (HA.out.get (g := sb) (o := St.o (nS1 pc c)) (by simp))
        rw [World.size_alloc]; omega
      intro v' w3 ho2 hg2 _
      have hk := (HA.out.alloc (.cells (St.r (nS1 pc c)) 32)).app hg2 (fun k hk => ((HO.out.alloc (.cells (St.r (nS1 pc c)) 32)).lt k hk).1)
      have HX := _root_.Go.Lib.hid (And.intro hk ho2)
      clear hk ho2 hg2 HA HO
      go_wp2_with fail
      go_roundg 2
      case measure => omega
      case rel => exact .inr (.inl ⟨rfl, by first | rfl | go_num, HX.out.1, HX.out.2⟩)
    · have H := _root_.Go.Lib.hid hk
      have HO := _root_.Go.Lib.hid ho
      clear hk ho
      go_wp2_with ((with_reducible apply wpList_load_at 32 Tryd.underlying32); rfl; exact H.out.get (g := sb) (o := St.o (nS1 pc c)) (by simp); rfl; exact size32)
      refine (TK.out.2.1 _).mono ?_
      rintro e w1 ⟨rfl, hb⟩
      have hk := H.out.grown hb
      have ho := own_below HO.out hb
      clear hb H HO
      have HA := _root_.Go.Lib.hid hk
      have HO := _root_.Go.Lib.hid ho
      clear hk ho
      go_upto_region 8 with ((with_reducible apply wpList_store_at 32); rfl; rfl; (exact HA.out.get (g := sb) (o := St.o (nS1 pc c)) (by simp)); exact size32; rfl; rfl; rfl; (have hk := KW.row (vs := St.r (nS2 pc c)) HA.out); (have ho := own_row (vs := St.r (nS2 pc c)) HO.out); (generalize World.setRow _ sb _ = w2 at hk ho ⊢))
      clear HA HO w1
      have HA := _root_.Go.Lib.hid hk
      have HO := _root_.Go.Lib.hid ho
      clear hk ho
      go_wp2_with (first | ((with_reducible apply wpList_load_at 32 Tryd.underlying32); rfl; exact HA.out.get (g := sb) (o := St.o (nS2 pc c)) (by simp); rfl; exact size32) | (at_builtin; refine wpList_append_own _ rfl _ _ 44 rfl (sb + 1) 32 i0 _ 19 88 Tryd.underlying44 HI.out.1 HI.out.2.1 HI.out.2.2.1 HI.out.2.2.2 rfl (by decide) _ 1 _ rfl (HO.out.alloc _) ⟨w2.heap.size, 0, none⟩ 1 1 ((St.r (nS2 pc c)).toList) rfl rfl news_at ?c2 ?c3 (by decide) ?c5 ?_))
      case c2 => first | exact ⟨rfl, rfl, rfl, rfl, rfl, rfl, rfl, rfl⟩ | simp [Value.oneCell']
      case c3 => unfold maxLen; omega
      case c5 =>
        have := lt_of_heap (HA.out.get (g := sb) (o := St.o (nS2 pc c)) (by simp))
        rw [World.size_alloc]; omega
      intro v' w3 ho2 hg2 _
      have hk := (HA.out.alloc (.cells (St.r (nS2 pc c)) 32)).app hg2 (fun k hk => ((HO.out.alloc (.cells (St.r (nS2 pc c)) 32)).lt k hk).1)
      have HX := _root_.Go.Lib.hid (And.intro hk ho2)
      clear hk ho2 hg2 HA HO
      go_wp2_with fail
      go_roundg 1
      case measure => omega
      case rel => exact .inr (.inr (.inl ⟨rfl, by first | rfl | go_num, HX.out.1, HX.out.2⟩))
    · have H := _root_.Go.Lib.hid hk
      have HO := _root_.Go.Lib.hid ho
      clear hk ho
      go_wp2_with ((with_reducible apply wpList_load_at 32 Tryd.underlying32); rfl; exact H.out.get (g := sb) (o := St.o (nS2 pc c)) (by simp); rfl; exact size32)
      refine (TK.out.2.2.1 _).mono ?_
      rintro e w1 ⟨rfl, hb⟩
      have hk := H.out.grown hb
      have ho := own_below HO.out hb
      clear hb H HO
      have HA := _root_.Go.Lib.hid hk
      have HO := _root_.Go.Lib.hid ho
      clear hk ho
      go_upto_region 8 with ((with_reducible apply wpList_store_at 32); rfl; rfl; (exact HA.out.get (g := sb) (o := St.o (nS2 pc c)) (by simp)); exact size32; rfl; rfl; rfl; (have hk := KW.row (vs := St.r (nS2 pc c)) HA.out); (have ho := own_row (vs := St.r (nS2 pc c)) HO.out); (generalize World.setRow _ sb _ = w2 at hk ho ⊢))
      clear HA HO w1
      have HA := _root_.Go.Lib.hid hk
      have HO := _root_.Go.Lib.hid ho
      clear hk ho
      go_wp2_with (first | ((with_reducible apply wpList_load_at 32 Tryd.underlying32); rfl; exact HA.out.get (g := sb) (o := St.o (nS2 pc c)) (by simp); rfl; exact size32) | (at_builtin; refine wpList_append_own _ rfl _ _ 44 rfl (sb + 1) 32 i0 _ 19 88 Tryd.underlying44 HI.out.1 HI.out.2.1 HI.out.2.2.1 HI.out.2.2.2 rfl (by decide) _ 2 _ rfl (HO.out.alloc _) ⟨w2.heap.size, 0, none⟩ 1 1 ((St.r (nS2 pc c)).toList) rfl rfl news_at ?c2 ?c3 (by decide) ?c5 ?_))
      case c2 => first | exact ⟨rfl, rfl, rfl, rfl, rfl, rfl, rfl, rfl⟩ | simp [Value.oneCell']
      case c3 => unfold maxLen; omega
      case c5 =>
        have := lt_of_heap (HA.out.get (g := sb) (o := St.o (nS2 pc c)) (by simp))
        rw [World.size_alloc]; omega
      intro v' w3 ho2 hg2 _
      have hk := (HA.out.alloc (.cells (St.r (nS2 pc c)) 32)).app hg2 (fun k hk => ((HO.out.alloc (.cells (St.r (nS2 pc c)) 32)).lt k hk).1)
      have HX := _root_.Go.Lib.hid (And.intro hk ho2)
      clear hk ho2 hg2 HA HO
      go_wp2_with fail
      go_roundg 0
      case measure => omega
      case rel => exact .inr (.inr (.inr (⟨rfl, by first | rfl | go_num, HX.out.1, HX.out.2⟩)))
    · obtain ⟨hl, ⟨_, h0⟩ | ⟨g, cap, cur, rfl, hgb, hgg, hnc, hcap, hsz, htake⟩⟩ := ho
      · cases h0
      have hk2 := hk.two hgg hgb
      have c0 : cur[0]? = some (.int .u32 0) := take_at htake rfl
      have c7 : cur[7]? = some (.int .u32 pc) := take_at htake rfl
      have c18 : cur[18]? = some (.int .u32 0) := take_at htake rfl
      have c19 : cur[19]? = some (.int .u32 6144) := take_at htake rfl
      have c26 : cur[26]? = some (.int .u32 0) := take_at htake rfl
      have c37 : cur[37]? = some (.int .u32 0) := take_at htake rfl
      have c38 : cur[38]? = some (.int .u32 6144) := take_at htake rfl
      have c45 : cur[45]? = some (.int .u32 0) := take_at htake rfl
      have HC := _root_.Go.Lib.hid (And.intro c0 (And.intro c7 (And.intro c18 (And.intro c19 (And.intro c26 (And.intro c37 (And.intro c38 c45)))))))
      have HK := _root_.Go.Lib.hid hk2
      clear c0 c7 c18 c19 c26 c37 c38 c45 hk hk2 hl hgg hgb hnc hcap hsz htake
      go_wp2_with fail
      go_loopg [7] 3 (fun k i wr => (k = 3 ∧ i = .int .i64 2 ∧ KW w.heap.size w [(sb, St.o (nS2 pc c)), (g, .cells cur 32)] wr) ∨ (k = 2 ∧ i = .int .i64 1 ∧ KW w.heap.size w [(sb, St.o (nR2 pc c)), (g, .cells cur 32)] wr) ∨ (k = 1 ∧ i = .int .i64 0 ∧ KW w.heap.size w [(sb, St.o (nR2 pc c)), (g, .cells cur 32)] wr) ∨ (k = 0 ∧ i = .int .i64 (-1) ∧ KW w.heap.size w [(sb, St.o (nR0 pc c)), (g, .cells cur 32)] wr))
      case atStart => exact .inl ⟨rfl, rfl, HK.out⟩
      case round =>
        clear HK
        rcases hrel with ⟨rfl, rfl, hk⟩ | ⟨rfl, rfl, hk⟩ | ⟨rfl, rfl, hk⟩ | ⟨rfl, rfl, hk⟩
        · have H := _root_.Go.Lib.hid hk
          clear hk
          have m0 : wr.cell? ⟨sb, 0, none⟩ = some (.int .u32 6144) := cell_at (H.out.get (g := sb) (o := St.o (nS2 pc c)) (by simp)) 0
          have m7 : wr.cell? ⟨sb, 7, none⟩ = some (.int .u32 0) := cell_at (H.out.get (g := sb) (o := St.o (nS2 pc c)) (by simp)) 7
          have f0 : wr.frozen? ⟨sb, 0, none⟩ = false := free_at (H.out.get (g := sb) (o := St.o (nS2 pc c)) (by simp)) 0
          have f7 : wr.frozen? ⟨sb, 7, none⟩ = false := free_at (H.out.get (g := sb) (o := St.o (nS2 pc c)) (by simp)) 7
          have d0 : wr.cell? ⟨g, 38, none⟩ = some (.int .u32 6144) := (cell_at (H.out.get (g := g) (o := .cells cur 32) (by simp)) 38).trans (HC.out.2.2.2.2.2.2.1)
          have d7 : wr.cell? ⟨g, 45, none⟩ = some (.int .u32 0) := (cell_at (H.out.get (g := g) (o := .cells cur 32) (by simp)) 45).trans (HC.out.2.2.2.2.2.2.2)
          go_wp2_with fail
          go_cut [] from 29 to 69 (fun wx => KW w.heap.size w [(sb, St.o (nS2 pc c)), (g, .cells cur 32)] wx)
          case first =>
            focus go_region_with fail
            all_goals
              go_wp2
              go_meet
              case rel => exact (KW.cell (i := 0) (x := .int .u32 6144) (vs := St.r (nS2 pc c)) (KW.cell (i := 7) (x := .int .u32 0) (vs := St.r (nS2 pc c)) H.out rfl) rfl).drew
          clear m0 m7 f0 f7 d0 d7 H wr
          have H := _root_.Go.Lib.hid hcut
          clear hcut
          go_wp2_with ((with_reducible apply wpList_load_at 32 Tryd.underlying32); rfl; exact H.out.get (g := sb) (o := St.o (nS2 pc c)) (by simp); rfl; exact size32)
          refine (TK.out.2.2.2.1 _).mono ?_
          rintro e w1 ⟨rfl, hb⟩
          have hk := H.out.grown hb
          clear hb H
          have HA := _root_.Go.Lib.hid hk
          clear hk
          go_upto_region 15 with ((with_reducible apply wpList_store_at 32); rfl; rfl; (exact HA.out.get (g := sb) (o := St.o (nS2 pc c)) (by simp)); exact size32; rfl; rfl; rfl; (have hk := KW.row (vs := St.r (nR2 pc c)) HA.out); (generalize World.setRow _ sb _ = w2 at hk ⊢))
          clear HA w1
          have HA := _root_.Go.Lib.hid hk
          clear hk
          have m17 : w2.cell? ⟨sb, 17, none⟩ = some (.int .i64 3) := cell_at (HA.out.get (g := sb) (o := St.o (nR2 pc c)) (by simp)) 17
          have m18 : w2.cell? ⟨sb, 18, none⟩ = some (.int .u32 0) := cell_at (HA.out.get (g := sb) (o := St.o (nR2 pc c)) (by simp)) 18
          have d18 : w2.cell? ⟨g, 37, none⟩ = some (.int .u32 0) := (cell_at (HA.out.get (g := g) (o := .cells cur 32) (by simp)) 37).trans (HC.out.2.2.2.2.2.1)
          go_wp2_with fail
          go_roundg 2
          case measure => omega
          case rel => exact .inr (.inl ⟨rfl, by first | rfl | go_num, HA.out⟩)
        · have H := _root_.Go.Lib.hid hk
          clear hk
          have m0 : wr.cell? ⟨sb, 0, none⟩ = some (.int .u32 nB2) := cell_at (H.out.get (g := sb) (o := St.o (nR2 pc c)) (by simp)) 0
          have m7 : wr.cell? ⟨sb, 7, none⟩ = some (.int .u32 0) := cell_at (H.out.get (g := sb) (o := St.o (nR2 pc c)) (by simp)) 7
          have f0 : wr.frozen? ⟨sb, 0, none⟩ = false := free_at (H.out.get (g := sb) (o := St.o (nR2 pc c)) (by simp)) 0
          have f7 : wr.frozen? ⟨sb, 7, none⟩ = false := free_at (H.out.get (g := sb) (o := St.o (nR2 pc c)) (by simp)) 7
          have d0 : wr.cell? ⟨g, 19, none⟩ = some (.int .u32 6144) := (cell_at (H.out.get (g := g) (o := .cells cur 32) (by simp)) 19).trans (HC.out.2.2.2.1)
          have d7 : wr.cell? ⟨g, 26, none⟩ = some (.int .u32 0) := (cell_at (H.out.get (g := g) (o := .cells cur 32) (by simp)) 26).trans (HC.out.2.2.2.2.1)
          go_wp2_with fail
          go_cut [] from 29 to 69 (fun wx => KW w.heap.size w [(sb, St.o (nS2 pc c)), (g, .cells cur 32)] wx)
          case first =>
            focus go_region_with fail
            all_goals
              go_wp2
              go_meet
              case rel => exact (KW.cell (i := 0) (x := .int .u32 6144) (vs := St.r (nS2 pc c)) (KW.cell (i := 7) (x := .int .u32 0) (vs := St.r (nR2 pc c)) H.out rfl) rfl).drew
          clear m0 m7 f0 f7 d0 d7 H wr
          have H := _root_.Go.Lib.hid hcut
          clear hcut
          go_wp2_with ((with_reducible apply wpList_load_at 32 Tryd.underlying32); rfl; exact H.out.get (g := sb) (o := St.o (nS2 pc c)) (by simp); rfl; exact size32)
          refine (TK.out.2.2.2.1 _).mono ?_
          rintro e w1 ⟨rfl, hb⟩
          have hk := H.out.grown hb
          clear hb H
          have HA := _root_.Go.Lib.hid hk
          clear hk
          go_upto_region 15 with ((with_reducible apply wpList_store_at 32); rfl; rfl; (exact HA.out.get (g := sb) (o := St.o (nS2 pc c)) (by simp)); exact size32; rfl; rfl; rfl; (have hk := KW.row (vs := St.r (nR2 pc c)) HA.out); (generalize World.setRow _ sb _ = w2 at hk ⊢))
          clear HA w1
          have HA := _root_.Go.Lib.hid hk
          clear hk
          have m17 : w2.cell? ⟨sb, 17, none⟩ = some (.int .i64 3) := cell_at (HA.out.get (g := sb) (o := St.o (nR2 pc c)) (by simp)) 17
          have m18 : w2.cell? ⟨sb, 18, none⟩ = some (.int .u32 0) := cell_at (HA.out.get (g := sb) (o := St.o (nR2 pc c)) (by simp)) 18
          have d18 : w2.cell? ⟨g, 18, none⟩ = some (.int .u32 0) := (cell_at (HA.out.get (g := g) (o := .cells cur 32) (by simp)) 18).trans (HC.out.2.2.1)
          go_wp2_with fail
          go_roundg 1
          case measure => omega
          case rel => exact .inr (.inr (.inl ⟨rfl, by first | rfl | go_num, HA.out⟩))
        · have H := _root_.Go.Lib.hid hk
          clear hk
          have m0 : wr.cell? ⟨sb, 0, none⟩ = some (.int .u32 nB2) := cell_at (H.out.get (g := sb) (o := St.o (nR2 pc c)) (by simp)) 0
          have m7 : wr.cell? ⟨sb, 7, none⟩ = some (.int .u32 0) := cell_at (H.out.get (g := sb) (o := St.o (nR2 pc c)) (by simp)) 7
          have f0 : wr.frozen? ⟨sb, 0, none⟩ = false := free_at (H.out.get (g := sb) (o := St.o (nR2 pc c)) (by simp)) 0
          have f7 : wr.frozen? ⟨sb, 7, none⟩ = false := free_at (H.out.get (g := sb) (o := St.o (nR2 pc c)) (by simp)) 7
          have d0 : wr.cell? ⟨g, 0, none⟩ = some (.int .u32 0) := (cell_at (H.out.get (g := g) (o := .cells cur 32) (by simp)) 0).trans (HC.out.1)
          have d7 : wr.cell? ⟨g, 7, none⟩ = some (.int .u32 pc) := (cell_at (H.out.get (g := g) (o := .cells cur 32) (by simp)) 7).trans (HC.out.2.1)
          go_wp2_with fail
          go_cut [] from 29 to 69 (fun wx => KW w.heap.size w [(sb, St.o (nS1 pc c)), (g, .cells cur 32)] wx)
          case first =>
            focus go_region_with fail
            all_goals
              go_wp2
              go_meet
              case rel => exact (KW.cell (i := 0) (x := .int .u32 0) (vs := St.r (nS1 pc c)) (KW.cell (i := 7) (x := .int .u32 pc) (vs := St.r ⟨nB2, 0, 0, 0, 0, 0, 0, pc, c, pc, 0, 0, 0, 0, 0, 0, 0, 3, 0⟩) H.out rfl) rfl).drew
          clear m0 m7 f0 f7 d0 d7 H wr
          have H := _root_.Go.Lib.hid hcut
          clear hcut
          go_wp2_with ((with_reducible apply wpList_load_at 32 Tryd.underlying32); rfl; exact H.out.get (g := sb) (o := St.o (nS1 pc c)) (by simp); rfl; exact size32)
          refine (TK.out.2.2.2.2 _).mono ?_
          rintro e w1 ⟨rfl, hb⟩
          have hk := H.out.grown hb
          clear hb H
          have HA := _root_.Go.Lib.hid hk
          clear hk
          go_upto_region 15 with ((with_reducible apply wpList_store_at 32); rfl; rfl; (exact HA.out.get (g := sb) (o := St.o (nS1 pc c)) (by simp)); exact size32; rfl; rfl; rfl; (have hk := KW.row (vs := St.r (nR0 pc c)) HA.out); (generalize World.setRow _ sb _ = w2 at hk ⊢))
          clear HA w1
          have HA := _root_.Go.Lib.hid hk
          clear hk
          have m17 : w2.cell? ⟨sb, 17, none⟩ = some (.int .i64 0) := cell_at (HA.out.get (g := sb) (o := St.o (nR0 pc c)) (by simp)) 17
          have m18 : w2.cell? ⟨sb, 18, none⟩ = some (.int .u32 pc) := cell_at (HA.out.get (g := sb) (o := St.o (nR0 pc c)) (by simp)) 18
          go_wp2_with fail
          go_roundg 0
          case measure => omega
          case rel => exact .inr (.inr (.inr (⟨rfl, by first | rfl | go_num, HA.out⟩)))
        · have H := _root_.Go.Lib.hid hk
          clear hk
          go_wp2_with fail
          go_ret
          exact ⟨rfl, H.out.bel⟩
end Go.Proofs.YtkebphpfedgokaaDoor
