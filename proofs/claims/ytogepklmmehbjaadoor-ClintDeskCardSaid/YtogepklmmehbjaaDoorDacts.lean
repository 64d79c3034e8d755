/-
  A desk answers every call, in every order, as the document says.
-/
import Derived.Test.YtogepklmmehbjaaDoorSided
import Derived.Test.YtogepklmmehbjaaDoorActs
import Derived.Deep.LoopGhost
import Derived.Deep.RegionWith
set_option linter.unusedVariables false
set_option linter.unusedSimpArgs false
namespace Go.Proofs.YtogepklmmehbjaaDoor
open Go.RowKit Go.Lib

theorem size46 : (Tryd.prog.info? 46).map (·.size) = some 3 := by kernel_rfl
abbrev nO (A E S : Nat) : Obj := .cells (rdR A E S) 46
abbrev yO (A E S : Nat) : Obj := (nD A E S).o
theorem in3_zero : In3 0 0 0 := ⟨by decide, by decide, by decide, rfl, rfl, rfl⟩
theorem int_up {n : Nat} {a : Int} (h : ((n : Nat) : Int) = a) : Value.int .u32 ((n : Nat) : Int) = Value.int .u32 a := by rw [h]

set_option maxRecDepth 100000 in
set_option maxHeartbeats 4000000 in
theorem desk_main (n : Nat) (f : Nat → Act) (g o cap : Nat) (w : World) (hT : Tab w) (hn : n ≤ 100) (hg : g < w.heap.size) (hf : ∀ j, j < n → (f j).ok ∧ ∀ i, i < 3 → w.cell? ⟨g, o + j * 3 + i, none⟩ = (aR (f j))[i]?) :
    Calls Tryd.prog 4 #[.slice (some ⟨g, o, none⟩) n cap] w fun e w' => e = .returned (.bool true) ∧ Below w.heap.size w w' := by
  have HG := _root_.Go.Lib.hid hg
  have HF := _root_.Go.Lib.hid hf
  have HT := _root_.Go.Lib.hid hT
  have tabOf : ∀ (K : Blocks) (w' : World), KW w.heap.size w K w' → Tab w' := fun _ _ h => HT.out.below h.bel HT.out.pos
  have TO := _root_.Go.Lib.hid tabOf
  have n1 : ((n : Int) > 100) = False := eq_false (by omega)
  clear hg hf hT tabOf
  go_enter Tryd.func4, Tryd.ntmps4
  go_wp2_with fail
  refine (alive_calls _ HT.out).mono ?_
  rintro e w1 ⟨rfl, h1⟩
  have H1 := _root_.Go.Lib.hid h1
  clear h1
  go_wp2_with fail
  refine (newd_k (KW.start H1.out H1.out.size)).mono ?_
  rintro e w2 ⟨rfl, h2⟩
  have H2 := _root_.Go.Lib.hid h2
  clear h2 H1
  go_wp2_with fail
  have H3 := _root_.Go.Lib.hid (H2.out.push (nO 0 0 0)).swap
  generalize hmb : w2.heap.size = mb at H3 ⊢
  generalize hcb : w1.heap.size = cb at H3 ⊢
  go_loopg [25] n (fun k i wr => ∃ (j A E S : Nat), j + k = n ∧ i = .int .i64 (j : Int) ∧ In3 A E S ∧ KW w.heap.size w [(cb, yO A E S), (mb, nO A E S)] wr)
  case atStart => exact ⟨0, 0, 0, 0, by omega, rfl, in3_zero, H3.out⟩
  case round =>
    obtain ⟨j, A, E, S, hj, rfl, hc, hu⟩ := hrel
    have HU := _root_.Go.Lib.hid hu
    have HC := _root_.Go.Lib.hid hc
    clear hu hc hmb hcb H3 H2
    by_cases hjn : j < n
    · have hlt : ((j : Int) < n) = True := eq_true (by omega)
      obtain ⟨ha, hcs⟩ := HF.out j hjn
      have hcw : ∀ i, i < 3 → wr.cell? ⟨g, o + j * 3 + i, none⟩ = (aR (f j))[i]? := fun i hi => by rw [HU.out.bel.cell (p := ⟨g, o + j * 3 + i, none⟩) HG.out]; exact hcs i hi
      generalize f j = Z at *
      obtain ⟨kind, off, v⟩ := Z
      have c0 : wr.cell? ⟨g, o + j * 3, none⟩ = some (.int .u8 kind) := hcw 0 (by decide)
      have c1 : wr.cell? ⟨g, o + j * 3 + 1, none⟩ = some (.int .u32 off) := hcw 1 (by decide)
      have c2 : wr.cell? ⟨g, o + j * 3 + 2, none⟩ = some (.int .u32 v) := hcw 2 (by decide)
      have hm4 : kind.tmod 4 = kind % 4 := Int.tmod_eq_emod_of_nonneg ha.1.1
      have HA := _root_.Go.Lib.hid ha
      have v1 := ha.2.2.1
      have v2 := ha.2.2.2
      simp only at v1 v2
      have hp0 := (HU.out.push (aO ⟨kind, off, v⟩)).rot.rot
      have HP := _root_.Go.Lib.hid hp0
      clear hcs hcw ha hp0
      rcases (show kind % 4 = 0 ∨ kind % 4 = 1 ∨ kind % 4 = 2 ∨ kind % 4 = 3 by omega) with h4 | h4 | h4 | h4
      · generalize hwp : wr.alloc (Obj.cells #[Value.int .u8 kind, Value.int .u32 off, Value.int .u32 v] 32) = wp at HP ⊢
        generalize hab : wr.heap.size = ab at HP ⊢
        obtain ⟨x, hx⟩ : ∃ x, dGet (nD A E S) off = x := ⟨_, rfl⟩
        obtain ⟨t, ht⟩ : ∃ t, (!dBad off) = t := ⟨_, rfl⟩
        obtain ⟨S2, hs2⟩ : ∃ y, gS A E S off = y := ⟨_, rfl⟩
        have HC2 := _root_.Go.Lib.hid (show In3 A E S2 by rw [← hs2]; exact HC.out.getS off)
        have HD := _root_.Go.Lib.hid (show dGetS (nD A E S) off = nD A E S2 by rw [← hs2]; exact dGetS_off HC.out off)
        have HX := _root_.Go.Lib.hid hx
        have HTB := _root_.Go.Lib.hid ht
        have HS2 := _root_.Go.Lib.hid hs2
        clear hx ht hs2
        have m0 : wp.cell? ⟨mb, 0, none⟩ = some (.int .u32 (A : Int)) := cell_at (HP.out.get (g := mb) (o := nO A E S) (by simp)) 0
        have m1 : wp.cell? ⟨mb, 1, none⟩ = some (.int .u32 (E : Int)) := cell_at (HP.out.get (g := mb) (o := nO A E S) (by simp)) 1
        have m2 : wp.cell? ⟨mb, 2, none⟩ = some (.int .u32 (S : Int)) := cell_at (HP.out.get (g := mb) (o := nO A E S) (by simp)) 2
        have a0 : wp.cell? ⟨ab, 0, none⟩ = some (.int .u8 kind) := cell_at (HP.out.get (g := ab) (o := aO ⟨kind, off, v⟩) (by simp)) 0
        have a1 : wp.cell? ⟨ab, 1, none⟩ = some (.int .u32 off) := cell_at (HP.out.get (g := ab) (o := aO ⟨kind, off, v⟩) (by simp)) 1
        have a2 : wp.cell? ⟨ab, 2, none⟩ = some (.int .u32 v) := cell_at (HP.out.get (g := ab) (o := aO ⟨kind, off, v⟩) (by simp)) 2
        go_wp2_with fail
        refine (dget_k HP.out (TO.out _ _ HP.out) off x t (nD A E S2) HX.out HTB.out HD.out).mono ?_
        rintro e w5 ⟨rfl, h5⟩
        clear m0 m1 m2 a0 a1 a2
        have m0 : w5.cell? ⟨mb, 0, none⟩ = some (.int .u32 (A : Int)) := cell_at (h5.get (g := mb) (o := nO A E S) (by simp)) 0
        have m1 : w5.cell? ⟨mb, 1, none⟩ = some (.int .u32 (E : Int)) := cell_at (h5.get (g := mb) (o := nO A E S) (by simp)) 1
        have m2 : w5.cell? ⟨mb, 2, none⟩ = some (.int .u32 (S : Int)) := cell_at (h5.get (g := mb) (o := nO A E S) (by simp)) 2
        have a1 : w5.cell? ⟨ab, 1, none⟩ = some (.int .u32 off) := cell_at (h5.get (g := ab) (o := aO ⟨kind, off, v⟩) (by simp)) 1
        have H5 := _root_.Go.Lib.hid h5
        clear h5 HP
        go_wp2_with fail
        refine (rdget_c A E S S2 off x t HC.out HX.out HTB.out HS2.out _).mono ?_
        rintro e wb ⟨rfl, hb⟩
        have hb2 := H5.out.grown hb
        clear m0 m1 m2 a1 hb H5 HX
        have hm : wb.heap[mb]? = some (nO A E S) := hb2.get (by simp)
        have HB := _root_.Go.Lib.hid hb2
        clear hb2
        go_wp2_with ((with_reducible apply wpList_store_at 46); rfl; rfl; (exact heap_past hm); exact size46; rfl; rfl; rfl; (have hx2 := KW.row (vs := rdR A E S2) (HB.out.alloc (nO A E S2)).rot.rot); (generalize World.setRow _ mb _ = wx at hx2 ⊢); (have hx3 := hx2.rot); (have m0 : wx.cell? ⟨mb, 0, none⟩ = some (.int .u32 (A : Int)) := cell_at (hx3.get (g := mb) (o := nO A E S2) (by simp)) 0); (have m1 : wx.cell? ⟨mb, 1, none⟩ = some (.int .u32 (E : Int)) := cell_at (hx3.get (g := mb) (o := nO A E S2) (by simp)) 1); (have m2 : wx.cell? ⟨mb, 2, none⟩ = some (.int .u32 (S2 : Int)) := cell_at (hx3.get (g := mb) (o := nO A E S2) (by simp)) 2); (have a0 : wx.cell? ⟨ab, 0, none⟩ = some (.int .u8 kind) := cell_at (hx3.get (g := ab) (o := aO ⟨kind, off, v⟩) (by simp)) 0); (have a1 : wx.cell? ⟨ab, 1, none⟩ = some (.int .u32 off) := cell_at (hx3.get (g := ab) (o := aO ⟨kind, off, v⟩) (by simp)) 1); (have a2 : wx.cell? ⟨ab, 2, none⟩ = some (.int .u32 v) := cell_at (hx3.get (g := ab) (o := aO ⟨kind, off, v⟩) (by simp)) 2); (have HX := _root_.Go.Lib.hid hx3); clear hx2 hx3 hm)
        rcases up_num HC2.out with ⟨hu1, hn1⟩ | ⟨nn, hu1, hn1, hpos⟩
        · have HU1 := _root_.Go.Lib.hid hu1
          have HN1 := _root_.Go.Lib.hid hn1
          clear hu1 hn1
          go_region_with (first | (go_at_call 25; refine (up_k HX.out.drew false HU1.out).mono ?_; rintro e wq ⟨rfl, hq⟩; obtain rfl : wq = World.drew _ := hq) | (go_at_call 26; refine (waits_calls A E S2 HC2.out.a HC2.out.e HC2.out.s HC2.out.a2 _).mono ?_; rw [HN1.out]; rintro e wq ⟨rfl, hb⟩))
          all_goals
            go_wp2_with fail
            go_roundg (n - (j + 1))
            case measure => omega
            case rel => exact ⟨j + 1, A, E, S2, by omega, by first | rfl | go_num, HC2.out, (HX.out.drew.drew.grown hb).perm_take⟩
        · have hp2 : (0 < nn) = True := eq_true (by have h := of_eq_true hpos; omega)
          have HU1 := _root_.Go.Lib.hid hu1
          have HN1 := _root_.Go.Lib.hid hn1
          clear hu1 hn1
          go_region_with (first | (go_at_call 25; refine (up_k HX.out.drew true HU1.out).mono ?_; rintro e wq ⟨rfl, hq⟩; obtain rfl : wq = World.drew _ := hq) | (go_at_call 26; refine (waits_calls A E S2 HC2.out.a HC2.out.e HC2.out.s HC2.out.a2 _).mono ?_; rw [HN1.out]; rintro e wq ⟨rfl, hb⟩))
          all_goals
            go_wp2_with fail
            go_roundg (n - (j + 1))
            case measure => omega
            case rel => exact ⟨j + 1, A, E, S2, by omega, by first | rfl | go_num, HC2.out, (HX.out.drew.drew.grown hb).perm_take⟩
      · generalize hwp : wr.alloc (Obj.cells #[Value.int .u8 kind, Value.int .u32 off, Value.int .u32 v] 32) = wp at HP ⊢
        generalize hab : wr.heap.size = ab at HP ⊢
        obtain ⟨t, ht⟩ : ∃ t, (!dBad off) = t := ⟨_, rfl⟩
        obtain ⟨E2, he2⟩ : ∃ y, tE E off v = y := ⟨_, rfl⟩
        obtain ⟨S2, hs2⟩ : ∃ y, tS S off v = y := ⟨_, rfl⟩
        have HC2 := _root_.Go.Lib.hid (show In3 A E2 S2 by rw [← he2, ← hs2]; exact HC.out.set off v HA.out.2.2)
        have HD := _root_.Go.Lib.hid (show dSet (nD A E S) off v = nD A E2 S2 by rw [← he2, ← hs2]; exact dSet_off HC.out off v HA.out.2.2)
        have HTB := _root_.Go.Lib.hid ht
        have HE2 := _root_.Go.Lib.hid he2
        have HS2 := _root_.Go.Lib.hid hs2
        clear ht hs2 he2
        have m0 : wp.cell? ⟨mb, 0, none⟩ = some (.int .u32 (A : Int)) := cell_at (HP.out.get (g := mb) (o := nO A E S) (by simp)) 0
        have m1 : wp.cell? ⟨mb, 1, none⟩ = some (.int .u32 (E : Int)) := cell_at (HP.out.get (g := mb) (o := nO A E S) (by simp)) 1
        have m2 : wp.cell? ⟨mb, 2, none⟩ = some (.int .u32 (S : Int)) := cell_at (HP.out.get (g := mb) (o := nO A E S) (by simp)) 2
        have a0 : wp.cell? ⟨ab, 0, none⟩ = some (.int .u8 kind) := cell_at (HP.out.get (g := ab) (o := aO ⟨kind, off, v⟩) (by simp)) 0
        have a1 : wp.cell? ⟨ab, 1, none⟩ = some (.int .u32 off) := cell_at (HP.out.get (g := ab) (o := aO ⟨kind, off, v⟩) (by simp)) 1
        have a2 : wp.cell? ⟨ab, 2, none⟩ = some (.int .u32 v) := cell_at (HP.out.get (g := ab) (o := aO ⟨kind, off, v⟩) (by simp)) 2
        go_wp2_with fail
        refine (rdset_c A E S E2 S2 off v t HC.out HA.out.2.2 HTB.out HE2.out HS2.out _).mono ?_
        rintro e wb ⟨rfl, hb⟩
        have hb2 := HP.out.grown hb
        clear m0 m1 m2 a0 a1 a2 hb
        have hm : wb.heap[mb]? = some (nO A E S) := hb2.get (by simp)
        have HB := _root_.Go.Lib.hid hb2
        clear hb2 HP
        go_wp2_with ((with_reducible apply wpList_store_at 46); rfl; rfl; (exact heap_past hm); exact size46; rfl; rfl; rfl; (have hx2 := KW.row (vs := rdR A E2 S2) (HB.out.alloc (nO A E2 S2)).rot.rot); (generalize World.setRow _ mb _ = wx at hx2 ⊢); (have hx3 := hx2.rot); (have a1 : wx.cell? ⟨ab, 1, none⟩ = some (.int .u32 off) := cell_at (hx3.get (g := ab) (o := aO ⟨kind, off, v⟩) (by simp)) 1); (have a2 : wx.cell? ⟨ab, 2, none⟩ = some (.int .u32 v) := cell_at (hx3.get (g := ab) (o := aO ⟨kind, off, v⟩) (by simp)) 2); (have HX := _root_.Go.Lib.hid hx3); clear hx2 hx3 hm)
        refine (dset_k HX.out off v t (nD A E2 S2) HA.out.2.2 HTB.out HD.out).mono ?_
        rintro e wy ⟨rfl, hy⟩
        clear a1 a2 HX
        have m0 : wy.cell? ⟨mb, 0, none⟩ = some (.int .u32 (A : Int)) := cell_at (hy.get (g := mb) (o := nO A E2 S2) (by simp)) 0
        have m1 : wy.cell? ⟨mb, 1, none⟩ = some (.int .u32 (E2 : Int)) := cell_at (hy.get (g := mb) (o := nO A E2 S2) (by simp)) 1
        have m2 : wy.cell? ⟨mb, 2, none⟩ = some (.int .u32 (S2 : Int)) := cell_at (hy.get (g := mb) (o := nO A E2 S2) (by simp)) 2
        have a0 : wy.cell? ⟨ab, 0, none⟩ = some (.int .u8 kind) := cell_at (hy.get (g := ab) (o := aO ⟨kind, off, v⟩) (by simp)) 0
        have a1 : wy.cell? ⟨ab, 1, none⟩ = some (.int .u32 off) := cell_at (hy.get (g := ab) (o := aO ⟨kind, off, v⟩) (by simp)) 1
        have a2 : wy.cell? ⟨ab, 2, none⟩ = some (.int .u32 v) := cell_at (hy.get (g := ab) (o := aO ⟨kind, off, v⟩) (by simp)) 2
        have HY := _root_.Go.Lib.hid hy
        clear hy
        go_wp2_with fail
        rcases up_num HC2.out with ⟨hu1, hn1⟩ | ⟨nn, hu1, hn1, hpos⟩
        · have HU1 := _root_.Go.Lib.hid hu1
          have HN1 := _root_.Go.Lib.hid hn1
          clear hu1 hn1
          go_region_with (first | (go_at_call 25; refine (up_k HY.out.drew false HU1.out).mono ?_; rintro e wq ⟨rfl, hq⟩; obtain rfl : wq = World.drew _ := hq) | (go_at_call 26; refine (waits_calls A E2 S2 HC2.out.a HC2.out.e HC2.out.s HC2.out.a2 _).mono ?_; rw [HN1.out]; rintro e wq ⟨rfl, hb⟩))
          all_goals
            go_wp2_with fail
            go_roundg (n - (j + 1))
            case measure => omega
            case rel => exact ⟨j + 1, A, E2, S2, by omega, by first | rfl | go_num, HC2.out, (HY.out.drew.drew.grown hb).perm_take⟩
        · have hp2 : (0 < nn) = True := eq_true (by have h := of_eq_true hpos; omega)
          have HU1 := _root_.Go.Lib.hid hu1
          have HN1 := _root_.Go.Lib.hid hn1
          clear hu1 hn1
          go_region_with (first | (go_at_call 25; refine (up_k HY.out.drew true HU1.out).mono ?_; rintro e wq ⟨rfl, hq⟩; obtain rfl : wq = World.drew _ := hq) | (go_at_call 26; refine (waits_calls A E2 S2 HC2.out.a HC2.out.e HC2.out.s HC2.out.a2 _).mono ?_; rw [HN1.out]; rintro e wq ⟨rfl, hb⟩))
          all_goals
            go_wp2_with fail
            go_roundg (n - (j + 1))
            case measure => omega
            case rel => exact ⟨j + 1, A, E2, S2, by omega, by first | rfl | go_num, HC2.out, (HY.out.drew.drew.grown hb).perm_take⟩
      · generalize hwp : wr.alloc (Obj.cells #[Value.int .u8 kind, Value.int .u32 off, Value.int .u32 v] 32) = wp at HP ⊢
        generalize hab : wr.heap.size = ab at HP ⊢
        obtain ⟨t, ht⟩ : ∃ t, (!dBad off) = t := ⟨_, rfl⟩
        obtain ⟨E2, he2⟩ : ∃ y, tE E off v = y := ⟨_, rfl⟩
        obtain ⟨S2, hs2⟩ : ∃ y, tS S off v = y := ⟨_, rfl⟩
        have HC2 := _root_.Go.Lib.hid (show In3 A E2 S2 by rw [← he2, ← hs2]; exact HC.out.set off v HA.out.2.2)
        have HD := _root_.Go.Lib.hid (show dSet (nD A E S) off v = nD A E2 S2 by rw [← he2, ← hs2]; exact dSet_off HC.out off v HA.out.2.2)
        have HTB := _root_.Go.Lib.hid ht
        have HE2 := _root_.Go.Lib.hid he2
        have HS2 := _root_.Go.Lib.hid hs2
        clear ht hs2 he2
        have m0 : wp.cell? ⟨mb, 0, none⟩ = some (.int .u32 (A : Int)) := cell_at (HP.out.get (g := mb) (o := nO A E S) (by simp)) 0
        have m1 : wp.cell? ⟨mb, 1, none⟩ = some (.int .u32 (E : Int)) := cell_at (HP.out.get (g := mb) (o := nO A E S) (by simp)) 1
        have m2 : wp.cell? ⟨mb, 2, none⟩ = some (.int .u32 (S : Int)) := cell_at (HP.out.get (g := mb) (o := nO A E S) (by simp)) 2
        have a0 : wp.cell? ⟨ab, 0, none⟩ = some (.int .u8 kind) := cell_at (HP.out.get (g := ab) (o := aO ⟨kind, off, v⟩) (by simp)) 0
        have a1 : wp.cell? ⟨ab, 1, none⟩ = some (.int .u32 off) := cell_at (HP.out.get (g := ab) (o := aO ⟨kind, off, v⟩) (by simp)) 1
        have a2 : wp.cell? ⟨ab, 2, none⟩ = some (.int .u32 v) := cell_at (HP.out.get (g := ab) (o := aO ⟨kind, off, v⟩) (by simp)) 2
        go_wp2_with fail
        refine (rdset_c A E S E2 S2 off v t HC.out HA.out.2.2 HTB.out HE2.out HS2.out _).mono ?_
        rintro e wb ⟨rfl, hb⟩
        have hb2 := HP.out.grown hb
        clear m0 m1 m2 a0 a1 a2 hb
        have hm : wb.heap[mb]? = some (nO A E S) := hb2.get (by simp)
        have HB := _root_.Go.Lib.hid hb2
        clear hb2 HP
        go_wp2_with ((with_reducible apply wpList_store_at 46); rfl; rfl; (exact heap_past hm); exact size46; rfl; rfl; rfl; (have hx2 := KW.row (vs := rdR A E2 S2) (HB.out.alloc (nO A E2 S2)).rot.rot); (generalize World.setRow _ mb _ = wx at hx2 ⊢); (have hx3 := hx2.rot); (have a1 : wx.cell? ⟨ab, 1, none⟩ = some (.int .u32 off) := cell_at (hx3.get (g := ab) (o := aO ⟨kind, off, v⟩) (by simp)) 1); (have a2 : wx.cell? ⟨ab, 2, none⟩ = some (.int .u32 v) := cell_at (hx3.get (g := ab) (o := aO ⟨kind, off, v⟩) (by simp)) 2); (have HX := _root_.Go.Lib.hid hx3); clear hx2 hx3 hm)
        refine (dset_k HX.out off v t (nD A E2 S2) HA.out.2.2 HTB.out HD.out).mono ?_
        rintro e wy ⟨rfl, hy⟩
        clear a1 a2 HX
        have m0 : wy.cell? ⟨mb, 0, none⟩ = some (.int .u32 (A : Int)) := cell_at (hy.get (g := mb) (o := nO A E2 S2) (by simp)) 0
        have m1 : wy.cell? ⟨mb, 1, none⟩ = some (.int .u32 (E2 : Int)) := cell_at (hy.get (g := mb) (o := nO A E2 S2) (by simp)) 1
        have m2 : wy.cell? ⟨mb, 2, none⟩ = some (.int .u32 (S2 : Int)) := cell_at (hy.get (g := mb) (o := nO A E2 S2) (by simp)) 2
        have a0 : wy.cell? ⟨ab, 0, none⟩ = some (.int .u8 kind) := cell_at (hy.get (g := ab) (o := aO ⟨kind, off, v⟩) (by simp)) 0
        have a1 : wy.cell? ⟨ab, 1, none⟩ = some (.int .u32 off) := cell_at (hy.get (g := ab) (o := aO ⟨kind, off, v⟩) (by simp)) 1
        have a2 : wy.cell? ⟨ab, 2, none⟩ = some (.int .u32 v) := cell_at (hy.get (g := ab) (o := aO ⟨kind, off, v⟩) (by simp)) 2
        have HY := _root_.Go.Lib.hid hy
        clear hy
        go_wp2_with fail
        rcases up_num HC2.out with ⟨hu1, hn1⟩ | ⟨nn, hu1, hn1, hpos⟩
        · have HU1 := _root_.Go.Lib.hid hu1
          have HN1 := _root_.Go.Lib.hid hn1
          clear hu1 hn1
          go_region_with (first | (go_at_call 25; refine (up_k HY.out.drew false HU1.out).mono ?_; rintro e wq ⟨rfl, hq⟩; obtain rfl : wq = World.drew _ := hq) | (go_at_call 26; refine (waits_calls A E2 S2 HC2.out.a HC2.out.e HC2.out.s HC2.out.a2 _).mono ?_; rw [HN1.out]; rintro e wq ⟨rfl, hb⟩))
          all_goals
            go_wp2_with fail
            go_roundg (n - (j + 1))
            case measure => omega
            case rel => exact ⟨j + 1, A, E2, S2, by omega, by first | rfl | go_num, HC2.out, (HY.out.drew.drew.grown hb).perm_take⟩
        · have hp2 : (0 < nn) = True := eq_true (by have h := of_eq_true hpos; omega)
          have HU1 := _root_.Go.Lib.hid hu1
          have HN1 := _root_.Go.Lib.hid hn1
          clear hu1 hn1
          go_region_with (first | (go_at_call 25; refine (up_k HY.out.drew true HU1.out).mono ?_; rintro e wq ⟨rfl, hq⟩; obtain rfl : wq = World.drew _ := hq) | (go_at_call 26; refine (waits_calls A E2 S2 HC2.out.a HC2.out.e HC2.out.s HC2.out.a2 _).mono ?_; rw [HN1.out]; rintro e wq ⟨rfl, hb⟩))
          all_goals
            go_wp2_with fail
            go_roundg (n - (j + 1))
            case measure => omega
            case rel => exact ⟨j + 1, A, E2, S2, by omega, by first | rfl | go_num, HC2.out, (HY.out.drew.drew.grown hb).perm_take⟩
      · generalize hwp : wr.alloc (Obj.cells #[Value.int .u8 kind, Value.int .u32 off, Value.int .u32 v] 32) = wp at HP ⊢
        generalize hab : wr.heap.size = ab at HP ⊢
        obtain ⟨A2, ha2⟩ : ∃ y, kA v = y := ⟨_, rfl⟩
        have HC2 := _root_.Go.Lib.hid (show In3 A2 E S by rw [← ha2]; exact HC.out.ask v HA.out.2.2)
        have HD := _root_.Go.Lib.hid (show dAsk (nD A E S) v = nD A2 E S by rw [← ha2]; exact dAsk_nD A E S v HA.out.2.2)
        have hv2 : bits .andNot .u32 v 1 = (A2 : Int) := by rw [even_of v HA.out.2.2, ← ha2]; rfl
        clear ha2
        have m0 : wp.cell? ⟨mb, 0, none⟩ = some (.int .u32 (A : Int)) := cell_at (HP.out.get (g := mb) (o := nO A E S) (by simp)) 0
        have m1 : wp.cell? ⟨mb, 1, none⟩ = some (.int .u32 (E : Int)) := cell_at (HP.out.get (g := mb) (o := nO A E S) (by simp)) 1
        have m2 : wp.cell? ⟨mb, 2, none⟩ = some (.int .u32 (S : Int)) := cell_at (HP.out.get (g := mb) (o := nO A E S) (by simp)) 2
        have a0 : wp.cell? ⟨ab, 0, none⟩ = some (.int .u8 kind) := cell_at (HP.out.get (g := ab) (o := aO ⟨kind, off, v⟩) (by simp)) 0
        have a1 : wp.cell? ⟨ab, 1, none⟩ = some (.int .u32 off) := cell_at (HP.out.get (g := ab) (o := aO ⟨kind, off, v⟩) (by simp)) 1
        have a2 : wp.cell? ⟨ab, 2, none⟩ = some (.int .u32 v) := cell_at (HP.out.get (g := ab) (o := aO ⟨kind, off, v⟩) (by simp)) 2
        go_wp2_with fail
        refine (ask_k HP.out v (nD A2 E S) HD.out).mono ?_
        rintro e wb ⟨rfl, hb2⟩
        clear m0 m1 m2 a0 a1 a2
        have m0 : wb.cell? ⟨mb, 0, none⟩ = some (.int .u32 (A : Int)) := cell_at (hb2.get (g := mb) (o := nO A E S) (by simp)) 0
        have m1 : wb.cell? ⟨mb, 1, none⟩ = some (.int .u32 (E : Int)) := cell_at (hb2.get (g := mb) (o := nO A E S) (by simp)) 1
        have m2 : wb.cell? ⟨mb, 2, none⟩ = some (.int .u32 (S : Int)) := cell_at (hb2.get (g := mb) (o := nO A E S) (by simp)) 2
        have a0 : wb.cell? ⟨ab, 0, none⟩ = some (.int .u8 kind) := cell_at (hb2.get (g := ab) (o := aO ⟨kind, off, v⟩) (by simp)) 0
        have a1 : wb.cell? ⟨ab, 1, none⟩ = some (.int .u32 off) := cell_at (hb2.get (g := ab) (o := aO ⟨kind, off, v⟩) (by simp)) 1
        have a2 : wb.cell? ⟨ab, 2, none⟩ = some (.int .u32 v) := cell_at (hb2.get (g := ab) (o := aO ⟨kind, off, v⟩) (by simp)) 2
        have f0 : wb.frozen? ⟨mb, 0, none⟩ = false := free_at (hb2.get (g := mb) (o := nO A E S) (by simp)) 0
        have HB := _root_.Go.Lib.hid hb2
        clear hb2 HP
        go_wp2_with fail
        have hx := (HB.out.swap.cell (i := 0) (x := .int .u32 (A2 : Int)) (vs := rdR A2 E S) rfl).swap
        generalize World.setCell _ ⟨mb, 0, none⟩ _ = wy at hx ⊢
        clear m0 m1 m2 a0 a1 a2 f0 HB
        have m0 : wy.cell? ⟨mb, 0, none⟩ = some (.int .u32 (A2 : Int)) := cell_at (hx.get (g := mb) (o := nO A2 E S) (by simp)) 0
        have m1 : wy.cell? ⟨mb, 1, none⟩ = some (.int .u32 (E : Int)) := cell_at (hx.get (g := mb) (o := nO A2 E S) (by simp)) 1
        have m2 : wy.cell? ⟨mb, 2, none⟩ = some (.int .u32 (S : Int)) := cell_at (hx.get (g := mb) (o := nO A2 E S) (by simp)) 2
        have a0 : wy.cell? ⟨ab, 0, none⟩ = some (.int .u8 kind) := cell_at (hx.get (g := ab) (o := aO ⟨kind, off, v⟩) (by simp)) 0
        have a1 : wy.cell? ⟨ab, 1, none⟩ = some (.int .u32 off) := cell_at (hx.get (g := ab) (o := aO ⟨kind, off, v⟩) (by simp)) 1
        have a2 : wy.cell? ⟨ab, 2, none⟩ = some (.int .u32 v) := cell_at (hx.get (g := ab) (o := aO ⟨kind, off, v⟩) (by simp)) 2
        have HY := _root_.Go.Lib.hid hx
        clear hx
        rcases up_num HC2.out with ⟨hu1, hn1⟩ | ⟨nn, hu1, hn1, hpos⟩
        · have HU1 := _root_.Go.Lib.hid hu1
          have HN1 := _root_.Go.Lib.hid hn1
          clear hu1 hn1
          go_region_with (first | (go_at_call 25; refine (up_k HY.out.drew false HU1.out).mono ?_; rintro e wq ⟨rfl, hq⟩; obtain rfl : wq = World.drew _ := hq) | (go_at_call 26; refine (waits_calls A2 E S HC2.out.a HC2.out.e HC2.out.s HC2.out.a2 _).mono ?_; rw [HN1.out]; rintro e wq ⟨rfl, hb⟩))
          all_goals
            go_wp2_with fail
            go_roundg (n - (j + 1))
            case measure => omega
            case rel => exact ⟨j + 1, A2, E, S, by omega, by first | rfl | go_num, HC2.out, (HY.out.drew.drew.grown hb).perm_take⟩
        · have hp2 : (0 < nn) = True := eq_true (by have h := of_eq_true hpos; omega)
          have HU1 := _root_.Go.Lib.hid hu1
          have HN1 := _root_.Go.Lib.hid hn1
          clear hu1 hn1
          go_region_with (first | (go_at_call 25; refine (up_k HY.out.drew true HU1.out).mono ?_; rintro e wq ⟨rfl, hq⟩; obtain rfl : wq = World.drew _ := hq) | (go_at_call 26; refine (waits_calls A2 E S HC2.out.a HC2.out.e HC2.out.s HC2.out.a2 _).mono ?_; rw [HN1.out]; rintro e wq ⟨rfl, hb⟩))
          all_goals
            go_wp2_with fail
            go_roundg (n - (j + 1))
            case measure => omega
            case rel => exact ⟨j + 1, A2, E, S, by omega, by first | rfl | go_num, HC2.out, (HY.out.drew.drew.grown hb).perm_take⟩
    · have hlt : ((j : Int) < n) = False := eq_false (by omega)
      go_wp2_with fail
      go_ret
      exact ⟨rfl, HU.out.bel⟩
set_option maxRecDepth 100000 in
theorem desk_none (a : Option Addr) (cap : Nat) (w : World) (hT : Tab w) : Calls Tryd.prog 4 #[.slice a 0 cap] w fun e w' => e = .returned (.bool true) ∧ Below w.heap.size w w' := by
  have HT := _root_.Go.Lib.hid hT
  clear hT
  go_enter Tryd.func4, Tryd.ntmps4
  go_wp2_with fail
  refine (alive_calls _ HT.out).mono ?_
  rintro e w1 ⟨rfl, h1⟩
  have H1 := _root_.Go.Lib.hid h1
  clear h1
  go_wp2_with fail
  refine (newd_k (KW.start H1.out H1.out.size)).mono ?_
  rintro e w2 ⟨rfl, h2⟩
  have H3 := _root_.Go.Lib.hid (h2.alloc (nO 0 0 0)).bel
  clear h2 H1
  go_wp2_with fail
  go_loopg [25] 0 (fun k i wr => i = .int .i64 0 ∧ Below w.heap.size w wr)
  case atStart => exact ⟨rfl, H3.out⟩
  case round =>
    obtain ⟨rfl, hu⟩ := hrel
    have HU := _root_.Go.Lib.hid hu
    clear hu
    go_wp2_with fail
    go_ret
    exact ⟨rfl, HU.out⟩
set_option maxRecDepth 100000 in
theorem desk_big (a : Option Addr) (n cap : Nat) (w : World) (hT : Tab w) (hn : 100 < n) (hm : n ≤ maxLen) : Calls Tryd.prog 4 #[.slice a n cap] w fun e w' => e = .returned (.bool true) ∧ Below w.heap.size w w' := by
  unfold maxLen at hm
  have HT := _root_.Go.Lib.hid hT
  clear hT
  have n1 : ((n : Int) > 100) = True := eq_true (by omega)
  go_enter Tryd.func4, Tryd.ntmps4
  go_wp2_with fail
  refine (alive_calls _ HT.out).mono ?_
  rintro e w1 ⟨rfl, h1⟩
  have H1 := _root_.Go.Lib.hid h1
  clear h1
  go_wp2_with fail
  go_ret
  exact ⟨rfl, H1.out⟩
theorem desk_calls (x : Value) (n : Nat) (f : Nat → Act) (w : World) (hT : Tab w) (h : ActsAt x n f w) : Calls Tryd.prog 4 #[x] w fun e w' => e = .returned (.bool true) ∧ Below w.heap.size w w' := by
  rcases h with ⟨a, cap, rfl, _⟩ | ⟨g, o, cap, rfl, hm, hg, hf⟩
  · exact desk_none a cap w hT
  · rcases Nat.lt_or_ge 100 n with hn | hn
    · exact desk_big _ n cap w hT hn hm
    · exact desk_main n f g o cap w hT hn hg hf
end Go.Proofs.YtogepklmmehbjaaDoor
