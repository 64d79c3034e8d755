/-
  A clock answers every call, in every order, as the document says.
-/
import Derived.Test.YtogepklmmehbjaaDoorRef
import Derived.Deep.LoopGhost
import Derived.Deep.RegionWith
set_option linter.unusedVariables false
set_option linter.unusedSimpArgs false
namespace Go.Proofs.YtogepklmmehbjaaDoor
open Go.RowKit Go.Lib

theorem size29 : (Tryd.prog.info? 29).map (·.size) = some 3 := by kernel_rfl
abbrev mO (c : Ck) : Obj := .cells (rR c.t c.l (sI c.s)) 29
/-- A call. -/
structure Act where
  kind : Int
  off : Int
  v : Int
def Act.ok (a : Act) : Prop := (0 ≤ a.kind ∧ a.kind < 256) ∧ (0 ≤ a.off ∧ a.off < 4294967296) ∧ (0 ≤ a.v ∧ a.v < 4294967296)
abbrev aR (a : Act) : Array Value := #[.int .u8 a.kind, .int .u32 a.off, .int .u32 a.v]
abbrev aO (a : Act) : Obj := .cells (aR a) 32
/-- v is a slice of calls. -/
def ActsAt (v : Value) (n : Nat) (f : Nat → Act) (w : World) : Prop :=
  (∃ a cap, v = .slice a 0 cap ∧ n = 0) ∨
  ∃ g o cap, v = .slice (some ⟨g, o, none⟩) n cap ∧ n ≤ maxLen ∧ g < w.heap.size ∧ ∀ j, j < n → (f j).ok ∧ ∀ i, i < 3 → w.cell? ⟨g, o + j * 3 + i, none⟩ = (aR (f j))[i]?

theorem wpList_store_at {P : Program} {ops : Array Oper} {rest : List Oper} {a : Go.Act} {w : World} {Q : Exit → Go.Act → World → Prop} (ty : TypeId) {x y : Operand} {dst : Option Tmp} {t' : TypeId} {ps : String} {af : Array Edge} {g : Nat} {t : TypeId} {cur vs : Array Value} {w' : World}
    (hx : a.eval x = .pointer (some ⟨g, 0, none⟩)) (hy : a.eval y = .agg vs) (hg : w.heap[g]? = some (.cells cur t (0, 0))) (hi : (P.info? ty).map (·.size) = some vs.size) (hs : vs.size = cur.size)
    (hone : vs.toList.all Value.oneCell' = true) (hw : w.setRow g vs = w')
    (h : wpList P ops Q rest (a.put dst undef) w') : wpList P ops Q ({ dst := dst, op := .store ty x y, type := t', pos := ps, after := af, guard := none } :: rest) a w := by
  refine wpList_plain rfl fun K hK => ?_
  have hst := run_storeCells_at P g 0 t vs.toList 0 cur w hg (by simpa using Nat.le_of_eq hs) (fun v hv => List.all_eq_true.1 hone v hv)
  have e : (cur.toList.take (0 + 0) ++ vs.toList ++ cur.toList.drop (0 + 0 + vs.toList.length)).toArray = vs := by
    apply Array.ext'
    simp [hs]
  rw [e, hw] at hst
  cases hq : P.info? ty with
  | none => simp [hq] at hi
  | some i =>
    have hsz : i.size = vs.size := by simpa [hq] using hi
    unfold Oper.wp execOp
    have hrun : (Instr.storeAt ty (.pointer (some ⟨g, 0, none⟩)) (.agg vs)).run P w = .ok () w' := by
      simp [Instr.storeAt, Instr.sureAddr, storeVar, sizeOf, typeInfo, hq, hsz, Value.cells, hst]
    simp only [hx, hy, Sem.run_bind, hrun, Result.andThen_ok]
    exact hK _ _ h
theorem KW.perm_take {B : Nat} {W w : World} {p1 p2 p3 : Nat × Obj} (h : KW B W [p1, p2, p3] w) : KW B W [p1, p2] w := h.rot.tail
theorem heap_past {w : World} {o x : Obj} {n : Nat} (h : w.heap[n]? = some x) : (w.alloc o).heap[n]? = some x := by
  rw [Below.heap_alloc w o n (lt_of_heap h)]; exact h

set_option maxRecDepth 100000 in
set_option maxHeartbeats 4000000 in
theorem acts_main (n : Nat) (f : Nat → Act) (g o cap : Nat) (w : World) (hT : Tab w) (hn : n ≤ 100) (hg : g < w.heap.size) (hf : ∀ j, j < n → (f j).ok ∧ ∀ i, i < 3 → w.cell? ⟨g, o + j * 3 + i, none⟩ = (aR (f j))[i]?) :
    Calls Tryd.prog 3 #[.slice (some ⟨g, o, none⟩) n cap] w fun e w' => e = .returned (.bool true) ∧ Below w.heap.size w w' := by
  have HG := _root_.Go.Lib.hid hg
  have HF := _root_.Go.Lib.hid hf
  have HT := _root_.Go.Lib.hid hT
  have n1 : ((n : Int) > 100) = False := eq_false (by omega)
  clear hg hf hT
  go_enter Tryd.func3, Tryd.ntmps3
  go_wp2_with fail
  refine (alive_calls _ HT.out).mono ?_
  rintro e w1 ⟨rfl, h1⟩
  have H1 := _root_.Go.Lib.hid h1
  clear h1
  go_wp2_with fail
  refine (new_k (KW.start H1.out H1.out.size)).mono ?_
  rintro e w2 ⟨rfl, h2⟩
  have H2 := _root_.Go.Lib.hid h2
  clear h2 H1
  go_wp2_with fail
  refine (refNew_calls _).mono ?_
  rintro e w3 ⟨rfl, h3⟩
  have H3 := _root_.Go.Lib.hid ((H2.out.grown h3).push (mO ck0)).swap
  clear h3 H2
  go_wp2_with fail
  generalize hmb : w3.heap.size = mb at H3 ⊢
  generalize hcb : w1.heap.size = cb at H3 ⊢
  go_loopg [24] n (fun k i wr => ∃ (j : Nat) (c : Ck), j + k = n ∧ i = .int .i64 (j : Int) ∧ c.ok ∧ KW w.heap.size w [(cb, c.o), (mb, mO c)] wr)
  case atStart => exact ⟨0, ck0, by omega, rfl, ck0_ok, H3.out⟩
  case round =>
    obtain ⟨j, c, hj, rfl, hc, hu⟩ := hrel
    have HU := _root_.Go.Lib.hid hu
    have HC := _root_.Go.Lib.hid hc
    clear hu hc hmb hcb H3
    by_cases hjn : j < n
    · have hlt : ((j : Int) < n) = True := eq_true (by omega)
      obtain ⟨ha, hcs⟩ := HF.out j hjn
      have hcw : ∀ i, i < 3 → wr.cell? ⟨g, o + j * 3 + i, none⟩ = (aR (f j))[i]? := fun i hi => by rw [HU.out.bel.cell (p := ⟨g, o + j * 3 + i, none⟩) HG.out]; exact hcs i hi
      generalize f j = A at *
      obtain ⟨kind, off, v⟩ := A
      have c0 : wr.cell? ⟨g, o + j * 3, none⟩ = some (.int .u8 kind) := hcw 0 (by decide)
      have c1 : wr.cell? ⟨g, o + j * 3 + 1, none⟩ = some (.int .u32 off) := hcw 1 (by decide)
      have c2 : wr.cell? ⟨g, o + j * 3 + 2, none⟩ = some (.int .u32 v) := hcw 2 (by decide)
      have hm4 : kind.tmod 4 = kind % 4 := Int.tmod_eq_emod_of_nonneg ha.1.1
      have HA := _root_.Go.Lib.hid ha
      have v1 := ha.2.2.1
      have v2 := ha.2.2.2
      simp only at v1 v2
      have hp0 := (HU.out.push (aO ⟨kind, off, v⟩)).rot.rot
      have HP := _root_.Go.Lib.hid hp0
      clear hcs hcw ha hp0
      rcases (show kind % 4 = 0 ∨ kind % 4 = 1 ∨ kind % 4 = 2 ∨ kind % 4 = 3 by omega) with h4 | h4 | h4 | h4
      · generalize hwp : wr.alloc (Obj.cells #[Value.int .u8 kind, Value.int .u32 off, Value.int .u32 v] 32) = wp at HP ⊢
        generalize hab : wr.heap.size = ab at HP ⊢
        obtain ⟨x, hx⟩ : ∃ x, cGet c off = x := ⟨_, rfl⟩
        obtain ⟨t, ht⟩ : ∃ t, (!cBad off) = t := ⟨_, rfl⟩
        have HX := _root_.Go.Lib.hid hx
        have HTB := _root_.Go.Lib.hid ht
        clear hx ht
        have m0 : wp.cell? ⟨mb, 0, none⟩ = some (.int .u64 c.t) := cell_at (HP.out.get (g := mb) (o := mO c) (by simp)) 0
        have m1 : wp.cell? ⟨mb, 1, none⟩ = some (.int .u64 c.l) := cell_at (HP.out.get (g := mb) (o := mO c) (by simp)) 1
        have m2 : wp.cell? ⟨mb, 2, none⟩ = some (.int .u32 (sI c.s)) := cell_at (HP.out.get (g := mb) (o := mO c) (by simp)) 2
        have a0 : wp.cell? ⟨ab, 0, none⟩ = some (.int .u8 kind) := cell_at (HP.out.get (g := ab) (o := aO ⟨kind, off, v⟩) (by simp)) 0
        have a1 : wp.cell? ⟨ab, 1, none⟩ = some (.int .u32 off) := cell_at (HP.out.get (g := ab) (o := aO ⟨kind, off, v⟩) (by simp)) 1
        have a2 : wp.cell? ⟨ab, 2, none⟩ = some (.int .u32 v) := cell_at (HP.out.get (g := ab) (o := aO ⟨kind, off, v⟩) (by simp)) 2
        go_wp2_with fail
        refine (get_k HP.out HC.out off x t HA.out.2.1 HX.out HTB.out).mono ?_
        rintro e w5 ⟨rfl, rfl⟩
        go_wp2_with fail
        refine (refGet_c c HC.out off x t HA.out.2.1 HX.out HTB.out _).mono ?_
        rintro e wb ⟨rfl, hb⟩
        have hb2 := HP.out.grown hb
        clear m0 m1 m2 a0 a1 a2 hb
        have m0 : wb.cell? ⟨mb, 0, none⟩ = some (.int .u64 c.t) := cell_at (hb2.get (g := mb) (o := mO c) (by simp)) 0
        have m1 : wb.cell? ⟨mb, 1, none⟩ = some (.int .u64 c.l) := cell_at (hb2.get (g := mb) (o := mO c) (by simp)) 1
        have m2 : wb.cell? ⟨mb, 2, none⟩ = some (.int .u32 (sI c.s)) := cell_at (hb2.get (g := mb) (o := mO c) (by simp)) 2
        have a0 : wb.cell? ⟨ab, 0, none⟩ = some (.int .u8 kind) := cell_at (hb2.get (g := ab) (o := aO ⟨kind, off, v⟩) (by simp)) 0
        have a1 : wb.cell? ⟨ab, 1, none⟩ = some (.int .u32 off) := cell_at (hb2.get (g := ab) (o := aO ⟨kind, off, v⟩) (by simp)) 1
        have a2 : wb.cell? ⟨ab, 2, none⟩ = some (.int .u32 v) := cell_at (hb2.get (g := ab) (o := aO ⟨kind, off, v⟩) (by simp)) 2
        have HB := _root_.Go.Lib.hid hb2
        clear hb2 HP
        go_wp2_with fail
        obtain ⟨ln, hln⟩ : ∃ x, cLn c = x := ⟨_, rfl⟩
        have LN := _root_.Go.Lib.hid hln
        clear hln
        go_region_with (first | (go_at_call 17; refine (lines_k HB.out.drew ln LN.out).mono ?_; rintro e wq ⟨rfl, hq⟩; obtain rfl : wq = World.drew _ := hq) | (go_at_call 18; refine (refLn_c c ln LN.out _).mono ?_; rintro e wq ⟨rfl, hb⟩))
        all_goals
          go_wp2_with fail
          go_roundg (n - (j + 1))
          case measure => omega
          case rel => exact ⟨j + 1, c, by omega, by first | rfl | go_num, HC.out, (HB.out.drew.drew.grown hb).perm_take⟩
      · generalize hwp : wr.alloc (Obj.cells #[Value.int .u8 kind, Value.int .u32 off, Value.int .u32 v] 32) = wp at HP ⊢
        generalize hab : wr.heap.size = ab at HP ⊢
        obtain ⟨c2, hc2⟩ : ∃ x, cSet c off v = x := ⟨_, rfl⟩
        obtain ⟨t, ht⟩ : ∃ t, (!cBad off) = t := ⟨_, rfl⟩
        have HX2 := _root_.Go.Lib.hid hc2
        have HTB := _root_.Go.Lib.hid ht
        have HC2 := _root_.Go.Lib.hid (show c2.ok by rw [← hc2]; exact HC.out.set off v HA.out.2.2)
        clear hc2 ht
        have m0 : wp.cell? ⟨mb, 0, none⟩ = some (.int .u64 c.t) := cell_at (HP.out.get (g := mb) (o := mO c) (by simp)) 0
        have m1 : wp.cell? ⟨mb, 1, none⟩ = some (.int .u64 c.l) := cell_at (HP.out.get (g := mb) (o := mO c) (by simp)) 1
        have m2 : wp.cell? ⟨mb, 2, none⟩ = some (.int .u32 (sI c.s)) := cell_at (HP.out.get (g := mb) (o := mO c) (by simp)) 2
        have a0 : wp.cell? ⟨ab, 0, none⟩ = some (.int .u8 kind) := cell_at (HP.out.get (g := ab) (o := aO ⟨kind, off, v⟩) (by simp)) 0
        have a1 : wp.cell? ⟨ab, 1, none⟩ = some (.int .u32 off) := cell_at (HP.out.get (g := ab) (o := aO ⟨kind, off, v⟩) (by simp)) 1
        have a2 : wp.cell? ⟨ab, 2, none⟩ = some (.int .u32 v) := cell_at (HP.out.get (g := ab) (o := aO ⟨kind, off, v⟩) (by simp)) 2
        go_wp2_with fail
        refine (refSet_c c HC.out off v t c2 HA.out.2.1 HA.out.2.2 HTB.out HX2.out _).mono ?_
        rintro e wb ⟨rfl, hb⟩
        have hb2 := HP.out.grown hb
        clear m0 m1 m2 a0 a1 a2 hb
        have hm : wb.heap[mb]? = some (mO c) := hb2.get (by simp)
        have HB := _root_.Go.Lib.hid hb2
        clear hb2 HP
        go_wp2_with ((with_reducible apply wpList_store_at 29); rfl; rfl; (exact heap_past hm); exact size29; rfl; rfl; rfl; (have hx2 := KW.row (vs := rR c2.t c2.l (sI c2.s)) (HB.out.alloc (mO c2)).rot.rot); (generalize World.setRow _ mb _ = wx at hx2 ⊢); (have hx3 := hx2.rot); (have a1 : wx.cell? ⟨ab, 1, none⟩ = some (.int .u32 off) := cell_at (hx3.get (g := ab) (o := aO ⟨kind, off, v⟩) (by simp)) 1); (have a2 : wx.cell? ⟨ab, 2, none⟩ = some (.int .u32 v) := cell_at (hx3.get (g := ab) (o := aO ⟨kind, off, v⟩) (by simp)) 2); (have HX := _root_.Go.Lib.hid hx3); clear hx2 hx3 hm)
        refine (set_k HX.out HC.out off v t c2 HA.out.2.1 HA.out.2.2 HTB.out HX2.out).mono ?_
        rintro e wy ⟨rfl, hy⟩
        clear a1 a2 HX
        have m0 : wy.cell? ⟨mb, 0, none⟩ = some (.int .u64 c2.t) := cell_at (hy.get (g := mb) (o := mO c2) (by simp)) 0
        have m1 : wy.cell? ⟨mb, 1, none⟩ = some (.int .u64 c2.l) := cell_at (hy.get (g := mb) (o := mO c2) (by simp)) 1
        have m2 : wy.cell? ⟨mb, 2, none⟩ = some (.int .u32 (sI c2.s)) := cell_at (hy.get (g := mb) (o := mO c2) (by simp)) 2
        have a0 : wy.cell? ⟨ab, 0, none⟩ = some (.int .u8 kind) := cell_at (hy.get (g := ab) (o := aO ⟨kind, off, v⟩) (by simp)) 0
        have a1 : wy.cell? ⟨ab, 1, none⟩ = some (.int .u32 off) := cell_at (hy.get (g := ab) (o := aO ⟨kind, off, v⟩) (by simp)) 1
        have a2 : wy.cell? ⟨ab, 2, none⟩ = some (.int .u32 v) := cell_at (hy.get (g := ab) (o := aO ⟨kind, off, v⟩) (by simp)) 2
        have HY := _root_.Go.Lib.hid hy
        clear hy
        go_wp2_with fail
        obtain ⟨ln, hln⟩ : ∃ x, cLn c2 = x := ⟨_, rfl⟩
        have LN := _root_.Go.Lib.hid hln
        clear hln
        go_region_with (first | (go_at_call 17; refine (lines_k HY.out.drew ln LN.out).mono ?_; rintro e wq ⟨rfl, hq⟩; obtain rfl : wq = World.drew _ := hq) | (go_at_call 18; refine (refLn_c c2 ln LN.out _).mono ?_; rintro e wq ⟨rfl, hb⟩))
        all_goals
          go_wp2_with fail
          go_roundg (n - (j + 1))
          case measure => omega
          case rel => exact ⟨j + 1, c2, by omega, by first | rfl | go_num, HC2.out, (HY.out.drew.drew.grown hb).perm_take⟩
      · generalize hwp : wr.alloc (Obj.cells #[Value.int .u8 kind, Value.int .u32 off, Value.int .u32 v] 32) = wp at HP ⊢
        generalize hab : wr.heap.size = ab at HP ⊢
        obtain ⟨c2, hc2⟩ : ∃ x, cSet c off v = x := ⟨_, rfl⟩
        obtain ⟨t, ht⟩ : ∃ t, (!cBad off) = t := ⟨_, rfl⟩
        have HX2 := _root_.Go.Lib.hid hc2
        have HTB := _root_.Go.Lib.hid ht
        have HC2 := _root_.Go.Lib.hid (show c2.ok by rw [← hc2]; exact HC.out.set off v HA.out.2.2)
        clear hc2 ht
        have m0 : wp.cell? ⟨mb, 0, none⟩ = some (.int .u64 c.t) := cell_at (HP.out.get (g := mb) (o := mO c) (by simp)) 0
        have m1 : wp.cell? ⟨mb, 1, none⟩ = some (.int .u64 c.l) := cell_at (HP.out.get (g := mb) (o := mO c) (by simp)) 1
        have m2 : wp.cell? ⟨mb, 2, none⟩ = some (.int .u32 (sI c.s)) := cell_at (HP.out.get (g := mb) (o := mO c) (by simp)) 2
        have a0 : wp.cell? ⟨ab, 0, none⟩ = some (.int .u8 kind) := cell_at (HP.out.get (g := ab) (o := aO ⟨kind, off, v⟩) (by simp)) 0
        have a1 : wp.cell? ⟨ab, 1, none⟩ = some (.int .u32 off) := cell_at (HP.out.get (g := ab) (o := aO ⟨kind, off, v⟩) (by simp)) 1
        have a2 : wp.cell? ⟨ab, 2, none⟩ = some (.int .u32 v) := cell_at (HP.out.get (g := ab) (o := aO ⟨kind, off, v⟩) (by simp)) 2
        go_wp2_with fail
        refine (refSet_c c HC.out off v t c2 HA.out.2.1 HA.out.2.2 HTB.out HX2.out _).mono ?_
        rintro e wb ⟨rfl, hb⟩
        have hb2 := HP.out.grown hb
        clear m0 m1 m2 a0 a1 a2 hb
        have hm : wb.heap[mb]? = some (mO c) := hb2.get (by simp)
        have HB := _root_.Go.Lib.hid hb2
        clear hb2 HP
        go_wp2_with ((with_reducible apply wpList_store_at 29); rfl; rfl; (exact heap_past hm); exact size29; rfl; rfl; rfl; (have hx2 := KW.row (vs := rR c2.t c2.l (sI c2.s)) (HB.out.alloc (mO c2)).rot.rot); (generalize World.setRow _ mb _ = wx at hx2 ⊢); (have hx3 := hx2.rot); (have a1 : wx.cell? ⟨ab, 1, none⟩ = some (.int .u32 off) := cell_at (hx3.get (g := ab) (o := aO ⟨kind, off, v⟩) (by simp)) 1); (have a2 : wx.cell? ⟨ab, 2, none⟩ = some (.int .u32 v) := cell_at (hx3.get (g := ab) (o := aO ⟨kind, off, v⟩) (by simp)) 2); (have HX := _root_.Go.Lib.hid hx3); clear hx2 hx3 hm)
        refine (set_k HX.out HC.out off v t c2 HA.out.2.1 HA.out.2.2 HTB.out HX2.out).mono ?_
        rintro e wy ⟨rfl, hy⟩
        clear a1 a2 HX
        have m0 : wy.cell? ⟨mb, 0, none⟩ = some (.int .u64 c2.t) := cell_at (hy.get (g := mb) (o := mO c2) (by simp)) 0
        have m1 : wy.cell? ⟨mb, 1, none⟩ = some (.int .u64 c2.l) := cell_at (hy.get (g := mb) (o := mO c2) (by simp)) 1
        have m2 : wy.cell? ⟨mb, 2, none⟩ = some (.int .u32 (sI c2.s)) := cell_at (hy.get (g := mb) (o := mO c2) (by simp)) 2
        have a0 : wy.cell? ⟨ab, 0, none⟩ = some (.int .u8 kind) := cell_at (hy.get (g := ab) (o := aO ⟨kind, off, v⟩) (by simp)) 0
        have a1 : wy.cell? ⟨ab, 1, none⟩ = some (.int .u32 off) := cell_at (hy.get (g := ab) (o := aO ⟨kind, off, v⟩) (by simp)) 1
        have a2 : wy.cell? ⟨ab, 2, none⟩ = some (.int .u32 v) := cell_at (hy.get (g := ab) (o := aO ⟨kind, off, v⟩) (by simp)) 2
        have HY := _root_.Go.Lib.hid hy
        clear hy
        go_wp2_with fail
        obtain ⟨ln, hln⟩ : ∃ x, cLn c2 = x := ⟨_, rfl⟩
        have LN := _root_.Go.Lib.hid hln
        clear hln
        go_region_with (first | (go_at_call 17; refine (lines_k HY.out.drew ln LN.out).mono ?_; rintro e wq ⟨rfl, hq⟩; obtain rfl : wq = World.drew _ := hq) | (go_at_call 18; refine (refLn_c c2 ln LN.out _).mono ?_; rintro e wq ⟨rfl, hb⟩))
        all_goals
          go_wp2_with fail
          go_roundg (n - (j + 1))
          case measure => omega
          case rel => exact ⟨j + 1, c2, by omega, by first | rfl | go_num, HC2.out, (HY.out.drew.drew.grown hb).perm_take⟩
      · generalize hwp : wr.alloc (Obj.cells #[Value.int .u8 kind, Value.int .u32 off, Value.int .u32 v] 32) = wp at HP ⊢
        generalize hab : wr.heap.size = ab at HP ⊢
        have hw : IntKind.u64.wrap (c.t + v) = (cTick c v).t := by rw [IntKind.wrap_u64]; rfl
        obtain ⟨c2, hc2⟩ : ∃ x, cTick c v = x := ⟨_, rfl⟩
        have HC2 := _root_.Go.Lib.hid (show c2.ok by rw [← hc2]; exact HC.out.tick v)
        rw [hc2] at hw
        have e1 : c2.l = c.l := by rw [← hc2]; rfl
        have e2 : c2.s = c.s := by rw [← hc2]; rfl
        have HE1 := _root_.Go.Lib.hid e1
        have HE2 := _root_.Go.Lib.hid e2
        have HX2 := _root_.Go.Lib.hid hc2
        clear hc2 e1 e2
        have m0 : wp.cell? ⟨mb, 0, none⟩ = some (.int .u64 c.t) := cell_at (HP.out.get (g := mb) (o := mO c) (by simp)) 0
        have m1 : wp.cell? ⟨mb, 1, none⟩ = some (.int .u64 c.l) := cell_at (HP.out.get (g := mb) (o := mO c) (by simp)) 1
        have m2 : wp.cell? ⟨mb, 2, none⟩ = some (.int .u32 (sI c.s)) := cell_at (HP.out.get (g := mb) (o := mO c) (by simp)) 2
        have a0 : wp.cell? ⟨ab, 0, none⟩ = some (.int .u8 kind) := cell_at (HP.out.get (g := ab) (o := aO ⟨kind, off, v⟩) (by simp)) 0
        have a1 : wp.cell? ⟨ab, 1, none⟩ = some (.int .u32 off) := cell_at (HP.out.get (g := ab) (o := aO ⟨kind, off, v⟩) (by simp)) 1
        have a2 : wp.cell? ⟨ab, 2, none⟩ = some (.int .u32 v) := cell_at (HP.out.get (g := ab) (o := aO ⟨kind, off, v⟩) (by simp)) 2
        go_wp2_with fail
        refine (tick_k HP.out v).mono ?_
        rw [HX2.out]
        rintro e wb ⟨rfl, hb2⟩
        clear m0 m1 m2 a0 a1 a2
        have m0 : wb.cell? ⟨mb, 0, none⟩ = some (.int .u64 c.t) := cell_at (hb2.get (g := mb) (o := mO c) (by simp)) 0
        have m1 : wb.cell? ⟨mb, 1, none⟩ = some (.int .u64 c.l) := cell_at (hb2.get (g := mb) (o := mO c) (by simp)) 1
        have m2 : wb.cell? ⟨mb, 2, none⟩ = some (.int .u32 (sI c.s)) := cell_at (hb2.get (g := mb) (o := mO c) (by simp)) 2
        have a0 : wb.cell? ⟨ab, 0, none⟩ = some (.int .u8 kind) := cell_at (hb2.get (g := ab) (o := aO ⟨kind, off, v⟩) (by simp)) 0
        have a1 : wb.cell? ⟨ab, 1, none⟩ = some (.int .u32 off) := cell_at (hb2.get (g := ab) (o := aO ⟨kind, off, v⟩) (by simp)) 1
        have a2 : wb.cell? ⟨ab, 2, none⟩ = some (.int .u32 v) := cell_at (hb2.get (g := ab) (o := aO ⟨kind, off, v⟩) (by simp)) 2
        have f0 : wb.frozen? ⟨mb, 0, none⟩ = false := free_at (hb2.get (g := mb) (o := mO c) (by simp)) 0
        have HB := _root_.Go.Lib.hid hb2
        clear hb2 HP
        go_wp2_with fail
        have hx := (HB.out.swap.cell (i := 0) (x := .int .u64 c2.t) (vs := rR c2.t c2.l (sI c2.s)) (by rw [HE1.out, HE2.out]; rfl)).swap
        generalize World.setCell _ ⟨mb, 0, none⟩ _ = wy at hx ⊢
        clear m0 m1 m2 a0 a1 a2 f0 HB
        have m0 : wy.cell? ⟨mb, 0, none⟩ = some (.int .u64 c2.t) := cell_at (hx.get (g := mb) (o := mO c2) (by simp)) 0
        have m1 : wy.cell? ⟨mb, 1, none⟩ = some (.int .u64 c2.l) := cell_at (hx.get (g := mb) (o := mO c2) (by simp)) 1
        have m2 : wy.cell? ⟨mb, 2, none⟩ = some (.int .u32 (sI c2.s)) := cell_at (hx.get (g := mb) (o := mO c2) (by simp)) 2
        have a0 : wy.cell? ⟨ab, 0, none⟩ = some (.int .u8 kind) := cell_at (hx.get (g := ab) (o := aO ⟨kind, off, v⟩) (by simp)) 0
        have a1 : wy.cell? ⟨ab, 1, none⟩ = some (.int .u32 off) := cell_at (hx.get (g := ab) (o := aO ⟨kind, off, v⟩) (by simp)) 1
        have a2 : wy.cell? ⟨ab, 2, none⟩ = some (.int .u32 v) := cell_at (hx.get (g := ab) (o := aO ⟨kind, off, v⟩) (by simp)) 2
        have HY := _root_.Go.Lib.hid hx
        clear hx
        obtain ⟨ln, hln⟩ : ∃ x, cLn c2 = x := ⟨_, rfl⟩
        have LN := _root_.Go.Lib.hid hln
        clear hln
        go_region_with (first | (go_at_call 17; refine (lines_k HY.out.drew ln LN.out).mono ?_; rintro e wq ⟨rfl, hq⟩; obtain rfl : wq = World.drew _ := hq) | (go_at_call 18; refine (refLn_c c2 ln LN.out _).mono ?_; rintro e wq ⟨rfl, hb⟩))
        all_goals
          go_wp2_with fail
          go_roundg (n - (j + 1))
          case measure => omega
          case rel => exact ⟨j + 1, c2, by omega, by first | rfl | go_num, HC2.out, (HY.out.drew.drew.grown hb).perm_take⟩
    · have hlt : ((j : Int) < n) = False := eq_false (by omega)
      go_wp2_with fail
      go_ret
      exact ⟨rfl, HU.out.bel⟩
set_option maxRecDepth 100000 in
theorem acts_none (a : Option Addr) (cap : Nat) (w : World) (hT : Tab w) : Calls Tryd.prog 3 #[.slice a 0 cap] w fun e w' => e = .returned (.bool true) ∧ Below w.heap.size w w' := by
  have HT := _root_.Go.Lib.hid hT
  clear hT
  go_enter Tryd.func3, Tryd.ntmps3
  go_wp2_with fail
  refine (alive_calls _ HT.out).mono ?_
  rintro e w1 ⟨rfl, h1⟩
  have H1 := _root_.Go.Lib.hid h1
  clear h1
  go_wp2_with fail
  refine (new_k (KW.start H1.out H1.out.size)).mono ?_
  rintro e w2 ⟨rfl, h2⟩
  have H2 := _root_.Go.Lib.hid h2
  clear h2 H1
  go_wp2_with fail
  refine (refNew_calls _).mono ?_
  rintro e w3 ⟨rfl, h3⟩
  have H3 := _root_.Go.Lib.hid ((H2.out.grown h3).alloc (mO ck0)).bel
  clear h3 H2
  go_wp2_with fail
  go_loopg [24] 0 (fun k i wr => i = .int .i64 0 ∧ Below w.heap.size w wr)
  case atStart => exact ⟨rfl, H3.out⟩
  case round =>
    obtain ⟨rfl, hu⟩ := hrel
    have HU := _root_.Go.Lib.hid hu
    clear hu
    go_wp2_with fail
    go_ret
    exact ⟨rfl, HU.out⟩
set_option maxRecDepth 100000 in
theorem acts_big (a : Option Addr) (n cap : Nat) (w : World) (hT : Tab w) (hn : 100 < n) (hm : n ≤ maxLen) : Calls Tryd.prog 3 #[.slice a n cap] w fun e w' => e = .returned (.bool true) ∧ Below w.heap.size w w' := by
  unfold maxLen at hm
  have HT := _root_.Go.Lib.hid hT
  clear hT
  have n1 : ((n : Int) > 100) = True := eq_true (by omega)
  go_enter Tryd.func3, Tryd.ntmps3
  go_wp2_with fail
  refine (alive_calls _ HT.out).mono ?_
  rintro e w1 ⟨rfl, h1⟩
  have H1 := _root_.Go.Lib.hid h1
  clear h1
  go_wp2_with fail
  go_ret
  exact ⟨rfl, H1.out⟩
theorem acts_calls (x : Value) (n : Nat) (f : Nat → Act) (w : World) (hT : Tab w) (h : ActsAt x n f w) : Calls Tryd.prog 3 #[x] w fun e w' => e = .returned (.bool true) ∧ Below w.heap.size w w' := by
  rcases h with ⟨a, cap, rfl, _⟩ | ⟨g, o, cap, rfl, hm, hg, hf⟩
  · exact acts_none a cap w hT
  · rcases Nat.lt_or_ge 100 n with hn | hn
    · exact acts_big _ n cap w hT hn hm
    · exact acts_main n f g o cap w hT hn hg hf
end Go.Proofs.YtogepklmmehbjaaDoor
