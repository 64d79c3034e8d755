/-
  Loads and stores of a cell, or of several, inside a block, by what the block holds. Conditions: the block is a row of cells, none of them frozen where one is written.
-/
import Derived.Laws.Rows
import Derived.Laws.CopyRow
import Derived.BigFrame
import Derived.WalkKit
import Derived.Test.YtkebphpfedgokaaDoorGrow
namespace Go.Mem
open Go

theorem setRow_past' {w w' : World} {o : Obj} {vs : Array Value} {n : Nat} (hn : n < w.heap.size) (h : w.setRow n vs = w') : (w.alloc o).setRow n vs = w'.alloc o := by
  rw [World.setRow_alloc_past w o vs n hn, h]
theorem setRow_grow' {w w' : World} {ext : Array Obj} {d : Nat} {vs : Array Value} {n : Nat} (hn : n < w.heap.size) (h : w.setRow n vs = w') : (w.grow ext d).setRow n vs = w'.grow ext d := by
  rw [World.setRow_grow w ext d vs n hn, h]
theorem setRow_drew' {w w' : World} {vs : Array Value} {n : Nat} (h : w.setRow n vs = w') : w.drew.setRow n vs = w'.drew := by
  rw [World.setRow_drew, h]
theorem setRow_at' {w : World} {c vs : Array Value} {t : TypeId} {n : Nat} (hn : n = w.heap.size) : (w.alloc (.cells c t)).setRow n vs = w.alloc (.cells vs t) := World.setRow_alloc_at w c vs t n hn
theorem heap_drew' {w : World} {n : Nat} {o : Obj} (h : w.heap[n]? = some o) : w.drew.heap[n]? = some o := h

section
variable {P : Program} {w : World}

def aggB : TypeDesc → Bool
  | .struct _ => true
  | .array _ _ => true
  | _ => false

theorem run_isAgg {ty : TypeId} {d : TypeDesc} (hu : P.underlying ty = some d) : (isAgg ty).run P w = .ok (aggB d) w := by
  unfold isAgg
  rw [Sem.run_bind, run_underlying hu w]
  cases d <;> rfl

theorem addr_add (g o j : Nat) : (⟨g, o, none⟩ : Addr).add j = ⟨g, o + j, none⟩ := by unfold Addr.add; split <;> simp_all

theorem run_loadAt_cell {ty : TypeId} {d : TypeDesc} {g i : Nat} {cs : Array Value} {t : TypeId} {fr : Nat × Nat} {v : Value} (hd : aggB d = false) (hu : P.underlying ty = some d)
    (hg : w.heap[g]? = some (.cells cs t fr)) (hv : cs[i]? = some v) : (Instr.loadAt ty (.pointer (some ⟨g, i, none⟩))).run P w = .ok v w := by
  have hc : w.cell? ⟨g, i, none⟩ = some v := by rw [cell_of_row w g i cs t fr hg, hv]
  simp [Instr.loadAt, Instr.sureAddr, loadVar, Sem.run_bind, run_isAgg hu, hd, hc]

theorem run_loadAt_part {ty : TypeId} {d : TypeDesc} {g i : Nat} {cs vs : Array Value} {t : TypeId} {fr : Nat × Nat} (hd : aggB d = true) (hu : P.underlying ty = some d)
    (hg : w.heap[g]? = some (.cells cs t fr)) (hi : (P.info? ty).map (·.size) = some vs.size) (hv : (cs.toList.drop i).take vs.size = vs.toList) : (Instr.loadAt ty (.pointer (some ⟨g, i, none⟩))).run P w = .ok (.agg vs) w := by
  have hl : (loadCells ⟨g, i, none⟩ vs.toList.length).run P w = .ok vs.toList.toArray w :=
    run_loadCells_list (P := P) w ⟨g, i, none⟩ vs.toList (fun j v hj => by
      rw [addr_add, cell_of_row w g (i + j) cs t fr hg]
      rw [← hv, List.getElem?_take] at hj
      split at hj
      · rw [List.getElem?_drop] at hj
        simpa using hj
      · cases hj)
  cases hq : P.info? ty with
  | none => simp [hq] at hi
  | some q =>
    have hs : q.size = vs.size := by simpa [hq] using hi
    simp only [Array.length_toList, Array.toArray_toList] at hl
    simp [Instr.loadAt, Instr.sureAddr, loadVar, Sem.run_bind, run_isAgg hu, hd, sizeOf, typeInfo, hq, hs, hl]

theorem run_storeAt_part {ty : TypeId} {g o : Nat} {t : TypeId} {cur vs new : Array Value} {w' : World} (hg : w.heap[g]? = some (.cells cur t (0, 0))) (hi : (P.info? ty).map (·.size) = some vs.size) (hl : o + vs.size ≤ cur.size)
    (hone : vs.toList.all Value.oneCell' = true) (hn : (cur.toList.take o ++ vs.toList ++ cur.toList.drop (o + vs.size)).toArray = new) (hw : w.setRow g new = w') :
    (Instr.storeAt ty (.pointer (some ⟨g, o, none⟩)) (.agg vs)).run P w = .ok () w' := by
  have hst := run_storeCells_at P g o t vs.toList 0 cur w hg (by simpa using hl) (fun v hv => List.all_eq_true.1 hone v hv)
  simp only [Nat.add_zero, Array.length_toList] at hst
  rw [hn, hw] at hst
  cases hq : P.info? ty with
  | none => simp [hq] at hi
  | some i =>
    have hsz : i.size = vs.size := by simpa [hq] using hi
    simp [Instr.storeAt, Instr.sureAddr, storeVar, sizeOf, typeInfo, hq, hsz, Value.cells, hst]

theorem run_storeAt_cell {ty : TypeId} {g o : Nat} {t : TypeId} {cur new : Array Value} {v : Value} {w' : World} (hg : w.heap[g]? = some (.cells cur t (0, 0))) (hi : (P.info? ty).map (·.size) = some 1) (hl : o < cur.size)
    (hone : v.oneCell' = true) (hn : (cur.toList.take o ++ [v] ++ cur.toList.drop (o + 1)).toArray = new) (hw : w.setRow g new = w') :
    (Instr.storeAt ty (.pointer (some ⟨g, o, none⟩)) v).run P w = .ok () w' := by
  have hst := run_storeCells_at P g o t [v] 0 cur w hg (by simp; omega) (fun x hx => by simp only [List.mem_singleton] at hx; rw [hx]; exact hone)
  simp only [Nat.add_zero, List.length_singleton] at hst
  rw [hn, hw] at hst
  have hc : v.cells = #[v] := by cases v <;> first | rfl | cases hone
  cases hq : P.info? ty with
  | none => simp [hq] at hi
  | some i =>
    have hsz : i.size = 1 := by simpa [hq] using hi
    simp [Instr.storeAt, Instr.sureAddr, storeVar, sizeOf, typeInfo, hq, hsz, hc, hst]
end

section
variable {P : Program} {ops : Array Oper} {rest : List Oper} {a : Act} {w : World} {Q : Exit → Act → World → Prop} {x y : Operand} {dst : Option Tmp} {t' : TypeId} {ps : String} {af : Array Edge}

theorem wpList_run {o : Oper} {v : Value} {w' : World} (hgd : o.guard = none) (hr : (execOp a.eval o).run P w = .ok (.value v) w') (h : wpList P ops Q rest (a.put o.dst v) w') : wpList P ops Q (o :: rest) a w := by
  refine wpList_plain hgd fun K hK => ?_
  unfold Oper.wp
  rw [hr]
  exact hK _ _ h
theorem wpList_skip {o : Oper} {w' : World} (hgd : o.guard = none) (hr : (execOp a.eval o).run P w = .ok .skip w') (h : wpList P ops Q rest (a.put o.dst undef) w') : wpList P ops Q (o :: rest) a w := by
  refine wpList_plain hgd fun K hK => ?_
  unfold Oper.wp
  rw [hr]
  exact hK _ _ h
theorem wpList_run_if {o : Oper} {v : Value} {w' : World} (hw : Region.wanted o (yielded ops a.tmps) = true) (hr : (execOp a.eval o).run P w = .ok (.value v) w') (h : wpList P ops Q rest (a.put o.dst v) w') : wpList P ops Q (o :: rest) a w := by
  refine BigFrame.wpList_want hw fun K hK => ?_
  unfold Oper.wp
  rw [hr]
  exact hK _ _ h

theorem ex_load {o : Oper} {ty : TypeId} {v1 v : Value} (h : o.op = .load ty x) (hx : a.eval x = v1) (hr : (Instr.loadAt ty v1).run P w = .ok v w) : (execOp a.eval o).run P w = .ok (.value v) w := by
  cases o; simp only at h; subst h
  simp only [execOp, hx, Sem.run_bind, hr]
  rfl
theorem ex_store {o : Oper} {ty : TypeId} {v1 v : Value} {w' : World} (h : o.op = .store ty x y) (hx : a.eval x = v1) (hy : a.eval y = v) (hr : (Instr.storeAt ty v1 v).run P w = .ok () w') : (execOp a.eval o).run P w = .ok .skip w' := by
  cases o; simp only at h; subst h
  simp only [execOp, hx, hy, Sem.run_bind, hr]
  rfl

/-- A load of one cell. -/
theorem wpList_load_cell (ty : TypeId) {g i : Nat} {t : TypeId} {cs : Array Value} {fr : Nat × Nat} {d : TypeDesc} {v : Value}
    (hu : P.underlying ty = some d) (hd : aggB d = false) (hx : a.eval x = .pointer (some ⟨g, i, none⟩)) (hg : w.heap[g]? = some (.cells cs t fr)) (hv : cs[i]? = some v)
    (h : wpList P ops Q rest (a.put dst v) w) : wpList P ops Q ({ dst := dst, op := .load ty x, type := t', pos := ps, after := af, guard := none } :: rest) a w :=
  wpList_run rfl (ex_load rfl hx (run_loadAt_cell hd hu hg hv)) h
theorem wpList_load_cell_if (ty : TypeId) {gd : Nat × Bool} {g i : Nat} {t : TypeId} {cs : Array Value} {fr : Nat × Nat} {d : TypeDesc} {v : Value}
    (hu : P.underlying ty = some d) (hd : aggB d = false) (hw : Region.wanted { dst := dst, op := .load ty x, type := t', pos := ps, after := af, guard := some gd } (yielded ops a.tmps) = true) (hx : a.eval x = .pointer (some ⟨g, i, none⟩)) (hg : w.heap[g]? = some (.cells cs t fr)) (hv : cs[i]? = some v)
    (h : wpList P ops Q rest (a.put dst v) w) : wpList P ops Q ({ dst := dst, op := .load ty x, type := t', pos := ps, after := af, guard := some gd } :: rest) a w :=
  wpList_run_if hw (ex_load rfl hx (run_loadAt_cell hd hu hg hv)) h
/-- A load of several. -/
theorem wpList_load_part (ty : TypeId) {g i : Nat} {t : TypeId} {cs vs : Array Value} {fr : Nat × Nat} {d : TypeDesc}
    (hu : P.underlying ty = some d) (hd : aggB d = true) (hx : a.eval x = .pointer (some ⟨g, i, none⟩)) (hg : w.heap[g]? = some (.cells cs t fr)) (hi : (P.info? ty).map (·.size) = some vs.size) (hv : (cs.toList.drop i).take vs.size = vs.toList)
    (h : wpList P ops Q rest (a.put dst (.agg vs)) w) : wpList P ops Q ({ dst := dst, op := .load ty x, type := t', pos := ps, after := af, guard := none } :: rest) a w :=
  wpList_run rfl (ex_load rfl hx (run_loadAt_part hd hu hg hi hv)) h
theorem wpList_load_part_if (ty : TypeId) {gd : Nat × Bool} {g i : Nat} {t : TypeId} {cs vs : Array Value} {fr : Nat × Nat} {d : TypeDesc}
    (hu : P.underlying ty = some d) (hd : aggB d = true) (hw : Region.wanted { dst := dst, op := .load ty x, type := t', pos := ps, after := af, guard := some gd } (yielded ops a.tmps) = true) (hx : a.eval x = .pointer (some ⟨g, i, none⟩)) (hg : w.heap[g]? = some (.cells cs t fr)) (hi : (P.info? ty).map (·.size) = some vs.size) (hv : (cs.toList.drop i).take vs.size = vs.toList)
    (h : wpList P ops Q rest (a.put dst (.agg vs)) w) : wpList P ops Q ({ dst := dst, op := .load ty x, type := t', pos := ps, after := af, guard := some gd } :: rest) a w :=
  wpList_run_if hw (ex_load rfl hx (run_loadAt_part hd hu hg hi hv)) h
/-- A store of one cell. -/
theorem wpList_store_cell (ty : TypeId) {g o : Nat} {t : TypeId} {cur new : Array Value} {v : Value} {w' : World}
    (hx : a.eval x = .pointer (some ⟨g, o, none⟩)) (hy : a.eval y = v) (hi : (P.info? ty).map (·.size) = some 1) (hone : v.oneCell' = true) (hg : w.heap[g]? = some (.cells cur t (0, 0))) (hl : decide (o < cur.size) = true)
    (hn : (cur.toList.take o ++ [v] ++ cur.toList.drop (o + 1)).toArray = new) (hw : w.setRow g new = w')
    (h : wpList P ops Q rest (a.put dst undef) w') : wpList P ops Q ({ dst := dst, op := .store ty x y, type := t', pos := ps, after := af, guard := none } :: rest) a w :=
  wpList_skip rfl (ex_store rfl hx hy (run_storeAt_cell hg hi (of_decide_eq_true hl) hone hn hw)) h
theorem wpList_store_int (ty : TypeId) {g o : Nat} {t : TypeId} {cur new : Array Value} {k : IntKind} {n : Int} {w' : World}
    (hx : a.eval x = .pointer (some ⟨g, o, none⟩)) (hy : a.eval y = .int k n) (hi : (P.info? ty).map (·.size) = some 1) (hg : w.heap[g]? = some (.cells cur t (0, 0))) (hl : decide (o < cur.size) = true)
    (hn : (cur.toList.take o ++ [Value.int k n] ++ cur.toList.drop (o + 1)).toArray = new) (hw : w.setRow g new = w')
    (h : wpList P ops Q rest (a.put dst undef) w') : wpList P ops Q ({ dst := dst, op := .store ty x y, type := t', pos := ps, after := af, guard := none } :: rest) a w :=
  wpList_store_cell ty hx hy hi rfl hg hl hn hw h
/-- A store of several. -/
theorem wpList_store_part (ty : TypeId) {g o : Nat} {t : TypeId} {cur vs new : Array Value} {w' : World}
    (hx : a.eval x = .pointer (some ⟨g, o, none⟩)) (hy : a.eval y = .agg vs) (hi : (P.info? ty).map (·.size) = some vs.size) (hone : vs.toList.all Value.oneCell' = true) (hg : w.heap[g]? = some (.cells cur t (0, 0))) (hl : decide (o + vs.size ≤ cur.size) = true)
    (hn : (cur.toList.take o ++ vs.toList ++ cur.toList.drop (o + vs.size)).toArray = new) (hw : w.setRow g new = w')
    (h : wpList P ops Q rest (a.put dst undef) w') : wpList P ops Q ({ dst := dst, op := .store ty x y, type := t', pos := ps, after := af, guard := none } :: rest) a w :=
  wpList_skip rfl (ex_store rfl hx hy (run_storeAt_part hg hi (of_decide_eq_true hl) hone hn hw)) h
end
end Go.Mem
