/-
  A world that has grown by blocks of which nothing more is known, as a term of its own: what a call that touches no old block leaves behind it; stores and loads go through it to the blocks that were there before.
-/
import Derived.WalkKit
import Derived.WalkSpells
import Derived.Laws.Rows
import Derived.Laws.CopyRow
import Derived.Laws.ResultCell
namespace Go

/-- The world with more blocks, and another count of draws. -/
def World.grow (w : World) (ext : Array Obj) (d : Nat) : World := { w with heap := w.heap ++ ext, drawn := d }

section
variable (w : World) (ext : Array Obj) (d n i : Nat) (v : Value)

theorem World.heap_grow_old (h : n < w.heap.size) : (w.grow ext d).heap[n]? = w.heap[n]? := by
  simp [World.grow, Array.getElem?_append, h]

@[go_sem, simp] theorem World.size_grow : (w.grow ext d).heap.size = w.heap.size + ext.size := by simp [World.grow]

@[go_sem] theorem World.cell?_grow (h : n < w.heap.size) : (w.grow ext d).cell? ⟨n, i, none⟩ = w.cell? ⟨n, i, none⟩ := by
  simp only [World.cell?, World.heap_grow_old w ext d n h]

@[go_sem] theorem World.frozen?_grow (h : n < w.heap.size) : (w.grow ext d).frozen? ⟨n, i, none⟩ = w.frozen? ⟨n, i, none⟩ := by
  simp only [World.frozen?, World.heap_grow_old w ext d n h]

@[go_sem] theorem World.shape?_grow (h : n < w.heap.size) : (w.grow ext d).shape? n = w.shape? n := by
  simp only [World.shape?, World.heap_grow_old w ext d n h]

@[go_sem] theorem World.setCell_grow (h : n < w.heap.size) : (w.grow ext d).setCell ⟨n, i, none⟩ v = (w.setCell ⟨n, i, none⟩ v).grow ext d := by
  simp only [World.grow, World.setCell]
  congr 1
  apply Array.ext_getElem?
  intro k
  simp only [Array.getElem?_modify, Array.getElem?_append, Array.size_modify]
  by_cases hk : k < w.heap.size
  · simp [hk]
  · have : n ≠ k := by omega
    simp [hk, this]

/-- A store into one of the new blocks. -/
@[go_sem] theorem World.setCell_grow_new (h : w.heap.size ≤ n) : (w.grow ext d).setCell ⟨n, i, none⟩ v = w.grow (({ w with heap := ext } : World).setCell ⟨n - w.heap.size, i, none⟩ v).heap d := by
  simp only [World.grow, World.setCell]
  congr 1
  apply Array.ext_getElem?
  intro k
  simp only [Array.getElem?_modify, Array.getElem?_append]
  by_cases hk : k < w.heap.size
  · have : n ≠ k := by omega
    simp [hk, this]
  · by_cases e : n = k
    · subst e; simp [hk]
    · have : n - w.heap.size ≠ k - w.heap.size := by omega
      simp [hk, e, this]

theorem World.grow_nil : w.grow #[] w.drawn = w := by simp [World.grow]
theorem World.grow_grow (ext' : Array Obj) (d' : Nat) : (w.grow ext d).grow ext' d' = w.grow (ext ++ ext') d' := by simp [World.grow, Array.append_assoc]
theorem World.grow_drew : (w.grow ext d).drew = w.grow ext (d + 1) := rfl
theorem World.drew_grow : w.drew.grow ext d = w.grow ext d := rfl
end

@[go_sem] theorem lt_add_ext (a b c : Nat) (h : a < b) : a < b + c := Nat.lt_add_right c h
@[go_sem] theorem lt_self_one_ext (a c : Nat) : a < a + 1 + c := by omega

namespace RowKit
theorem below_grow {W w1 : World} (h : Below W.heap.size W w1) : ∃ ext d, w1 = W.grow ext d := by
  refine ⟨w1.heap.extract W.heap.size w1.heap.size, w1.drawn, ?_⟩
  obtain ⟨h1, h2, h3, h4, h5⟩ := h
  have e : w1.heap = W.heap ++ w1.heap.extract W.heap.size w1.heap.size := by
    apply Array.ext_getElem?
    intro k
    rw [Array.getElem?_append]
    by_cases hk : k < W.heap.size
    · rw [if_pos hk, h5 k hk]
    · rw [if_neg hk, Array.getElem?_extract]
      by_cases hk2 : k < w1.heap.size
      · rw [if_pos (by omega), show W.heap.size + (k - W.heap.size) = k by omega]
      · rw [if_neg (by omega), Array.getElem?_eq_none (by omega)]
  obtain ⟨heap, tape, drawn, os, output⟩ := w1
  simp only at h1 h2 h3 e
  subst h1 h2 h3
  simp only [World.grow]
  congr 1

theorem Below.grow {B : Nat} {a w : World} (h : Below B a w) (hB : B ≤ w.heap.size) (ext : Array Obj) (d : Nat) : Below B a (w.grow ext d) :=
  h.trans ⟨rfl, rfl, rfl, by simp, fun k hk => World.heap_grow_old w ext d k (by omega)⟩

end RowKit

/-! ### Whole rows: a struct of many cells that is loaded or stored at once -/
section
variable {P : Program} {ops : Array Oper} {rest : List Oper} {a : Act} {w : World} {Q : Exit → Act → World → Prop}

theorem World.heap_alloc_at (w : World) (o : Obj) (n : Nat) (hn : n = w.heap.size) : (w.alloc o).heap[n]? = some o := by subst hn; exact heap_alloc_new w o
theorem World.heap_alloc_past (w : World) (o : Obj) (n : Nat) (hn : n < w.heap.size) : (w.alloc o).heap[n]? = w.heap[n]? := by
  show (w.heap.push o)[n]? = _
  rw [Array.getElem?_push, if_neg (by omega)]

/-- A load of a whole row. -/
theorem wpList_load_at (ty : TypeId) {x : Operand} {dst : Option Tmp} {t' : TypeId} {ps : String} {af : Array Edge} {g : Nat} {t : TypeId} {cs : Array Value} {fr : Nat × Nat} {d : TypeDesc}
    (hu : P.underlying ty = some d) (hx : a.eval x = .pointer (some ⟨g, 0, none⟩)) (hg : w.heap[g]? = some (.cells cs t fr))
    (hd : (match d with | .struct _ | .array _ _ => true | _ => false) = true) (hi : (P.info? ty).map (·.size) = some cs.size)
    (h : wpList P ops Q rest (a.put dst (.agg cs)) w) : wpList P ops Q ({ dst := dst, op := .load ty x, type := t', pos := ps, after := af, guard := none } :: rest) a w :=
  wpList_load_row (o := { dst := dst, op := .load ty x, type := t', pos := ps, after := af, guard := none }) rfl ty x rfl g hx t cs fr d hg hu hd hi h

/-- A store of a whole row. -/
theorem wpList_store_at (ty : TypeId) {x y : Operand} {dst : Option Tmp} {t' : TypeId} {ps : String} {af : Array Edge} {g : Nat} {t : TypeId} {cur vs : Array Value} {w' : World}
    (hx : a.eval x = .pointer (some ⟨g, 0, none⟩)) (hy : a.eval y = .agg vs) (hg : w.heap[g]? = some (.cells cur t (0, 0))) (hi : (P.info? ty).map (·.size) = some vs.size) (hs : vs.size = cur.size)
    (hone : vs.toList.all Value.oneCell' = true) (hw : w.setRow g vs = w')
    (h : wpList P ops Q rest (a.put dst undef) w') : wpList P ops Q ({ dst := dst, op := .store ty x y, type := t', pos := ps, after := af, guard := none } :: rest) a w := by
  refine wpList_plain rfl fun K hK => ?_
  have hst := run_storeCells_at P g 0 t vs.toList 0 cur w hg (by simpa using Nat.le_of_eq hs) (fun v hv => List.all_eq_true.1 hone v hv)
  have e : (cur.toList.take (0 + 0) ++ vs.toList ++ cur.toList.drop (0 + 0 + vs.toList.length)).toArray = vs := by
    apply Array.ext'
    simp [hs]
  rw [e, hw] at hst
  cases hq : P.info? ty with
  | none => simp [hq] at hi
  | some i =>
    have hsz : i.size = vs.size := by simpa [hq] using hi
    unfold Oper.wp execOp
    have hrun : (Instr.storeAt ty (.pointer (some ⟨g, 0, none⟩)) (.agg vs)).run P w = .ok () w' := by
      simp [Instr.storeAt, Instr.sureAddr, storeVar, sizeOf, typeInfo, hq, hsz, Value.cells, hst]
    simp only [hx, hy, Sem.run_bind, hrun, Result.andThen_ok]
    exact hK _ _ h

@[go_sem] theorem World.setRow_alloc_at (w : World) (c vs : Array Value) (t : TypeId) (n : Nat) (hn : n = w.heap.size) : (w.alloc (.cells c t)).setRow n vs = w.alloc (.cells vs t) := by
  subst hn
  simp only [World.setRow]
  show World.mk .. = World.mk ..
  congr 1
  show (w.heap.push _).modify w.heap.size _ = w.heap.push _
  apply Array.ext_getElem?
  intro i
  rw [Array.getElem?_modify, Array.getElem?_push, Array.getElem?_push]
  by_cases e : w.heap.size = i
  · subst e; simp
  · simp [e, Ne.symm e]

@[go_sem] theorem World.setRow_alloc_past (w : World) (o : Obj) (vs : Array Value) (n : Nat) (hn : n < w.heap.size) : (w.alloc o).setRow n vs = (w.setRow n vs).alloc o := by
  simp only [World.setRow]
  show World.mk .. = World.mk ..
  congr 1
  show (w.heap.push _).modify n _ = (w.heap.modify n _).push _
  apply Array.ext_getElem?
  intro i
  rw [Array.getElem?_modify, Array.getElem?_push, Array.getElem?_push, Array.getElem?_modify, Array.size_modify]
  by_cases e : i = w.heap.size
  · have : n ≠ i := by omega
    simp [e]
    omega
  · simp [e]

@[go_sem] theorem World.setRow_grow (w : World) (ext : Array Obj) (d : Nat) (vs : Array Value) (n : Nat) (hn : n < w.heap.size) : (w.grow ext d).setRow n vs = (w.setRow n vs).grow ext d := by
  simp only [World.grow, World.setRow]
  congr 1
  apply Array.ext_getElem?
  intro k
  simp only [Array.getElem?_modify, Array.getElem?_append, Array.size_modify]
  by_cases hk : k < w.heap.size
  · simp [hk]
  · have : n ≠ k := by omega
    simp [hk, this]

@[go_sem] theorem World.setRow_drew (w : World) (vs : Array Value) (n : Nat) : w.drew.setRow n vs = (w.setRow n vs).drew := rfl

/-- Two results, the first of which lies in a row. -/
theorem results_row_tmp {fn : Func} {p u : Tmp} {ty : TypeId} (h : fn.results = #[.cell p ty, .tmp u]) (tmps : Array Value) (w : World) (g : Nat) (t : TypeId) (cs : Array Value) (fr : Nat × Nat) (d : TypeDesc)
    (hp : tmps.getD p undef = .pointer (some ⟨g, 0, none⟩)) (hg : w.heap[g]? = some (.cells cs t fr))
    (hu : P.underlying ty = some d) (hd : (match d with | .struct _ | .array _ _ => true | _ => false) = true) (hi : (P.info? ty).map (·.size) = some cs.size) :
    (results fn tmps).run P w = .ok (.tuple #[.agg cs, tmps.getD u undef]) w := by
  rw [results_cell_tmp h, hp]
  have := run_loadVar_row (P := P) w g t ty cs fr d hg hu hd hi
  simp [asAddr, this]
end
end Go
