/-
  Blocks that a call knows, and what each step makes of them.
-/
import Derived.Test.YtkebphpfedgokaaDoorRows
import Derived.Lib.Hide
import Derived.WalkKit
import Derived.Below
import Derived.Laws.Rows
import Derived.Deep.QuietTactic
import Derived.BigQuiet
set_option linter.unusedVariables false
set_option linter.unusedSimpArgs false
namespace Go.Proofs.YtkebphpfedgokaaDoor
open Go.RowKit Go.Lib

abbrev Blocks := List (Nat × Obj)
theorem lt_of_heap {w : World} {k : Nat} {o : Obj} (h : w.heap[k]? = some o) : k < w.heap.size := (Array.getElem?_eq_some_iff.1 h).1
theorem cell_at {w : World} {b : Nat} {cs : Array Value} {t : TypeId} {fr : Nat × Nat} (h : w.heap[b]? = some (.cells cs t fr)) (i : Nat) : w.cell? ⟨b, i, none⟩ = cs[i]? := cell_of_row w b i cs t fr h
theorem free_at {w : World} {b : Nat} {cs : Array Value} {t : TypeId} (h : w.heap[b]? = some (.cells cs t)) (i : Nat) : w.frozen? ⟨b, i, none⟩ = false := by simp [World.frozen?, h]

/-- Below B all is as in W; the blocks of K are as they say. -/
structure KW (B : Nat) (W : World) (K : Blocks) (w : World) : Prop where
  bel : Below B W w
  size : B ≤ w.heap.size
  kept : ∀ p ∈ K, B ≤ p.1 ∧ w.heap[p.1]? = some p.2
  nodup : (K.map (·.1)).Nodup

section
variable {B : Nat} {W w w' : World} {K : Blocks}
theorem KW.start {B : Nat} {W w : World} (h : Below B W w) (hB : B ≤ w.heap.size) : KW B W [] w := ⟨h, hB, fun p hp => (by cases hp), List.nodup_nil⟩
theorem KW.get (h : KW B W K w) {g : Nat} {o : Obj} (hp : (g, o) ∈ K) : w.heap[g]? = some o := (h.kept _ hp).2
theorem KW.keep (h : KW B W K w) (hk : ∀ (k : Nat) (o : Obj), w.heap[k]? = some o → w'.heap[k]? = some o) (hb : Below B w w') : KW B W K w' :=
  ⟨h.bel.trans hb, Nat.le_trans h.size hb.size, fun p hp => ⟨(h.kept p hp).1, hk _ _ (h.kept p hp).2⟩, h.nodup⟩
theorem KW.drew (h : KW B W K w) : KW B W K w.drew := h.keep (fun _ _ h => h) (Below.refl _ _).drew
theorem KW.alloc (h : KW B W K w) (o : Obj) : KW B W K (w.alloc o) :=
  h.keep (fun k x hx => by rw [Below.heap_alloc w o k (lt_of_heap hx)]; exact hx) ((Below.refl _ _).alloc h.size o)
theorem KW.grown (h : KW B W K w) (hb : Below w.heap.size w w') : KW B W K w' :=
  h.keep (fun k x hx => by rw [hb.block k (lt_of_heap hx)]; exact hx) (hb.mono h.size)
theorem KW.push (h : KW B W K w) (o : Obj) : KW B W ((w.heap.size, o) :: K) (w.alloc o) :=
  ⟨(h.alloc o).bel, (h.alloc o).size, fun p hp => by
    rcases List.mem_cons.1 hp with rfl | hp
    · exact ⟨h.size, heap_alloc_new w o⟩
    · exact (h.alloc o).kept p hp, by
    rw [List.map_cons, List.nodup_cons]
    refine ⟨fun hm => ?_, h.nodup⟩
    obtain ⟨p, hp, e⟩ := List.mem_map.1 hm
    have := lt_of_heap (h.kept p hp).2
    omega⟩
theorem KW.perm {K' : Blocks} (h : KW B W K w) (hp : K.Perm K') : KW B W K' w :=
  ⟨h.bel, h.size, fun p hq => h.kept p (hp.mem_iff.2 hq), (hp.map _).nodup_iff.1 h.nodup⟩
theorem KW.tail {p : Nat × Obj} (h : KW B W (p :: K) w) : KW B W K w := ⟨h.bel, h.size, fun q hq => h.kept q (List.mem_cons_of_mem _ hq), (List.nodup_cons.1 h.nodup).2⟩
theorem KW.row {g : Nat} {t : TypeId} {cs vs : Array Value} (h : KW B W ((g, .cells cs t) :: K) w) : KW B W ((g, .cells vs t) :: K) (w.setRow g vs) := by
  have hg := h.kept _ List.mem_cons_self
  have hn := (List.nodup_cons.1 h.nodup).1
  refine ⟨h.bel.trans ⟨rfl, rfl, rfl, by simp [World.setRow], fun k hk => setRow_other w g k vs (fun e => by have := hg.1; simp only at this; omega)⟩, by simp [World.setRow]; exact h.size, fun p hp => ?_, h.nodup⟩
  rcases List.mem_cons.1 hp with rfl | hp
  · exact ⟨hg.1, setRow_heap w g cs vs t _ hg.2⟩
  · refine ⟨(h.kept p (List.mem_cons_of_mem _ hp)).1, ?_⟩
    rw [setRow_other w g p.1 vs fun e => hn (List.mem_map.2 ⟨p, hp, e⟩)]
    exact (h.kept p (List.mem_cons_of_mem _ hp)).2
theorem KW.cell {g i : Nat} {t : TypeId} {cs vs : Array Value} {x : Value} (h : KW B W ((g, .cells cs t) :: K) w) (hv : cs.setIfInBounds i x = vs) : KW B W ((g, .cells vs t) :: K) (w.setCell ⟨g, i, none⟩ x) := by
  rw [setCell_eq_setRow w g i cs t (0, 0) x (h.get List.mem_cons_self), hv]
  exact h.row
theorem KW.swap {p q : Nat × Obj} (h : KW B W (p :: q :: K) w) : KW B W (q :: p :: K) w := h.perm (List.Perm.swap _ _ _)
theorem KW.rot {p q r : Nat × Obj} (h : KW B W (p :: q :: r :: K) w) : KW B W (r :: p :: q :: K) w := h.perm (((List.Perm.swap r q K).cons p).trans (List.Perm.swap r p (q :: K)))
end

end Go.Proofs.YtkebphpfedgokaaDoor
