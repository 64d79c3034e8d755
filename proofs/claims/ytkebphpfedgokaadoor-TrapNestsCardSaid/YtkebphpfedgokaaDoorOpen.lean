/-
  The listed array of the order.
-/
import Derived.Test.YtkebphpfedgokaaDoorKw
import Derived.ProofKit
import Derived.OpenShut
import Derived.ChangeVars
import Derived.JoinedOf
import Derived.LaidLaws
import Derived.Laws.IdiomArrays
namespace Go.Proofs.YtkebphpfedgokaaDoor
open Go.ChangeShapes Go.WideShapes Go.ChangeAt Go.RowKit

def ordL : List Nat := [11, 3, 7, 9, 1, 5]
def ordC : Array Value := #[.int .u32 11, .int .u32 3, .int .u32 7, .int .u32 9, .int .u32 1, .int .u32 5]
/-- The array in its variable. -/
def Tab (w : World) : Prop := ∃ t fr, w.heap[0]? = some (.cells ordC t fr)
theorem Tab.pos {w : World} (h : Tab w) : 0 < w.heap.size := by
  obtain ⟨t, fr, h⟩ := h
  exact (Array.getElem?_eq_some_iff.1 h).1
theorem Tab.below {B : Nat} {w w' : World} (h : Tab w) (hb : Below B w w') (hB : 0 < B) : Tab w' := by
  obtain ⟨t, fr, h⟩ := h
  exact ⟨t, fr, by rw [hb.block 0 hB]; exact h⟩

theorem own14 : ownKnob Tryd.prog.godebug = none := by kernel_rfl
theorem laidOut14 : laidOutB Tryd.prog = true := by kernel_rfl
theorem g0 : Tryd.prog.globalNamed "dioptra/trap.order" = some 0 := by kernel_rfl
theorem g0t : (Tryd.prog.globals[0]?).map (·.type) = some 47 := by kernel_rfl
theorem cells47 : Tryd.prog.cellsOf 47 = 6 := by kernel_rfl
theorem cells22 : Tryd.prog.cellsOf 22 = 1 := by kernel_rfl

abbrev theLaid : List (String × DataW Unit) := [("dioptra/trap.order", Rows.laid_dioptra_trap_order)]
theorem laid_list {H : Type} : (Rows.laid_dioptra_trap_order : DataW H) = .agg (ordL.map fun (n : Nat) => .lit (.int .u32 (n : Int))) := rfl

theorem var_block {P : Program} {w : World} {n : String} {g : Nat} {cs : Array Value} (hg : P.globalNamed n = some g) (h : w.var? P n = some cs) : ∃ t fr, w.heap[g]? = some (.cells cs t fr) := by
  simp only [World.var?, hg, Option.bind_some] at h
  split at h
  · rename_i e; cases h; exact ⟨_, _, e⟩
  · cases h

theorem tab_of_laid {W : World} (h : laidMet Tryd.prog theLaid W) : Tab W := by
  obtain ⟨ps, ⟨g, t, cs, fuel, p, q, hg, ht, hvar, hd, _, _⟩, _⟩ := h
  obtain rfl := Option.some.inj (g0.symm.trans hg)
  obtain rfl := Option.some.inj (g0t.symm.trans ht)
  obtain ⟨xs, m, _, hx, hl, hn, hel⟩ := DataW.trod_array Tryd.underlying47 hd
  rw [cells47] at hl
  have hcs : ∀ j, j < ordL.length → cs.toList[j]? = some (.int .u32 (ordL.getD j 0 : Nat)) := by
    intro j hj
    have hj6 : j < 6 := hj
    have h1 := hel j hj6
    rw [cells22, Nat.mul_one, List.getElem?_eq_getElem (by omega)] at h1
    obtain ⟨n, e1, e2, _⟩ := DataW.trod_int Tryd.underlying22 h1
    have e3 : (DataW.agg (xs.map (·.1)) : DataW Unit) = .agg (ordL.map fun (n : Nat) => .lit (.int .u32 (n : Int))) := by
      have := congrArg Prod.fst hx
      exact this.symm.trans laid_list
    injection e3 with e3
    have e4 := congrArg (·[j]?) e3
    simp only [List.getElem?_map] at e4
    rw [List.getElem?_eq_getElem (by omega), List.getElem?_eq_getElem hj, e2] at e4
    simp only [Option.map_some, Option.some.injEq, DataW.lit.injEq, Lit.int.injEq, true_and] at e4
    have e5 : cs.toList[j]? = some (.int .u32 n) := by
      have : ((cs.toList.drop j).take 1)[0]? = some (.int .u32 n) := by rw [e1]; rfl
      simpa using this
    rw [e5, e4]
    simp [List.getD, hj]
  have e : cs = ordC := by
    apply Array.ext'
    have hlen : cs.toList.length = 6 := by simpa using hl
    apply List.ext_getElem?
    intro j
    by_cases hj : j < 6
    · rw [hcs j hj]
      match j, hj with
      | 0, _ => rfl
      | 1, _ => rfl
      | 2, _ => rfl
      | 3, _ => rfl
      | 4, _ => rfl
      | 5, _ => rfl
      | k + 6, h => omega
    · rw [List.getElem?_eq_none (by omega), List.getElem?_eq_none (by simp [ordC]; omega)]
  rw [e] at hvar
  exact var_block g0 hvar

/-- A world that meets the condition. -/
noncomputable def laidWorld (os : Os) : World :=
  { World.holding Tryd.prog os ⟨#[], #[], []⟩ with heap := (World.holding Tryd.prog os ⟨#[], #[], []⟩).heap.modify 0 fun
      | .cells _ t frozen => .cells ordC t frozen
      | o => o }
theorem laid_met_of {w : World} (hr : w.heap[0]? = some (.cells ordC 47 (0, 0))) (hv : w.var? Tryd.prog "dioptra/trap.order" = some ordC)
    (hd : DataW.trod (fun _ => ()) Tryd.prog w 0 (fun _ => true) false 8 47 ordC.toList = some (Rows.laid_dioptra_trap_order, [])) : laidMet Tryd.prog theLaid w := by
  refine ⟨_, ⟨0, 47, ordC, 8, [], [], g0, g0t, hv, hd, rfl, rfl⟩, ?_, fun b off h => ?_⟩
  · exact (of_decide_eq_true (by kernel_rfl) : (MemPlace.row ⟨0, 0, none⟩ 6 ++ ([] : List MemPlace) ++ []).Nodup)
  · have h' : MemPlace.cell b off ∈ MemPlace.row ⟨0, 0, none⟩ ordC.size ++ [] ++ [] := h
    simp only [List.append_nil] at h'
    obtain ⟨i, hi, e⟩ := MemPlace.mem_row.1 h'
    have hb : b = 0 := by injection e
    subst hb
    refine ⟨⟨_, _, hr⟩, fun u v hc => ?_⟩
    rw [cell_at hr off] at hc
    match off, hc with
    | 0, hc => cases hc
    | 1, hc => cases hc
    | 2, hc => cases hc
    | 3, hc => cases hc
    | 4, hc => cases hc
    | 5, hc => cases hc
    | k + 6, hc => simp [ordC] at hc
end Go.Proofs.YtkebphpfedgokaaDoor
