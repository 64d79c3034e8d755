/-
  The listed table, and what the arguments of the laws hold.
-/
import Derived.Test.YtogepklmmehbjaaDoorKw
import Derived.ProofKit
import Derived.OpenShut
import Derived.ChangeVars
import Derived.JoinedOf
import Derived.LaidLaws
import Derived.Laws.IdiomArrays
namespace Go.Proofs.YtogepklmmehbjaaDoor
open Go.ChangeShapes Go.WideShapes Go.ChangeAt Go.RowKit

theorem own18 : ownKnob Tryd.prog.godebug = none := by kernel_rfl
theorem laidOut18 : laidOutB Tryd.prog = true := by kernel_rfl
theorem g0 : Tryd.prog.globalNamed "math/bits.deBruijn32tab" = some 0 := by kernel_rfl
theorem g0t : (Tryd.prog.globals[0]?).map (·.type) = some 72 := by kernel_rfl
theorem cells72 : Tryd.prog.cellsOf 72 = 32 := by kernel_rfl
theorem cells5 : Tryd.prog.cellsOf 5 = 1 := by kernel_rfl
theorem cells27 : Tryd.prog.cellsOf 27 = 1 := by kernel_rfl
theorem cells53 : Tryd.prog.cellsOf 53 = 1 := by kernel_rfl

abbrev theLaid : List (String × DataW Unit) := [("math/bits.deBruijn32tab", Rows.laid_math_bits_deBruijn32tab)]
theorem laid_list {H : Type} : (Rows.laid_math_bits_deBruijn32tab : DataW H) = .agg (Lib.deBruijn32tab.map fun (n : Nat) => .lit (.int .u8 (n : Int))) := rfl

theorem tab_of_laid {W : World} (h : laidMet Tryd.prog theLaid W) : Tab W := by
  obtain ⟨ps, ⟨g, t, cs, fuel, p, q, hg, ht, hvar, hd, _, _⟩, _⟩ := h
  obtain rfl := Option.some.inj (g0.symm.trans hg)
  obtain rfl := Option.some.inj (g0t.symm.trans ht)
  obtain ⟨xs, m, _, hx, hl, hn, hel⟩ := DataW.trod_array Tryd.underlying72 hd
  rw [cells72] at hl
  intro j hj
  have hj32 : j < 32 := hj
  have h1 := hel j hj32
  rw [cells5, Nat.mul_one, List.getElem?_eq_getElem (by omega)] at h1
  obtain ⟨n, e1, e2, _⟩ := DataW.trod_int Tryd.underlying5 h1
  have e3 : (DataW.agg (xs.map (·.1)) : DataW Unit) = .agg (Lib.deBruijn32tab.map fun (n : Nat) => .lit (.int .u8 (n : Int))) := by
    have := congrArg Prod.fst hx
    exact this.symm.trans laid_list
  injection e3 with e3
  have e4 := congrArg (·[j]?) e3
  simp only [List.getElem?_map] at e4
  rw [List.getElem?_eq_getElem (by omega), List.getElem?_eq_getElem hj, e2] at e4
  simp only [Option.map_some, Option.some.injEq, DataW.lit.injEq, Lit.int.injEq, true_and] at e4
  rw [World.var?_cell hg hvar j]
  have e5 : cs.toList[j]? = some (.int .u8 n) := by
    have : ((cs.toList.drop j).take 1)[0]? = some (.int .u8 n) := by rw [e1]; rfl
    simpa using this
  rw [← Array.getElem?_toList, e5, e4]
  simp [List.getD, hj]

def cells32 : Array Value := (Lib.deBruijn32tab.map fun (n : Nat) => Value.int .u8 (n : Int)).toArray
/-- A world that meets the condition. -/
noncomputable def laidWorld (os : Os) : World :=
  { World.holding Tryd.prog os ⟨#[], #[], []⟩ with heap := (World.holding Tryd.prog os ⟨#[], #[], []⟩).heap.modify 0 fun
      | .cells _ t frozen => .cells cells32 t frozen
      | o => o }
theorem laid_met_of {w : World} (hr : w.heap[0]? = some (.cells cells32 72 (0, 0))) (hv : w.var? Tryd.prog "math/bits.deBruijn32tab" = some cells32)
    (hd : DataW.trod (fun _ => ()) Tryd.prog w 0 (fun _ => true) false 8 72 cells32.toList = some (Rows.laid_math_bits_deBruijn32tab, [])) : laidMet Tryd.prog theLaid w := by
  refine ⟨_, ⟨0, 72, cells32, 8, [], [], g0, g0t, hv, hd, rfl, rfl⟩, ?_, fun b off h => ?_⟩
  · exact (of_decide_eq_true (by kernel_rfl) : (MemPlace.row ⟨0, 0, none⟩ 32 ++ ([] : List MemPlace) ++ []).Nodup)
  · have h' : MemPlace.cell b off ∈ MemPlace.row ⟨0, 0, none⟩ cells32.size ++ [] ++ [] := h
    simp only [List.append_nil] at h'
    obtain ⟨i, hi, e⟩ := MemPlace.mem_row.1 h'
    have hb : b = 0 := by injection e
    subst hb
    refine ⟨⟨_, _, hr⟩, fun u v hc => ?_⟩
    rw [cell_at hr off] at hc
    simp only [cells32, List.getElem?_toArray, List.getElem?_map, Option.map_eq_some_iff] at hc
    obtain ⟨n, _, hc⟩ := hc
    cases hc
end Go.Proofs.YtogepklmmehbjaaDoor
