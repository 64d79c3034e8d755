/-
  WholeFlash, part 41 of 44: Opn.
-/
import Derived.ProofKit
import Derived.OpenShut
import Derived.ChangeVars
import Derived.JoinedOf
import Derived.LaidLaws
import Derived.Laws.IdiomArrays
import Derived.ChangeSlices
import Derived.Deep.Slices
import Derived.ChangeMaps5
import Derived.Test.YtlcbilknfjdceaaGreatDoorTie
import Derived.Test.YtlcbilknfjdceaaGreatDoorM39
import Derived.Test.YtlcbilknfjdceaaGreatDoorM40
section
/-
  What the argument holds; the listed arrays.
-/
set_option linter.unusedVariables false
set_option linter.unusedSimpArgs false
set_option maxRecDepth 100000
namespace Go.Proofs.YtlcbilknfjdceaaGreatDoor
open Go.ChangeShapes Go.WideShapes Go.ChangeAt Go.RowKit Go.ChangeMaps
theorem whole3 {v : Value} {n : Nat} {f : Nat → Ac} {w : World} (hT : Tab w) (hv : ActsAt v n f w) : Calls Tryz.prog 3 #[v] w fun e w' => e = .returned (.bool true) ∧ Below w.heap.size w w' := by
  rcases Nat.lt_or_ge 80 n with hn | hn
  · exact whole_big (works4 hT) hv hn
  · exact whole_small (works4 hT) hv hn
def ordL : List Nat := [11, 3, 7, 9, 1, 5]
def unevenC : Array Value := #[.int .u32 0, .int .u32 4, .int .u32 6]
def faultsC : Array Value := #[.int .u32 1, .int .u32 5, .int .u32 7]
theorem ownTop : ownKnob Tryz.prog.godebug = none := by kernel_rfl
theorem laidOutTop : laidOutB Tryz.prog = true := by kernel_rfl
theorem g0 : Tryz.prog.globalNamed "dioptra/trap.order" = some 0 := by kernel_rfl
theorem g1 : Tryz.prog.globalNamed "dioptra/hart.faults" = some 1 := by kernel_rfl
theorem g2 : Tryz.prog.globalNamed "dioptra/hart.uneven" = some 2 := by kernel_rfl
theorem g0t : (Tryz.prog.globals[0]?).map (·.type) = some 254 := by kernel_rfl
theorem g1t : (Tryz.prog.globals[1]?).map (·.type) = some 280 := by kernel_rfl
theorem g2t : (Tryz.prog.globals[2]?).map (·.type) = some 280 := by kernel_rfl
theorem cells254 : Tryz.prog.cellsOf 254 = 6 := by kernel_rfl
theorem cells38 : Tryz.prog.cellsOf 38 = 1 := by kernel_rfl
theorem cells40 : Tryz.prog.cellsOf 40 = 3 := by kernel_rfl
theorem cells5 : Tryz.prog.cellsOf 5 = 1 := by kernel_rfl
theorem cells3 : Tryz.prog.cellsOf 3 = 1 := by kernel_rfl
abbrev theLaid : List (String × DataW Unit) := [("dioptra/trap.order", Rows.laid_dioptra_trap_order), ("dioptra/hart.uneven", Rows.laid_dioptra_hart_uneven), ("dioptra/hart.faults", Rows.laid_dioptra_hart_faults)]
theorem laid_list {H : Type} : (Rows.laid_dioptra_trap_order : DataW H) = .agg (ordL.map fun (n : Nat) => .lit (.int .u32 (n : Int))) := rfl
theorem var_block {P : Program} {w : World} {n : String} {g : Nat} {cs : Array Value} (hg : P.globalNamed n = some g) (h : w.var? P n = some cs) : ∃ t fr, w.heap[g]? = some (.cells cs t fr) := by
  simp only [World.var?, hg, Option.bind_some] at h
  split at h
  · rename_i e; cases h; exact ⟨_, _, e⟩
  · cases h

theorem tab_of_laid {W : World} (h : laidMet Tryz.prog theLaid W) : Tab W := by
  obtain ⟨ps, ⟨g, t, cs, fuel, p, q, hg, ht, hvar, hd, _, _⟩, _⟩ := h
  obtain rfl := Option.some.inj (g0.symm.trans hg)
  obtain rfl := Option.some.inj (g0t.symm.trans ht)
  obtain ⟨xs, m, _, hx, hl, hn, hel⟩ := DataW.trod_array Tryz.underlying254 hd
  rw [cells254] at hl
  have hcs : ∀ j, j < ordL.length → cs.toList[j]? = some (.int .u32 (ordL.getD j 0 : Nat)) := by
    intro j hj
    have hj6 : j < 6 := hj
    have h1 := hel j hj6
    rw [cells38, Nat.mul_one, List.getElem?_eq_getElem (by omega)] at h1
    obtain ⟨n, e1, e2, _⟩ := DataW.trod_int Tryz.underlying38 h1
    have e3 : (DataW.agg (xs.map (·.1)) : DataW Unit) = .agg (ordL.map fun (n : Nat) => .lit (.int .u32 (n : Int))) := by
      have := congrArg Prod.fst hx
      exact this.symm.trans laid_list
    injection e3 with e3
    have e4 := congrArg (·[j]?) e3
    simp only [List.getElem?_map] at e4
    rw [List.getElem?_eq_getElem (by omega), List.getElem?_eq_getElem hj, e2] at e4
    simp only [Option.map_some, Option.some.injEq, DataW.lit.injEq, Lit.int.injEq, true_and] at e4
    have e5 : cs.toList[j]? = some (.int .u32 n) := by
      have : ((cs.toList.drop j).take 1)[0]? = some (.int .u32 n) := by rw [e1]; rfl
      simpa using this
    rw [e5, e4]
    simp [List.getD, hj]
  have e : cs = ordC := by
    apply Array.ext'
    have hlen : cs.toList.length = 6 := by simpa using hl
    apply List.ext_getElem?
    intro j
    by_cases hj : j < 6
    · rw [hcs j hj]
      match j, hj with
      | 0, _ => rfl
      | 1, _ => rfl
      | 2, _ => rfl
      | 3, _ => rfl
      | 4, _ => rfl
      | 5, _ => rfl
      | k + 6, h => omega
    · rw [List.getElem?_eq_none (by omega), List.getElem?_eq_none (by simp [ordC]; omega)]
  rw [e] at hvar
  exact var_block g0 hvar

def layC (cs : Array Value) : Obj → Obj
  | .cells _ t frozen => .cells cs t frozen
  | o => o
/-- A world that meets the condition. -/
noncomputable def laidWorld (os : Os) : World :=
  { World.holding Tryz.prog os ⟨#[], #[], []⟩ with heap := (((World.holding Tryz.prog os ⟨#[], #[], []⟩).heap.modify 0 (layC ordC)).modify 1 (layC faultsC)).modify 2 (layC unevenC) }
theorem no_iface {w : World} {g : Nat} {t : TypeId} {cs : Array Value} (hr : w.heap[g]? = some (.cells cs t)) (hi : ∀ i, i < cs.size → ∃ n, cs[i]? = some (.int .u32 n)) (off : Nat) (u : TypeId) (v : Value) : w.cell? ⟨g, off, none⟩ ≠ some (.iface u v) := by
  rw [cell_at hr off]
  intro h
  rcases Nat.lt_or_ge off cs.size with h1 | h1
  · obtain ⟨n, hn⟩ := hi off h1
    rw [hn] at h
    cases h
  · rw [Array.getElem?_eq_none h1] at h
    cases h
theorem int6 : ∀ i, i < ordC.size → ∃ n, ordC[i]? = some (.int .u32 n) := by
  intro i hi
  match i, hi with
  | 0, _ => exact ⟨_, rfl⟩
  | 1, _ => exact ⟨_, rfl⟩
  | 2, _ => exact ⟨_, rfl⟩
  | 3, _ => exact ⟨_, rfl⟩
  | 4, _ => exact ⟨_, rfl⟩
  | 5, _ => exact ⟨_, rfl⟩
  | k + 6, h => exact absurd h (by show ¬ (k + 6 < 6); omega)
theorem int3 (a b c : Int) : ∀ i, i < (#[Value.int .u32 a, .int .u32 b, .int .u32 c] : Array Value).size → ∃ n, (#[Value.int .u32 a, .int .u32 b, .int .u32 c] : Array Value)[i]? = some (.int .u32 n) := by
  intro i hi
  match i, hi with
  | 0, _ => exact ⟨_, rfl⟩
  | 1, _ => exact ⟨_, rfl⟩
  | 2, _ => exact ⟨_, rfl⟩
  | k + 3, h => exact absurd h (by show ¬ (k + 3 < 3); omega)
theorem laid_met_of {w : World} (r0 : w.heap[0]? = some (.cells ordC 254 (0, 0))) (r1 : w.heap[1]? = some (.cells faultsC 280 (0, 0))) (r2 : w.heap[2]? = some (.cells unevenC 280 (0, 0)))
    (v0 : w.var? Tryz.prog "dioptra/trap.order" = some ordC) (v1 : w.var? Tryz.prog "dioptra/hart.faults" = some faultsC) (v2 : w.var? Tryz.prog "dioptra/hart.uneven" = some unevenC)
    (d0 : DataW.trod (fun _ => ()) Tryz.prog w 0 (fun _ => true) false 8 254 ordC.toList = some (Rows.laid_dioptra_trap_order, []))
    (d1 : DataW.trod (fun _ => ()) Tryz.prog w 0 (fun _ => true) false 8 280 faultsC.toList = some (Rows.laid_dioptra_hart_faults, []))
    (d2 : DataW.trod (fun _ => ()) Tryz.prog w 0 (fun _ => true) false 8 280 unevenC.toList = some (Rows.laid_dioptra_hart_uneven, [])) : laidMet Tryz.prog theLaid w := by
  refine ⟨_, ⟨0, 254, ordC, 8, [], _, g0, g0t, v0, d0, ⟨2, 280, unevenC, 8, [], _, g2, g2t, v2, d2, ⟨1, 280, faultsC, 8, [], [], g1, g1t, v1, d1, rfl, rfl⟩, rfl⟩, rfl⟩, ?_, fun b off h => ?_⟩
  · exact (of_decide_eq_true (by kernel_rfl) : (MemPlace.row ⟨0, 0, none⟩ 6 ++ ([] : List MemPlace) ++ (MemPlace.row ⟨2, 0, none⟩ 3 ++ ([] : List MemPlace) ++ (MemPlace.row ⟨1, 0, none⟩ 3 ++ ([] : List MemPlace) ++ []))).Nodup)
  · have h' : MemPlace.cell b off ∈ MemPlace.row ⟨0, 0, none⟩ ordC.size ++ [] ++ (MemPlace.row ⟨2, 0, none⟩ unevenC.size ++ [] ++ (MemPlace.row ⟨1, 0, none⟩ faultsC.size ++ [] ++ [])) := h
    simp only [List.append_nil] at h'
    rcases List.mem_append.1 h' with h1 | h1
    · obtain ⟨i, hi, e⟩ := MemPlace.mem_row.1 h1
      have hb : b = 0 := by injection e
      subst hb
      exact ⟨⟨_, _, r0⟩, fun u v hc => absurd hc (no_iface r0 int6 off u v)⟩
    · rcases List.mem_append.1 h1 with h2 | h2
      · obtain ⟨i, hi, e⟩ := MemPlace.mem_row.1 h2
        have hb : b = 2 := by injection e
        subst hb
        exact ⟨⟨_, _, r2⟩, fun u v hc => absurd hc (no_iface r2 (int3 0 4 6) off u v)⟩
      · obtain ⟨i, hi, e⟩ := MemPlace.mem_row.1 h2
        have hb : b = 1 := by injection e
        subst hb
        exact ⟨⟨_, _, r1⟩, fun u v hc => absurd hc (no_iface r1 (int3 1 5 7) off u v)⟩
section
variable {H : Type} {enc : TypeId × Value → H} {w : World} {base : Nat} {spare : Nat → Bool} {held : Bool}
theorem int_field {t : TypeId} {k : IntKind} {n i : Nat} {cs : List Value} {xs : List (DataW H × List MemPlace)} (ht : Tryz.prog.underlying t = some (.int k)) (hi : i < xs.length)
    (h : DataW.trod enc Tryz.prog w base spare held n t cs = xs[i]?) : ∃ m, cs = [.int k m] ∧ (Lit.int k m).wf = true := by
  rw [List.getElem?_eq_getElem hi] at h
  obtain ⟨m, h1, _, h3⟩ := DataW.trod_int ht h
  exact ⟨m, h1, h3⟩
theorem open_act {fuel : Nat} {cs : List Value} {x : DataW H × List MemPlace} (hl : cs.length = 3) (hf : DataW.trod enc Tryz.prog w base spare held fuel 40 cs = some x) : ∃ A : Ac, A.ok ∧ cs = (acV A).toList := by
  match cs, hl with
  | [c0, c1, c2], _ =>
    obtain ⟨xs, n, _, _, _, hlen, hg⟩ := DataW.trod_struct Tryz.underlying40 hf
    replace hlen : xs.length = 3 := hlen
    obtain ⟨n0, e0, w0⟩ := int_field Tryz.underlying5 (i := 0) (by rw [hlen]; decide) (hg 0 _ rfl)
    simp [cells5] at e0
    subst e0
    obtain ⟨n1, e1, w1⟩ := int_field Tryz.underlying3 (i := 1) (by rw [hlen]; decide) (hg 1 _ rfl)
    simp [cells3] at e1
    subst e1
    obtain ⟨n2, e2, w2⟩ := int_field Tryz.underlying38 (i := 2) (by rw [hlen]; decide) (hg 2 _ rfl)
    simp [cells38] at e2
    subst e2
    have := bounds_u8 w0
    have := bounds_u32 w2
    exact ⟨⟨n0, n1, n2⟩, ⟨by simp only; omega, by simp only; omega⟩, rfl⟩
theorem open_acts {r : Reach} {b0 : Nat} {v : Value} {d : DataW H} {p : List MemPlace} (hv : Value.okWide Tryz.prog w r b0 22 v) (h : DataW.Trod enc Tryz.prog w base (fun _ => true) held 22 v d p) : ∃ n f, ActsAt v n f w := by
  obtain ⟨a, len, cap, rfl⟩ := okWide_slice Tryz.underlying22 hv
  obtain ⟨fuel, hf⟩ := h
  rcases Go.Deep.open_slice Tryz.underlying22 hf with ⟨hcs, _⟩ | ⟨a', len', cap', m, k, D, Pl, hcs, _, hl, hm, hz, _, hel⟩
  · simp [Value.cells] at hcs
    obtain ⟨rfl, rfl, rfl⟩ := hcs
    exact ⟨0, fun _ => ⟨0, 0, 0⟩, none, 0, rfl, fun j hj => absurd hj (Nat.not_lt_zero j)⟩
  · simp [Value.cells] at hcs
    obtain ⟨rfl, rfl, rfl⟩ := hcs
    simp only [if_true] at hz
    rcases Nat.eq_zero_or_pos len with h0 | h0
    · subst h0
      exact ⟨0, fun _ => ⟨0, 0, 0⟩, _, _, rfl, fun j hj => absurd hj (Nat.not_lt_zero j)⟩
    · have each : ∀ i, ∃ A : Ac, i < len → A.ok ∧ ∀ q, q < 3 → w.cell? ((a'.add (i * 3)).add q) = (acV A)[q]? := by
        intro i
        by_cases hi : i < len
        · obtain ⟨cs', h1, h2⟩ := hel i (by omega)
          rw [cells40] at h1
          obtain ⟨_, h3, h4⟩ := World.cells?_some h1
          obtain ⟨A, hA, e⟩ := open_act h3 h2
          refine ⟨A, fun _ => ⟨hA, fun q hq => ?_⟩⟩
          rw [h4 q hq, e, Array.getElem?_toList]
        · exact ⟨⟨0, 0, 0⟩, fun h => absurd h hi⟩
      obtain ⟨f, hf⟩ := Classical.axiomOfChoice each
      obtain ⟨g, off, spot⟩ := a'
      have hspot : spot = none := by
        have := (hf 0 h0).2 0 (by decide)
        simpa [Addr.add] using World.cell?_spot this
      subst hspot
      refine ⟨len, f, some ⟨g, off, none⟩, cap, rfl, fun j hj => ⟨(hf j hj).1, g, off, rfl, ?_, fun i hi => ?_⟩⟩
      · have h1 := (hf 0 h0).2 0 (by decide)
        rcases Nat.lt_or_ge g w.heap.size with h2 | h2
        · exact h2
        · simp [World.cell?, Addr.add, Array.getElem?_eq_none h2] at h1
      · have := (hf j hj).2 i hi
        rwa [Go.WideShapes.add_plain, Go.WideShapes.add_plain] at this
end
end Go.Proofs.YtlcbilknfjdceaaGreatDoor
end
