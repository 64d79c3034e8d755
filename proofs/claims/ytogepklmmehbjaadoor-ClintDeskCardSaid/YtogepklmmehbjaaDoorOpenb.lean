/-
  What a slice of calls holds.
-/
import Derived.Test.YtogepklmmehbjaaDoorOpen
import Derived.Test.YtogepklmmehbjaaDoorActs
import Derived.Deep.Slices
namespace Go.Proofs.YtogepklmmehbjaaDoor
open Go.ChangeShapes Go.WideShapes Go.ChangeAt Go.RowKit

theorem cells32t : Tryd.prog.cellsOf 32 = 3 := by kernel_rfl

section
variable {H : Type} {enc : TypeId × Value → H} {w : World} {base : Nat} {spare : Nat → Bool} {held : Bool}

theorem int_field {t : TypeId} {k : IntKind} {n i : Nat} {cs : List Value} {xs : List (DataW H × List MemPlace)} (ht : Tryd.prog.underlying t = some (.int k)) (hi : i < xs.length)
    (h : DataW.trod enc Tryd.prog w base spare held n t cs = xs[i]?) : ∃ m, cs = [.int k m] ∧ (Lit.int k m).wf = true := by
  rw [List.getElem?_eq_getElem hi] at h
  obtain ⟨m, h1, _, h3⟩ := DataW.trod_int ht h
  exact ⟨m, h1, h3⟩

theorem open_act {fuel : Nat} {cs : List Value} {x : DataW H × List MemPlace} (hl : cs.length = 3) (hf : DataW.trod enc Tryd.prog w base spare held fuel 32 cs = some x) : ∃ A : Act, A.ok ∧ cs = (aR A).toList := by
  match cs, hl with
  | [c0, c1, c2], _ =>
    obtain ⟨xs, n, _, _, _, hlen, hg⟩ := DataW.trod_struct Tryd.underlying32 hf
    replace hlen : xs.length = 3 := hlen
    obtain ⟨n0, e0, w0⟩ := int_field Tryd.underlying5 (i := 0) (by rw [hlen]; decide) (hg 0 _ rfl)
    simp [cells5] at e0
    subst e0
    obtain ⟨n1, e1, w1⟩ := int_field Tryd.underlying27 (i := 1) (by rw [hlen]; decide) (hg 1 _ rfl)
    simp [cells27] at e1
    subst e1
    obtain ⟨n2, e2, w2⟩ := int_field Tryd.underlying27 (i := 2) (by rw [hlen]; decide) (hg 2 _ rfl)
    simp [cells27] at e2
    subst e2
    have := bounds_u8 w0
    have := bounds_u32 w1
    have := bounds_u32 w2
    exact ⟨⟨n0, n1, n2⟩, ⟨by simp only; omega, by simp only; omega, by simp only; omega⟩, rfl⟩

theorem open_acts {r : Reach} {b0 : Nat} {v : Value} {d : DataW H} {p : List MemPlace} (hv : Value.okWide Tryd.prog w r b0 22 v) (h : DataW.Trod enc Tryd.prog w base (fun _ => true) held 22 v d p) : ∃ n f, ActsAt v n f w := by
  obtain ⟨a, len, cap, rfl⟩ := okWide_slice Tryd.underlying22 hv
  obtain ⟨fuel, hf⟩ := h
  rcases Go.Deep.open_slice Tryd.underlying22 hf with ⟨hcs, _⟩ | ⟨a', len', cap', m, k, D, Pl, hcs, _, hl, hm, hz, _, hel⟩
  · simp [Value.cells] at hcs
    obtain ⟨rfl, rfl, rfl⟩ := hcs
    exact ⟨0, fun _ => ⟨0, 0, 0⟩, .inl ⟨none, 0, rfl, rfl⟩⟩
  · simp [Value.cells] at hcs
    obtain ⟨rfl, rfl, rfl⟩ := hcs
    simp only [if_true] at hz
    rcases Nat.eq_zero_or_pos len with h0 | h0
    · subst h0
      exact ⟨0, fun _ => ⟨0, 0, 0⟩, .inl ⟨_, _, rfl, rfl⟩⟩
    · have each : ∀ i, ∃ A : Act, i < len → A.ok ∧ ∀ q, q < 3 → w.cell? ((a'.add (i * 3)).add q) = (aR A)[q]? := by
        intro i
        by_cases hi : i < len
        · obtain ⟨cs', h1, h2⟩ := hel i (by omega)
          rw [cells32t] at h1
          obtain ⟨_, h3, h4⟩ := World.cells?_some h1
          obtain ⟨A, hA, e⟩ := open_act h3 h2
          refine ⟨A, fun _ => ⟨hA, fun q hq => ?_⟩⟩
          rw [h4 q hq, e, Array.getElem?_toList]
        · exact ⟨⟨0, 0, 0⟩, fun h => absurd h hi⟩
      obtain ⟨f, hf⟩ := Classical.axiomOfChoice each
      obtain ⟨g, off, spot⟩ := a'
      have hspot : spot = none := by
        have := (hf 0 h0).2 0 (by decide)
        simpa [Addr.add] using World.cell?_spot this
      subst hspot
      refine ⟨len, f, .inr ⟨g, off, cap, rfl, by omega, ?_, fun j hj => ⟨(hf j hj).1, fun i hi => ?_⟩⟩⟩
      · have h1 := (hf 0 h0).2 0 (by decide)
        rcases Nat.lt_or_ge g w.heap.size with h2 | h2
        · exact h2
        · simp [World.cell?, Addr.add, Array.getElem?_eq_none h2] at h1
      · have := (hf j hj).2 i hi
        rwa [Go.WideShapes.add_plain, Go.WideShapes.add_plain] at this
end
end Go.Proofs.YtogepklmmehbjaaDoor
