/-
  TrapLines holds: of interrupts that are handed down none is taken by the highest privilege. The order of the interrupts is as the program's text lays it.
-/
import Derived.Test.YtkebphpfedgokaaDoorTlines
import Derived.Test.YtkebphpfedgokaaDoorOpens
import Derived.Test.YtkebphpfedgokaaDoorTie
import Derived.Test.YtkebphpfedgokaaDoorCards
import Derived.SevenTiedAt
namespace Go.Proofs.YtkebphpfedgokaaDoor
open Go.ChangeShapes Go.WideShapes Go.ChangeAt Go.RowKit

theorem trapLines_row (os : Os) : ((laidWorld os).forCall (fun _ _ => 0) ⟨#[], #[.agg (St.r ⟨0, 0, 0, 0, 0, 0, 0, 0, 0, 0, 0, 0, 0, 0, 0, 0, 0, 0, 0⟩)], []⟩).memory.heap[0]? = some (.cells ordC 47 (0, 0)) := by kernel_rfl
theorem trapLines_var (os : Os) : ((laidWorld os).forCall (fun _ _ => 0) ⟨#[], #[.agg (St.r ⟨0, 0, 0, 0, 0, 0, 0, 0, 0, 0, 0, 0, 0, 0, 0, 0, 0, 0, 0⟩)], []⟩).memory.var? Tryd.prog "dioptra/trap.order" = some ordC := by kernel_rfl
theorem trapLines_reads (os : Os) : DataW.trod (fun _ => ()) Tryd.prog ((laidWorld os).forCall (fun _ _ => 0) ⟨#[], #[.agg (St.r ⟨0, 0, 0, 0, 0, 0, 0, 0, 0, 0, 0, 0, 0, 0, 0, 0, 0, 0, 0⟩)], []⟩).memory 0 (fun _ => true) false 8 47 ordC.toList = some (Rows.laid_dioptra_trap_order, []) := by kernel_rfl
set_option maxRecDepth 100000 in
theorem trapLines_lifted (os : Os) (started : os.Started) (H : Type) (enc : TypeId × Value → H) :
    ReturnsInHanded {} Tryd.checked os 8 .any (fun w args => (Rows.trapLinesSpec.pre enc Tryd.prog Tryd.f8 [] false w args ∧ laidMet Tryd.prog theLaid w) ∧ sizedMet enc Tryd.prog Tryd.f8 (OpenSpec.ofChange Rows.trapLinesSpec) false w args) (Rows.trapLinesSpec.post enc Tryd.prog Tryd.f8 false true false false) := by
  refine returnsInHanded_of_change_and (C := Tryd.checked) (X := fun w _ => laidMet Tryd.prog theLaid w) (fun _ _ _ hh h => h.of_heap hh) own14 started (by kernel_rfl) Tryd.func8
    (ChangeSpec.witness_at (enc := enc) (C := Tryd.checked) (os := os) (X := fun w _ => laidMet Tryd.prog theLaid w) false (laidWorld os) #[.agg (St.r ⟨0, 0, 0, 0, 0, 0, 0, 0, 0, 0, 0, 0, 0, 0, 0, 0, 0, 0, 0⟩)] 8 rfl (by kernel_rfl) (by kernel_rfl) (by kernel_rfl) (by kernel_rfl) (by kernel_rfl)
      (laid_met_of (trapLines_row os) (trapLines_var os) (trapLines_reads os))) ?_
  intro W base args ds gs before hval0 hW hcnd _ hL _
  have hval : ∀ (j : Nat) t v, Tryd.f8.params[j]? = some t → args[j]? = some v → Value.okWide Tryd.prog W .any base t v := hval0
  have hW' := hW
  obtain ⟨p, q, hA0, hV, rfl, hfz, hnd⟩ := hW
  have hT : Tab W := tab_of_laid hL
  have hA : DataW.TrodAll enc Tryd.prog W 0 (fun _ => true) true Tryd.f8.params.toList args.toList ds p := hA0
  rw [Tryd.params8] at hA hval
  obtain ⟨v0, vs0, d0, ds0, p0, q0, hargs, rfl, rfl, h0, r0⟩ := trodAll_cons hA
  obtain ⟨rfl, rfl, rfl⟩ := trodAll_nil r0
  obtain rfl : args = #[v0] := by cases args; simp_all
  obtain ⟨rfl, rfl⟩ := trodVars_none hV
  have k0 := h0
  have lt0 : ∀ x ∈ p0, x.block < W.heap.size := by obtain ⟨m, hm⟩ := k0; exact DataW.trod_lt m _ _ _ hm
  obtain ⟨s0, rfl, hF0⟩ := open_state (hval 0 27 v0 rfl rfl) h0
  clear hA0 hval0
  refine (tlines_calls s0 W hT hF0).mono fun e W' ⟨he, bel⟩ => ?_
  subst he
  exact ⟨_, rfl, _, _, _, [], _, [], hW', trodAll_mk1 (shut_bool Tryd.underlying4 _), (trodAll_cons_mk (Below.trod laidOut14 (by kernel_rfl) (of_decide_eq_true (by kernel_rfl)) k0 bel lt0) trodAll_mk0), rfl, bel.frame _, fun h => by cases h⟩

theorem trapLines_bare : Rows.TrapLinesSaid :=
  OpenClaim.holds_of_wide 8 Tryd.f8 rfl rfl rfl rfl rfl rfl rfl ⟨rfl, rfl, rfl, rfl, rfl⟩ rfl rfl rfl rfl rfl (by kernel_rfl) Tryd.func8 (by kernel_rfl)
    (of_decide_eq_true (by kernel_rfl)) (by unfold Func.isWrapper; first | (rw [if_pos (by decide +kernel)]; kernel_rfl) | (rw [if_neg (by decide +kernel)]; exact ⟨rfl, rfl⟩))
    (fun os started H enc _ => trapLines_lifted os started H enc)
theorem trapLines_holds : Rows.TrapLinesCardSaid :=
  Claim7.holds_tied_plain_at .later [] [.data] true (true, "b5bfd4155870320f04214a2645db1aa1cfb0476ee2916b434f18236e31773bd3") false
    trapLines_bare (fun _ h => by cases h) (by kernel_rfl) (fun _ h => by cases h) trapLines_row_tie rfl ⟨rfl, rfl⟩ (by kernel_rfl) rfl
    (fun f fn hf hfn => by
      obtain rfl : f = 8 := Option.some.inj ((show Tryd.prog.funcNamed "dioptra/dioptralaw14.TrapLines" = some 8 by kernel_rfl).symm.trans hf) |>.symm
      obtain rfl : fn = Tryd.f8 := (Option.some.inj (Tryd.func8.symm.trans hfn)).symm
      exact ⟨by kernel_rfl, fun j t ht => by
        rw [Tryd.params8] at ht
        match j, ht with
        | 0, ht => obtain rfl : 27 = t := Option.some.inj ht; exact (show Tryd.prog.wantsStandIn 27 = false by kernel_rfl)
        | j + 1, ht => simp at ht⟩)
    (by kernel_rfl)
#print axioms trapLines_holds
end Go.Proofs.YtkebphpfedgokaaDoor
