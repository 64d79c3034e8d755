/-
  WholeFlash holds: what stands on the flash at every moment is what the store has; no page is written twice without an erasure between. Its condition: the listed variables (the order of traps, and two tables of the hart) read as the program's text lays them.
-/
import Derived.Test.YtlcbilknfjdceaaGreatDoorCards
import Derived.Test.YtlcbilknfjdceaaGreatDoorM41
import Derived.Test.YtlcbilknfjdceaaGreatDoorM43
namespace Go.Proofs.YtlcbilknfjdceaaGreatDoor
open Go.ChangeShapes Go.WideShapes Go.ChangeAt Go.RowKit
theorem lrow0 (os : Os) : ((laidWorld os).forCall (fun _ _ => 0) ⟨#[], #[.slice none 0 0], []⟩).memory.heap[0]? = some (.cells ordC 254 (0, 0)) := by kernel_rfl
theorem lvar0 (os : Os) : ((laidWorld os).forCall (fun _ _ => 0) ⟨#[], #[.slice none 0 0], []⟩).memory.var? Tryz.prog "dioptra/trap.order" = some ordC := by kernel_rfl
theorem lreads0 (os : Os) : DataW.trod (fun _ => ()) Tryz.prog ((laidWorld os).forCall (fun _ _ => 0) ⟨#[], #[.slice none 0 0], []⟩).memory 0 (fun _ => true) false 8 254 ordC.toList = some (Rows.laid_dioptra_trap_order, []) := by kernel_rfl
theorem lrow1 (os : Os) : ((laidWorld os).forCall (fun _ _ => 0) ⟨#[], #[.slice none 0 0], []⟩).memory.heap[1]? = some (.cells faultsC 280 (0, 0)) := by kernel_rfl
theorem lvar1 (os : Os) : ((laidWorld os).forCall (fun _ _ => 0) ⟨#[], #[.slice none 0 0], []⟩).memory.var? Tryz.prog "dioptra/hart.faults" = some faultsC := by kernel_rfl
theorem lreads1 (os : Os) : DataW.trod (fun _ => ()) Tryz.prog ((laidWorld os).forCall (fun _ _ => 0) ⟨#[], #[.slice none 0 0], []⟩).memory 0 (fun _ => true) false 8 280 faultsC.toList = some (Rows.laid_dioptra_hart_faults, []) := by kernel_rfl
theorem lrow2 (os : Os) : ((laidWorld os).forCall (fun _ _ => 0) ⟨#[], #[.slice none 0 0], []⟩).memory.heap[2]? = some (.cells unevenC 280 (0, 0)) := by kernel_rfl
theorem lvar2 (os : Os) : ((laidWorld os).forCall (fun _ _ => 0) ⟨#[], #[.slice none 0 0], []⟩).memory.var? Tryz.prog "dioptra/hart.uneven" = some unevenC := by kernel_rfl
theorem lreads2 (os : Os) : DataW.trod (fun _ => ()) Tryz.prog ((laidWorld os).forCall (fun _ _ => 0) ⟨#[], #[.slice none 0 0], []⟩).memory 0 (fun _ => true) false 8 280 unevenC.toList = some (Rows.laid_dioptra_hart_uneven, []) := by kernel_rfl
set_option maxRecDepth 100000 in
theorem wholeFlash_lifted (os : Os) (started : os.Started) (H : Type) (enc : TypeId × Value → H) :
    ReturnsInHanded {} Tryz.checked os 3 .any (fun w args => (Rows.wholeFlashSpec.pre enc Tryz.prog Tryz.f3 [] false w args ∧ laidMet Tryz.prog theLaid w) ∧ sizedMet enc Tryz.prog Tryz.f3 (OpenSpec.ofChange Rows.wholeFlashSpec) false w args) (Rows.wholeFlashSpec.post enc Tryz.prog Tryz.f3 false true false false) := by
  refine returnsInHanded_of_change_and (C := Tryz.checked) (X := fun w _ => laidMet Tryz.prog theLaid w) (fun _ _ _ hh h => h.of_heap hh) ownTop started (by kernel_rfl) Tryz.func3
    (ChangeSpec.witness_at (enc := enc) (C := Tryz.checked) (os := os) (X := fun w _ => laidMet Tryz.prog theLaid w) false (laidWorld os) #[.slice none 0 0] 8 rfl (by kernel_rfl) (by kernel_rfl) (by kernel_rfl) (by kernel_rfl) (by kernel_rfl)
      (laid_met_of (lrow0 os) (lrow1 os) (lrow2 os) (lvar0 os) (lvar1 os) (lvar2 os) (lreads0 os) (lreads1 os) (lreads2 os))) ?_
  intro W base args ds gs before hval0 hW hcnd _ hL _
  have hval : ∀ (j : Nat) t v, Tryz.f3.params[j]? = some t → args[j]? = some v → Value.okWide Tryz.prog W .any base t v := hval0
  have hW' := hW
  obtain ⟨p, q, hA0, hV, rfl, hfz, hnd⟩ := hW
  have hT : Tab W := tab_of_laid hL
  have hA : DataW.TrodAll enc Tryz.prog W 0 (fun _ => true) true Tryz.f3.params.toList args.toList ds p := hA0
  rw [Tryz.params3] at hA hval
  obtain ⟨v0, vs0, d0, ds0, p0, q0, hargs, rfl, rfl, h0, r0⟩ := trodAll_cons hA
  obtain ⟨rfl, rfl, rfl⟩ := trodAll_nil r0
  obtain rfl : args = #[v0] := by cases args; simp_all
  obtain ⟨rfl, rfl⟩ := trodVars_none hV
  have k0 := h0
  have lt0 : ∀ x ∈ p0, x.block < W.heap.size := by obtain ⟨m, hm⟩ := k0; exact DataW.trod_lt m _ _ _ hm
  obtain ⟨n0, f0, y0⟩ := open_acts (hval 0 22 v0 rfl rfl) h0
  clear hA0 hval0
  refine (whole3 hT y0).mono fun e W' ⟨he, bel⟩ => ?_
  subst he
  exact ⟨_, rfl, _, _, _, [], _, [], hW', trodAll_mk1 (shut_bool Tryz.underlying4 _), (trodAll_cons_mk (Below.trod laidOutTop (by kernel_rfl) (of_decide_eq_true (by kernel_rfl)) k0 bel lt0) trodAll_mk0), rfl, bel.frame _, fun h => by cases h⟩
theorem wholeFlash_bare : Rows.WholeFlashSaid :=
  OpenClaim.holds_of_wide 3 Tryz.f3 rfl rfl rfl rfl rfl rfl rfl ⟨rfl, rfl, rfl, rfl, rfl⟩ rfl rfl rfl rfl rfl (by kernel_rfl) Tryz.func3 facts_all
    (of_decide_eq_true (by kernel_rfl)) (by unfold Func.isWrapper; first | (rw [if_pos (by decide +kernel)]; kernel_rfl) | (rw [if_neg (by decide +kernel)]; exact ⟨rfl, rfl⟩))
    (fun os started H enc _ => wholeFlash_lifted os started H enc)
theorem wholeFlash_holds : Rows.WholeFlashCardSaid :=
  Claim7.holds_tied_plain_at .later [] [.data, .data, .data] true (true, "591202b13b44858e89cd6016abe96d2f3972af9b9befd220d43db929dc22d89a") true
    wholeFlash_bare (fun _ h => by cases h) (by kernel_rfl) (fun _ h => by cases h) wholeFlash_row_tie rfl ⟨rfl, rfl⟩ (by kernel_rfl) rfl
    (fun f fn hf hfn => by
      obtain rfl : f = 3 := Option.some.inj ((show Tryz.prog.funcNamed "dioptra/dioptratop.WholeFlash" = some 3 by kernel_rfl).symm.trans hf) |>.symm
      obtain rfl : fn = Tryz.f3 := (Option.some.inj (Tryz.func3.symm.trans hfn)).symm
      exact ⟨by kernel_rfl, fun j t ht => by
        rw [Tryz.params3] at ht
        match j, ht with
        | 0, ht => obtain rfl : 22 = t := Option.some.inj ht; exact (show Tryz.prog.wantsStandIn 22 = false by kernel_rfl)
        | j + 1, ht => simp at ht⟩)
    (by kernel_rfl)
#print axioms wholeFlash_holds
end Go.Proofs.YtlcbilknfjdceaaGreatDoor
