/-
  ClintDesk holds: a desk answers every call, in every order, as the document says. The table of trailing zeros is as the program's text lays it.
-/
import Derived.Test.YtogepklmmehbjaaDoorDacts
import Derived.Test.YtogepklmmehbjaaDoorOpen
import Derived.Test.YtogepklmmehbjaaDoorOpenb
import Derived.Test.YtogepklmmehbjaaDoorTie
import Derived.Test.YtogepklmmehbjaaDoorCards
import Derived.SevenTiedAt
namespace Go.Proofs.YtogepklmmehbjaaDoor
open Go.ChangeShapes Go.WideShapes Go.ChangeAt Go.RowKit

theorem clintDesk_row (os : Os) : ((laidWorld os).forCall (fun _ _ => 0) ⟨#[], #[.slice none 0 0], []⟩).memory.heap[0]? = some (.cells cells32 72 (0, 0)) := by kernel_rfl
theorem clintDesk_var (os : Os) : ((laidWorld os).forCall (fun _ _ => 0) ⟨#[], #[.slice none 0 0], []⟩).memory.var? Tryd.prog "math/bits.deBruijn32tab" = some cells32 := by kernel_rfl
theorem clintDesk_reads (os : Os) : DataW.trod (fun _ => ()) Tryd.prog ((laidWorld os).forCall (fun _ _ => 0) ⟨#[], #[.slice none 0 0], []⟩).memory 0 (fun _ => true) false 8 72 cells32.toList = some (Rows.laid_math_bits_deBruijn32tab, []) := by kernel_rfl
set_option maxRecDepth 100000 in
theorem clintDesk_lifted (os : Os) (started : os.Started) (H : Type) (enc : TypeId × Value → H) :
    ReturnsInHanded {} Tryd.checked os 4 .any (fun w args => (Rows.clintDeskSpec.pre enc Tryd.prog Tryd.f4 [] false w args ∧ laidMet Tryd.prog theLaid w) ∧ sizedMet enc Tryd.prog Tryd.f4 (OpenSpec.ofChange Rows.clintDeskSpec) false w args) (Rows.clintDeskSpec.post enc Tryd.prog Tryd.f4 false true false false) := by
  refine returnsInHanded_of_change_and (C := Tryd.checked) (X := fun w _ => laidMet Tryd.prog theLaid w) (fun _ _ _ hh h => h.of_heap hh) own18 started (by kernel_rfl) Tryd.func4
    (ChangeSpec.witness_at (enc := enc) (C := Tryd.checked) (os := os) (X := fun w _ => laidMet Tryd.prog theLaid w) false (laidWorld os) #[.slice none 0 0] 8 rfl (by kernel_rfl) (by kernel_rfl) (by kernel_rfl) (by kernel_rfl) (by kernel_rfl)
      (laid_met_of (clintDesk_row os) (clintDesk_var os) (clintDesk_reads os))) ?_
  intro W base args ds gs before hval0 hW hcnd _ hL _
  have hval : ∀ (j : Nat) t v, Tryd.f4.params[j]? = some t → args[j]? = some v → Value.okWide Tryd.prog W .any base t v := hval0
  have hW' := hW
  obtain ⟨p, q, hA0, hV, rfl, hfz, hnd⟩ := hW
  have hT : Tab W := tab_of_laid hL
  have hA : DataW.TrodAll enc Tryd.prog W 0 (fun _ => true) true Tryd.f4.params.toList args.toList ds p := hA0
  rw [Tryd.params4] at hA hval
  obtain ⟨v0, vs0, d0, ds0, p0, q0, hargs, rfl, rfl, h0, r0⟩ := trodAll_cons hA
  obtain ⟨rfl, rfl, rfl⟩ := trodAll_nil r0
  obtain rfl : args = #[v0] := by cases args; simp_all
  obtain ⟨rfl, rfl⟩ := trodVars_none hV
  have k0 := h0
  have lt0 : ∀ x ∈ p0, x.block < W.heap.size := by obtain ⟨m, hm⟩ := k0; exact DataW.trod_lt m _ _ _ hm
  obtain ⟨n0, f0, y0⟩ := open_acts (hval 0 22 v0 rfl rfl) h0
  clear hA0 hval0
  refine (desk_calls v0 n0 f0 W hT y0).mono fun e W' ⟨he, bel⟩ => ?_
  subst he
  exact ⟨_, rfl, _, _, _, [], _, [], hW', trodAll_mk1 (shut_bool Tryd.underlying4 _), (trodAll_cons_mk (Below.trod laidOut18 (by kernel_rfl) (of_decide_eq_true (by kernel_rfl)) k0 bel lt0) trodAll_mk0), rfl, bel.frame _, fun h => by cases h⟩

theorem clintDesk_bare : Rows.ClintDeskSaid :=
  OpenClaim.holds_of_wide 4 Tryd.f4 rfl rfl rfl rfl rfl rfl rfl ⟨rfl, rfl, rfl, rfl, rfl⟩ rfl rfl rfl rfl rfl (by kernel_rfl) Tryd.func4 (by kernel_rfl)
    (of_decide_eq_true (by kernel_rfl)) (by unfold Func.isWrapper; first | (rw [if_pos (by decide +kernel)]; kernel_rfl) | (rw [if_neg (by decide +kernel)]; exact ⟨rfl, rfl⟩))
    (fun os started H enc _ => clintDesk_lifted os started H enc)
theorem clintDesk_holds : Rows.ClintDeskCardSaid :=
  Claim7.holds_tied_plain_at .later [] [.data] true (true, "afee94d03a6d5320f4772f27148789217248fddc979a361666759960bce1d9bd") false
    clintDesk_bare (fun _ h => by cases h) (by kernel_rfl) (fun _ h => by cases h) clintDesk_row_tie rfl ⟨rfl, rfl⟩ (by kernel_rfl) rfl
    (fun f fn hf hfn => by
      obtain rfl : f = 4 := Option.some.inj ((show Tryd.prog.funcNamed "dioptra/dioptralaw18.ClintDesk" = some 4 by kernel_rfl).symm.trans hf) |>.symm
      obtain rfl : fn = Tryd.f4 := (Option.some.inj (Tryd.func4.symm.trans hfn)).symm
      exact ⟨by kernel_rfl, fun j t ht => by
        rw [Tryd.params4] at ht
        match j, ht with
        | 0, ht => obtain rfl : 22 = t := Option.some.inj ht; exact (show Tryd.prog.wantsStandIn 22 = false by kernel_rfl)
        | j + 1, ht => simp at ht⟩)
    (by kernel_rfl)
#print axioms clintDesk_holds
end Go.Proofs.YtogepklmmehbjaaDoor
