/-
  ClintOnce holds: all who ask, and are enabled, are served, from the lowest one up, each once. The table of trailing zeros is as the program's text lays it.
-/
import Derived.Test.YtogepklmmehbjaaDoorOnce
import Derived.Test.YtogepklmmehbjaaDoorOpen
import Derived.Test.YtogepklmmehbjaaDoorTie
import Derived.Test.YtogepklmmehbjaaDoorCards
import Derived.SevenTiedAt
namespace Go.Proofs.YtogepklmmehbjaaDoor
open Go.ChangeShapes Go.WideShapes Go.ChangeAt Go.RowKit

theorem clintOnce_row (os : Os) : ((laidWorld os).forCall (fun _ _ => 0) ⟨#[], #[.int .u32 0, .int .u32 0], []⟩).memory.heap[0]? = some (.cells cells32 72 (0, 0)) := by kernel_rfl
theorem clintOnce_var (os : Os) : ((laidWorld os).forCall (fun _ _ => 0) ⟨#[], #[.int .u32 0, .int .u32 0], []⟩).memory.var? Tryd.prog "math/bits.deBruijn32tab" = some cells32 := by kernel_rfl
theorem clintOnce_reads (os : Os) : DataW.trod (fun _ => ()) Tryd.prog ((laidWorld os).forCall (fun _ _ => 0) ⟨#[], #[.int .u32 0, .int .u32 0], []⟩).memory 0 (fun _ => true) false 8 72 cells32.toList = some (Rows.laid_math_bits_deBruijn32tab, []) := by kernel_rfl
set_option maxRecDepth 100000 in
theorem clintOnce_lifted (os : Os) (started : os.Started) (H : Type) (enc : TypeId × Value → H) :
    ReturnsInHanded {} Tryd.checked os 5 .any (fun w args => (Rows.clintOnceSpec.pre enc Tryd.prog Tryd.f5 [] false w args ∧ laidMet Tryd.prog theLaid w) ∧ sizedMet enc Tryd.prog Tryd.f5 (OpenSpec.ofChange Rows.clintOnceSpec) false w args) (Rows.clintOnceSpec.post enc Tryd.prog Tryd.f5 false true false false) := by
  refine returnsInHanded_of_change_and (C := Tryd.checked) (X := fun w _ => laidMet Tryd.prog theLaid w) (fun _ _ _ hh h => h.of_heap hh) own18 started (by kernel_rfl) Tryd.func5
    (ChangeSpec.witness_at (enc := enc) (C := Tryd.checked) (os := os) (X := fun w _ => laidMet Tryd.prog theLaid w) false (laidWorld os) #[.int .u32 0, .int .u32 0] 8 rfl (by kernel_rfl) (by kernel_rfl) (by kernel_rfl) (by kernel_rfl) (by kernel_rfl)
      (laid_met_of (clintOnce_row os) (clintOnce_var os) (clintOnce_reads os))) ?_
  intro W base args ds gs before hval0 hW hcnd _ hL _
  have hval : ∀ (j : Nat) t v, Tryd.f5.params[j]? = some t → args[j]? = some v → Value.okWide Tryd.prog W .any base t v := hval0
  have hW' := hW
  obtain ⟨p, q, hA0, hV, rfl, hfz, hnd⟩ := hW
  have hT : Tab W := tab_of_laid hL
  have hA : DataW.TrodAll enc Tryd.prog W 0 (fun _ => true) true Tryd.f5.params.toList args.toList ds p := hA0
  rw [Tryd.params5] at hA hval
  obtain ⟨v0, vs0, d0, ds0, p0, q0, hargs, rfl, rfl, h0, r0⟩ := trodAll_cons hA
  obtain ⟨v1, vs1, d1, ds1, p1, q1, rfl, rfl, rfl, h1, r1⟩ := trodAll_cons r0
  obtain ⟨rfl, rfl, rfl⟩ := trodAll_nil r1
  obtain rfl : args = #[v0, v1] := by cases args; simp_all
  obtain ⟨rfl, rfl⟩ := trodVars_none hV
  have k0 := h0
  have lt0 : ∀ x ∈ p0, x.block < W.heap.size := by obtain ⟨m, hm⟩ := k0; exact DataW.trod_lt m _ _ _ hm
  obtain ⟨n0, rfl, rfl, rfl, w0⟩ := open_int Tryd.underlying27 (hval 0 27 v0 rfl rfl) h0
  have b0 : 0 ≤ n0 ∧ n0 < 4294967296 := by have := bounds_u32 w0; omega
  have k1 := h1
  have lt1 : ∀ x ∈ p1, x.block < W.heap.size := by obtain ⟨m, hm⟩ := k1; exact DataW.trod_lt m _ _ _ hm
  obtain ⟨n1, rfl, rfl, rfl, w1⟩ := open_int Tryd.underlying27 (hval 1 27 v1 rfl rfl) h1
  have b1 : 0 ≤ n1 ∧ n1 < 4294967296 := by have := bounds_u32 w1; omega
  clear hA0 hval0
  refine (once_calls n0 n1 W hT b0 b1).mono fun e W' ⟨he, bel⟩ => ?_
  subst he
  exact ⟨_, rfl, _, _, _, [], _, [], hW', trodAll_mk1 (shut_bool Tryd.underlying4 _), (trodAll_cons_mk (Below.trod laidOut18 (by kernel_rfl) (of_decide_eq_true (by kernel_rfl)) k0 bel lt0) (trodAll_cons_mk (Below.trod laidOut18 (by kernel_rfl) (of_decide_eq_true (by kernel_rfl)) k1 bel lt1) trodAll_mk0)), rfl, bel.frame _, fun h => by cases h⟩

theorem clintOnce_bare : Rows.ClintOnceSaid :=
  OpenClaim.holds_of_wide 5 Tryd.f5 rfl rfl rfl rfl rfl rfl rfl ⟨rfl, rfl, rfl, rfl, rfl⟩ rfl rfl rfl rfl rfl (by kernel_rfl) Tryd.func5 (by kernel_rfl)
    (of_decide_eq_true (by kernel_rfl)) (by unfold Func.isWrapper; first | (rw [if_pos (by decide +kernel)]; kernel_rfl) | (rw [if_neg (by decide +kernel)]; exact ⟨rfl, rfl⟩))
    (fun os started H enc _ => clintOnce_lifted os started H enc)
theorem clintOnce_holds : Rows.ClintOnceCardSaid :=
  Claim7.holds_tied_plain_at .later [] [.data] true (true, "afee94d03a6d5320f4772f27148789217248fddc979a361666759960bce1d9bd") false
    clintOnce_bare (fun _ h => by cases h) (by kernel_rfl) (fun _ h => by cases h) clintOnce_row_tie rfl ⟨rfl, rfl⟩ (by kernel_rfl) rfl
    (fun f fn hf hfn => by
      obtain rfl : f = 5 := Option.some.inj ((show Tryd.prog.funcNamed "dioptra/dioptralaw18.ClintOnce" = some 5 by kernel_rfl).symm.trans hf) |>.symm
      obtain rfl : fn = Tryd.f5 := (Option.some.inj (Tryd.func5.symm.trans hfn)).symm
      exact ⟨by kernel_rfl, fun j t ht => by
        rw [Tryd.params5] at ht
        match j, ht with
        | 0, ht => obtain rfl : 27 = t := Option.some.inj ht; exact (show Tryd.prog.wantsStandIn 27 = false by kernel_rfl)
        | 1, ht => obtain rfl : 27 = t := Option.some.inj ht; exact (show Tryd.prog.wantsStandIn 27 = false by kernel_rfl)
        | j + 2, ht => simp at ht⟩)
    (by kernel_rfl)
#print axioms clintOnce_holds
end Go.Proofs.YtogepklmmehbjaaDoor
