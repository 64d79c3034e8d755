/-
  All who ask, and are enabled, are served, from the lowest one up, each once.
-/
import Derived.Test.YtogepklmmehbjaaDoorServe
import Derived.Deep.LoopGhost
set_option linter.unusedVariables false
set_option linter.unusedSimpArgs false
namespace Go.Proofs.YtogepklmmehbjaaDoor
open Go.RowKit Go.Lib

theorem bit_of (X j : Nat) (hX : X < 4294967296) : bits .and .u32 ((X : Int) / 2 ^ j) 1 = ((X / 2 ^ j % 2 : Nat) : Int) := by
  have e : (X : Int) / 2 ^ j = ((X / 2 ^ j : Nat) : Int) := by
    rw [Int.natCast_ediv, Int.natCast_pow]
    rfl
  have hle : X / 2 ^ j ≤ X := Nat.div_le_self _ _
  rw [e]
  generalize X / 2 ^ j = Z at *
  rw [and_1 _ (by omega)]
  omega

set_option maxRecDepth 100000 in
set_option maxHeartbeats 4000000 in
theorem once_raw (asks en a e : Int) (X : Nat) (w : World) (hT : Tab w) (hen : 0 ≤ en ∧ en < 4294967296) (ha : bits .andNot .u32 asks 1 = a) (he : bits .andNot .u32 en 1 = e) (hb : bits .andNot .u32 (bits .and .u32 asks en) 1 = (X : Int)) (hae : bits .and .u32 a e = (X : Int)) (hX : X < 4294967296) (hev : X % 2 = 0) :
    Calls Tryd.prog 5 #[.int .u32 asks, .int .u32 en] w fun r w' => r = .returned (.bool true) ∧ Below w.heap.size w w' := by
  have HT := _root_.Go.Lib.hid hT
  have HEN := _root_.Go.Lib.hid hen
  have HA := _root_.Go.Lib.hid ha
  have HE := _root_.Go.Lib.hid he
  have HB := _root_.Go.Lib.hid hb
  have HAE := _root_.Go.Lib.hid hae
  have HEV := _root_.Go.Lib.hid hev
  have tabOf : ∀ (K : Blocks) (w' : World), KW w.heap.size w K w' → Tab w' := fun _ _ h => HT.out.below h.bel HT.out.pos
  have TO := _root_.Go.Lib.hid tabOf
  clear hT hen ha he hae hev tabOf
  have s1 : sD a e X 1 = ⟨a, e, 0⟩ := by unfold sD; rw [show X % 2 ^ 1 = 0 by rw [Nat.pow_one]; exact HEV.out]; rfl
  have S1 := _root_.Go.Lib.hid s1
  have dw0 : dW ⟨a, e, 0⟩ = (X : Int) := by rw [← S1.out, dW_sD HAE.out hX 1, show X % 2 ^ 1 = 0 by rw [Nat.pow_one]; exact HEV.out]; simp
  have DW0 := _root_.Go.Lib.hid dw0
  clear s1 dw0
  go_enter Tryd.func5, Tryd.ntmps5
  go_wp2_with fail
  refine (alive_calls _ HT.out).mono ?_
  rintro r w1 ⟨rfl, h1⟩
  have H1 := _root_.Go.Lib.hid h1
  clear h1
  go_wp2_with fail
  refine (newd_k (KW.start H1.out H1.out.size)).mono ?_
  rintro r w2 ⟨rfl, h2⟩
  have H2 := _root_.Go.Lib.hid h2
  clear h2 H1
  go_wp2_with fail
  refine (ask_k H2.out asks ⟨a, 0, 0⟩ (by rw [← HA.out]; rfl)).mono ?_
  rintro r w3 ⟨rfl, h3⟩
  have H3 := _root_.Go.Lib.hid h3
  clear h3 H2
  go_wp2_with fail
  refine (dset_k H3.out 4 en true ⟨a, e, 0⟩ HEN.out (by kernel_rfl) (by rw [← HE.out]; rfl)).mono ?_
  rintro r w4 ⟨rfl, h4⟩
  have H4 := _root_.Go.Lib.hid h4
  clear h4 H3
  obtain ⟨ub, hub⟩ : ∃ t, ((X : Int) != 0) = t := ⟨_, rfl⟩
  have HUB := _root_.Go.Lib.hid hub
  go_wp2_with fail
  refine (up_k H4.out ub (by rw [DW0.out]; exact HUB.out)).mono ?_
  rintro r w5 ⟨rfl, rfl⟩
  have H5 := _root_.Go.Lib.hid (show KW w.heap.size w [(w1.heap.size, (sD a e X 1).o)] (w4.drewN 1) by rw [S1.out]; exact H4.out.drew)
  clear H4
  go_wp2_with fail
  go_loopg [7, 8] 31 (fun k la i wr => ∃ (j last : Nat), j + k = 32 ∧ 1 ≤ j ∧ la = .int .u32 (last : Int) ∧ i = .int .u32 (j : Int) ∧ ((last = 0 ∧ X % 2 ^ j = 0) ∨ (1 ≤ last ∧ last < 32 ∧ X / 2 ^ last % 2 = 1)) ∧ KW w.heap.size w [(w1.heap.size, (sD a e X j).o)] wr)
  case atStart => exact ⟨1, 0, by omega, by omega, rfl, rfl, .inl ⟨rfl, by rw [Nat.pow_one]; exact HEV.out⟩, H5.out⟩
  case round =>
    obtain ⟨j, last, hj, hj1, rfl, rfl, hl, hu⟩ := hrel
    have HU := _root_.Go.Lib.hid hu
    have HL := _root_.Go.Lib.hid hl
    clear hu hl H5
    by_cases hj32 : j < 32
    · have hlt : ((j : Int) < 32) = True := eq_true (by omega)
      have hbit := bit_of X j hX
      rcases Nat.mod_two_eq_zero_or_one (X / 2 ^ j) with h0 | h0
      · rw [h0] at hbit
        have H0 := _root_.Go.Lib.hid h0
        clear h0
        go_wp2_with fail
        go_roundg (32 - (j + 1))
        case measure => omega
        case rel => exact ⟨j + 1, last, by omega, by omega, rfl, by first | rfl | go_num, by
          rcases HL.out with ⟨h1, h2⟩ | h1
          · exact .inl ⟨h1, by rw [mod_next, h2, H0.out, Nat.mul_zero]⟩
          · exact .inr h1, by rw [serve_skip j H0.out]; exact HU.out⟩
      · rw [h0] at hbit
        obtain ⟨y1, y2⟩ := serve_yes HAE.out hX j hj32 h0
        have H0 := _root_.Go.Lib.hid h0
        have Y1 := _root_.Go.Lib.hid y1
        have Y2 := _root_.Go.Lib.hid y2
        clear h0 y1 y2
        go_wp2_with fail
        refine (dget_k HU.out (TO.out _ _ HU.out) 8 (j : Int) true _ Y1.out (by kernel_rfl) Y2.out).mono ?_
        rintro r w6 ⟨rfl, h6⟩
        have H6 := _root_.Go.Lib.hid h6
        clear h6 HU
        go_wp2_with fail
        go_roundg (32 - (j + 1))
        case measure => omega
        case rel => exact ⟨j + 1, j, by omega, by omega, rfl, by first | rfl | go_num, .inr ⟨hj1, hj32, H0.out⟩, H6.out⟩
    · obtain rfl : j = 32 := by omega
      have HD := _root_.Go.Lib.hid (serve_done (a := a) (e := e) HAE.out hX)
      go_wp2_with fail
      refine (dget_k HU.out (TO.out _ _ HU.out) 8 0 true (sD a e X 32) (done_get _ HD.out).1 (by kernel_rfl) (done_get _ HD.out).2).mono ?_
      rintro r w6 ⟨rfl, h6⟩
      have H6 := _root_.Go.Lib.hid h6
      clear h6 HU
      go_wp2_with fail
      refine (up_k H6.out false (by rw [HD.out]; rfl)).mono ?_
      rintro r w7 ⟨rfl, rfl⟩
      have H7 := _root_.Go.Lib.hid (show KW w.heap.size w [(w1.heap.size, (sD a e X 32).o)] (w6.drewN 1) from H6.out.drew)
      clear H6
      rcases Nat.eq_zero_or_pos last with l0 | l0
      · subst l0
        go_wp2_with fail
        go_ret
        exact ⟨rfl, H7.out.bel⟩
      · have hb2 : 1 ≤ last ∧ last < 32 ∧ X / 2 ^ last % 2 = 1 := by
          rcases HL.out with ⟨h1, _⟩ | h1
          · omega
          · exact h1
        obtain ⟨b1, b2, b3⟩ := hb2
        have B3 := _root_.Go.Lib.hid b3
        have lz : ((last : Int) == 0) = false := beq_false_of_ne (by omega)
        obtain ⟨f1, f2⟩ := free_get (a := a) (e := e) HAE.out hX last b2 b3
        have F1 := _root_.Go.Lib.hid f1
        have F2 := _root_.Go.Lib.hid f2
        clear b3 f1 f2
        go_wp2_with fail
        refine (dset_k H7.out 8 (last : Int) true _ (by omega) (by kernel_rfl) (free_set hX last b2 B3.out)).mono ?_
        rintro r w8 ⟨rfl, h8⟩
        have H8 := _root_.Go.Lib.hid h8
        clear h8 H7
        go_wp2_with fail
        refine (dget_k H8.out (TO.out _ _ H8.out) 8 (last : Int) true _ F1.out (by kernel_rfl) F2.out).mono ?_
        rintro r w9 ⟨rfl, h9⟩
        have H9 := _root_.Go.Lib.hid h9
        clear h9 H8
        go_wp2_with fail
        refine (dget_k H9.out (TO.out _ _ H9.out) 8 0 true (sD a e X 32) (done_get _ HD.out).1 (by kernel_rfl) (done_get _ HD.out).2).mono ?_
        rintro r w10 ⟨rfl, h10⟩
        have H10 := _root_.Go.Lib.hid h10
        clear h10 H9
        go_wp2_with fail
        refine (dset_k H10.out 8 (last : Int) true _ (by omega) (by kernel_rfl) (free_set hX last b2 B3.out)).mono ?_
        rintro r w11 ⟨rfl, h11⟩
        have H11 := _root_.Go.Lib.hid h11
        clear h11 H10
        go_wp2_with fail
        refine (ask_k H11.out 0 _ rfl).mono ?_
        rintro r w12 ⟨rfl, h12⟩
        have H12 := _root_.Go.Lib.hid h12
        have HN := _root_.Go.Lib.hid (show dW (dAsk (fD a e X last) 0) = 0 from ask_none _ _)
        clear h12 H11
        go_wp2_with fail
        refine (dget_k H12.out (TO.out _ _ H12.out) 8 0 true _ (done_get _ HN.out).1 (by kernel_rfl) (done_get _ HN.out).2).mono ?_
        rintro r w13 ⟨rfl, h13⟩
        have H13 := _root_.Go.Lib.hid h13
        clear h13 H12
        go_wp2_with fail
        go_ret
        exact ⟨rfl, H13.out.bel⟩
theorem once_calls (asks en : Int) (w : World) (hT : Tab w) (ha : 0 ≤ asks ∧ asks < 4294967296) (he : 0 ≤ en ∧ en < 4294967296) :
    Calls Tryd.prog 5 #[.int .u32 asks, .int .u32 en] w fun r w' => r = .returned (.bool true) ∧ Below w.heap.size w w' := by
  obtain ⟨X, h1, h2, h3, h4⟩ := both_of asks en ha he
  exact once_raw asks en _ _ X w hT he rfl rfl h3 h4 h1 h2
end Go.Proofs.YtogepklmmehbjaaDoor
