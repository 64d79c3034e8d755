/-
  The desk and the reference's desk, side by side: what each method tells and leaves.
-/
import Derived.Test.YtogepklmmehbjaaDoorRefd
set_option linter.unusedVariables false
set_option linter.unusedSimpArgs false
namespace Go.Proofs.YtogepklmmehbjaaDoor
open Go.RowKit Go.Lib

theorem up_num {A E S : Nat} (h : In3 A E S) : ((dW (nD A E S) != 0) = false ∧ dNum (nD A E S) = 0) ∨ ∃ n : Nat, (dW (nD A E S) != 0) = true ∧ dNum (nD A E S) = n ∧ ((n : Int) > 0) = True := by
  by_cases hw : wN A E S = 0
  · refine .inl ⟨?_, num_zero h.a h.e h.s hw⟩
    rw [dW_nD A E S h.a h.e h.s, hw]; rfl
  · refine .inr ⟨_, ?_, rfl, ?_⟩
    · rw [dW_nD A E S h.a h.e h.s]; simp; exact hw
    · have := (num_bits h hw).1
      exact eq_true (by omega)
def gS (A E S : Nat) (off : Int) : Nat := if off = 8 then gN A E S else S
theorem In3.getS {A E S : Nat} (h : In3 A E S) (off : Int) : In3 A E (gS A E S off) := by
  unfold gS
  split
  · exact h.get
  · exact h
theorem dGetS_off {A E S : Nat} (h : In3 A E S) (off : Int) : dGetS (nD A E S) off = nD A E (gS A E S off) := by
  by_cases h8 : off = 8
  · subst h8
    rw [dGetS_nD h]; rfl
  · unfold dGetS gS
    rw [if_neg h8, if_neg h8]
theorem rdget_c (A E S S' : Nat) (off x : Int) (t : Bool) (h : In3 A E S) (hx : dGet (nD A E S) off = x) (ht : (!dBad off) = t) (hS : gS A E S off = S') (w : World) :
    Calls Tryd.prog 21 #[.agg (rdR A E S), .int .u32 off] w fun r w' => r = .returned (.tuple #[.agg (rdR A E S'), .int .u32 x, .bool t]) ∧ Below w.heap.size w w' := by
  subst hx ht hS
  cases hb : dBad off with
  | true =>
    obtain ⟨h0, h4, h8⟩ := dBad_true hb
    refine (rdget_bad A E S off h0 h4 h8 w).mono fun r w' ⟨e1, e2⟩ => ⟨?_, e2⟩
    rw [e1]
    simp [dGet, gS, h0, h4, h8]
  | false =>
    rcases dBad_false hb with rfl | rfl | rfl
    · exact (rdget_0 A E S w).mono fun r w' ⟨e1, e2⟩ => ⟨by rw [e1]; rfl, e2⟩
    · exact (rdget_4 A E S w).mono fun r w' ⟨e1, e2⟩ => ⟨by rw [e1]; rfl, e2⟩
    · by_cases hw : wN A E S = 0
      · refine (rdget_8_none A E S h hw w).mono fun r w' ⟨e1, e2⟩ => ⟨?_, e2⟩
        rw [e1]
        have e : dGet (nD A E S) 8 = 0 := by
          show ((dNum (nD A E S) : Nat) : Int) = 0
          rw [num_zero h.a h.e h.s hw]; rfl
        have e' : gS A E S 8 = S := by unfold gS gN; rw [if_pos rfl, if_pos hw]
        rw [e, e']; rfl
      · obtain ⟨n1, n2, n3⟩ := num_bits h hw
        refine (rdget_8_some A E S _ _ h rfl n1 n2 rfl w).mono fun r w' ⟨e1, e2⟩ => ⟨?_, e2⟩
        rw [e1]
        have e : dGet (nD A E S) 8 = ((dNum (nD A E S) : Nat) : Int) := rfl
        have e' : gS A E S 8 = sV S (dNum (nD A E S)) 1 := by unfold gS gN; rw [if_pos rfl, if_neg hw]
        rw [e, e']; rfl
def tE (E : Nat) (off v : Int) : Nat := if off = 4 then (v - v % 2).toNat else E
def tS (S : Nat) (off v : Int) : Nat := if off = 8 then (if v = 0 ∨ 32 ≤ v then S else sV S v.toNat 0) else S
theorem In3.set {A E S : Nat} (h : In3 A E S) (off v : Int) (hv : 0 ≤ v ∧ v < 4294967296) : In3 A (tE E off v) (tS S off v) := by
  have he : tE E off v < 4294967296 ∧ tE E off v % 2 = 0 := by
    unfold tE
    split
    · omega
    · exact ⟨h.e, h.e2⟩
  have hs : tS S off v < 4294967296 ∧ tS S off v % 2 = 0 := by
    unfold tS
    split
    · split
      · exact ⟨h.s, h.s2⟩
      · exact ⟨sV_lt S _ 0 h.s (by omega) (.inl rfl), sV_even S _ 0 (by omega) h.s2⟩
    · exact ⟨h.s, h.s2⟩
  exact ⟨h.a, he.1, hs.1, h.a2, he.2, hs.2⟩
theorem sV_low (S : Nat) (h : S % 2 = 0) : sV S 0 0 = S := by unfold sV bV; simp; omega
theorem dSet_off {A E S : Nat} (h : In3 A E S) (off v : Int) (hv : 0 ≤ v ∧ v < 4294967296) : dSet (nD A E S) off v = nD A (tE E off v) (tS S off v) := by
  by_cases h4 : off = 4
  · subst h4
    show (⟨(A : Int), bits .andNot .u32 v 1, (S : Int)⟩ : Dk) = _
    rw [even_of v hv]; rfl
  · by_cases h8 : off = 8
    · subst h8
      unfold dSet tE tS
      rw [if_neg h4, if_pos rfl, if_neg h4, if_pos rfl]
      by_cases h32 : v < 32
      · rw [if_pos h32]
        show (⟨(A : Int), (E : Int), bits .andNot .u32 (S : Int) ((2 : Int) ^ v.toNat % 4294967296)⟩ : Dk) = _
        rw [andNot_new S _ h.s (by omega)]
        by_cases h0 : v = 0
        · subst h0
          rw [if_pos (.inl rfl), show (0 : Int).toNat = 0 from rfl, sV_low S h.s2]; rfl
        · rw [if_neg (by omega)]; rfl
      · rw [if_neg h32, if_pos (by omega)]
    · unfold dSet tE tS
      rw [if_neg h4, if_neg h8, if_neg h4, if_neg h8]
theorem rdset_c (A E S E' S' : Nat) (off v : Int) (t : Bool) (h : In3 A E S) (hv : 0 ≤ v ∧ v < 4294967296) (ht : (!dBad off) = t) (hE : tE E off v = E') (hS : tS S off v = S') (w : World) :
    Calls Tryd.prog 22 #[.agg (rdR A E S), .int .u32 off, .int .u32 v] w fun r w' => r = .returned (.tuple #[.agg (rdR A E' S'), .bool t]) ∧ Below w.heap.size w w' := by
  subst ht hE hS
  cases hb : dBad off with
  | true =>
    obtain ⟨h0, h4, h8⟩ := dBad_true hb
    refine (rdset_bad A E S off v h0 h4 h8 w).mono fun r w' ⟨e1, e2⟩ => ⟨?_, e2⟩
    rw [e1]
    unfold tE tS
    rw [if_neg h4, if_neg h8]; rfl
  | false =>
    rcases dBad_false hb with rfl | rfl | rfl
    · exact (rdset_0 A E S v w).mono fun r w' ⟨e1, e2⟩ => ⟨by rw [e1]; rfl, e2⟩
    · refine (rdset_4 A E S (v - v % 2).toNat v hv (by omega) w).mono fun r w' ⟨e1, e2⟩ => ⟨?_, e2⟩
      rw [e1]; rfl
    · by_cases hout : v = 0 ∨ 32 ≤ v
      · refine (rdset_8_out A E S v hout w).mono fun r w' ⟨e1, e2⟩ => ⟨?_, e2⟩
        rw [e1]
        have e' : tS S 8 v = S := by unfold tS; rw [if_pos rfl, if_pos hout]
        rw [e']; rfl
      · have ev : ((v.toNat : Nat) : Int) = v := by omega
        have hc := rdset_8 A E S v.toNat _ h.s (by omega) (by omega) rfl w
        rw [ev] at hc
        refine hc.mono fun r w' ⟨e1, e2⟩ => ⟨?_, e2⟩
        rw [e1]
        have e' : tS S 8 v = sV S v.toNat 0 := by unfold tS; rw [if_pos rfl, if_neg hout]
        rw [e']; rfl
def kA (v : Int) : Nat := (v - v % 2).toNat
theorem In3.ask {A E S : Nat} (h : In3 A E S) (v : Int) (hv : 0 ≤ v ∧ v < 4294967296) : In3 (kA v) E S := by
  unfold kA
  exact ⟨by omega, h.e, h.s, by omega, h.e2, h.s2⟩
theorem dAsk_nD (A E S : Nat) (v : Int) (hv : 0 ≤ v ∧ v < 4294967296) : dAsk (nD A E S) v = nD (kA v) E S := by
  show (⟨bits .andNot .u32 v 1, (E : Int), (S : Int)⟩ : Dk) = _
  rw [even_of v hv]; rfl
end Go.Proofs.YtogepklmmehbjaaDoor
