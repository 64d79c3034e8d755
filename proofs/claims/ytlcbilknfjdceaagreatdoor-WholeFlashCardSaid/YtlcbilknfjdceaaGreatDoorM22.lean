/-
  WholeFlash, part 22 of 44: Lawg.
-/
import Derived.Test.YtlcbilknfjdceaaGreatDoorM18
section
/-
  The first place of each sector of a sorted list.
-/
set_option linter.unusedVariables false
set_option linter.unusedSimpArgs false
namespace Go.Proofs.YtlcbilknfjdceaaGreatDoor
open Go
def newAt (l : List Pc) (m : Nat) : Bool := m == 0 || !((l.getD (m - 1) default).p.sec == (l.getD m default).p.sec)
def hdsTo (l : List Pc) : Nat → List Pc
  | 0 => []
  | m + 1 => hdsTo l m ++ (if newAt l m then [l.getD m default] else [])
theorem mem_hdsTo {l : List Pc} {x : Pc} : ∀ m, x ∈ hdsTo l m ↔ ∃ i, i < m ∧ newAt l i = true ∧ x = l.getD i default := by
  intro m
  induction m with
  | zero => simp [hdsTo]
  | succ m ih =>
    rw [hdsTo, List.mem_append, ih]
    constructor
    · rintro (⟨i, hi, h⟩ | h)
      · exact ⟨i, by omega, h⟩
      · split at h
        · rename_i hn
          exact ⟨m, by omega, hn, by simpa using h⟩
        · cases h
    · rintro ⟨i, hi, hn, hx⟩
      by_cases e : i = m
      · subst e
        right
        rw [if_pos hn]
        simp [hx]
      · exact .inl ⟨i, by omega, hn, hx⟩
theorem heads_hdsTo (l : List Pc) : Heads l (hdsTo l l.length) := by
  intro x
  rw [mem_hdsTo]
  constructor
  · rintro ⟨i, hi, hn, rfl⟩
    refine ⟨i, by rw [List.getD_eq_getElem?_getD, List.getElem?_eq_getElem hi]; rfl, ?_⟩
    unfold newAt at hn
    rcases Nat.eq_zero_or_pos i with h0 | h0
    · exact .inl h0
    · right
      have h1 : i - 1 < l.length := by omega
      refine ⟨l.getD (i - 1) default, by rw [List.getD_eq_getElem?_getD, List.getElem?_eq_getElem h1]; rfl, ?_⟩
      have : (i == 0) = false := by simp; omega
      rw [this] at hn
      simpa using hn
  · rintro ⟨i, hx, h⟩
    have hi : i < l.length := (List.getElem?_eq_some_iff.1 hx).1
    have ex : x = l.getD i default := by rw [List.getD_eq_getElem?_getD, hx]; rfl
    refine ⟨i, hi, ?_, ex⟩
    unfold newAt
    rcases h with rfl | ⟨y, hy, hne⟩
    · rfl
    · have ey : y = l.getD (i - 1) default := by rw [List.getD_eq_getElem?_getD, hy]; rfl
      rw [← ex, ← ey]
      simp [hne]
theorem hdsTo_new {l : List Pc} {m : Nat} (h : newAt l m = true) : hdsTo l (m + 1) = hdsTo l m ++ [l.getD m default] := by rw [hdsTo, if_pos h]
theorem hdsTo_old {l : List Pc} {m : Nat} (h : newAt l m = false) : hdsTo l (m + 1) = hdsTo l m := by rw [hdsTo, h]; simp
theorem hdsTo_len (l : List Pc) : ∀ m, (hdsTo l m).length ≤ m := by
  intro m
  induction m with
  | zero => simp [hdsTo]
  | succ m ih =>
    rw [hdsTo, List.length_append]
    split <;> simp <;> omega
theorem hdsTo_len_mono (l : List Pc) {m n : Nat} (h : m ≤ n) : (hdsTo l n).length ≤ (hdsTo l m).length + (n - m) := by
  induction n with
  | zero => have : m = 0 := by omega
            subst this; simp
  | succ n ih =>
    by_cases e : m = n + 1
    · subst e; simp
    · have := ih (by omega)
      rw [hdsTo, List.length_append]
      split <;> simp <;> omega
theorem take_new {l : List Pc} {k : Nat} (hk : k < l.length) (h : newAt l k = true) (hd : hdsTo l k = l.take k) : hdsTo l (k + 1) = l.take (k + 1) := by
  rw [hdsTo_new h, hd, List.take_succ_eq_append_getElem hk, List.getD_eq_getElem?_getD, List.getElem?_eq_getElem hk]
  rfl
theorem newAt_of {l : List Pc} {k : Nat} {x y : Pc} (h1 : 1 ≤ k) (hx : l[k]? = some x) (hy : l[k - 1]? = some y) : newAt l k = !(x.p.sec == y.p.sec) := by
  unfold newAt
  have e0 : (k == 0) = false := by simp; omega
  rw [e0, List.getD_eq_getElem?_getD, List.getD_eq_getElem?_getD, hx, hy]
  simp only [Option.getD_some, Bool.false_or]
  rw [Bool.beq_comm]
theorem set_take {r : List Pc} {k : Nat} {x : Pc} (hk : k < r.length) {t : List Pc} (h : r.take k = t) : (r.set k x).take (k + 1) = t ++ [x] := by
  rw [List.take_succ_eq_append_getElem (by simpa using hk), List.take_set_of_le (Nat.le_refl _), h, List.getElem_set_self]
end Go.Proofs.YtlcbilknfjdceaaGreatDoor
end
