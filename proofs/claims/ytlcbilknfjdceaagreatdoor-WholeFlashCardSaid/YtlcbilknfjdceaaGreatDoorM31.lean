/-
  WholeFlash, part 31 of 44: Lawh.
-/
import Derived.Test.YtlcbilknfjdceaaGreatDoorM18
section
/-
  The reference: a place put among others, in plain Lean.
-/
set_option linter.unusedVariables false
set_option linter.unusedSimpArgs false
namespace Go.Proofs.YtlcbilknfjdceaaGreatDoor
open Go
/-- One place more is looked at. -/
def stepP (x : Pc) (r : List Pc × Bool) (y : Pc) : List Pc × Bool :=
  let o := if r.2 = false ∧ x.p.sec ≤ y.p.sec then r.1 ++ [x] else r.1
  (if y.p.sec ≠ x.p.sec then o ++ [y] else o, r.2 || decide (x.p.sec ≤ y.p.sec))
def putI (t : List Pc) (x : Pc) : Nat → List Pc × Bool
  | 0 => ([], false)
  | i + 1 => stepP x (putI t x i) (t.getD i default)
def putL (t : List Pc) (x : Pc) : List Pc := if (putI t x t.length).2 then (putI t x t.length).1 else (putI t x t.length).1 ++ [x]
theorem putI_len (t : List Pc) (x : Pc) : ∀ i, (putI t x i).1.length ≤ i + (if (putI t x i).2 then 1 else 0)
  | 0 => Nat.zero_le _
  | i + 1 => by
    have ih := putI_len t x i
    rw [putI]
    generalize putI t x i = r at ih
    obtain ⟨o, d⟩ := r
    generalize t.getD i default = y
    unfold stepP
    simp only at ih ⊢
    cases d
    · by_cases h : x.p.sec ≤ y.p.sec
      · simp only [h, and_self, if_true, decide_true, Bool.or_true, Bool.false_eq_true, if_false, Nat.add_zero] at ih ⊢
        split <;> simp only [List.length_append, List.length_singleton] <;> omega
      · simp only [h, and_false, if_false, decide_false, Bool.or_false, Bool.false_eq_true, Nat.add_zero] at ih ⊢
        split <;> (try simp only [List.length_append, List.length_singleton]) <;> omega
    · simp only [Bool.true_or, if_true, Bool.true_eq_false, false_and, if_false] at ih ⊢
      split <;> (try simp only [List.length_append, List.length_singleton]) <;> omega
theorem putL_len (t : List Pc) (x : Pc) : (putL t x).length ≤ t.length + 1 := by
  have h := putI_len t x t.length
  unfold putL
  split
  · rename_i hd
    rw [if_pos hd] at h
    exact h
  · rename_i hd
    rw [if_neg hd] at h
    rw [List.length_append, List.length_singleton]
    omega
theorem putI_fnd (t : List Pc) (x : Pc) : ∀ i, i ≤ t.length → ((putI t x i).2 = false → fnd (putI t x i).1 x.p.sec = none ∧ ∀ s, s ≠ x.p.sec → fnd (putI t x i).1 s = fnd (t.take i) s) ∧
    ((putI t x i).2 = true → fnd (putI t x i).1 x.p.sec = some x ∧ ∀ s, s ≠ x.p.sec → fnd (putI t x i).1 s = fnd (t.take i) s)
  | 0, _ => ⟨fun _ => ⟨rfl, fun s _ => rfl⟩, fun h => by cases h⟩
  | i + 1, hi => by
    have ih := putI_fnd t x i (by omega)
    have ht : t.take (i + 1) = t.take i ++ [t.getD i default] := by
      rw [List.take_succ_eq_append_getElem (by omega), List.getD_eq_getElem?_getD, List.getElem?_eq_getElem (by omega)]
      rfl
    rw [putI, ht]
    generalize putI t x i = r at ih
    obtain ⟨o, d⟩ := r
    generalize t.getD i default = y
    generalize t.take i = tt at ih
    simp only at ih
    have hy : ∀ (l : List Pc) (s : Int), fnd (l ++ [y]) s = (fnd l s).or (if y.p.sec = s then some y else none) := fun l s => fnd_snoc l y s
    have hx : ∀ (l : List Pc) (s : Int), fnd (l ++ [x]) s = (fnd l s).or (if x.p.sec = s then some x else none) := fun l s => fnd_snoc l x s
    unfold stepP
    simp only
    cases d
    · obtain ⟨h1, h2⟩ := ih.1 rfl
      by_cases h : x.p.sec ≤ y.p.sec
      · simp only [h, and_self, if_true, decide_true, Bool.or_true]
        refine ⟨fun hh => (by cases hh), fun _ => ?_⟩
        by_cases he : y.p.sec = x.p.sec
        · rw [if_neg (by simpa using he)]
          refine ⟨by rw [hx, h1, if_pos rfl]; rfl, fun s hs => ?_⟩
          rw [hx, hy, h2 s hs, if_neg (fun e => hs e.symm), if_neg (by rw [he]; exact fun e => hs e.symm)]
        · rw [if_pos he]
          refine ⟨by rw [hy, hx, h1, if_pos rfl]; rfl, fun s hs => ?_⟩
          rw [hy, hx, hy, h2 s hs, if_neg (fun e => hs e.symm), Option.or_none]
      · simp only [h, and_false, if_false, decide_false, Bool.or_false]
        have he : y.p.sec ≠ x.p.sec := by omega
        rw [if_pos he]
        refine ⟨fun _ => ⟨by rw [hy, h1, if_neg he]; rfl, fun s hs => by rw [hy, hy, h2 s hs]⟩, fun hh => by cases hh⟩
    · obtain ⟨h1, h2⟩ := ih.2 rfl
      simp only [Bool.true_or, Bool.true_eq_false, false_and, if_false]
      refine ⟨fun hh => (by cases hh), fun _ => ?_⟩
      by_cases he : y.p.sec = x.p.sec
      · rw [if_neg (by simpa using he)]
        refine ⟨h1, fun s hs => ?_⟩
        rw [hy, h2 s hs, if_neg (by rw [he]; exact fun e => hs e.symm), Option.or_none]
      · rw [if_pos he]
        refine ⟨by rw [hy, h1]; rfl, fun s hs => by rw [hy, hy, h2 s hs]⟩
theorem putL_fnd (t : List Pc) (x : Pc) (s : Int) : fnd (putL t x) s = if s = x.p.sec then some x else fnd t s := by
  have h := putI_fnd t x t.length (Nat.le_refl _)
  rw [List.take_length] at h
  unfold putL
  split
  · rename_i hd
    obtain ⟨h1, h2⟩ := h.2 hd
    split
    · rename_i e; rw [e]; exact h1
    · rename_i e; exact h2 s e
  · rename_i hd
    obtain ⟨h1, h2⟩ := h.1 (by simpa using hd)
    rw [fnd_snoc]
    by_cases e : s = x.p.sec
    · rw [if_pos e, e, h1, if_pos rfl]
      rfl
    · rw [if_neg e, h2 s e, if_neg (fun hh => e hh.symm), Option.or_none]
end Go.Proofs.YtlcbilknfjdceaaGreatDoor
end
