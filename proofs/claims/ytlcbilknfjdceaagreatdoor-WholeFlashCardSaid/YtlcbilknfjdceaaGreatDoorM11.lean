/-
  WholeFlash, part 11 of 44: Lawc.
-/
import Derived.Test.YtlcbilknfjdceaaGreatDoorM08
section
/-
  What a page that is put, and a block that is renewed, make of the words.
-/
set_option linter.unusedVariables false
set_option linter.unusedSimpArgs false
namespace Go.Proofs.YtlcbilknfjdceaaGreatDoor
open Go
theorem pgW_wf {p : Pg} (h : p.Right) (j : Nat) (hj : j < 7) : 0 ≤ (pgW p).getD j 0 ∧ (pgW p).getD j 0 < 4294967296 := by
  have := h.s0; have := h.s1; have := h.q0; have := h.q1; have := h.a0; have := h.a1; have := h.a2; have := h.a3
  unfold pgW
  match j, hj with
  | 0, _ => simp only [List.getD_cons_zero]; split <;> omega
  | 1, _ => simp only [List.getD_cons_zero, List.getD_cons_succ]; omega
  | 2, _ => simp only [List.getD_cons_zero, List.getD_cons_succ]; omega
  | 3, _ => simp only [List.getD_cons_zero, List.getD_cons_succ]; omega
  | 4, _ => simp only [List.getD_cons_zero, List.getD_cons_succ]; omega
  | 5, _ => simp only [List.getD_cons_zero, List.getD_cons_succ]; omega
  | 6, _ => simp only [List.getD_cons_zero, List.getD_cons_succ]; omega
theorem hdW_wf {c : Int} (h0 : 0 ≤ c) (h1 : c ≤ 2147483648) (j : Nat) (hj : j < 4) : 0 ≤ (hdW c).getD j 0 ∧ (hdW c).getD j 0 < 4294967296 := by
  unfold hdW
  match j, hj with
  | 0, _ => simp only [List.getD_cons_zero, List.getD_cons_succ]; omega
  | 1, _ => simp only [List.getD_cons_zero, List.getD_cons_succ]; omega
  | 2, _ => simp only [List.getD_cons_zero, List.getD_cons_succ]; omega
  | 3, _ => simp only [List.getD_cons_zero, List.getD_cons_succ]; omega
def putB (b : Rb) (k : Nat) (p : Pg) : Rb := { b with kinds := b.kinds.set k 1, pages := b.pages.set k p }
def freshB (c : Int) : Rb := ⟨1, c, [0, 0, 0, 0, 0, 0, 0, 0], [Pg.z, Pg.z, Pg.z, Pg.z, Pg.z, Pg.z, Pg.z, Pg.z]⟩
def noneB : Rb := ⟨0, 0, [2, 2, 2, 2, 2, 2, 2, 2], [Pg.z, Pg.z, Pg.z, Pg.z, Pg.z, Pg.z, Pg.z, Pg.z]⟩
theorem getD_setG {α : Type} (l : List α) (i j : Nat) (x d : α) : (l.set i x).getD j d = if i = j ∧ j < l.length then x else l.getD j d := by
  rw [List.getD_eq_getElem?_getD, List.getD_eq_getElem?_getD, List.getElem?_set]
  by_cases e : i = j
  · subst e
    by_cases h : i < l.length
    · simp [h]
    · simp [h]
  · simp [e]
theorem putB_rest {b : Rb} (h : Rest b) (h1 : b.head = 1) {k : Nat} (hk : k < 8) {p : Pg} (hp : p.Right) : Rest (putB b k p) :=
  ⟨by show (b.kinds.set k 1).length = 8; rw [List.length_set]; exact h.k8, by show (b.pages.set k p).length = 8; rw [List.length_set]; exact h.p8, h.c0, h.c1, h.hd, fun j hj => by
    show ((b.kinds.set k 1).getD j 0 = 0 ∧ (b.pages.set k p).getD j Pg.z = Pg.z ∧ b.head = 1) ∨ ((b.kinds.set k 1).getD j 0 = 1 ∧ ((b.pages.set k p).getD j Pg.z).Right ∧ b.head = 1) ∨ ((b.kinds.set k 1).getD j 0 = 2 ∧ (b.pages.set k p).getD j Pg.z = Pg.z ∧ b.head = 0)
    rw [getD_setG, getD_setG]
    by_cases e : k = j
    · rw [if_pos ⟨e, by rw [h.k8]; exact hj⟩, if_pos ⟨e, by rw [h.p8]; exact hj⟩]
      exact .inr (.inl ⟨rfl, hp, h1⟩)
    · rw [if_neg (fun hh => e hh.1), if_neg (fun hh => e hh.1)]
      exact h.pg j hj⟩
theorem fresh_k {c : Int} (j : Nat) (hj : j < 8) : (freshB c).kinds.getD j 0 = 0 ∧ (freshB c).pages.getD j Pg.z = Pg.z := by
  match j, hj with
  | 0, _ => exact ⟨rfl, rfl⟩
  | 1, _ => exact ⟨rfl, rfl⟩
  | 2, _ => exact ⟨rfl, rfl⟩
  | 3, _ => exact ⟨rfl, rfl⟩
  | 4, _ => exact ⟨rfl, rfl⟩
  | 5, _ => exact ⟨rfl, rfl⟩
  | 6, _ => exact ⟨rfl, rfl⟩
  | 7, _ => exact ⟨rfl, rfl⟩
theorem none_k (j : Nat) (hj : j < 8) : noneB.kinds.getD j 0 = 2 ∧ noneB.pages.getD j Pg.z = Pg.z := by
  match j, hj with
  | 0, _ => exact ⟨rfl, rfl⟩
  | 1, _ => exact ⟨rfl, rfl⟩
  | 2, _ => exact ⟨rfl, rfl⟩
  | 3, _ => exact ⟨rfl, rfl⟩
  | 4, _ => exact ⟨rfl, rfl⟩
  | 5, _ => exact ⟨rfl, rfl⟩
  | 6, _ => exact ⟨rfl, rfl⟩
  | 7, _ => exact ⟨rfl, rfl⟩
theorem fresh_rest {c : Int} (h0 : 0 ≤ c) (h1 : c ≤ 2147483648) : Rest (freshB c) := ⟨rfl, rfl, h0, h1, .inl rfl, fun j hj => .inl ⟨(fresh_k j hj).1, (fresh_k j hj).2, rfl⟩⟩
theorem none_rest : Rest noneB := ⟨rfl, rfl, by decide, by decide, .inr rfl, fun j hj => .inr (.inr ⟨(none_k j hj).1, (none_k j hj).2, rfl⟩)⟩
theorem Rests.at {bs : List Rb} (h : Rests bs) {t : Nat} (ht : t < 5) : Rest (bs.getD t default) := by
  have hl : t < bs.length := by rw [h.1]; exact ht
  rw [List.getD_eq_getElem?_getD, List.getElem?_eq_getElem hl]
  exact h.2 _ (List.getElem_mem hl)
theorem Rests.set {bs : List Rb} (h : Rests bs) (t : Nat) {b : Rb} (hb : Rest b) : Rests (bs.set t b) :=
  ⟨by rw [List.length_set]; exact h.1, fun x hx => (List.mem_or_eq_of_mem_set hx).elim (h.2 x) fun e => e ▸ hb⟩
theorem put_words {bs : List Rb} (h : Rests bs) {t k : Nat} (ht : t < 5) (hk : k < 8) (h1 : (bs.getD t default).head = 1) (h0 : (bs.getD t default).kinds.getD k 0 = 0) {p : Pg} (hp : p.Right) :
    progs (encW bs) (64 * t + 4 + 7 * k) (pgW p) = encW (bs.set t (putB (bs.getD t default) k p)) := by
  have hl := encW_len h
  have hr := putB_rest (h.at ht) h1 hk hp
  have hs := h.set t hr
  apply words_ext (by rw [progs_len]; exact hl) (encW_len hs)
  intro n j hn hj
  rw [progs_at _ _ _ _ (by rw [hl, pgW_len]; omega), encW_at hs n j hn hj, encW_at h n j hn hj, pgW_len]
  by_cases e : t = n
  · subst e
    have eR : (bs.set t (putB (bs.getD t default) k p)).getD t default = putB (bs.getD t default) k p := by rw [getD_setG, if_pos ⟨rfl, by rw [h.1]; exact hn⟩]
    rw [eR]
    by_cases e4 : j < 4
    · rw [if_neg (by omega), encB_head h1 j e4, encB_head (b := putB _ _ _) h1 j e4]
      rfl
    · by_cases e60 : 60 ≤ j
      · rw [if_neg (by omega), encB_tail (h.at ht) j e60 hj, encB_tail hr j e60 hj]
      · obtain ⟨m, i, hm, hi, rfl⟩ : ∃ m i, m < 8 ∧ i < 7 ∧ j = 4 + (7 * m + i) := ⟨(j - 4) / 7, (j - 4) % 7, by omega, by omega, by omega⟩
        rw [encB_page (h.at ht) h1 m i hm hi, encB_page hr h1 m i hm hi]
        show _ = (encP (((bs.getD t default).kinds.set k 1).getD m 0) (((bs.getD t default).pages.set k p).getD m Pg.z)).getD i 0
        rw [getD_setG, getD_setG, (h.at ht).k8, (h.at ht).p8]
        by_cases ek : k = m
        · subst ek
          rw [if_pos (by omega), if_pos ⟨rfl, hm⟩, if_pos ⟨rfl, hm⟩, h0, show 64 * t + (4 + (7 * k + i)) - (64 * t + 4 + 7 * k) = i by omega]
          have e7 : (encP 0 ((bs.getD t default).pages.getD k Pg.z)).getD i 0 = 4294967295 := by
            unfold encP
            rw [if_neg (by decide), List.getD_eq_getElem?_getD, List.getElem?_replicate, if_pos hi]
            rfl
          rw [e7, ones_and _ (pgW_wf hp i hi).1 (pgW_wf hp i hi).2]
          rfl
        · rw [if_neg (by omega), if_neg (fun hh => ek hh.1), if_neg (fun hh => ek hh.1)]
  · rw [if_neg (by omega), getD_setG, if_neg (fun hh => e hh.1)]
theorem renew_words {bs : List Rb} (h : Rests bs) {t : Nat} (ht : t < 5) {c : Int} (h0 : 0 ≤ c) (h1 : c ≤ 2147483648) {ws : List Int} (hl : ws.length = 320)
    (he : ∀ j, ws.getD j 0 = if 64 * t ≤ j ∧ j < 64 * t + 64 then 4294967295 else (encW bs).getD j 0) : progs ws (64 * t) (hdW c) = encW (bs.set t (freshB c)) := by
  have hr := fresh_rest h0 h1
  have hs := h.set t hr
  have h4 : (hdW c).length = 4 := rfl
  apply words_ext (by rw [progs_len]; exact hl) (encW_len hs)
  intro n j hn hj
  rw [progs_at _ _ _ _ (by rw [hl, h4]; omega), he, encW_at hs n j hn hj, encW_at h n j hn hj, h4]
  by_cases e : t = n
  · subst e
    have eR : (bs.set t (freshB c)).getD t default = freshB c := by rw [getD_setG, if_pos ⟨rfl, by rw [h.1]; exact hn⟩]
    have eI : (if 64 * t ≤ 64 * t + j ∧ 64 * t + j < 64 * t + 64 then (4294967295 : Int) else (encB (bs.getD t default)).getD j 0) = 4294967295 := if_pos (by omega)
    rw [eR, eI]
    by_cases e4 : j < 4
    · rw [if_pos (by omega), encB_head rfl j e4, show 64 * t + j - 64 * t = j by omega, ones_and _ (hdW_wf h0 h1 j e4).1 (hdW_wf h0 h1 j e4).2]
      rfl
    · rw [if_neg (by omega)]
      by_cases e60 : 60 ≤ j
      · rw [encB_tail hr j e60 hj]
      · obtain ⟨m, i, hm, hi, rfl⟩ : ∃ m i, m < 8 ∧ i < 7 ∧ j = 4 + (7 * m + i) := ⟨(j - 4) / 7, (j - 4) % 7, by omega, by omega, by omega⟩
        rw [encB_page hr rfl m i hm hi, (fresh_k m hm).1]
        unfold encP
        rw [if_neg (by decide), List.getD_eq_getElem?_getD, List.getElem?_replicate, if_pos hi]
        rfl
  · have eI : (if 64 * t ≤ 64 * n + j ∧ 64 * n + j < 64 * t + 64 then (4294967295 : Int) else (encB (bs.getD n default)).getD j 0) = (encB (bs.getD n default)).getD j 0 := if_neg (by omega)
    rw [eI, if_neg (by omega), getD_setG, if_neg (fun hh => e hh.1)]
theorem none_words : encW [noneB, noneB, noneB, noneB, noneB] = List.replicate 320 4294967295 := by decide +kernel
end Go.Proofs.YtlcbilknfjdceaaGreatDoor
end
