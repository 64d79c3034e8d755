/-
  WholeFlash, part 26 of 44: Stor, Rowst.
-/
import Derived.Test.YtlcbilknfjdceaaGreatDoorM24
import Derived.Test.YtlcbilknfjdceaaGreatDoorM25
import Derived.Test.YtlcbilknfjdceaaGreatDoorM11
section
/-
  A store whole: its blocks, and what holds between two calls.
-/
set_option linter.unusedVariables false
set_option linter.unusedSimpArgs false
namespace Go.Proofs.YtlcbilknfjdceaaGreatDoor
open Go.RowKit Go.Lib
structure Sv where
  s : Nat
  g : Nat
  mp : Nat
  rt : Nat
  cap : Nat
  ck : Nat
  ck2 : Nat
  sp : List Value
  es : Array MapEntry
  bs : List Rb
  seq : Int
  D : Dv
abbrev Sv.dv (S : Sv) : Value := .pointer (some ⟨S.D.d, 0, none⟩)
abbrev svO (S : Sv) : Obj := sO S.dv S.g S.cap (.map (some S.mp)) (.map (some S.rt)) S.seq
abbrev svR (S : Sv) : Blocks := [(S.s, svO S), (S.g, rowO S.bs S.sp), (S.mp, .map S.es S.ck), (S.rt, .map #[] S.ck2)]
abbrev svK (S : Sv) : Blocks := drK S.D ++ svR S
/-- What holds between two calls, but where the sectors are; M bounds how often a block was erased, and the number. -/
structure Sv.Ok (S : Sv) (M : Int) : Prop where
  rest : S.D.Rest
  bs : Rests S.bs
  words : S.D.C.ws = encW S.bs
  keys : KeysE S.es
  q0 : 1 ≤ S.seq
  q1 : S.seq ≤ M
  seqs : ∀ x, In S.bs x → x.p.seq < S.seq
  counts : ∀ b ∈ S.bs, b.count ≤ M
  wear : ∀ b, b < 5 → 0 ≤ S.D.C.wear.getD b 0 ∧ S.D.C.wear.getD b 0 ≤ M
  endure : S.D.C.endure ≤ 100000
/-- Each block has a head. -/
def Heads1 (bs : List Rb) : Prop := ∀ b ∈ bs, b.head = 1
/-- All that holds. -/
def Sv.Full (S : Sv) (M : Int) : Prop := S.Ok M ∧ (∃ L, Latest S.bs L ∧ PlacesE S.es L) ∧ Heads1 S.bs
/-- What a call may do. -/
structure Sv.Le (S S' : Sv) : Prop where
  s : S'.s = S.s
  d : S'.D.d = S.D.d
  a : S'.D.a = S.D.a
  c : LeC S.D.C.ws S.D.C.wear S'.D.C.ws S'.D.C.wear
  e : S'.D.C.endure = S.D.C.endure
theorem Sv.Le.refl (S : Sv) : S.Le S := ⟨rfl, rfl, rfl, LeC.refl _ _, rfl⟩
theorem Sv.Le.trans {S T U : Sv} (h : S.Le T) (h' : T.Le U) : S.Le U := ⟨h'.s.trans h.s, h'.d.trans h.d, h'.a.trans h.a, h.c.trans h'.c, h'.e.trans h.e⟩
theorem Rests.rb8 {bs : List Rb} (h : Rests bs) : ∀ b ∈ bs, Rb8 b := fun b hb => ⟨(h.2 b hb).k8, (h.2 b hb).p8⟩
theorem KW.store {B : Nat} {W w : World} {K : Blocks} {S : Sv} (h : KW B W (svK S ++ K) w) : KW B W (svR S ++ (drK S.D ++ K)) w := by
  have := KW.mv (drK S.D) (svR S) K (by simpa [List.append_assoc] using h)
  exact this
theorem KW.whole {B : Nat} {W w : World} {K : Blocks} {S : Sv} (h : KW B W (svR S ++ (drK S.D ++ K)) w) : KW B W (svK S ++ K) w := by
  have := KW.mv (svR S) (drK S.D) K h
  simpa [List.append_assoc] using this
theorem KW.drive {B : Nat} {W w : World} {K : Blocks} {S : Sv} (h : KW B W (svR S ++ (drK S.D ++ K)) w) : KW B W (drK S.D ++ (svR S ++ K)) w := KW.mv (svR S) (drK S.D) K h
theorem Sv.Ok.mono {S : Sv} {M M' : Int} (h : S.Ok M) (hm : M ≤ M') : S.Ok M' := ⟨h.rest, h.bs, h.words, h.keys, h.q0, Int.le_trans h.q1 hm, h.seqs, fun b hb => Int.le_trans (h.counts b hb) hm, fun b hb => ⟨(h.wear b hb).1, Int.le_trans (h.wear b hb).2 hm⟩, h.endure⟩
theorem Sv.Full.mono {S : Sv} {M M' : Int} (h : S.Full M) (hm : M ≤ M') : S.Full M' := ⟨h.1.mono hm, h.2⟩
theorem chg_at (c : Int) (l : List Int) (i : Nat) : ∀ n j, i + n ≤ l.length → (chg (fun _ => c) l i n).getD j 0 = if i ≤ j ∧ j < i + n then c else l.getD j 0
  | 0, j, h => by rw [if_neg (by omega)]; rfl
  | n + 1, j, h => by
    show ((chg (fun _ => c) l i n).set (i + n) c).getD j 0 = _
    rw [getD_set, chg_len, chg_at c l i n j (by omega)]
    by_cases e : i + n = j
    · rw [if_pos ⟨e, by omega⟩, if_pos (by omega)]
    · rw [if_neg (fun hh => e hh.1)]
      by_cases e2 : i ≤ j ∧ j < i + n
      · rw [if_pos e2, if_pos (by omega)]
      · rw [if_neg e2, if_neg (by omega)]
theorem LeC.erase (ws wear : List Int) {b : Nat} (hb : b < 5) (hw : wear.length = 5) (hl : ws.length = 320) : LeC ws wear (chg (fun _ => 4294967295) ws (b * 64) 64) (wear.set b (wear.getD b 0 + 1)) :=
  ⟨fun i => by
    rw [getD_set]
    split
    · rename_i h
      rw [← h.1]
      omega
    · exact Int.le_refl _, fun i e => by
    rw [getD_set] at e
    rw [chg_at _ _ _ _ _ (by omega)]
    by_cases h : b * 64 ≤ i ∧ i < b * 64 + 64
    · have : b = i / 64 := by omega
      rw [if_pos ⟨this, by omega⟩, ← this] at e
      omega
    · rw [if_neg h]
      exact LeW.refl _⟩
/-- The first page that may be written, by the kinds alone. -/
def nx (f : Nat → Int) : Nat → Int
  | 0 => 0
  | n + 1 => if f n ≠ 0 then (if n + 1 = 8 then -1 else (n : Int) + 1) else nx f n
theorem find_nx (f : Nat → Int) : ∀ n, (match ((List.range n).reverse.map fun i => (i, f i)).find? (fun x => decide (x.2 ≠ 0)) with | none => (0 : Int) | some x => if x.1 + 1 = 8 then -1 else (x.1 : Int) + 1) = nx f n
  | 0 => rfl
  | n + 1 => by
    rw [List.range_succ, List.reverse_append, List.reverse_singleton, List.singleton_append, List.map_cons]
    by_cases h : f n = 0
    · rw [List.find?_cons_of_neg (by simpa using h), nx, if_neg (by simpa using h)]
      exact find_nx f n
    · rw [List.find?_cons_of_pos (by simpa using h), nx, if_pos h]
theorem nextB_eq (b : Rb) : nextB b = if b.head ≠ 1 then -1 else nx (fun i => b.kinds.getD i 0) 8 := by
  unfold nextB
  rw [← find_nx]
  rfl
theorem nx_free {f : Nat → Int} {k : Nat} : ∀ n, n ≤ 8 → nx f n = (k : Int) → ∀ j, k ≤ j → j < n → f j = 0
  | 0, _, _, j, _, h => by omega
  | n + 1, hn, h, j, hk, hj => by
    unfold nx at h
    by_cases e : f n = 0
    · rw [if_neg (by simpa using e)] at h
      by_cases ej : j = n
      · rw [ej]; exact e
      · exact nx_free n (by omega) h j hk (by omega)
    · rw [if_pos e] at h
      split at h <;> omega
theorem nx_put {f : Nat → Int} {k : Nat} (h : f k ≠ 0) : ∀ n, k < n → (∀ j, k < j → j < n → f j = 0) → nx f n = if k + 1 = 8 then -1 else (k : Int) + 1
  | 0, hk, _ => by omega
  | n + 1, hk, hf => by
    unfold nx
    by_cases e : k = n
    · rw [← e, if_pos h]
    · rw [if_neg (by have := hf n (by omega) (by omega); simpa using this)]
      exact nx_put h n (by omega) fun j h1 h2 => hf j h1 (by omega)
theorem next_free {b : Rb} {k : Nat} (h : nextB b = (k : Int)) : b.head = 1 ∧ ∀ j, k ≤ j → j < 8 → b.kinds.getD j 0 = 0 := by
  rw [nextB_eq] at h
  by_cases e : b.head = 1
  · rw [if_neg (by simpa using e)] at h
    exact ⟨e, fun j h1 h2 => nx_free 8 (Nat.le_refl _) h j h1 h2⟩
  · rw [if_pos e] at h
    omega
theorem next_put {b : Rb} {k : Nat} (h : nextB b = (k : Int)) (hk : k < 8) (h8 : b.kinds.length = 8) (p : Pg) : nextB (putB b k p) = if k + 1 = 8 then -1 else (k : Int) + 1 := by
  obtain ⟨h1, h2⟩ := next_free h
  rw [nextB_eq, if_neg (by show ¬ (b.head ≠ 1); simpa using h1)]
  have e : ∀ j, (putB b k p).kinds.getD j 0 = if k = j ∧ j < 8 then 1 else b.kinds.getD j 0 := fun j => by
    show (b.kinds.set k 1).getD j 0 = _
    rw [getD_setG, h8]
  refine nx_put ?_ 8 hk ?_
  · show (putB b k p).kinds.getD k 0 ≠ 0
    rw [e, if_pos ⟨rfl, hk⟩]
    decide
  · intro j h3 h4
    show (putB b k p).kinds.getD j 0 = 0
    rw [e, if_neg (by omega)]
    exact h2 j (by omega) h4
theorem Heads1.put {bs : List Rb} (h : Heads1 bs) {t k : Nat} (hk : nextB (bs.getD t default) = (k : Int)) (p : Pg) : Heads1 (bs.set t (putB (bs.getD t default) k p)) := fun b hb => by
  rcases List.mem_or_eq_of_mem_set hb with hb | rfl
  · exact h b hb
  · exact (next_free hk).1
theorem Heads1.renew {bs : List Rb} (h : Heads1 bs) (t : Nat) (c : Int) : Heads1 (bs.set t (freshB c)) := fun b hb => by
  rcases List.mem_or_eq_of_mem_set hb with hb | rfl
  · exact h b hb
  · rfl
abbrev Sv.put (S : Sv) (t k : Nat) (p : Pg) (D' : Dv) (es' : Array MapEntry) (ck' : Nat) : Sv := { S with D := D', es := es', ck := ck', bs := S.bs.set t (putB (S.bs.getD t default) k p) }
theorem Sv.Ok.put {S : Sv} {M : Int} (h : S.Ok M) {t k : Nat} (ht : t < 5) (hk : nextB (S.bs.getD t default) = (k : Int)) (hk8 : k < 8) {p : Pg} (hp : p.Right) (hq : p.seq < S.seq) {D' : Dv} (hr : D'.Rest) (hC : D'.C = { S.D.C with ws := progs S.D.C.ws (64 * t + 4 + 7 * k) (pgW p) }) {es' : Array MapEntry} (hke : KeysE es') (ck' : Nat) : (S.put t k p D' es' ck').Ok M := by
  obtain ⟨h1, h2⟩ := next_free hk
  have h0 := h2 k (Nat.le_refl _) hk8
  refine ⟨hr, h.bs.set t (putB_rest (h.bs.at ht) h1 hk8 hp), ?_, hke, h.q0, h.q1, fun x hx => ?_, fun b hb => ?_, fun b hb => ?_, ?_⟩
  · show D'.C.ws = _
    rw [hC, ← put_words h.bs ht hk8 h1 h0 hp, ← h.words]
  · rcases (in_put h.bs ht hk8 h0 x).1 hx with rfl | hx
    · exact hq
    · exact h.seqs x hx
  · rcases List.mem_or_eq_of_mem_set hb with hb | rfl
    · exact h.counts b hb
    · have hl : t < S.bs.length := by rw [h.bs.1]; exact ht
      show (S.bs.getD t default).count ≤ M
      refine h.counts _ ?_
      rw [List.getD_eq_getElem?_getD, List.getElem?_eq_getElem hl]
      exact List.getElem_mem hl
  · show 0 ≤ D'.C.wear.getD b 0 ∧ D'.C.wear.getD b 0 ≤ M
    rw [hC]
    exact h.wear b hb
  · show D'.C.endure ≤ _
    rw [hC]
    exact h.endure
theorem Sv.Le.put {S : Sv} {t k : Nat} {p : Pg} {D' : Dv} (hd : D'.d = S.D.d) (ha : D'.a = S.D.a) (hC : D'.C = { S.D.C with ws := progs S.D.C.ws (64 * t + 4 + 7 * k) (pgW p) }) (es' : Array MapEntry) (ck' : Nat) : S.Le (S.put t k p D' es' ck') :=
  ⟨rfl, hd, ha, by
    show LeC _ _ D'.C.ws D'.C.wear
    rw [hC]
    exact progs_le _ _ _ _, by
    show D'.C.endure = _
    rw [hC]⟩
attribute [local irreducible] chg progs
/-- The chip behind a block's renewal. -/
abbrev renewC (C : Ch) (t : Nat) (c : Int) : Ch := { C with ws := progs (chg (fun _ => 4294967295) (progs C.ws (64 * t + 3) [0]) (t * 64) 64) (64 * t) (hdW c), wear := C.wear.set t (C.wear.getD t 0 + 1) }
theorem renew_le {C : Ch} (ho : C.Ok) {t : Nat} (ht : t < 5) (c : Int) : LeC C.ws C.wear (renewC C t c).ws (renewC C t c).wear :=
  (progs_le [0] C.wear C.ws (64 * t + 3)).trans ((LeC.erase _ C.wear ht ho.hr (by rw [progs_len]; exact ho.hw)).trans (progs_le _ _ _ _))
abbrev Sv.renew (S : Sv) (t : Nat) (c : Int) (D' : Dv) : Sv := { S with D := D', bs := S.bs.set t (freshB c) }
theorem in_fresh {bs : List Rb} {t : Nat} {c : Int} {x : Pc} (h : In (bs.set t (freshB c)) x) : In bs x := by
  unfold In at *
  rw [List.length_set] at h
  by_cases e : t = x.b
  · rw [getD_setG, if_pos ⟨e, h.1⟩, (fresh_k x.k h.2.1).1] at h
    exact absurd h.2.2.1 (by decide)
  · rw [getD_setG, if_neg (fun hh => e hh.1)] at h
    exact h
theorem Sv.Ok.renew {S : Sv} {M : Int} (h : S.Ok M) {t : Nat} (ht : t < 5) {c : Int} (h0 : 0 ≤ c) (h1 : c ≤ M + 1) (hM : M < 2147483648) {D' : Dv} (hr : D'.Rest) (hC : D'.C = renewC S.D.C t c) : (S.renew t c D').Ok (M + 1) := by
  have hl : (progs S.D.C.ws (64 * t + 3) [0]).length = 320 := by rw [progs_len]; exact h.rest.ok.hw
  refine ⟨hr, h.bs.set t (fresh_rest h0 (by omega)), ?_, h.keys, h.q0, by have := h.q1; show S.seq ≤ _; omega, fun x hx => h.seqs x (in_fresh hx), fun b hb => ?_, fun b hb => ?_, ?_⟩
  · show D'.C.ws = _
    rw [hC]
    refine renew_words h.bs ht h0 (by omega) (by rw [chg_len]; exact hl) fun j => ?_
    rw [chg_at _ _ _ _ _ (by omega), Nat.mul_comm t 64]
    by_cases e : 64 * t ≤ j ∧ j < 64 * t + 64
    · rw [if_pos e, if_pos e]
    · rw [if_neg e, if_neg e]
      rw [progs_at _ _ _ _ (by have := h.rest.ok.hw; simp; omega), ← h.words]
      rw [if_neg (by simp; omega)]
  · rcases List.mem_or_eq_of_mem_set hb with hb | rfl
    · have := h.counts b hb; omega
    · exact h1
  · show 0 ≤ D'.C.wear.getD b 0 ∧ D'.C.wear.getD b 0 ≤ M + 1
    rw [hC]
    show 0 ≤ (S.D.C.wear.set t (S.D.C.wear.getD t 0 + 1)).getD b 0 ∧ _ ≤ M + 1
    have hb' := h.wear b hb
    have ht' := h.wear t ht
    rw [getD_set]
    split <;> omega
  · show D'.C.endure ≤ _
    rw [hC]
    exact h.endure
theorem Sv.Le.renew {S : Sv} {t : Nat} {c : Int} {D' : Dv} (ho : S.D.C.Ok) (ht : t < 5) (hd : D'.d = S.D.d) (ha : D'.a = S.D.a) (hC : D'.C = renewC S.D.C t c) : S.Le (S.renew t c D') :=
  ⟨rfl, hd, ha, by
    show LeC _ _ D'.C.ws D'.C.wear
    rw [hC]
    exact renew_le ho ht c, by
    show D'.C.endure = _
    rw [hC]⟩
end Go.Proofs.YtlcbilknfjdceaaGreatDoor
end
section
/-
  Blocks in a row: one changed, wholly or in part.
-/
set_option linter.unusedVariables false
set_option linter.unusedSimpArgs false
namespace Go.Proofs.YtlcbilknfjdceaaGreatDoor
open Go.RowKit Go.Lib
theorem mid_part {α : Type} (P M R vs : List α) (o : Nat) (h : o + vs.length ≤ M.length) : (P ++ (M ++ R)).take (P.length + o) ++ vs ++ (P ++ (M ++ R)).drop (P.length + o + vs.length) = P ++ ((M.take o ++ vs ++ M.drop (o + vs.length)) ++ R) := by
  have e1 : (P ++ (M ++ R)).take (P.length + o) = P ++ M.take o := by
    rw [List.take_append, List.take_of_length_le (by omega), show P.length + o - P.length = o by omega, List.take_append, show o - M.length = 0 by omega, List.take_zero, List.append_nil]
  have e2 : (P ++ (M ++ R)).drop (P.length + o + vs.length) = M.drop (o + vs.length) ++ R := by
    rw [List.drop_append, List.drop_of_length_le (by omega), List.nil_append, show P.length + o + vs.length - P.length = o + vs.length by omega, List.drop_append, show o + vs.length - M.length = 0 by omega, List.drop_zero]
  rw [e1, e2]
  simp [List.append_assoc]
theorem mid_set {α : Type} (P M R : List α) (j : Nat) (v : α) (h : j < M.length) : (P ++ (M ++ R)).set (P.length + j) v = P ++ (M.set j v ++ R) := by
  rw [List.set_append_right _ _ (by omega), show P.length + j - P.length = j by omega, List.set_append_left _ _ h]
theorem rowV_app (a b : List Rb) : rowV (a ++ b) = rowV a ++ rowV b := by unfold rowV; simp
theorem rowV_len {bs : List Rb} (h : ∀ b ∈ bs, Rb8 b) : (rowV bs).length = bs.length * 66 := by
  unfold rowV
  rw [flat_len' (n := 66), List.length_map, Nat.mul_comm]
  intro x hx
  obtain ⟨b, hb, rfl⟩ := List.mem_map.1 hx
  rw [Array.length_toList]
  exact rbV_size (h b hb)
theorem rowV_split {bs : List Rb} {t : Nat} (ht : t < bs.length) (b : Rb) : rowV (bs.set t b) = rowV (bs.take t) ++ ((rbV b).toList ++ rowV (bs.drop (t + 1))) := by
  have e : bs.set t b = bs.take t ++ b :: bs.drop (t + 1) := by
    apply List.ext_getElem?
    intro i
    rw [List.getElem?_set, List.getElem?_append, List.length_take, Nat.min_eq_left (by omega)]
    by_cases h1 : i < t
    · rw [if_neg (by omega), if_pos h1, List.getElem?_take, if_pos h1]
    · rw [if_neg h1]
      by_cases h2 : t = i
      · subst h2
        rw [if_pos rfl, if_pos ht, Nat.sub_self]
        rfl
      · rw [if_neg h2, show i - t = (i - t - 1) + 1 by omega, List.getElem?_cons_succ, List.getElem?_drop]
        congr 1
        omega
  rw [e, rowV_app]
  rfl
theorem set_self {bs : List Rb} {t : Nat} : bs.set t (bs.getD t default) = bs := by
  apply List.ext_getElem?
  intro i
  rw [List.getElem?_set]
  by_cases e : t = i
  · subst e
    rw [if_pos rfl]
    split
    · rename_i h
      rw [List.getD_eq_getElem?_getD, List.getElem?_eq_getElem h]
      rfl
    · rename_i h
      rw [List.getElem?_eq_none (by omega)]
  · rw [if_neg e]
theorem take_len {bs : List Rb} (h : ∀ b ∈ bs, Rb8 b) {t : Nat} (ht : t < bs.length) : (rowV (bs.take t)).length = t * 66 := by
  rw [rowV_len fun b hb => h b (List.mem_of_mem_take hb), List.length_take, Nat.min_eq_left (by omega)]
theorem getD_rb8 {bs : List Rb} (h : ∀ b ∈ bs, Rb8 b) {t : Nat} (ht : t < bs.length) : Rb8 (bs.getD t default) := by
  rw [List.getD_eq_getElem?_getD, List.getElem?_eq_getElem ht]
  exact h _ (List.getElem_mem ht)
theorem row_one {bs : List Rb} (h : ∀ b ∈ bs, Rb8 b) {t : Nat} (ht : t < bs.length) {j : Nat} (hj : j < 66) {v : Value} {b' : Rb} (hb : (rbV (bs.getD t default)).setIfInBounds j v = rbV b') (sp : List Value) :
    ((rowV bs ++ sp).toArray).setIfInBounds (t * 66 + j) v = (rowV (bs.set t b') ++ sp).toArray := by
  have e0 : rowV bs = rowV (bs.take t) ++ ((rbV (bs.getD t default)).toList ++ rowV (bs.drop (t + 1))) := by rw [← rowV_split ht, set_self]
  rw [rowV_split ht b', e0]
  rw [List.setIfInBounds_toArray, ← take_len h ht, List.append_assoc, List.append_assoc, mid_set _ _ _ _ _ (by rw [Array.length_toList, rbV_size (getD_rb8 h ht)]; exact hj), ← hb, Array.toList_setIfInBounds, List.append_assoc, List.append_assoc]
theorem row_part {bs : List Rb} (h : ∀ b ∈ bs, Rb8 b) {t : Nat} (ht : t < bs.length) {o : Nat} {vs : Array Value} (ho : o + vs.size ≤ 66) {b' : Rb} (hb : (rbV (bs.getD t default)).toList.take o ++ vs.toList ++ (rbV (bs.getD t default)).toList.drop (o + vs.size) = (rbV b').toList) (sp : List Value) :
    ((rowV bs ++ sp).toArray.toList.take (t * 66 + o) ++ vs.toList ++ (rowV bs ++ sp).toArray.toList.drop (t * 66 + o + vs.size)).toArray = (rowV (bs.set t b') ++ sp).toArray := by
  have e0 : rowV bs = rowV (bs.take t) ++ ((rbV (bs.getD t default)).toList ++ rowV (bs.drop (t + 1))) := by rw [← rowV_split ht, set_self]
  have h1 := mid_part (rowV (bs.take t)) (rbV (bs.getD t default)).toList (rowV (bs.drop (t + 1)) ++ sp) vs.toList o (by rw [Array.length_toList, Array.length_toList, rbV_size (getD_rb8 h ht)]; exact ho)
  rw [take_len h ht, Array.length_toList] at h1
  rw [rowV_split ht b', ← hb]
  have e1 : rowV bs ++ sp = rowV (bs.take t) ++ ((rbV (bs.getD t default)).toList ++ (rowV (bs.drop (t + 1)) ++ sp)) := by rw [e0]; simp [List.append_assoc]
  rw [List.toList_toArray, e1, h1]
  simp [List.append_assoc]
theorem row_whole {bs : List Rb} (h : ∀ b ∈ bs, Rb8 b) {t : Nat} (ht : t < bs.length) {b' : Rb} (h' : Rb8 b') (sp : List Value) :
    ((rowV bs ++ sp).toArray.toList.take (t * 66) ++ (rbV b').toList ++ (rowV bs ++ sp).toArray.toList.drop (t * 66 + (rbV b').size)).toArray = (rowV (bs.set t b') ++ sp).toArray := by
  have := row_part h ht (o := 0) (vs := rbV b') (by rw [rbV_size h']; decide) (b' := b') (by rw [List.take_zero, List.nil_append, List.drop_of_length_le (by rw [Array.length_toList, rbV_size (getD_rb8 h ht), rbV_size h']; decide), List.append_nil]) sp
  rw [Nat.add_zero] at this
  exact this
theorem flat_part {α : Type} {n : Nat} : ∀ (l : List (List α)), (∀ x ∈ l, x.length = n) → ∀ (k : Nat) (x : List α), k < l.length → x.length = n → l.flatten.take (n * k) ++ x ++ l.flatten.drop (n * k + n) = (l.set k x).flatten
  | [], _, k, x, hk, _ => by cases hk
  | y :: l, h, 0, x, hk, hx => by
    have hy := h y List.mem_cons_self
    rw [Nat.mul_zero, List.take_zero, List.nil_append, Nat.zero_add, List.set_cons_zero, List.flatten_cons, List.flatten_cons, List.drop_append, List.drop_of_length_le (by omega), List.nil_append, hy, Nat.sub_self, List.drop_zero]
  | y :: l, h, k + 1, x, hk, hx => by
    have hy := h y List.mem_cons_self
    have ih := flat_part l (fun z hz => h z (List.mem_cons_of_mem _ hz)) k x (by simpa using hk) hx
    have e1 : n * (k + 1) = y.length + n * k := by rw [hy, Nat.mul_succ]; omega
    rw [List.set_cons_succ, List.flatten_cons, List.flatten_cons, ← ih, e1, List.take_append, List.take_of_length_le (by omega), show y.length + n * k - y.length = n * k by omega, List.drop_append, List.drop_of_length_le (by omega), List.nil_append, show y.length + n * k + n - y.length = n * k + n by omega]
    simp [List.append_assoc]
theorem rbV_part {b : Rb} (h : Rb8 b) {k : Nat} (hk : k < 8) (p : Pg) : (rbV b).toList.take (10 + 7 * k) ++ (pgV p).toList ++ (rbV b).toList.drop (10 + 7 * k + (pgV p).size) = (rbV { b with pages := b.pages.set k p }).toList := by
  have e : ∀ c : Rb, c.kinds.length = 8 → (rbV c).toList = ([.int .i64 c.head, .int .u32 c.count] ++ (ints .i64 c.kinds).toList) ++ ((c.pages.map fun p => (pgV p).toList).flatten ++ []) := fun c _ => by unfold rbV; simp
  have hl : ([Value.int .i64 b.head, .int .u32 b.count] ++ (ints .i64 b.kinds).toList).length = 10 := by simp [ints, h.k8]
  have h7 : ∀ p : Pg, (pgV p).toList.length = 7 := fun p => rfl
  have hf := flat_len' (n := 7) (l := b.pages.map fun p => (pgV p).toList) (by intro x hx; obtain ⟨q, _, rfl⟩ := List.mem_map.1 hx; exact h7 q)
  rw [List.length_map, h.p8] at hf
  have h1 := mid_part ([Value.int .i64 b.head, .int .u32 b.count] ++ (ints .i64 b.kinds).toList) (b.pages.map fun p => (pgV p).toList).flatten [] (pgV p).toList (7 * k) (by rw [hf, h7]; omega)
  rw [hl, h7] at h1
  rw [e b h.k8, e { b with pages := b.pages.set k p } h.k8]
  show _ ++ _ ++ List.drop (10 + 7 * k + 7) _ = _
  rw [h1, flat_part (n := 7) _ (by intro x hx; obtain ⟨q, _, rfl⟩ := List.mem_map.1 hx; exact h7 q) k _ (by rw [List.length_map, h.p8]; exact hk) (h7 p), ← List.map_set]
end Go.Proofs.YtlcbilknfjdceaaGreatDoor
end
