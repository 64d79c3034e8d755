/-
  WholeFlash, part 18 of 44: Lawd, Lawe, Lawf.
-/
import Derived.Test.YtlcbilknfjdceaaGreatDoorM11
section
/-
  The latest page of each sector, in plain Lean.
-/
set_option linter.unusedVariables false
set_option linter.unusedSimpArgs false
namespace Go.Proofs.YtlcbilknfjdceaaGreatDoor
open Go
structure Pc where
  b : Nat
  k : Nat
  p : Pg
instance : Inhabited Pc := ⟨⟨0, 0, Pg.z⟩⟩
/-- x is a page that counts. -/
def In (bs : List Rb) (x : Pc) : Prop := x.b < bs.length ∧ x.k < 8 ∧ (bs.getD x.b default).kinds.getD x.k 0 = 1 ∧ (bs.getD x.b default).pages.getD x.k Pg.z = x.p
/-- x stands ahead of y: the greater number, and then where they are. -/
def Ahead (x y : Pc) : Prop := y.p.seq < x.p.seq ∨ (x.p.seq = y.p.seq ∧ (x.b < y.b ∨ (x.b = y.b ∧ x.k ≤ y.k)))
theorem Ahead.anti {bs : List Rb} {x y : Pc} (hx : In bs x) (hy : In bs y) (h : Ahead x y) (h' : Ahead y x) : x = y := by
  obtain ⟨a, b, p⟩ := x
  obtain ⟨c, d, q⟩ := y
  unfold Ahead at h h'
  have e1 : a = c := by simp only at h h'; omega
  have e2 : b = d := by simp only at h h'; omega
  subst e1
  subst e2
  have := hx.2.2.2.symm.trans hy.2.2.2
  simp only at this
  rw [this]
theorem Ahead.total (x y : Pc) : Ahead x y ∨ Ahead y x := by unfold Ahead; omega
theorem Ahead.trans {x y z : Pc} (h : Ahead x y) (h' : Ahead y z) : Ahead x z := by unfold Ahead at *; omega
/-- x is the latest page of its sector. -/
structure Best (bs : List Rb) (x : Pc) : Prop where
  has : In bs x
  top : ∀ y, In bs y → y.p.sec = x.p.sec → Ahead x y
theorem Best.one {bs : List Rb} {x y : Pc} (hx : Best bs x) (hy : Best bs y) (h : x.p.sec = y.p.sec) : x = y :=
  Ahead.anti hx.has hy.has (hx.top y hy.has h.symm) (hy.top x hx.has h)
/-- L tells the latest page of each sector. -/
structure Latest (bs : List Rb) (L : Int → Option Pc) : Prop where
  yes : ∀ s x, L s = some x → Best bs x ∧ x.p.sec = s
  no : ∀ s, L s = none → ∀ x, In bs x → x.p.sec ≠ s
theorem Latest.same {bs : List Rb} {L L' : Int → Option Pc} (h : Latest bs L) (h' : Latest bs L') (s : Int) : L s = L' s := by
  cases e : L s with
  | none =>
    cases e' : L' s with
    | none => rfl
    | some x => exact absurd (h'.yes s x e').2 (h.no s e x (h'.yes s x e').1.has)
  | some x =>
    cases e' : L' s with
    | none => exact absurd (h.yes s x e).2 (h'.no s e' x (h.yes s x e).1.has)
    | some y => rw [(h.yes s x e).1.one (h'.yes s y e').1 ((h.yes s x e).2.trans (h'.yes s y e').2.symm)]
/-- A page that is put, of a greater number than all, is the latest one of its sector. -/
theorem in_put {bs : List Rb} (h : Rests bs) {t k : Nat} (ht : t < 5) (hk : k < 8) (h0 : (bs.getD t default).kinds.getD k 0 = 0) {p : Pg} (x : Pc) :
    In (bs.set t (putB (bs.getD t default) k p)) x ↔ x = ⟨t, k, p⟩ ∨ In bs x := by
  have hl := h.1
  have hr := h.at ht
  unfold In
  rw [List.length_set]
  by_cases e : t = x.b
  · have e1 : (bs.set t (putB (bs.getD t default) k p)).getD x.b default = putB (bs.getD t default) k p := by rw [getD_setG, if_pos ⟨e, by omega⟩]
    have e2 : (putB (bs.getD t default) k p).kinds.getD x.k 0 = if k = x.k ∧ x.k < 8 then 1 else (bs.getD x.b default).kinds.getD x.k 0 := by
      rw [← e, ← hr.k8]; exact getD_setG _ _ _ _ _
    have e3 : (putB (bs.getD t default) k p).pages.getD x.k Pg.z = if k = x.k ∧ x.k < 8 then p else (bs.getD x.b default).pages.getD x.k Pg.z := by
      rw [← e, ← hr.p8]; exact getD_setG _ _ _ _ _
    rw [e1, e2, e3]
    by_cases ek : k = x.k ∧ x.k < 8
    · rw [if_pos ek, if_pos ek]
      constructor
      · rintro ⟨_, _, _, hp⟩
        obtain ⟨a, b, q⟩ := x
        simp only at e ek hp
        rw [e, ek.1, hp]
        exact .inl rfl
      · rintro (rfl | ⟨_, _, h1, _⟩)
        · exact ⟨by show t < bs.length; omega, hk, rfl, rfl⟩
        · rw [← e, ← ek.1, h0] at h1
          exact absurd h1 (by decide)
    · rw [if_neg ek, if_neg ek]
      constructor
      · exact .inr
      · rintro (rfl | hh)
        · exact absurd ⟨rfl, hk⟩ ek
        · exact hh
  · have e1 : (bs.set t (putB (bs.getD t default) k p)).getD x.b default = bs.getD x.b default := by rw [getD_setG, if_neg (fun hh => e hh.1)]
    rw [e1]
    constructor
    · exact .inr
    · rintro (rfl | hh)
      · exact absurd rfl e
      · exact hh
theorem latest_put {bs : List Rb} (h : Rests bs) {t k : Nat} (ht : t < 5) (hk : k < 8) (h0 : (bs.getD t default).kinds.getD k 0 = 0) {p : Pg} {L : Int → Option Pc} (hL : Latest bs L)
    (hq : ∀ x, In bs x → x.p.seq < p.seq) : Latest (bs.set t (putB (bs.getD t default) k p)) (fun s => if s = p.sec then some ⟨t, k, p⟩ else L s) := by
  have hi := fun x => in_put h ht hk h0 (p := p) x
  constructor
  · intro s x hs
    by_cases e : s = p.sec
    · simp only [if_pos e, Option.some.injEq] at hs
      subst hs
      refine ⟨⟨(hi _).2 (.inl rfl), fun y hy _ => ?_⟩, e.symm⟩
      rcases (hi y).1 hy with rfl | hy
      · exact .inr ⟨rfl, .inr ⟨rfl, Nat.le_refl _⟩⟩
      · exact .inl (hq y hy)
    · simp only [if_neg e] at hs
      obtain ⟨hb, hx⟩ := hL.yes s x hs
      refine ⟨⟨(hi _).2 (.inr hb.has), fun y hy he => ?_⟩, hx⟩
      rcases (hi y).1 hy with rfl | hy
      · exact absurd (hx.symm.trans he.symm) e
      · exact hb.top y hy he
  · intro s hs x hx
    by_cases e : s = p.sec
    · simp only [if_pos e] at hs
      cases hs
    · simp only [if_neg e] at hs
      rcases (hi x).1 hx with rfl | hx
      · exact fun he => e he.symm
      · exact hL.no s hs x hx
end Go.Proofs.YtlcbilknfjdceaaGreatDoor
end
section
/-
  How the latest pages are found: by sorting, and one by one.
-/
set_option linter.unusedVariables false
set_option linter.unusedSimpArgs false
namespace Go.Proofs.YtlcbilknfjdceaaGreatDoor
open Go
/-- How two places stand, as a number. -/
def cmpI (x y : Int) : Int := if x < y then -1 else if y < x then 1 else 0
def cfP (x y : Pc) : Int :=
  if cmpI x.p.sec y.p.sec ≠ 0 then cmpI x.p.sec y.p.sec else if cmpI y.p.seq x.p.seq ≠ 0 then cmpI y.p.seq x.p.seq else if cmpI x.b y.b ≠ 0 then cmpI x.b y.b else cmpI x.k y.k
def LeP (x y : Pc) : Prop := x.p.sec < y.p.sec ∨ (x.p.sec = y.p.sec ∧ Ahead x y)
theorem cmpI_neg {x y : Int} : cmpI x y < 0 ↔ x < y := by unfold cmpI; split <;> (try split) <;> omega
theorem cmpI_ne {x y : Int} : cmpI x y ≠ 0 ↔ x ≠ y := by unfold cmpI; split <;> (try split) <;> omega
theorem cfP_neg {x y : Pc} : cfP x y < 0 ↔ ¬ LeP y x := by
  unfold cfP LeP Ahead
  by_cases h1 : x.p.sec = y.p.sec
  · rw [if_neg (by rw [cmpI_ne]; omega)]
    by_cases h2 : y.p.seq = x.p.seq
    · rw [if_neg (by rw [cmpI_ne]; omega)]
      by_cases h3 : (x.b : Int) = y.b
      · rw [if_neg (by rw [cmpI_ne]; omega), cmpI_neg]; omega
      · rw [if_pos (by rw [cmpI_ne]; omega), cmpI_neg]; omega
    · rw [if_pos (by rw [cmpI_ne]; omega), cmpI_neg]; omega
  · rw [if_pos (by rw [cmpI_ne]; omega), cmpI_neg]; omega
theorem LeP.total (x y : Pc) : LeP x y ∨ LeP y x := by
  unfold LeP
  by_cases h : x.p.sec = y.p.sec
  · rcases Ahead.total x y with a | a
    · exact .inl (.inr ⟨h, a⟩)
    · exact .inr (.inr ⟨h.symm, a⟩)
  · rcases (show x.p.sec < y.p.sec ∨ y.p.sec < x.p.sec by omega) with a | a
    · exact .inl (.inl a)
    · exact .inr (.inl a)
theorem LeP.trans {x y z : Pc} (h : LeP x y) (h' : LeP y z) : LeP x z := by
  unfold LeP at *
  rcases h with h | ⟨h, a⟩ <;> rcases h' with h' | ⟨h', b⟩
  · left; omega
  · left; omega
  · left; omega
  · right; exact ⟨by omega, a.trans b⟩
/-- t has just the first place of each sector of l. -/
def Heads (l t : List Pc) : Prop := ∀ x, x ∈ t ↔ ∃ i, l[i]? = some x ∧ (i = 0 ∨ ∃ y, l[i - 1]? = some y ∧ y.p.sec ≠ x.p.sec)
/-- L tells just the places of t. -/
def Tells (t : List Pc) (L : Int → Option Pc) : Prop := (∀ s x, L s = some x → x ∈ t ∧ x.p.sec = s) ∧ ∀ x ∈ t, L x.p.sec ≠ none
theorem Tells.nil : Tells [] (fun _ => none) := ⟨fun _ _ h => (by cases h), fun _ h => (by cases h)⟩
theorem Tells.snoc {t : List Pc} {L : Int → Option Pc} (h : Tells t L) (x : Pc) : Tells (t ++ [x]) (fun s => if s = x.p.sec then some x else L s) := by
  constructor
  · intro s y hs
    by_cases e : s = x.p.sec
    · simp only [if_pos e, Option.some.injEq] at hs
      subst hs
      exact ⟨by simp, e.symm⟩
    · simp only [if_neg e] at hs
      exact ⟨List.mem_append_left _ (h.1 s y hs).1, (h.1 s y hs).2⟩
  · intro y hy
    by_cases e : y.p.sec = x.p.sec
    · simp [e]
    · simp only [if_neg e]
      rcases List.mem_append.1 hy with hy | hy
      · exact h.2 y hy
      · rw [List.mem_singleton] at hy
        exact absurd (congrArg (fun z => z.p.sec) hy) e
def SortedP (l : List Pc) : Prop := ∀ (i j : Nat) (x y : Pc), i < j → l[i]? = some x → l[j]? = some y → LeP x y
theorem SortedP.le {l : List Pc} (h : SortedP l) {i j : Nat} {x y : Pc} (hij : i ≤ j) (hx : l[i]? = some x) (hy : l[j]? = some y) : LeP x y := by
  rcases Nat.lt_or_ge i j with e | e
  · exact h i j x y e hx hy
  · have : i = j := by omega
    subst this
    rw [hx] at hy
    cases hy
    exact (LeP.total x x).elim id id
theorem LeP.sec {x y : Pc} (h : LeP x y) : x.p.sec ≤ y.p.sec := by unfold LeP at h; omega
theorem latest_of_heads {bs : List Rb} {l t : List Pc} {L : Int → Option Pc} (hl : ∀ x, x ∈ l ↔ In bs x) (hs : SortedP l) (ht : Heads l t) (hL : Tells t L) : Latest bs L := by
  have has : ∀ (n : Nat) (x : Pc), l[n]? = some x → ∃ y ∈ t, y.p.sec = x.p.sec := by
    intro n
    induction n with
    | zero => intro x hx; exact ⟨x, (ht x).2 ⟨0, hx, .inl rfl⟩, rfl⟩
    | succ n ih =>
      intro x hx
      have hn : n < l.length := by
        have := (List.getElem?_eq_some_iff.1 hx).1
        omega
      have hy : l[n]? = some l[n] := List.getElem?_eq_getElem hn
      by_cases e : l[n].p.sec = x.p.sec
      · obtain ⟨z, hz, he⟩ := ih _ hy
        exact ⟨z, hz, he.trans e⟩
      · exact ⟨x, (ht x).2 ⟨n + 1, hx, .inr ⟨_, hy, e⟩⟩, rfl⟩
  constructor
  · intro s x hx
    obtain ⟨hm, he⟩ := hL.1 s x hx
    obtain ⟨i, hi, h0⟩ := (ht x).1 hm
    refine ⟨⟨(hl x).1 (List.mem_of_getElem? hi), fun y hy hsec => ?_⟩, he⟩
    obtain ⟨j, hj⟩ := List.getElem?_of_mem ((hl y).2 hy)
    rcases Nat.lt_or_ge j i with hji | hij
    · exfalso
      rcases h0 with h0 | ⟨z, hz, hne⟩
      · omega
      · have a := (hs.le (show j ≤ i - 1 by omega) hj hz).sec
        have b := (hs.le (show i - 1 ≤ i by omega) hz hi).sec
        omega
    · have := hs.le hij hi hj
      unfold LeP at this
      rcases this with h | ⟨_, h⟩
      · omega
      · exact h
  · intro s hn x hx he
    obtain ⟨j, hj⟩ := List.getElem?_of_mem ((hl x).2 hx)
    obtain ⟨y, hy, hys⟩ := has j x hj
    exact hL.2 y hy (by rw [hys, he]; exact hn)
/-- What is found first of a sector. -/
def fnd (t : List Pc) (s : Int) : Option Pc := t.find? fun x => decide (x.p.sec = s)
/-- L tells the best of l. -/
structure LatestL (l : List Pc) (L : Int → Option Pc) : Prop where
  yes : ∀ s x, L s = some x → x ∈ l ∧ x.p.sec = s ∧ ∀ y ∈ l, y.p.sec = s → Ahead x y
  no : ∀ s, L s = none → ∀ x ∈ l, x.p.sec ≠ s
theorem LatestL.of {bs : List Rb} {l : List Pc} {L : Int → Option Pc} (hl : ∀ x, x ∈ l ↔ In bs x) (h : LatestL l L) : Latest bs L :=
  ⟨fun s x hx => ⟨⟨(hl x).1 (h.yes s x hx).1, fun y hy e => (h.yes s x hx).2.2 y ((hl y).2 hy) (e.trans (h.yes s x hx).2.1)⟩, (h.yes s x hx).2.1⟩, fun s hn x hx => h.no s hn x ((hl x).2 hx)⟩
theorem LatestL.nil : LatestL [] (fun _ => none) := ⟨fun _ _ h => (by cases h), fun _ _ _ h => (by cases h)⟩
/-- x lies behind all of l. -/
def Behind (l : List Pc) (x : Pc) : Prop := ∀ y ∈ l, y.b < x.b ∨ (y.b = x.b ∧ y.k ≤ x.k)
theorem LatestL.take {l : List Pc} {L : Int → Option Pc} (h : LatestL l L) {x : Pc} (hx : ∀ y, L x.p.sec = some y → y.p.seq < x.p.seq) : LatestL (l ++ [x]) (fun s => if s = x.p.sec then some x else L s) := by
  constructor
  · intro s y hs
    by_cases e : s = x.p.sec
    · simp only [if_pos e, Option.some.injEq] at hs
      subst hs
      refine ⟨by simp, e.symm, fun z hz he => ?_⟩
      rcases List.mem_append.1 hz with hz | hz
      · cases ho : L x.p.sec with
        | none => exact absurd (he.trans e) (h.no _ ho z hz)
        | some o =>
          have a := hx o ho
          have b := (h.yes _ o ho).2.2 z hz (he.trans e)
          left
          unfold Ahead at b
          omega
      · rw [List.mem_singleton] at hz
        subst hz
        exact .inr ⟨rfl, .inr ⟨rfl, Nat.le_refl _⟩⟩
    · simp only [if_neg e] at hs
      obtain ⟨a, b, c⟩ := h.yes s y hs
      refine ⟨List.mem_append_left _ a, b, fun z hz he => ?_⟩
      rcases List.mem_append.1 hz with hz | hz
      · exact c z hz he
      · rw [List.mem_singleton] at hz
        subst hz
        exact absurd he.symm e
  · intro s hs y hy
    by_cases e : s = x.p.sec
    · simp only [if_pos e] at hs
      cases hs
    · simp only [if_neg e] at hs
      rcases List.mem_append.1 hy with hy | hy
      · exact h.no s hs y hy
      · rw [List.mem_singleton] at hy
        subst hy
        exact fun he => e he.symm
theorem LatestL.leave {l : List Pc} {L : Int → Option Pc} (h : LatestL l L) {x o : Pc} (ho : L x.p.sec = some o) (hq : x.p.seq ≤ o.p.seq) (hb : Behind l x) : LatestL (l ++ [x]) L := by
  obtain ⟨ha, hs, _⟩ := h.yes _ o ho
  have hx : Ahead o x := by
    have := hb o ha
    unfold Ahead
    omega
  constructor
  · intro s y hy
    obtain ⟨a, b, c⟩ := h.yes s y hy
    refine ⟨List.mem_append_left _ a, b, fun z hz he => ?_⟩
    rcases List.mem_append.1 hz with hz | hz
    · exact c z hz he
    · rw [List.mem_singleton] at hz
      subst hz
      rw [he] at ho
      rw [hy] at ho
      cases ho
      exact hx
  · intro s hn y hy
    rcases List.mem_append.1 hy with hy | hy
    · exact h.no s hn y hy
    · rw [List.mem_singleton] at hy
      subst hy
      intro he
      rw [he, hn] at ho
      cases ho
theorem fnd_snoc (t : List Pc) (x : Pc) (s : Int) : fnd (t ++ [x]) s = (fnd t s).or (if x.p.sec = s then some x else none) := by
  unfold fnd
  rw [List.find?_append]
  congr 1
  by_cases e : x.p.sec = s <;> simp [e]
theorem fnd_none {t : List Pc} {s : Int} : fnd t s = none ↔ ∀ x ∈ t, x.p.sec ≠ s := by
  unfold fnd
  simp
end Go.Proofs.YtlcbilknfjdceaaGreatDoor
end
section
/-
  All pages that count, in their order.
-/
set_option linter.unusedVariables false
set_option linter.unusedSimpArgs false
namespace Go.Proofs.YtlcbilknfjdceaaGreatDoor
open Go
def pageK (i : Nat) (b : Rb) (k : Nat) : List Pc := if b.kinds.getD k 0 = 1 then [⟨i, k, b.pages.getD k Pg.z⟩] else []
def allK (i : Nat) (b : Rb) : Nat → List Pc
  | 0 => []
  | k + 1 => allK i b k ++ pageK i b k
/-- The pages of the blocks ahead of block i. -/
def allI (bs : List Rb) : Nat → List Pc
  | 0 => []
  | i + 1 => allI bs i ++ allK i (bs.getD i default) 8
def allL (bs : List Rb) : List Pc := allI bs bs.length
theorem allK_add (i : Nat) (b : Rb) (k : Nat) : ∀ d, ∃ l, allK i b (k + d) = allK i b k ++ l
  | 0 => ⟨[], by simp⟩
  | d + 1 => by
    obtain ⟨l, h⟩ := allK_add i b k d
    exact ⟨l ++ pageK i b (k + d), by rw [← Nat.add_assoc, allK, h, List.append_assoc]⟩
theorem allI_add (bs : List Rb) (i : Nat) : ∀ d, ∃ l, allI bs (i + d) = allI bs i ++ l
  | 0 => ⟨[], by simp⟩
  | d + 1 => by
    obtain ⟨l, h⟩ := allI_add bs i d
    exact ⟨l ++ allK (i + d) (bs.getD (i + d) default) 8, by rw [← Nat.add_assoc, allI, h, List.append_assoc]⟩
theorem allL_at (bs : List Rb) {i k : Nat} (hi : i < bs.length) (hk : k < 8) (h : (bs.getD i default).kinds.getD k 0 = 1) :
    ∃ post, allL bs = (allI bs i ++ allK i (bs.getD i default) k) ++ ⟨i, k, (bs.getD i default).pages.getD k Pg.z⟩ :: post := by
  obtain ⟨l1, h1⟩ := allI_add bs (i + 1) (bs.length - (i + 1))
  obtain ⟨l2, h2⟩ := allK_add i (bs.getD i default) (k + 1) (8 - (k + 1))
  rw [show i + 1 + (bs.length - (i + 1)) = bs.length by omega] at h1
  rw [show k + 1 + (8 - (k + 1)) = 8 by omega] at h2
  refine ⟨l2 ++ l1, ?_⟩
  unfold allL
  rw [h1, allI, h2, allK]
  unfold pageK
  rw [if_pos h]
  simp [List.append_assoc]
theorem mem_allK {i : Nat} {b : Rb} {x : Pc} : ∀ k, x ∈ allK i b k ↔ x.b = i ∧ x.k < k ∧ b.kinds.getD x.k 0 = 1 ∧ b.pages.getD x.k Pg.z = x.p
  | 0 => by simp [allK]
  | k + 1 => by
    rw [allK, List.mem_append, mem_allK k]
    unfold pageK
    constructor
    · rintro (⟨a, b, c⟩ | h)
      · exact ⟨a, by omega, c⟩
      · split at h
        · rename_i h1
          rw [List.mem_singleton] at h
          subst h
          exact ⟨rfl, by simp, h1, rfl⟩
        · cases h
    · rintro ⟨a, h2, h3, h4⟩
      by_cases e : x.k = k
      · right
        rw [← e, if_pos h3, List.mem_singleton]
        obtain ⟨p, q, r⟩ := x
        simp only at a h4 ⊢
        rw [a, h4]
      · exact .inl ⟨a, by omega, h3, h4⟩
theorem mem_allI {bs : List Rb} {x : Pc} : ∀ i, x ∈ allI bs i ↔ x.b < i ∧ x.k < 8 ∧ (bs.getD x.b default).kinds.getD x.k 0 = 1 ∧ (bs.getD x.b default).pages.getD x.k Pg.z = x.p
  | 0 => by simp [allI]
  | i + 1 => by
    rw [allI, List.mem_append, mem_allI i, mem_allK]
    constructor
    · rintro (⟨a, b⟩ | ⟨a, b, c, d⟩)
      · exact ⟨by omega, b⟩
      · rw [← a] at c d
        exact ⟨by omega, b, c, d⟩
    · rintro ⟨a, b, c, d⟩
      by_cases e : x.b = i
      · right
        rw [e] at c d
        exact ⟨e, b, c, d⟩
      · exact .inl ⟨by omega, b, c, d⟩
theorem mem_allL {bs : List Rb} {x : Pc} : x ∈ allL bs ↔ In bs x := mem_allI bs.length
theorem behind_at {bs : List Rb} {i k : Nat} {p : Pg} : Behind (allI bs i ++ allK i (bs.getD i default) k) ⟨i, k, p⟩ := by
  intro y hy
  rcases List.mem_append.1 hy with hy | hy
  · left; exact ((mem_allI i).1 hy).1
  · right
    have := (mem_allK k).1 hy
    exact ⟨this.1, by have := this.2.1; show y.k ≤ k; omega⟩
theorem allK_len (i : Nat) (b : Rb) : ∀ k, (allK i b k).length ≤ k
  | 0 => Nat.le_refl _
  | k + 1 => by
    rw [allK, List.length_append]
    have := allK_len i b k
    have : (pageK i b k).length ≤ 1 := by unfold pageK; split <;> simp
    omega
theorem allI_len (bs : List Rb) : ∀ i, (allI bs i).length ≤ 8 * i
  | 0 => Nat.le_refl _
  | i + 1 => by
    rw [allI, List.length_append]
    have := allI_len bs i
    have := allK_len i (bs.getD i default) 8
    omega
theorem allL_len (bs : List Rb) : (allL bs).length ≤ 8 * bs.length := allI_len bs bs.length
/-- The pages of a block alone are at most eight. -/
theorem own_len (bs : List Rb) (t : Nat) : ((allL bs).filter fun x => decide (x.b = t)).length ≤ 8 := by
  have h : ∀ i, ((allI bs i).filter fun x => decide (x.b = t)).length ≤ if t < i then 8 else 0 := by
    intro i
    induction i with
    | zero => simp [allI]
    | succ i ih =>
      rw [allI, List.filter_append, List.length_append]
      by_cases e : i = t
      · subst e
        have h0 : ((allI bs i).filter fun x => decide (x.b = i)).length ≤ 0 := by rw [if_neg (Nat.lt_irrefl _)] at ih; exact ih
        have h1 := List.length_filter_le (fun x : Pc => decide (x.b = i)) (allK i (bs.getD i default) 8)
        have h2 := allK_len i (bs.getD i default) 8
        rw [if_pos (by omega)]
        omega
      · have h0 : ((allK i (bs.getD i default) 8).filter fun x => decide (x.b = t)) = [] := by
          rw [List.filter_eq_nil_iff]
          intro x hx
          have := ((mem_allK 8).1 hx).1
          simp
          omega
        rw [h0, List.length_nil, Nat.add_zero]
        by_cases h : t < i
        · rw [if_pos h] at ih; rw [if_pos (by omega)]; exact ih
        · rw [if_neg h] at ih; rw [if_neg (by omega)]; exact ih
  have := h bs.length
  unfold allL
  split at this <;> omega
end Go.Proofs.YtlcbilknfjdceaaGreatDoor
end
