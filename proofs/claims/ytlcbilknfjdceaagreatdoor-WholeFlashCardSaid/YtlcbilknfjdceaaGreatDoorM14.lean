/-
  WholeFlash, part 14 of 44: Rf, Next, Mem.
-/
import Derived.RangeFuncNested
import Derived.RangeFuncBound
import Derived.RangeFuncCalls
import Derived.RangeFuncLeaves
import Derived.Shelf.Abstract
import Derived.Shelf.RegionOpen
import Derived.OwnWalkIn
import Derived.TacticsInMore
import Derived.LoopNIn
import Derived.LoopIn
import Derived.Laws.CopyRow
import Derived.BigFrame
import Derived.BigFrameIn
import Derived.Test.YtlcbilknfjdceaaGreatDoorM13
section
/-
  A range over a function, beside known blocks.
-/
set_option linter.unusedVariables false
set_option linter.unusedSimpArgs false
namespace Go.Proofs.YtlcbilknfjdceaaGreatDoor
open Go.RowKit Go.Lib
abbrev WF : Fence := Fence.wide
theorem KW.putMid {B : Nat} {W w : World} {L R : Blocks} {g : Nat} {o o' : Obj} (h : KW B W (L ++ (g, o) :: R) w) : KW B W (L ++ (g, o') :: R) (w.putObj g o') :=
  KW.into (L := L) (p := (g, o')) (KW.obj (h.perm List.perm_middle))
/-- What is known between two rounds: a state s behind pre, and its blocks. -/
def Jn {α σ : Type} (R : List α → σ → Prop) (KK : σ → Blocks) (B : Nat) (W0 : World) (pre : List α) (K0 : Blocks) (W : World) : Prop := ∃ s, R pre s ∧ KW B W0 (K0 ++ KK s) W
/-- What a call of yield does. -/
def Yields {α : Type} (n l : Nat) (encs : α → Array Value) (Kit : Blocks) (full : List α) (J Jx : List α → Blocks → World → Prop) : Prop :=
  ∀ (pre : List α) (x : α) (post : List α) (K1 : Blocks) (W : World), full = pre ++ x :: post → J pre (Kit ++ K1) W → YieldAt WF n Tryz.prog l (encs x) W fun e W' => (e = .returned (.bool true) ∧ J (pre ++ [x]) (Kit ++ K1) W') ∨ (e = .returned (.bool false) ∧ Jx (pre ++ [x]) (Kit ++ K1) W')
/-- An iterator: over the known blocks Kit it gives the list full. -/
def Iter {α : Type} (gf : Nat) (lb : Array Value) (encs : α → Array Value) (Kit : Blocks) (full : List α) : Prop :=
  ∀ (n B : Nat) (W0 : World) (σ : Type) (R Rx : List α → σ → Prop) (KK : σ → Blocks) (l : Nat), Yields n l encs Kit full (Jn R KK B W0) (Jn Rx KK B W0) →
    ∀ (K0 : Blocks) (W : World), Jn R KK B W0 [] (Kit ++ K0) W → CallsIn WF (n + 1) Tryz.prog gf (#[.func (.yield l) #[] #[]] ++ lb) W fun e W' => (∃ v, e = .returned v) ∧
      (Jn R KK B W0 full (Kit ++ K0) W' ∨ ∃ pre x post, full = pre ++ x :: post ∧ Jn Rx KK B W0 (pre ++ [x]) (Kit ++ K0) W')
/-- How the body of a round may be left. -/
def kwPost {α σ : Type} (R : List α → σ → Prop) (Rx : Code → List α → σ → Prop) (KK : σ → Blocks) (B : Nat) (W0 : World) (K1 : Blocks) (pre : List α) : Exit → Act → World → Prop
  | .normal, _, W' => ∃ s, R pre s ∧ KW B W0 (K1 ++ KK s) W'
  | .ret, _, W' => ∃ s, Rx .ret pre s ∧ KW B W0 (K1 ++ KK s) W'
  | .exit id, _, W' => ∃ s, Rx (.exit id) pre s ∧ KW B W0 (K1 ++ KK s) W'
  | .goto t, _, W' => ∃ s, Rx (.goto t) pre s ∧ KW B W0 (K1 ++ KK s) W'
  | .panic _, _, _ => False
  | .outgrown, _, _ => False
set_option maxHeartbeats 1000000 in
theorem wpIn_range_kw {n : Nat} {α σ : Type} {g : Operand} {ps : Array Tmp} {assign body : Code} {Q : Exit → Act → World → Prop} {a : Act} {w : World} {B : Nat} {W0 : World}
    {gf : Nat} {lb : Array Value} (hg : a.eval g = .func (.func gf) #[] lb) (eg : ∀ args w, (callFunc gf args).run Tryz.prog w = .ok (.enter gf args) w)
    {encs : α → Array Value} {Kit : Blocks} {full : List α} (hit : Iter gf lb encs Kit full) (hps : ∀ x, (encs x).size = ps.size)
    (R : List α → σ → Prop) (Rx : Code → List α → σ → Prop) (KK : σ → Blocks) (Ax : α → Act → Blocks → Prop) {K0 : Blocks} (h0 : Jn R KK B W0 [] (Kit ++ K0) w)
    (hassign : ∀ (l : Nat) (x : α) (pre : List α) (K1 : Blocks) (s : σ) (W : World), KW B W0 (Kit ++ K1 ++ KK s) W →
      assign.wpIn (WF.inRound l) n Tryz.prog (Exit.then (fun a' W' => ∃ Kx, Ax x a' Kx ∧ KW B W0 (Kit ++ (Kx ++ K1) ++ KK s) W') (fun _ _ _ => False)) { tmps := (ps.zip (encs x)).foldl (fun t (p, v) => t.setIfInBounds p v) a.tmps, defers := [] } W)
    (hbody : ∀ (l : Nat) (pre : List α) (x : α) (post : List α) (a' : Act) (Kx K1 : Blocks) (s : σ) (W : World), full = pre ++ x :: post → Ax x a' Kx → R pre s → (∃ r, W.heap[l]? = some (.loop r)) → KW B W0 (Kit ++ (Kx ++ K1) ++ KK s) W →
      body.wpIn (WF.inRound l) n Tryz.prog (kwPost R Rx KK B W0 (Kit ++ (Kx ++ K1)) (pre ++ [x])) a' W)
    (hdone : ∀ (D : Nat) (s : σ) (W : World), R full s → KW B W0 (((D, .deferred (some [])) :: (Kit ++ K0)) ++ KK s) W → Q .normal { a with defers := { target := .collected D, args := #[] } :: a.defers } W)
    (hstop : ∀ (D : Nat) (c : Code) (pre : List α) (x : α) (post : List α) (s : σ) (W : World), full = pre ++ x :: post → Rx c (pre ++ [x]) s → KW B W0 (((D, .deferred (some [])) :: (Kit ++ K0)) ++ KK s) W → c.wpIn WF (n + 2) Tryz.prog Q { a with defers := { target := .collected D, args := #[] } :: a.defers } W) :
    (Code.rangeFunc g ps assign body).wpIn WF (n + 2) Tryz.prog Q a w := by
  refine wpIn_rangeFunc ?_
  intro fn _
  obtain ⟨s0, hR0, hk0⟩ := h0
  obtain ⟨rec, hrec⟩ : ∃ rec : LoopState → Option Code → Loop, rec = fun st pe => { state := st, pending := pe, fn, tmps := a.tmps, params := ps, assign, body, defers := w.heap.size } := ⟨_, rfl⟩
  have hk1 : KW B W0 ((w.heap.size + 1, .loop (rec .ready none)) :: (w.heap.size, .deferred (some [])) :: ((Kit ++ K0) ++ KK s0)) ((w.alloc (.deferred (some []))).alloc (.loop (rec .ready none))) := hk0.push2 _ _
  have hE : (Instr.enterLoop fn a.tmps ps assign body WF.round).run Tryz.prog w = .ok (w.heap.size + 1, [{ target := .collected w.heap.size, args := #[] }]) ((w.alloc (.deferred (some []))).alloc (.loop (rec .ready none))) := by
    rw [hrec]; exact run_enterLoop_outer _ _ _ _ _
  generalize (w.alloc (.deferred (some []))).alloc (.loop (rec .ready none)) = W1 at hk1 hE
  generalize w.heap.size + 1 = l at hk1 hE
  generalize w.heap.size = D at hk1 hE hrec
  refine ⟨l, [{ target := .collected D, args := #[] }], W1, { target := .fn (.func gf) lb, args := #[.func (.yield l) #[] #[]] }, W1, gf, #[.func (.yield l) #[] #[]] ++ lb, W1, hE, ?_, ?_, ?_, fun h => (by cases h), ?_⟩
  · simp only [resolve, hg]
    simp [go_sem]
  · intro f' hf'; trivial
  · simp [invoke, go_sem, eg]
  · have hmv : ∀ {K1 : Blocks} {r : Loop} {s : σ} {W : World}, KW B W0 ((Kit ++ K1) ++ ((l, .loop r) :: (D, .deferred (some [])) :: KK s)) W → KW B W0 (Kit ++ (K1 ++ (l, .loop r) :: (D, .deferred (some [])) :: []) ++ KK s) W := by
      intro K1 r s W h
      simpa [List.append_assoc] using h
    have hmv' : ∀ {K1 : Blocks} {r : Loop} {s : σ} {W : World}, KW B W0 (Kit ++ (K1 ++ (l, .loop r) :: (D, .deferred (some [])) :: []) ++ KK s) W → KW B W0 ((Kit ++ K1) ++ ((l, .loop r) :: (D, .deferred (some [])) :: KK s)) W := by
      intro K1 r s W h
      simpa [List.append_assoc] using h
    refine CallsIn.mono (hit n B W0 (σ × Option Code) (fun pre s => s.2 = none ∧ R pre s.1) (fun pre s => ∃ c, s.2 = some c ∧ Rx c pre s.1) (fun s => (l, .loop (rec (if s.2.isNone then .ready else .done) s.2)) :: (D, .deferred (some [])) :: KK s.1) l ?_ K0 W1 ⟨(s0, none), ⟨rfl, hR0⟩, ?_⟩) ?_
    · intro pre x post K1 W hf hJ
      obtain ⟨⟨s, c⟩, ⟨rfl, hR⟩, hk⟩ := hJ
      have hk : KW B W0 ((Kit ++ K1) ++ ((l, .loop (rec .ready none)) :: (D, .deferred (some [])) :: KK s)) W := hk
      have hl : W.heap[l]? = some (.loop (rec .ready none)) := hk.get (by simp)
      have hy := run_yield (P := Tryz.prog) (args := encs x) hl (by rw [hrec]; exact hps x)
      rw [hrec] at hy
      refine ⟨fn, _, assign, body, hy, roundIn_of_wpIn trivial (wpIn_mono (hassign l x pre _ s W (hmv hk)) ?_)⟩
      rintro e a1 W2 h2
      cases e with
      | normal =>
        obtain ⟨Kx, hAx, hk2⟩ := h2
        have hk2 : KW B W0 ((Kit ++ (Kx ++ K1)) ++ ((l, .loop (rec .ready none)) :: (D, .deferred (some [])) :: KK s)) W2 := by simpa [List.append_assoc] using hk2
        have hl2 : W2.heap[l]? = some (.loop (rec .ready none)) := hk2.get (by simp)
        refine ⟨_, run_beginRound hl2 (by rw [hrec]), ?_⟩
        have hk3 := hk2.putMid (o' := .loop { rec .ready none with state := .busy })
        refine wpIn_mono (hbody l pre x post a1 Kx (K1 ++ (l, .loop { rec .ready none with state := .busy }) :: (D, .deferred (some [])) :: []) s _ hf hAx hR ⟨_, hk3.get (g := l) (o := .loop { rec .ready none with state := .busy }) (by simp)⟩ (by simpa [List.append_assoc] using hk3)) ?_
        have fin : ∀ (jump : Option Code) (s' : σ) (W3 : World), KW B W0 (Kit ++ (Kx ++ (K1 ++ (l, .loop { rec .ready none with state := .busy }) :: (D, .deferred (some [])) :: [])) ++ KK s') W3 →
            (Instr.endRound l jump).run Tryz.prog W3 = .ok (.bool jump.isNone) (W3.putObj l (.loop (rec (if jump.isNone then .ready else .done) jump))) ∧
            KW B W0 ((Kit ++ K1) ++ ((l, .loop (rec (if jump.isNone then .ready else .done) jump)) :: (D, .deferred (some [])) :: KK s')) (W3.putObj l (.loop (rec (if jump.isNone then .ready else .done) jump))) := by
          intro jump s' W3 h3
          have h4 : KW B W0 ((Kit ++ (Kx ++ K1)) ++ ((l, .loop { rec .ready none with state := .busy }) :: (D, .deferred (some [])) :: KK s')) W3 := by simpa [List.append_assoc] using h3
          have h5 := h4.putMid (o' := .loop (rec (if jump.isNone then .ready else .done) jump))
          have := run_endRound (P := Tryz.prog) (r := { rec .ready none with state := .busy }) jump (h4.get (g := l) (o := .loop { rec .ready none with state := .busy }) (by simp))
          rw [hrec] at this ⊢
          rw [hrec] at h5
          refine ⟨this, ?_⟩
          have h6 := h5
          simp only [List.append_assoc] at h6
          have h7 := KW.cut Kit Kx _ h6
          simpa only [List.append_assoc] using h7
        rintro e a3 W3 hp
        cases e with
        | normal =>
          obtain ⟨s', hR', h3⟩ := hp
          obtain ⟨hr, h4⟩ := fin none s' W3 h3
          exact ⟨_, _, hr, .inl ⟨rfl, (s', none), ⟨rfl, hR'⟩, h4⟩⟩
        | ret =>
          obtain ⟨s', hR', h3⟩ := hp
          obtain ⟨hr, h4⟩ := fin (some .ret) s' W3 h3
          exact ⟨_, _, hr, .inr ⟨rfl, (s', some .ret), ⟨_, rfl, hR'⟩, h4⟩⟩
        | exit id =>
          obtain ⟨s', hR', h3⟩ := hp
          obtain ⟨hr, h4⟩ := fin (some (.exit id)) s' W3 h3
          exact ⟨_, _, hr, .inr ⟨rfl, (s', some (.exit id)), ⟨_, rfl, hR'⟩, h4⟩⟩
        | goto t =>
          obtain ⟨s', hR', h3⟩ := hp
          obtain ⟨hr, h4⟩ := fin (some (.goto t)) s' W3 h3
          exact ⟨_, _, hr, .inr ⟨rfl, (s', some (.goto t)), ⟨_, rfl, hR'⟩, h4⟩⟩
        | panic ch => exact hp.elim
        | outgrown => exact hp.elim
      | ret => exact h2.elim
      | exit id => exact h2.elim
      | goto t => exact h2.elim
      | panic ch => exact h2.elim
      | outgrown => exact h2.elim
    · have e := List.perm_append_comm (l₁ := (l, Obj.loop (rec .ready none)) :: (D, .deferred (some [])) :: []) (l₂ := Kit ++ K0)
      have := hk1.perm (K' := (Kit ++ K0) ++ ((l, Obj.loop (rec .ready none)) :: (D, .deferred (some [])) :: KK s0)) (by
        have := e.append_right (KK s0)
        simpa [List.append_assoc] using this)
      exact this
    · rintro e W2 ⟨⟨v, rfl⟩, ⟨⟨s, c⟩, ⟨rfl, hR⟩, hk⟩ | ⟨pre, x, post, hf, ⟨s, c'⟩, ⟨c, rfl, hR⟩, hk⟩⟩
      · have hk : KW B W0 ((Kit ++ K0) ++ ((l, .loop (rec .ready none)) :: (D, .deferred (some [])) :: KK s)) W2 := hk
        have he := run_endLoop (P := Tryz.prog) (r := rec .ready none) (hk.get (g := l) (o := .loop (rec .ready none)) (by simp)) (by rw [hrec]; simp)
        have h2 := KW.cut (Kit ++ K0) [(l, .loop { rec .ready none with state := .exhausted })] _ hk.putMid
        refine ⟨none, _, by have := he; rw [hrec] at this; exact this, ?_⟩
        rw [hrec] at h2; exact hdone D s _ hR (KW.mv (Kit ++ K0) [(D, _)] _ h2)
      · have hk : KW B W0 ((Kit ++ K0) ++ ((l, .loop (rec .done (some c))) :: (D, .deferred (some [])) :: KK s)) W2 := hk
        have he := run_endLoop (P := Tryz.prog) (r := rec .done (some c)) (hk.get (g := l) (o := .loop (rec .done (some c))) (by simp)) (by rw [hrec]; simp)
        have h2 := KW.cut (Kit ++ K0) [(l, .loop { rec .done (some c) with state := .exhausted })] _ hk.putMid
        refine ⟨some c, _, by have := he; rw [hrec] at this; exact this, ?_⟩
        rw [hrec] at h2; exact hstop D c pre x post s _ hf hR (KW.mv (Kit ++ K0) [(D, _)] _ h2)
set_option maxHeartbeats 1000000 in
theorem wpIn_range_kwN {n : Nat} {α σ : Type} {g : Operand} {ps : Array Tmp} {assign body : Code} {Q : Exit → Act → World → Prop} {a : Act} {w : World} {B : Nat} {W0 : World} {l₀ : Nat} {r₀ : Loop} (hr₀ : w.heap[l₀]? = some (.loop r₀))
    {gf : Nat} {lb : Array Value} (hg : a.eval g = .func (.func gf) #[] lb) (eg : ∀ args w, (callFunc gf args).run Tryz.prog w = .ok (.enter gf args) w)
    {encs : α → Array Value} {Kit : Blocks} {full : List α} (hit : Iter gf lb encs Kit full) (hps : ∀ x, (encs x).size = ps.size)
    (R : List α → σ → Prop) (Rx : Code → List α → σ → Prop) (KK : σ → Blocks) (Ax : α → Act → Blocks → Prop) {K0 : Blocks} (h0 : Jn R KK B W0 [] (Kit ++ K0) w)
    (hassign : ∀ (l : Nat) (x : α) (pre : List α) (K1 : Blocks) (s : σ) (W : World), KW B W0 (Kit ++ K1 ++ KK s) W →
      assign.wpIn (WF.inRound l) n Tryz.prog (Exit.then (fun a' W' => ∃ Kx, Ax x a' Kx ∧ KW B W0 (Kit ++ (Kx ++ K1) ++ KK s) W') (fun _ _ _ => False)) { tmps := (ps.zip (encs x)).foldl (fun t (p, v) => t.setIfInBounds p v) a.tmps, defers := [] } W)
    (hbody : ∀ (l : Nat) (pre : List α) (x : α) (post : List α) (a' : Act) (Kx K1 : Blocks) (s : σ) (W : World), full = pre ++ x :: post → Ax x a' Kx → R pre s → (∃ r, W.heap[l]? = some (.loop r)) → KW B W0 (Kit ++ (Kx ++ K1) ++ KK s) W →
      body.wpIn (WF.inRound l) n Tryz.prog (kwPost R Rx KK B W0 (Kit ++ (Kx ++ K1)) (pre ++ [x])) a' W)
    (hdone : ∀ (s : σ) (W : World), R full s → KW B W0 ((Kit ++ K0) ++ KK s) W → Q .normal a W)
    (hstop : ∀ (c : Code) (pre : List α) (x : α) (post : List α) (s : σ) (W : World), full = pre ++ x :: post → Rx c (pre ++ [x]) s → KW B W0 ((Kit ++ K0) ++ KK s) W → c.wpIn (WF.inRound l₀) (n + 2) Tryz.prog Q a W) :
    (Code.rangeFunc g ps assign body).wpIn (WF.inRound l₀) (n + 2) Tryz.prog Q a w := by
  refine wpIn_rangeFunc ?_
  intro fn _
  obtain ⟨s0, hR0, hk0⟩ := h0
  obtain ⟨rec, hrec⟩ : ∃ rec : LoopState → Option Code → Loop, rec = fun st pe => { state := st, pending := pe, fn, tmps := a.tmps, params := ps, assign, body, defers := r₀.defers } := ⟨_, rfl⟩
  have hk1 : KW B W0 ((w.heap.size, .loop (rec .ready none)) :: ((Kit ++ K0) ++ KK s0)) (w.alloc (.loop (rec .ready none))) := hk0.push _
  have hE : (Instr.enterLoop fn a.tmps ps assign body (WF.inRound l₀).round).run Tryz.prog w = .ok (w.heap.size, []) (w.alloc (.loop (rec .ready none))) := by
    rw [hrec]; exact run_enterLoop_inner hr₀ _ _ _ _ _
  generalize w.alloc (.loop (rec .ready none)) = W1 at hk1 hE
  generalize w.heap.size = l at hk1 hE
  refine ⟨l, [], W1, { target := .fn (.func gf) lb, args := #[.func (.yield l) #[] #[]] }, W1, gf, #[.func (.yield l) #[] #[]] ++ lb, W1, hE, ?_, ?_, ?_, fun h => (by cases h), ?_⟩
  · simp only [resolve, hg]
    simp [go_sem]
  · intro f' hf'; trivial
  · simp [invoke, go_sem, eg]
  · have hmv : ∀ {K1 : Blocks} {r : Loop} {s : σ} {W : World}, KW B W0 ((Kit ++ K1) ++ ((l, .loop r) :: KK s)) W → KW B W0 (Kit ++ (K1 ++ (l, .loop r) :: []) ++ KK s) W := by
      intro K1 r s W h
      simpa [List.append_assoc] using h
    have hmv' : ∀ {K1 : Blocks} {r : Loop} {s : σ} {W : World}, KW B W0 (Kit ++ (K1 ++ (l, .loop r) :: []) ++ KK s) W → KW B W0 ((Kit ++ K1) ++ ((l, .loop r) :: KK s)) W := by
      intro K1 r s W h
      simpa [List.append_assoc] using h
    refine CallsIn.mono (hit n B W0 (σ × Option Code) (fun pre s => s.2 = none ∧ R pre s.1) (fun pre s => ∃ c, s.2 = some c ∧ Rx c pre s.1) (fun s => (l, .loop (rec (if s.2.isNone then .ready else .done) s.2)) :: KK s.1) l ?_ K0 W1 ⟨(s0, none), ⟨rfl, hR0⟩, ?_⟩) ?_
    · intro pre x post K1 W hf hJ
      obtain ⟨⟨s, c⟩, ⟨rfl, hR⟩, hk⟩ := hJ
      have hk : KW B W0 ((Kit ++ K1) ++ ((l, .loop (rec .ready none)) :: KK s)) W := hk
      have hl : W.heap[l]? = some (.loop (rec .ready none)) := hk.get (by simp)
      have hy := run_yield (P := Tryz.prog) (args := encs x) hl (by rw [hrec]; exact hps x)
      rw [hrec] at hy
      refine ⟨fn, _, assign, body, hy, roundIn_of_wpIn trivial (wpIn_mono (hassign l x pre _ s W (hmv hk)) ?_)⟩
      rintro e a1 W2 h2
      cases e with
      | normal =>
        obtain ⟨Kx, hAx, hk2⟩ := h2
        have hk2 : KW B W0 ((Kit ++ (Kx ++ K1)) ++ ((l, .loop (rec .ready none)) :: KK s)) W2 := by simpa [List.append_assoc] using hk2
        have hl2 : W2.heap[l]? = some (.loop (rec .ready none)) := hk2.get (by simp)
        refine ⟨_, run_beginRound hl2 (by rw [hrec]), ?_⟩
        have hk3 := hk2.putMid (o' := .loop { rec .ready none with state := .busy })
        refine wpIn_mono (hbody l pre x post a1 Kx (K1 ++ (l, .loop { rec .ready none with state := .busy }) :: []) s _ hf hAx hR ⟨_, hk3.get (g := l) (o := .loop { rec .ready none with state := .busy }) (by simp)⟩ (by simpa [List.append_assoc] using hk3)) ?_
        have fin : ∀ (jump : Option Code) (s' : σ) (W3 : World), KW B W0 (Kit ++ (Kx ++ (K1 ++ (l, .loop { rec .ready none with state := .busy }) :: [])) ++ KK s') W3 →
            (Instr.endRound l jump).run Tryz.prog W3 = .ok (.bool jump.isNone) (W3.putObj l (.loop (rec (if jump.isNone then .ready else .done) jump))) ∧
            KW B W0 ((Kit ++ K1) ++ ((l, .loop (rec (if jump.isNone then .ready else .done) jump)) :: KK s')) (W3.putObj l (.loop (rec (if jump.isNone then .ready else .done) jump))) := by
          intro jump s' W3 h3
          have h4 : KW B W0 ((Kit ++ (Kx ++ K1)) ++ ((l, .loop { rec .ready none with state := .busy }) :: KK s')) W3 := by simpa [List.append_assoc] using h3
          have h5 := h4.putMid (o' := .loop (rec (if jump.isNone then .ready else .done) jump))
          have := run_endRound (P := Tryz.prog) (r := { rec .ready none with state := .busy }) jump (h4.get (g := l) (o := .loop { rec .ready none with state := .busy }) (by simp))
          rw [hrec] at this ⊢
          rw [hrec] at h5
          refine ⟨this, ?_⟩
          have h6 := h5
          simp only [List.append_assoc] at h6
          have h7 := KW.cut Kit Kx _ h6
          simpa only [List.append_assoc] using h7
        rintro e a3 W3 hp
        cases e with
        | normal =>
          obtain ⟨s', hR', h3⟩ := hp
          obtain ⟨hr, h4⟩ := fin none s' W3 h3
          exact ⟨_, _, hr, .inl ⟨rfl, (s', none), ⟨rfl, hR'⟩, h4⟩⟩
        | ret =>
          obtain ⟨s', hR', h3⟩ := hp
          obtain ⟨hr, h4⟩ := fin (some .ret) s' W3 h3
          exact ⟨_, _, hr, .inr ⟨rfl, (s', some .ret), ⟨_, rfl, hR'⟩, h4⟩⟩
        | exit id =>
          obtain ⟨s', hR', h3⟩ := hp
          obtain ⟨hr, h4⟩ := fin (some (.exit id)) s' W3 h3
          exact ⟨_, _, hr, .inr ⟨rfl, (s', some (.exit id)), ⟨_, rfl, hR'⟩, h4⟩⟩
        | goto t =>
          obtain ⟨s', hR', h3⟩ := hp
          obtain ⟨hr, h4⟩ := fin (some (.goto t)) s' W3 h3
          exact ⟨_, _, hr, .inr ⟨rfl, (s', some (.goto t)), ⟨_, rfl, hR'⟩, h4⟩⟩
        | panic ch => exact hp.elim
        | outgrown => exact hp.elim
      | ret => exact h2.elim
      | exit id => exact h2.elim
      | goto t => exact h2.elim
      | panic ch => exact h2.elim
      | outgrown => exact h2.elim
    · have e := List.perm_append_comm (l₁ := (l, Obj.loop (rec .ready none)) :: []) (l₂ := Kit ++ K0)
      have := hk1.perm (K' := (Kit ++ K0) ++ ((l, Obj.loop (rec .ready none)) :: KK s0)) (by
        have := e.append_right (KK s0)
        simpa [List.append_assoc] using this)
      exact this
    · rintro e W2 ⟨⟨v, rfl⟩, ⟨⟨s, c⟩, ⟨rfl, hR⟩, hk⟩ | ⟨pre, x, post, hf, ⟨s, c'⟩, ⟨c, rfl, hR⟩, hk⟩⟩
      · have hk : KW B W0 ((Kit ++ K0) ++ ((l, .loop (rec .ready none)) :: KK s)) W2 := hk
        have he := run_endLoop (P := Tryz.prog) (r := rec .ready none) (hk.get (g := l) (o := .loop (rec .ready none)) (by simp)) (by rw [hrec]; simp)
        have h2 := KW.cut (Kit ++ K0) [(l, .loop { rec .ready none with state := .exhausted })] _ hk.putMid
        refine ⟨none, _, by have := he; rw [hrec] at this; exact this, ?_⟩
        rw [hrec] at h2; exact hdone s _ hR h2
      · have hk : KW B W0 ((Kit ++ K0) ++ ((l, .loop (rec .done (some c))) :: KK s)) W2 := hk
        have he := run_endLoop (P := Tryz.prog) (r := rec .done (some c)) (hk.get (g := l) (o := .loop (rec .done (some c))) (by simp)) (by rw [hrec]; simp)
        have h2 := KW.cut (Kit ++ K0) [(l, .loop { rec .done (some c) with state := .exhausted })] _ hk.putMid
        refine ⟨some c, _, by have := he; rw [hrec] at this; exact this, ?_⟩
        rw [hrec] at h2; exact hstop c pre x post s _ hf hR h2
end Go.Proofs.YtlcbilknfjdceaaGreatDoor
end
section
/-
  slices.Backward over the kinds of a block; scan.Next.
-/
set_option linter.unusedVariables false
set_option linter.unusedSimpArgs false
namespace Go.Proofs.YtlcbilknfjdceaaGreatDoor
open Go.RowKit Go.Lib
attribute [local go_sem] Oper.semAt_some
def encP2 (x : Nat × Int) : Array Value := #[.int .i64 (x.1 : Int), .int .i64 x.2]
def back (ks : List Int) : List (Nat × Int) := (List.range 8).reverse.map fun i => (i, ks.getD i 0)
abbrev backK (bx gb c : Nat) (cs : Array Value) : Blocks := [(bx, boxO (.slice (some ⟨gb, 2, none⟩) 8 c) 36), (gb, .cells cs 140)]
set_option maxRecDepth 100000 in
theorem back_iter {bx gb c : Nat} {cs : Array Value} {ks : List Int} (hcs : ∀ i, i < 8 → cs[2 + i]? = some (.int .i64 (ks.getD i 0))) : Iter 166 #[.pointer (some ⟨bx, 0, none⟩)] encP2 (backK bx gb c cs) (back ks) := by
  intro n B W0 σ R Rx KK l hY K0 W hJ
  have hJJ : ∀ {pre W}, Jn R KK B W0 pre (backK bx gb c cs ++ K0) W → W.cell? ⟨bx, 0, none⟩ = some (.slice (some ⟨gb, 2, none⟩) 8 c) ∧ ∀ i, i < 8 → W.cell? ⟨gb, 2 + i, none⟩ = some (.int .i64 (ks.getD i 0)) := by
    rintro pre W ⟨s, _, hk⟩
    refine ⟨cell_at (hk.get (g := bx) (o := boxO (.slice (some ⟨gb, 2, none⟩) 8 c) 36) (by simp)) 0, fun i hi => ?_⟩
    rw [cell_at (hk.get (g := gb) (o := .cells cs 140) (by simp)) (2 + i)]
    exact hcs i hi
  have m0 := (hJJ hJ).1
  have HJ := _root_.Go.Lib.hid (And.intro hJ (And.intro hY trivial))
  clear hJ hY
  refine callsIn_of_wp Tryz.func166 rfl trivial ?_ rfl
  simp only [Tryz.ntmps166, List.size_toArray, List.length_cons, List.length_nil, Nat.reduceAdd, Nat.reduceSub, Array.replicate_succ, Array.replicate_zero, List.push_toArray, List.append_toArray, List.nil_append, List.cons_append]
  gi_wp2
  gi_loopw [3] (fun p wr => ∃ j : Nat, Jn R KK B W0 ((back ks).take j) (backK bx gb c cs ++ K0) wr ∧ ((∃ i : Nat, i + j = 7 ∧ p = .int .i64 (i : Int)) ∨ (j = 8 ∧ p = .int .i64 (-1)))) (fun p _ => (intOf p + 1).toNat)
  case atStart => exact ⟨0, HJ.out.1, .inl ⟨7, rfl, rfl⟩⟩
  case round =>
    obtain ⟨j, hJ, ⟨i, hij, rfl⟩ | ⟨rfl, rfl⟩⟩ := hrel
    · have hs : back ks = (back ks).take j ++ (i, ks.getD i 0) :: (back ks).drop (j + 1) := by
        have hl : (back ks).length = 8 := by simp [back]
        have e : (back ks)[j]'(by omega) = (i, ks.getD i 0) := by
          simp only [back, List.getElem_map, List.getElem_reverse, List.length_range, List.getElem_range]
          rw [show 8 - 1 - j = i by omega]
        rw [← e, List.getElem_cons_drop, List.take_append_drop]
      obtain ⟨fn, tmps, assign, body, hy, hR⟩ := HJ.out.2.1 _ _ _ K0 wr hs hJ
      have hx := hJJ hJ
      have m0 := hx.1
      have mi := hx.2 i (by omega)
      generalize ks.getD i 0 = v at mi hy hR hs
      have e7 : (back ks).take (j + 1) = (back ks).take j ++ [(i, v)] := by
        rw [List.take_add, hs]
        have hl : ((back ks).take j).length = j := by simp [back]; omega
        simp [hl]
      rw [← e7] at hR
      have i8 : i < 8 := by omega
      have HE := _root_.Go.Lib.hid (And.intro hs (And.intro e7 hij))
      simp only [encP2] at hy
      clear hs hx e7 hJ hij
      gi_wp2
      refine hR.mono ?_
      rintro e W3 (⟨rfl, hJ3⟩ | ⟨rfl, hJ3⟩)
      · gi_wp2
        go_roundw
        case rel =>
          refine ⟨j + 1, hJ3, ?_⟩
          have hij := HE.out.2.2
          by_cases h0 : i = 0
          · subst h0; exact .inr ⟨by omega, by simp⟩
          · exact .inl ⟨i - 1, by omega, by congr 1; omega⟩
        case measure => simp [intOf]
      · gi_wp2
        refine bodyPost_ret (results_none rfl _ _ _) rfl ?_
        exact ⟨⟨_, rfl⟩, .inr ⟨_, (i, v), _, HE.out.1, by rw [← HE.out.2.1]; exact hJ3⟩⟩
    · gi_wp2
      go_end0
      refine ⟨⟨_, rfl⟩, .inl ?_⟩
      rw [List.take_of_length_le (by simp [back])] at hJ
      exact hJ
theorem backward_calls {w : World} {a : Option Addr} {n c : Nat} : Calls Tryz.prog 136 #[.slice a n c] w fun e w' => e = .returned (.func (.func 166) #[] #[.pointer (some ⟨w.heap.size, 0, none⟩)]) ∧ w' = w.alloc (boxO (.slice a n c) 36) := by
  go_enter Tryz.func136, Tryz.ntmps136
  go_wp2
  go_ret
  exact ⟨rfl, rfl⟩
/-- A block of the store's, as it lies in memory. -/
def rbV (b : Rb) : Array Value := (#[.int .i64 b.head, .int .u32 b.count] : Array Value) ++ (ints .i64 b.kinds ++ (b.pages.map fun p => (pgV p).toList).flatten.toArray)
theorem rbV_kind {b : Rb} (h : b.kinds.length = 8) (i : Nat) (hi : i < 8) : (rbV b)[2 + i]? = some (.int .i64 (b.kinds.getD i 0)) := by
  unfold rbV
  rw [Array.getElem?_append_right (by simp), show 2 + i - (#[Value.int .i64 b.head, .int .u32 b.count] : Array Value).size = i by simp, ints_at' (by omega)]
theorem rbV_head (b : Rb) : (rbV b)[0]? = some (.int .i64 b.head) := by unfold rbV; rw [Array.getElem?_append_left (by simp)]; rfl
theorem rbV_count (b : Rb) : (rbV b)[1]? = some (.int .u32 b.count) := by unfold rbV; rw [Array.getElem?_append_left (by simp)]; rfl
def nextB (b : Rb) : Int := if b.head ≠ 1 then -1 else match (back b.kinds).find? (fun x => decide (x.2 ≠ 0)) with | none => 0 | some x => if x.1 + 1 = 8 then -1 else (x.1 : Int) + 1
theorem next_no (b : Rb) (h : b.head ≠ 1) (w : World) : Calls Tryz.prog 98 #[.agg (rbV b)] w fun e w' => e = .returned (.int .i64 (nextB b)) ∧ Below w.heap.size w w' := by
  have m0 : (rbV b)[0]? = some (.int .i64 b.head) := rbV_head b
  have e : nextB b = -1 := by unfold nextB; rw [if_pos h]
  rw [e]
  generalize b.head = x at m0 h
  have hx : (x == 1) = false := by simp [h]
  have hx2 : (x != 1) = true := by simp [h]
  clear h e
  go_enter Tryz.func98, Tryz.ntmps98
  go_wp2
  exact bodyPost_ret (v := .int .i64 (-1)) (by simp [results, Tryz.results98, go_sem]) rfl ⟨rfl, ((Below.refl _ _).alloc (Nat.le_refl _) _).alloc (by simp) _⟩
set_option maxRecDepth 100000 in
theorem next_yes (b : Rb) (h : b.head = 1) (hk : b.kinds.length = 8) (w : World) : Calls Tryz.prog 98 #[.agg (rbV b)] w fun e w' => e = .returned (.int .i64 (nextB b)) ∧ Below w.heap.size w w' := by
  have m0 : (rbV b)[0]? = some (.int .i64 1) := by rw [← h]; exact rbV_head b
  have HH := _root_.Go.Lib.hid (And.intro h hk)
  clear h hk
  refine (callsIn_wide (n := 9)).1 ?_
  refine callsIn_of_wp_marks Tryz.func98 rfl trivial ?_ rfl
  simp only [Tryz.ntmps98, List.size_toArray, List.length_cons, List.length_nil, Nat.reduceAdd, Nat.reduceSub, Array.replicate_succ, Array.replicate_zero, List.push_toArray, List.append_toArray, List.nil_append, List.cons_append]
  gi_wp2_with fail
  refine ⟨trivial, ?_⟩
  refine (callsIn_wide.2 backward_calls).mono ?_
  rintro e w1 ⟨rfl, rfl⟩
  have hk := ((KW.start (Below.refl w.heap.size w) (Nat.le_refl _)).push2 (.cells (rbV b) 140) (boxO (.int .i64 0) 3)).push (boxO (.slice (some ⟨w.heap.size, 2, none⟩) 8 8) 36)
  rw [World.size_alloc, World.size_alloc] at hk
  have hk2 : KW w.heap.size w (backK (w.heap.size + 1 + 1) w.heap.size 8 (rbV b) ++ [] ++ [(w.heap.size + 1, boxO (.int .i64 0) 3)]) _ := hk.perm ((List.Perm.swap _ _ []).cons _)
  have HK := _root_.Go.Lib.hid hk2
  clear hk hk2
  gi_wp2_with fail
  refine wpIn_range_kw (n := 7) (gf := 166) (lb := #[.pointer (some ⟨w.heap.size + 1 + 1, 0, none⟩)]) rfl (enters_of Tryz.func166 (by kernel_rfl) rfl) (back_iter (bx := w.heap.size + 1 + 1) (gb := w.heap.size) (c := 8) (cs := rbV b) (ks := b.kinds) (fun i hi => rbV_kind HH.out.2 i hi)) (fun _ => rfl)
    (fun pre (s : Int) => s = 0 ∧ ∀ x ∈ pre, x.2 = 0) (fun c pre s => c = .ret ∧ ∃ p x, pre = p ++ [x] ∧ (∀ y ∈ p, y.2 = 0) ∧ x.2 ≠ 0 ∧ s = (if x.1 + 1 = 8 then -1 else (x.1 : Int) + 1)) (fun s => [(w.heap.size + 1, boxO (.int .i64 s) 3)])
    (fun x a' Kx => Kx = [] ∧ a' = { tmps := #[.agg (rbV b), .pointer (some ⟨w.heap.size, 0, none⟩), .pointer (some ⟨w.heap.size + 1, 0, none⟩), .int .i64 (x.1 : Int), .int .i64 x.2, .pointer (some ⟨w.heap.size, 0, none⟩), .int .i64 1, .bool false, .pointer (some ⟨w.heap.size, 2, none⟩), .slice (some ⟨w.heap.size, 2, none⟩) 8 8, .func (.func 166) #[] #[.pointer (some ⟨w.heap.size + 1 + 1, 0, none⟩)], .int .i64 (x.1 : Int), .int .i64 x.2, undef, undef, undef, undef, undef, undef, undef], defers := [] }) (K0 := []) ⟨0, ⟨rfl, fun _ h => (by cases h)⟩, HK.out⟩ ?assign ?body ?done ?stop
  case assign =>
    rintro l ⟨i, v⟩ pre K1 s W hk
    have HK := _root_.Go.Lib.hid hk
    clear hk
    simp only [encP2]
    gi_wp2
    exact ⟨[], by simp, HK.out⟩
  case body =>
    rintro l pre ⟨i, v⟩ post a' Kx K1 s W hf ⟨rfl, rfl⟩ ⟨rfl, hp⟩ _ hk
    have hi : i < 8 := by
      have : (i, v) ∈ back b.kinds := by rw [hf]; simp
      simp [back] at this
      omega
    have mc : W.cell? ⟨w.heap.size + 1, 0, none⟩ = some (.int .i64 0) := cell_at (hk.get (g := w.heap.size + 1) (o := boxO (.int .i64 0) 3) (by simp)) 0
    have fc : W.frozen? ⟨w.heap.size + 1, 0, none⟩ = false := free_at (hk.get (g := w.heap.size + 1) (o := boxO (.int .i64 0) 3) (by simp)) 0
    have hs : ∀ z, KW w.heap.size w (backK (w.heap.size + 1 + 1) w.heap.size 8 (rbV b) ++ ([] ++ K1) ++ [(w.heap.size + 1, boxO (.int .i64 z) 3)]) (W.setCell ⟨w.heap.size + 1, 0, none⟩ (.int .i64 z)) := fun z =>
      KW.into (p := (w.heap.size + 1, boxO (.int .i64 z) 3)) (KW.cell (vs := #[.int .i64 z]) (hk.perm List.perm_middle) rfl)
    have HS := _root_.Go.Lib.hid (And.intro hs (And.intro hk (And.intro hp hf)))
    clear hs hk hf hp
    by_cases hv : v = 0
    · subst hv
      gi_wp2
      obtain ⟨_, hk, hp, _⟩ := HS.out
      exact ⟨0, ⟨rfl, fun y hy => by rcases List.mem_append.1 hy with hy | hy; exact hp y hy; rw [List.mem_singleton] at hy; rw [hy]⟩, hk⟩
    · have h1 : (v == 0) = false := by simp [hv]
      have h2 : (i = 7) ∨ i < 7 := by omega
      rcases h2 with rfl | h2
      · gi_wp2
        exact ⟨-1, ⟨rfl, pre, (7, v), rfl, HS.out.2.2.1, hv, rfl⟩, HS.out.1 (-1)⟩
      · have h3 : ((i : Int) + 1 == 8) = false := by simp; omega
        gi_wp2
        exact ⟨(i : Int) + 1, ⟨rfl, pre, (i, v), rfl, HS.out.2.2.1, hv, by simp; omega⟩, HS.out.1 _⟩
  case done =>
    rintro D s W ⟨rfl, hp⟩ hk
    have mc : W.cell? ⟨w.heap.size + 1, 0, none⟩ = some (.int .i64 0) := cell_at (hk.get (g := w.heap.size + 1) (o := boxO (.int .i64 0) 3) (by simp)) 0
    have fc : W.frozen? ⟨w.heap.size + 1, 0, none⟩ = false := free_at (hk.get (g := w.heap.size + 1) (o := boxO (.int .i64 0) 3) (by simp)) 0
    have e : nextB b = 0 := by
      unfold nextB
      rw [if_neg (by rw [HH.out.1]; simp), List.find?_eq_none.2 (fun x hx => by simp [hp x hx])]
    have hs := KW.into (p := (w.heap.size + 1, boxO (.int .i64 0) 3)) (KW.cell (i := 0) (x := .int .i64 0) (vs := #[.int .i64 0]) (hk.perm List.perm_middle) rfl)
    have HS := _root_.Go.Lib.hid (And.intro hs (And.intro hp e))
    clear hk hp e hs
    gi_wp2
    have h2 := HS.out.1
    generalize W.setCell _ _ = W2 at h2 ⊢
    refine ⟨by simp, .inl ⟨_, _, rfl, run_takeDeferred (h2.get (g := D) (o := .deferred (some [])) (by simp)), ?_⟩⟩
    have h3 : KW w.heap.size w _ (W2.putObj D (.deferred none)) := KW.putMid (L := []) h2
    have mc : (W2.putObj D (.deferred none)).cell? ⟨w.heap.size + 1, 0, none⟩ = some (.int .i64 0) := cell_at (h3.get (g := w.heap.size + 1) (o := boxO (.int .i64 0) 3) (by simp)) 0
    exact ⟨.int .i64 0, by simp [results, Tryz.results98, go_sem, mc], by rw [HS.out.2.2], h3.bel⟩
  case stop =>
    rintro D c pre x post s W hf ⟨rfl, p, y, e, hp, hy, hs⟩ hk
    have e2 : nextB b = s := by
      obtain ⟨e3, e4⟩ := List.append_inj' e rfl
      subst e3
      have e5 : x = y := by simpa using e4
      subst e5
      unfold nextB
      rw [if_neg (by rw [HH.out.1]; simp), hf, List.find?_append, List.find?_eq_none.2 (fun z hz => by simp [hp z hz])]
      simp [hy, hs]
    have HS := _root_.Go.Lib.hid (And.intro hk e2)
    clear hk e2 hf e hp hy hs
    gi_wp2
    have h2 := HS.out.1
    refine ⟨by simp, .inl ⟨_, _, rfl, run_takeDeferred (h2.get (g := D) (o := .deferred (some [])) (by simp)), ?_⟩⟩
    have h3 : KW w.heap.size w _ (W.putObj D (.deferred none)) := KW.putMid (L := []) h2
    have mc : (W.putObj D (.deferred none)).cell? ⟨w.heap.size + 1, 0, none⟩ = some (.int .i64 s) := cell_at (h3.get (g := w.heap.size + 1) (o := boxO (.int .i64 s) 3) (by simp)) 0
    exact ⟨.int .i64 s, by simp [results, Tryz.results98, go_sem, mc], by rw [HS.out.2], h3.bel⟩
theorem next_calls (b : Rb) (hk : b.kinds.length = 8) (w : World) : Calls Tryz.prog 98 #[.agg (rbV b)] w fun e w' => e = .returned (.int .i64 (nextB b)) ∧ Below w.heap.size w w' := by
  by_cases h : b.head = 1
  · exact next_yes b h hk w
  · exact next_no b h w
end Go.Proofs.YtlcbilknfjdceaaGreatDoor
end
section
/-
  Loads and stores of many cells; a scan's block in memory.
-/
set_option linter.unusedVariables false
set_option linter.unusedSimpArgs false
namespace Go.Proofs.YtlcbilknfjdceaaGreatDoor
open Go.RowKit Go.Lib
namespace Mem
open Go
section
variable {P : Program} {w : World}

def aggB : TypeDesc → Bool
  | .struct _ => true
  | .array _ _ => true
  | _ => false

theorem run_isAgg {ty : TypeId} {d : TypeDesc} (hu : P.underlying ty = some d) : (isAgg ty).run P w = .ok (aggB d) w := by
  unfold isAgg
  rw [Sem.run_bind, run_underlying hu w]
  cases d <;> rfl

theorem addr_add (g o j : Nat) : (⟨g, o, none⟩ : Addr).add j = ⟨g, o + j, none⟩ := by unfold Addr.add; split <;> simp_all

theorem run_loadAt_cell {ty : TypeId} {d : TypeDesc} {g i : Nat} {cs : Array Value} {t : TypeId} {fr : Nat × Nat} {v : Value} (hd : aggB d = false) (hu : P.underlying ty = some d)
    (hg : w.heap[g]? = some (.cells cs t fr)) (hv : cs[i]? = some v) : (Instr.loadAt ty (.pointer (some ⟨g, i, none⟩))).run P w = .ok v w := by
  have hc : w.cell? ⟨g, i, none⟩ = some v := by rw [cell_of_row w g i cs t fr hg, hv]
  simp [Instr.loadAt, Instr.sureAddr, loadVar, Sem.run_bind, run_isAgg hu, hd, hc]

theorem run_loadAt_part {ty : TypeId} {d : TypeDesc} {g i : Nat} {cs vs : Array Value} {t : TypeId} {fr : Nat × Nat} (hd : aggB d = true) (hu : P.underlying ty = some d)
    (hg : w.heap[g]? = some (.cells cs t fr)) (hi : (P.info? ty).map (·.size) = some vs.size) (hv : (cs.toList.drop i).take vs.size = vs.toList) : (Instr.loadAt ty (.pointer (some ⟨g, i, none⟩))).run P w = .ok (.agg vs) w := by
  have hl : (loadCells ⟨g, i, none⟩ vs.toList.length).run P w = .ok vs.toList.toArray w :=
    run_loadCells_list (P := P) w ⟨g, i, none⟩ vs.toList (fun j v hj => by
      rw [addr_add, cell_of_row w g (i + j) cs t fr hg]
      rw [← hv, List.getElem?_take] at hj
      split at hj
      · rw [List.getElem?_drop] at hj
        simpa using hj
      · cases hj)
  cases hq : P.info? ty with
  | none => simp [hq] at hi
  | some q =>
    have hs : q.size = vs.size := by simpa [hq] using hi
    simp only [Array.length_toList, Array.toArray_toList] at hl
    simp [Instr.loadAt, Instr.sureAddr, loadVar, Sem.run_bind, run_isAgg hu, hd, sizeOf, typeInfo, hq, hs, hl]

theorem run_storeAt_part {ty : TypeId} {g o : Nat} {t : TypeId} {cur vs new : Array Value} {w' : World} (hg : w.heap[g]? = some (.cells cur t (0, 0))) (hi : (P.info? ty).map (·.size) = some vs.size) (hl : o + vs.size ≤ cur.size)
    (hone : vs.toList.all Value.oneCell' = true) (hn : (cur.toList.take o ++ vs.toList ++ cur.toList.drop (o + vs.size)).toArray = new) (hw : w.setRow g new = w') :
    (Instr.storeAt ty (.pointer (some ⟨g, o, none⟩)) (.agg vs)).run P w = .ok () w' := by
  have hst := run_storeCells_at P g o t vs.toList 0 cur w hg (by simpa using hl) (fun v hv => List.all_eq_true.1 hone v hv)
  simp only [Nat.add_zero, Array.length_toList] at hst
  rw [hn, hw] at hst
  cases hq : P.info? ty with
  | none => simp [hq] at hi
  | some i =>
    have hsz : i.size = vs.size := by simpa [hq] using hi
    simp [Instr.storeAt, Instr.sureAddr, storeVar, sizeOf, typeInfo, hq, hsz, Value.cells, hst]

theorem run_storeAt_cell {ty : TypeId} {g o : Nat} {t : TypeId} {cur new : Array Value} {v : Value} {w' : World} (hg : w.heap[g]? = some (.cells cur t (0, 0))) (hi : (P.info? ty).map (·.size) = some 1) (hl : o < cur.size)
    (hone : v.oneCell' = true) (hn : (cur.toList.take o ++ [v] ++ cur.toList.drop (o + 1)).toArray = new) (hw : w.setRow g new = w') :
    (Instr.storeAt ty (.pointer (some ⟨g, o, none⟩)) v).run P w = .ok () w' := by
  have hst := run_storeCells_at P g o t [v] 0 cur w hg (by simp; omega) (fun x hx => by simp only [List.mem_singleton] at hx; rw [hx]; exact hone)
  simp only [Nat.add_zero, List.length_singleton] at hst
  rw [hn, hw] at hst
  have hc : v.cells = #[v] := by cases v <;> first | rfl | cases hone
  cases hq : P.info? ty with
  | none => simp [hq] at hi
  | some i =>
    have hsz : i.size = 1 := by simpa [hq] using hi
    simp [Instr.storeAt, Instr.sureAddr, storeVar, sizeOf, typeInfo, hq, hsz, hc, hst]
end

section
variable {P : Program} {ops : Array Oper} {rest : List Oper} {a : Act} {w : World} {Q : Exit → Act → World → Prop} {x y : Operand} {dst : Option Tmp} {t' : TypeId} {ps : String} {af : Array Edge} {F : Fence} {n : Nat}

theorem wpList_run {o : Oper} {v : Value} {w' : World} (hgd : o.guard = none) (hr : (execOp a.eval o).run P w = .ok (.value v) w') (h : wpList P ops Q rest (a.put o.dst v) w') : wpList P ops Q (o :: rest) a w := by
  refine wpList_plain hgd fun K hK => ?_
  unfold Oper.wp
  rw [hr]
  exact hK _ _ h
theorem wpList_skip {o : Oper} {w' : World} (hgd : o.guard = none) (hr : (execOp a.eval o).run P w = .ok .skip w') (h : wpList P ops Q rest (a.put o.dst undef) w') : wpList P ops Q (o :: rest) a w := by
  refine wpList_plain hgd fun K hK => ?_
  unfold Oper.wp
  rw [hr]
  exact hK _ _ h
theorem wpList_run_if {o : Oper} {v : Value} {w' : World} (hw : Region.wanted o (yielded ops a.tmps) = true) (hr : (execOp a.eval o).run P w = .ok (.value v) w') (h : wpList P ops Q rest (a.put o.dst v) w') : wpList P ops Q (o :: rest) a w := by
  refine BigFrame.wpList_want hw fun K hK => ?_
  unfold Oper.wp
  rw [hr]
  exact hK _ _ h

theorem ex_load {o : Oper} {ty : TypeId} {v1 v : Value} (h : o.op = .load ty x) (hx : a.eval x = v1) (hr : (Instr.loadAt ty v1).run P w = .ok v w) : (execOp a.eval o).run P w = .ok (.value v) w := by
  cases o; simp only at h; subst h
  simp only [execOp, hx, Sem.run_bind, hr]
  rfl
theorem ex_store {o : Oper} {ty : TypeId} {v1 v : Value} {w' : World} (h : o.op = .store ty x y) (hx : a.eval x = v1) (hy : a.eval y = v) (hr : (Instr.storeAt ty v1 v).run P w = .ok () w') : (execOp a.eval o).run P w = .ok .skip w' := by
  cases o; simp only at h; subst h
  simp only [execOp, hx, hy, Sem.run_bind, hr]
  rfl


theorem runIn {o : Oper} {v : Value} {w' : World} (hgd : o.guard = none) (hd : ∀ c, o.op ≠ .defer c) (ha : o.about P w a.eval = none) (hr : (execOp a.eval o).run P w = .ok (.value v) w') (h : wpListIn F n P ops Q rest (a.put o.dst v) w') : wpListIn F n P ops Q (o :: rest) a w := by
  refine wpListIn_plain hgd fun K hK => ⟨fun f hf => (by rw [ha] at hf; cases hf), ?_⟩
  rw [Oper.semAt_eq _ _ _ hd, hr]
  exact hK _ _ h
theorem skipIn {o : Oper} {w' : World} (hgd : o.guard = none) (hd : ∀ c, o.op ≠ .defer c) (ha : o.about P w a.eval = none) (hr : (execOp a.eval o).run P w = .ok .skip w') (h : wpListIn F n P ops Q rest (a.put o.dst undef) w') : wpListIn F n P ops Q (o :: rest) a w := by
  refine wpListIn_plain hgd fun K hK => ⟨fun f hf => (by rw [ha] at hf; cases hf), ?_⟩
  rw [Oper.semAt_eq _ _ _ hd, hr]
  exact hK _ _ h
/-- A load whose run is known. -/
theorem ld (ty : TypeId) {p v : Value} (hx : a.eval x = p) (hr : (Instr.loadAt ty p).run P w = .ok v w) (h : wpList P ops Q rest (a.put dst v) w) : wpList P ops Q ({ dst := dst, op := .load ty x, type := t', pos := ps, after := af, guard := none } :: rest) a w :=
  wpList_run rfl (ex_load rfl hx hr) h
theorem ldIn (ty : TypeId) {p v : Value} (hx : a.eval x = p) (hr : (Instr.loadAt ty p).run P w = .ok v w) (h : wpListIn F n P ops Q rest (a.put dst v) w) : wpListIn F n P ops Q ({ dst := dst, op := .load ty x, type := t', pos := ps, after := af, guard := none } :: rest) a w :=
  runIn rfl (by simp) rfl (ex_load rfl hx hr) h
/-- A store whose run is known. -/
theorem st (ty : TypeId) {p v : Value} {w' : World} (hx : a.eval x = p) (hy : a.eval y = v) (hr : (Instr.storeAt ty p v).run P w = .ok () w') (h : wpList P ops Q rest (a.put dst undef) w') : wpList P ops Q ({ dst := dst, op := .store ty x y, type := t', pos := ps, after := af, guard := none } :: rest) a w :=
  wpList_skip rfl (ex_store rfl hx hy hr) h
theorem stIn (ty : TypeId) {p v : Value} {w' : World} (hx : a.eval x = p) (hy : a.eval y = v) (hr : (Instr.storeAt ty p v).run P w = .ok () w') (h : wpListIn F n P ops Q rest (a.put dst undef) w') : wpListIn F n P ops Q ({ dst := dst, op := .store ty x y, type := t', pos := ps, after := af, guard := none } :: rest) a w :=
  skipIn rfl (by simp) rfl (ex_store rfl hx hy hr) h
end
end Mem
structure Rb8 (b : Rb) : Prop where
  k8 : b.kinds.length = 8
  p8 : b.pages.length = 8
theorem pages_len : ∀ l : List Pg, ((l.map fun p => (pgV p).toList).flatten).length = 7 * l.length := by
  intro l
  induction l with
  | nil => rfl
  | cons p l ih => rw [List.map_cons, List.flatten_cons, List.length_append, ih, List.length_cons]; simp; omega
theorem rbV_size {b : Rb} (h : Rb8 b) : (rbV b).size = 66 := by
  unfold rbV
  rw [Array.size_append, Array.size_append]
  have e : ((b.pages.map fun p => (pgV p).toList).flatten.toArray).size = 56 := by rw [List.size_toArray, pages_len, h.p8]
  rw [e]
  simp [ints, h.k8]
theorem rbV_one (b : Rb) : (rbV b).toList.all Value.oneCell' = true := by
  rw [List.all_eq_true]
  intro v hv
  unfold rbV at hv
  simp only [Array.toList_append, List.mem_append, List.mem_flatten, List.mem_map] at hv
  rcases hv with hv | hv | ⟨l, ⟨p, _, rfl⟩, hv⟩
  · simp at hv; rcases hv with rfl | rfl <;> rfl
  · simp [ints] at hv; obtain ⟨z, _, rfl⟩ := hv; rfl
  · simp at hv; rcases hv with rfl | rfl | rfl | rfl | rfl | rfl | rfl <;> rfl
theorem size140 : (Tryz.prog.info? 140).map (·.size) = some 66 := by kernel_rfl
/-- The blocks of the store, one behind the other. -/
def rowV (bs : List Rb) : List Value := (bs.map fun b => (rbV b).toList).flatten
theorem flat_len' {α : Type} {n : Nat} {l : List (List α)} (h : ∀ x ∈ l, x.length = n) : l.flatten.length = n * l.length := by
  induction l with
  | nil => simp
  | cons x l ih => rw [List.flatten_cons, List.length_append, h x List.mem_cons_self, ih fun y hy => h y (List.mem_cons_of_mem _ hy), List.length_cons, Nat.mul_succ]; omega
theorem flatN {α : Type} {n : Nat} {l : List (List α)} (h : ∀ x ∈ l, x.length = n) : ∀ (i : Nat), i < l.length → (l.flatten.drop (i * n)).take n = l.getD i [] := by
  induction l with
  | nil => intro i hi; cases hi
  | cons x l ih =>
    intro i hi
    have hx := h x List.mem_cons_self
    cases i with
    | zero => rw [Nat.zero_mul, List.drop_zero, List.flatten_cons, List.take_append_of_le_length (by omega), List.take_of_length_le (by omega)]; rfl
    | succ i =>
      rw [List.flatten_cons, Nat.succ_mul, Nat.add_comm, ← hx, ← List.drop_drop, List.drop_left, hx, ih (fun y hy => h y (List.mem_cons_of_mem _ hy)) i (by simpa using hi)]
      rfl
theorem rowV_at {bs : List Rb} (h : ∀ b ∈ bs, Rb8 b) {i : Nat} (hi : i < bs.length) (sp : List Value) : ((rowV bs ++ sp).drop (i * 66)).take 66 = (rbV (bs.getD i default)).toList := by
  have hl : ∀ x ∈ bs.map (fun b => (rbV b).toList), x.length = 66 := by
    intro x hx
    obtain ⟨b, hb, rfl⟩ := List.mem_map.1 hx
    rw [Array.length_toList]
    exact rbV_size (h b hb)
  have hf : (rowV bs).length = 66 * bs.length := by
    unfold rowV
    rw [flat_len' hl, List.length_map]
  rw [List.drop_append_of_le_length (by rw [hf]; have := Nat.mul_le_mul_left 66 (Nat.le_of_lt hi); omega), List.take_append_of_le_length (by rw [List.length_drop, hf]; have := Nat.mul_le_mul_left 66 (show i + 1 ≤ bs.length from hi); omega)]
  unfold rowV
  rw [flatN hl i (by simpa using hi), List.getD_eq_getElem?_getD, List.getElem?_map, List.getD_eq_getElem?_getD, List.getElem?_eq_getElem hi]
  rfl
set_option maxRecDepth 100000 in
theorem load140 {b : Rb} (h : Rb8 b) {w : World} {g o : Nat} {t : TypeId} {fr : Nat × Nat} {cs : Array Value} (hg : w.heap[g]? = some (.cells cs t fr)) (hv : (cs.toList.drop o).take 66 = (rbV b).toList) : (Instr.loadAt 140 (.pointer (some ⟨g, o, none⟩))).run Tryz.prog w = .ok (.agg (rbV b)) w :=
  Mem.run_loadAt_part (by rfl) Tryz.underlying140 hg (by rw [size140, rbV_size h]) (by rw [rbV_size h]; exact hv)
theorem load140_0 {b : Rb} (h : Rb8 b) {w : World} {g : Nat} {t : TypeId} {fr : Nat × Nat} (hg : w.heap[g]? = some (.cells (rbV b) t fr)) : (Instr.loadAt 140 (.pointer (some ⟨g, 0, none⟩))).run Tryz.prog w = .ok (.agg (rbV b)) w :=
  load140 h hg (by rw [List.drop_zero, List.take_of_length_le (by rw [Array.length_toList, rbV_size h]; exact Nat.le_refl _)])
def emptyB (b : Rb) : Bool := decide (nextB b = 0)
set_option maxRecDepth 100000 in
theorem empty_calls (b : Rb) (h : Rb8 b) (w : World) : Calls Tryz.prog 133 #[.agg (rbV b)] w fun e w' => e = .returned (.bool (emptyB b)) ∧ Below w.heap.size w w' := by
  have hl := load140_0 h (g := w.heap.size) (heap_alloc_new w (.cells (rbV b) 140))
  have hc := next_calls b h.k8 (w.alloc (.cells (rbV b) 140))
  have HC := _root_.Go.Lib.hid (And.intro hc hl)
  clear hc hl
  go_enter Tryz.func133, Tryz.ntmps133
  go_wp2_with ((with_reducible apply Mem.ld 140); rfl; exact HC.out.2)
  refine HC.out.1.mono ?_
  rintro e w' ⟨rfl, hb⟩
  have HB := _root_.Go.Lib.hid hb
  clear hb HC
  have e : (nextB b == 0) = emptyB b := by unfold emptyB; by_cases h : nextB b = 0 <;> simp [h]
  generalize nextB b = z at e
  go_wp2_with fail
  go_ret
  refine ⟨by rw [← e]; rfl, ((Below.refl _ _).alloc (Nat.le_refl _) _).trans (HB.out.mono (by simp))⟩
end Go.Proofs.YtlcbilknfjdceaaGreatDoor
end
