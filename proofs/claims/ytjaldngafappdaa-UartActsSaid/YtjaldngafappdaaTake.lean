/-
  take and state: what they tell, and what they leave.
-/
import Derived.Test.YtjaldngafappdaaState
import Derived.Below
set_option linter.unusedVariables false
set_option linter.unusedSimpArgs false
namespace Go.Proofs.Ytjaldngafappdaa
open Go.RowKit Go.Lib

/-- What a call on the uart at block b leaves of the rest. -/
structure Left (B b : Nat) (w w' : World) : Prop where
  below : Below B w w'
  kept : OthersKept 5 (some b) w w'

theorem Left.refl (B b : Nat) (w : World) : Left B b w w := ⟨Below.refl _ _, OthersKept.refl _ _ _⟩
theorem Left.trans {B b : Nat} {w w1 w2 : World} (h : Left B b w w1) (k : Left B b w1 w2) : Left B b w w2 := ⟨h.below.trans k.below, h.kept.trans k.kept⟩
theorem Left.drew {B b : Nat} {w w1 : World} (h : Left B b w w1) : Left B b w w1.drew := ⟨h.below.drew, h.kept.drew⟩
theorem Left.setCell {B b i : Nat} {w w1 : World} (h : Left B b w w1) (hb : B ≤ b) (v : Value) : Left B b w (w1.setCell ⟨b, i, none⟩ v) := ⟨h.below.setCell hb v, h.kept.setCell _ rfl v⟩

theorem Row.drew {e : TypeId} {base : Nat} {v : Value} {xs : List Value} {w : World} (h : Row e base v xs w) : Row e base v xs w.drew := h.keep fun _ _ _ h => h
theorem Row.setCell {e : TypeId} {base b i : Nat} {v u : Value} {xs : List Value} {w : World} (h : Row e base v xs w) (hb : v.ownBlock ≠ some b) : Row e base v xs (w.setCell ⟨b, i, none⟩ u) :=
  h.keep fun g hg o ho => by rw [heap_setCell_other w ⟨b, i, none⟩ g u (fun e => hb (by rw [hg, e]))]; exact ho

theorem ownsRow_keep {w w' : World} {base : Nat} {e : TypeId} {v : Value} {n : Nat} {xs : List Value} (h : w.ownsRow base e 1 v n xs) (hk : ∀ g, v.ownBlock = some g → ∀ o, w.heap[g]? = some o → w'.heap[g]? = some o) : w'.ownsRow base e 1 v n xs := by
  rcases h with ⟨h0, h | ⟨g, cap, cur, rfl, hb, hg, h1⟩⟩
  · exact ⟨h0, .inl h⟩
  · exact ⟨h0, .inr ⟨g, cap, cur, rfl, hb, hk g rfl _ hg, h1⟩⟩
theorem ownsRow_block {w : World} {base : Nat} {e : TypeId} {v : Value} {n : Nat} {xs : List Value} (h : w.ownsRow base e 1 v n xs) {g : Nat} (hv : v.ownBlock = some g) : base ≤ g ∧ ∃ cur, w.heap[g]? = some (.cells cur e (0, 0)) := by
  rcases h with ⟨_, ⟨rfl, _⟩ | ⟨g', cap, cur, rfl, hb, hg, _⟩⟩
  · cases hv
  · have : g' = g := by simpa [Value.ownBlock] using hv
    subst this
    exact ⟨hb, _, hg⟩

section
variable {B b : Nat} {cv pv bv : Value} {S : Ua} {w : World}
theorem IsUx.came_far (h : IsUx B b cv pv bv S w) : cv.ownBlock ≠ some b := fun e => by
  obtain ⟨_, cur, hc⟩ := h.came.block e
  rw [h.row] at hc
  cases hc
theorem IsUx.went_far (h : IsUx B b cv pv bv S w) : bv.ownBlock ≠ some b := fun e => by
  obtain ⟨_, cur, hc⟩ := ownsRow_block h.went e
  rw [h.row] at hc
  cases hc
theorem IsUx.drew (h : IsUx B b cv pv bv S w) : IsUx B b cv pv bv S w.drew := ⟨h.at_b, h.row, h.came.drew, ownsRow_keep h.went fun _ _ _ h => h, h.addr, h.apart, h.empt⟩
theorem IsUx.free (h : IsUx B b cv pv bv S w) (i : Nat) : w.frozen? ⟨b, i, none⟩ = false := by simp [World.frozen?, h.row]
theorem IsUx.cell (h : IsUx B b cv pv bv S w) (i : Nat) : w.cell? ⟨b, i, none⟩ = (uRow cv pv bv S.r S.ov)[i]? := cell_at h.row i

/-- A store to one of its cells that is neither came nor the builder's. -/
theorem IsUx.put (h : IsUx B b cv pv bv S w) (i : Nat) (u : Value) (S' : Ua) (hr : (uRow cv pv bv S.r S.ov).setIfInBounds i u = uRow cv pv bv S'.r S'.ov) (hc : S'.c = S.c) (ho : S'.o = S.o) : IsUx B b cv pv bv S' (w.setCell ⟨b, i, none⟩ u) :=
  ⟨h.at_b, by rw [heap_setCell_same w b i _ 55 u h.row, hr], by rw [hc]; exact h.came.setCell h.came_far, by
    rw [ho]; exact ownsRow_keep h.went fun g hg o hx => by rw [heap_setCell_other w ⟨b, i, none⟩ g u (fun e => h.went_far (by rw [hg, e]))]; exact hx, h.addr, h.apart, by rw [ho]; exact h.empt⟩

/-- A store to came. -/
theorem IsUx.putCame (h : IsUx B b cv pv bv S w) (cv' : Value) (c' : List UInt8) (hc : Row 5 B cv' (bcells c') w) (hap : ∀ g, cv'.ownBlock = some g → bv.ownBlock = some g → False) : IsUx B b cv' pv bv { S with c := c' } (w.setCell ⟨b, 0, none⟩ cv') := by
  have hfar : cv'.ownBlock ≠ some b := fun e => by
    obtain ⟨_, cur, hc⟩ := hc.block e
    rw [h.row] at hc
    cases hc
  exact ⟨h.at_b, by rw [heap_setCell_same w b 0 _ 55 cv' h.row]; rfl, hc.setCell hfar, ownsRow_keep h.went fun g hg o ho => by rw [heap_setCell_other w ⟨b, 0, none⟩ g cv' (fun e => h.went_far (by rw [hg, e]))]; exact ho, h.addr, hap, h.empt⟩
end

theorem take_none (b : Nat) (a : Option Addr) (cap : Nat) (w : World) (hs : w.cell? ⟨b, 0, none⟩ = some (.slice a 0 cap)) : Calls Try.prog 21 #[.pointer (some ⟨b, 0, none⟩)] w fun e w' => e = .returned (.int .u32 0) ∧ w = w' := by
  go_enter Try.func21, Try.ntmps21
  go_wp2
  go_ret
  exact ⟨rfl, rfl⟩
theorem take_one (b g off n cap : Nat) (x : Int) (w : World) (hx : 0 ≤ x ∧ x < 256) (hs : w.cell? ⟨b, 0, none⟩ = some (.slice (some ⟨g, off, none⟩) (n + 1) cap)) (hcap : n + 1 ≤ cap) (hm : cap ≤ maxLen) (hg : w.cell? ⟨g, off, none⟩ = some (.int .u8 x)) (hf : w.frozen? ⟨b, 0, none⟩ = false) :
    Calls Try.prog 21 #[.pointer (some ⟨b, 0, none⟩)] w fun e w' => e = .returned (.int .u32 x) ∧ w' = (w.setCell ⟨b, 0, none⟩ (.slice (if cap = 1 then some ⟨g, off, none⟩ else some ⟨g, off + 1, none⟩) n (cap - 1))).drew := by
  obtain ⟨x1, x2⟩ := hx
  unfold maxLen at hm
  have hw : IntKind.u32.wrap x = x := by simp [IntKind.wrap_u32']; omega
  go_enter Try.func21, Try.ntmps21
  go_wp2
  go_region
  go_wp2
  all_goals
    go_ret
    exact ⟨rfl, rfl⟩

/-- The first byte that came, if any. -/
theorem take_calls {B b : Nat} {S : Ua} {w : World} (h : IsU B b S w) :
    Calls Try.prog 21 #[.pointer (some ⟨b, 0, none⟩)] w fun e w' => e = .returned (.int .u32 ((S.c.headD 0).toNat : Int)) ∧ IsU B b { S with c := S.c.tail } w' ∧ Left B b w w' := by
  obtain ⟨cv, pv, bv, hU⟩ := h
  obtain ⟨c, o, r, ov⟩ := S
  cases c with
  | nil =>
    obtain ⟨a, cap, rfl⟩ := hU.came.form
    have h0 := hU.cell 0
    refine (take_none b a cap w h0).mono ?_
    rintro e w' ⟨rfl, rfl⟩
    exact ⟨rfl, ⟨_, _, _, hU⟩, Left.refl _ _ _⟩
  | cons x xs =>
    have hR := hU.came
    obtain ⟨g, off, cap, rfl, h1, h2⟩ := Row.head (x := .int .u8 (x.toNat : Int)) (xs := bcells xs) hR
    have h0 := hU.cell 0
    have hR' := hR
    rcases hR' with ⟨h, _⟩ | ⟨g', off', cap', cur, hv, hb, hg, h3, h4, h5, h6⟩
    · cases h
    · injection hv with ha hn hcp
      subst hcp
      have h7 : xs.length + 1 ≤ cap := by simpa [bcells_length] using h3
      rw [bcells_length] at h0
      refine (take_one b g off xs.length cap (x.toNat : Int) w (by have := x.toNat_lt; omega) h0 h7 h4 h2 (hU.free 0)).mono ?_
      rintro e w' ⟨rfl, rfl⟩
      have ht : Row 5 B (.slice (if cap = 1 then some ⟨g, off, none⟩ else some ⟨g, off + 1, none⟩) xs.length (cap - 1)) (bcells xs) w := by
        have := Row.tail (x := .int .u8 (x.toNat : Int)) (xs := bcells xs) (a := ⟨g, off, none⟩) (cap := cap) hR
        rw [bcells_length, Addr.add_lit] at this
        by_cases hcc : cap = 1 <;> simpa [hcc] using this
      refine ⟨rfl, ⟨_, _, _, (hU.putCame _ xs ht (fun k hk => ?_)).drew⟩, ((Left.refl B b w).setCell hU.at_b _).drew⟩
      have : k = g := by by_cases hcc : cap = 1 <;> simp [hcc, Value.ownBlock] at hk <;> exact hk.symm
      subst this
      exact hU.apart k rfl
end Go.Proofs.Ytjaldngafappdaa
