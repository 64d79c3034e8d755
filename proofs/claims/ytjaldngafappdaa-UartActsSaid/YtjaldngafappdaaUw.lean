/-
  A uart among other blocks: what each call leaves of all of it; alive answers true. Conditions: lengths below 2 to the 47.
-/
import Derived.Test.YtjaldngafappdaaAny
set_option linter.unusedVariables false
set_option linter.unusedSimpArgs false
namespace Go.Proofs.Ytjaldngafappdaa
open Go.RowKit Go.Lib

theorem IsU.keep {B b : Nat} {S : Ua} {w w' : World} (h : IsU B b S w) (hk : ∀ (k : Nat) (o : Obj), w.heap[k]? = some o → w'.heap[k]? = some o) : IsU B b S w' := by
  obtain ⟨cv, pv, bv, hU⟩ := h
  exact ⟨cv, pv, bv, hU.at_b, hk _ _ hU.row, hU.came.keep fun g _ o ho => hk g o ho, ownsRow_keep hU.went fun g _ o ho => hk g o ho, hU.addr, hU.apart, hU.empt⟩

abbrev Blocks := List (Nat × Obj)

/-- A uart at b, in state S; below B all is as in W; the blocks of K are as they say. -/
structure UW (B b : Nat) (S : Ua) (W : World) (K : Blocks) (w : World) : Prop where
  u : IsU B b S w
  bel : Below B W w
  size : B ≤ w.heap.size
  kept : ∀ p ∈ K, w.heap[p.1]? = some p.2 ∧ p.1 ≠ b ∧ ∀ c fz, p.2 ≠ .cells c 5 fz

section
variable {B b : Nat} {S S' : Ua} {W w w' : World} {K : Blocks}

theorem UW.left (h : UW B b S W K w) (hu : IsU B b S' w') (hl : Left B b w w') : UW B b S' W K w' :=
  ⟨hu, h.bel.trans hl.below, Nat.le_trans h.size hl.below.size, fun p hp => by
    obtain ⟨h1, h2, h3⟩ := h.kept p hp
    exact ⟨hl.kept p.1 p.2 h1 (fun e => h2 (by injection e)) h3, h2, h3⟩⟩

theorem UW.keep (h : UW B b S W K w) (hk : ∀ (k : Nat) (o : Obj), w.heap[k]? = some o → w'.heap[k]? = some o) (hb : Below B w w') : UW B b S W K w' :=
  ⟨h.u.keep hk, h.bel.trans hb, Nat.le_trans h.size hb.size, fun p hp => by
    obtain ⟨h1, h2, h3⟩ := h.kept p hp
    exact ⟨hk _ _ h1, h2, h3⟩⟩

theorem UW.drew (h : UW B b S W K w) : UW B b S W K w.drew := h.keep (fun _ _ h => h) (Below.refl _ _).drew
theorem UW.alloc (h : UW B b S W K w) (o : Obj) : UW B b S W K (w.alloc o) :=
  h.keep (fun k x hx => by rw [Below.heap_alloc w o k (lt_of_heap hx)]; exact hx) ((Below.refl _ _).alloc h.size o)
theorem UW.grown (h : UW B b S W K w) (hb : Below w.heap.size w w') : UW B b S W K w' :=
  h.keep (fun k x hx => by rw [hb.block k (lt_of_heap hx)]; exact hx) (hb.mono h.size)
theorem UW.only (h : UW B b S W K w) {K' : Blocks} (hK : ∀ p ∈ K', p ∈ K) : UW B b S W K' w := ⟨h.u, h.bel, h.size, fun p hp => h.kept p (hK p hp)⟩
theorem UW.push (h : UW B b S W K w) {k : Nat} {o : Obj} (hk : w.heap[k]? = some o) (hb : k ≠ b) (ho : ∀ c fz, o ≠ .cells c 5 fz) : UW B b S W ((k, o) :: K) w :=
  ⟨h.u, h.bel, h.size, fun p hp => by
    rcases List.mem_cons.1 hp with rfl | hp
    · exact ⟨hk, hb, ho⟩
    · exact h.kept p hp⟩

theorem new_u (K : Blocks) (hb : Below B W w) (hB : B ≤ w.heap.size) (hK : ∀ p ∈ K, w.heap[p.1]? = some p.2 ∧ ∀ c fz, p.2 ≠ .cells c 5 fz) :
    Calls Try.prog 10 #[] w fun e w' => e = .returned (.pointer (some ⟨w.heap.size, 0, none⟩)) ∧ UW B w.heap.size S0 W K w' := by
  refine (new_calls B w hB).mono ?_
  rintro e w' ⟨rfl, h1, h2, h3⟩
  refine ⟨rfl, h1, hb.trans h2, Nat.le_trans hB h2.size, fun p hp => ?_⟩
  obtain ⟨h4, h5⟩ := hK p hp
  exact ⟨h3 _ _ h4, fun e => by have := lt_of_heap h4; omega, h5⟩

theorem get_u (h : UW B b S W K w) (off v : Int) (t : Bool) (S' : Ua) (ho : 0 ≤ off) (hv : gV S off = v) (ht : (!badO off) = t) (hS : gS S off = S') :
    Calls Try.prog 11 #[.pointer (some ⟨b, 0, none⟩), .int .u32 off] w fun e w' => e = .returned (.tuple #[.int .u32 v, .bool t]) ∧ UW B b S' W K w' := by
  refine (get_any h.u off ho).mono ?_
  rintro e w' ⟨rfl, h1, h2⟩
  refine ⟨by rw [gE, hv, ht], ?_⟩
  rw [← hS]
  exact h.left h1 h2

theorem set_u (h : UW B b S W K w) (off v : Int) (c : UInt8) (t : Bool) (S' : Ua) (ho : 0 ≤ off) (hv : bits .and .u32 v 255 = (c.toNat : Int)) (hlen : S.o.length ≤ 1000) (ht : (!badO off) = t) (hS : sS S off c = S') :
    Calls Try.prog 14 #[.pointer (some ⟨b, 0, none⟩), .int .u32 off, .int .u32 v] w fun e w' => e = .returned (.bool t) ∧ UW B b S' W K w' := by
  refine (set_any h.u off v ho c hv (by omega) h.size).mono ?_
  rintro e w' ⟨rfl, h1, h2⟩
  refine ⟨by rw [ht], ?_⟩
  rw [← hS]
  exact h.left h1 h2

theorem feed_u (h : UW B b S W K w) (s : ByteArray) (S' : Ua) (hc : S.c.length ≤ 16) (hs : s.size ≤ 1000) (hS : fS S s.data.toList = S') :
    Calls Try.prog 15 #[.pointer (some ⟨b, 0, none⟩), .string s] w fun e w' => e = .returned (.tuple #[]) ∧ UW B b S' W K w' := by
  refine (feed_calls h.u hc s (by omega) h.size).mono ?_
  rintro e w' ⟨rfl, h1, h2⟩
  refine ⟨rfl, ?_⟩
  rw [← hS]
  exact h.left h1 h2

theorem out_u (h : UW B b S W K w) (s : ByteArray) (S' : Ua) (hs : (⟨S.o.toArray⟩ : ByteArray) = s) (hS : { S with o := [] } = S') :
    Calls Try.prog 17 #[.pointer (some ⟨b, 0, none⟩)] w fun e w' => e = .returned (.string s) ∧ UW B b S' W K w' := by
  refine (out_calls h.u).mono ?_
  rintro e w' ⟨rfl, h1, h2⟩
  refine ⟨by rw [hs], ?_⟩
  rw [← hS]
  exact h.left h1 h2

theorem up_u (h : UW B b S W K w) (t : Bool) (ht : upB S = t) :
    Calls Try.prog 18 #[.pointer (some ⟨b, 0, none⟩)] w fun e w' => e = .returned (.bool t) ∧ w = w' := by
  refine (up_of h.u).mono ?_
  rintro e w' ⟨rfl, rfl⟩
  exact ⟨by rw [ht], rfl⟩
end

theorem alive_calls (w : World) : Calls Try.prog 9 #[] w fun e w' => e = .returned (.bool true) ∧ Below w.heap.size w w' := by
  go_enter Try.func9, Try.ntmps9
  go_wp2_with fail
  refine (new_u (B := w.heap.size) (W := w) [] (Below.refl _ _) (Nat.le_refl _) (fun p hp => by cases hp)).mono ?_
  rintro e w1 ⟨rfl, h1⟩
  have H1 := _root_.Go.Lib.hid h1
  clear h1
  go_wp2_with fail
  refine (feed_u H1.out ⟨#[97, 98]⟩ { S0 with c := [97, 98] } (by decide) (by decide) (by kernel_rfl)).mono ?_
  rintro e w2 ⟨rfl, h2⟩
  have H2 := _root_.Go.Lib.hid h2
  clear h2 H1
  go_wp2_with fail
  refine (get_u H2.out 20 97 true { S0 with c := [97, 98] } (by decide) (by kernel_rfl) (by kernel_rfl) (by kernel_rfl)).mono ?_
  rintro e w3 ⟨rfl, h3⟩
  have H3 := _root_.Go.Lib.hid h3
  clear h3 H2
  go_wp2_with fail
  refine (get_u H3.out 0 97 true { S0 with c := [98] } (by decide) (by kernel_rfl) (by kernel_rfl) (by kernel_rfl)).mono ?_
  rintro e w4 ⟨rfl, h4⟩
  have H4 := _root_.Go.Lib.hid h4
  clear h4 H3
  go_wp2_with fail
  refine (get_u H4.out 0 98 true S0 (by decide) (by kernel_rfl) (by kernel_rfl) (by kernel_rfl)).mono ?_
  rintro e w5 ⟨rfl, h5⟩
  have H5 := _root_.Go.Lib.hid h5
  clear h5 H4
  go_wp2_with fail
  refine (set_u H5.out 0 120 120 true { S0 with o := [120] } (by decide) (by kernel_rfl) (by decide) (by kernel_rfl) (by kernel_rfl)).mono ?_
  rintro e w6 ⟨rfl, h6⟩
  have H6 := _root_.Go.Lib.hid h6
  clear h6 H5
  go_wp2_with fail
  refine (get_u H6.out 32 0 false { S0 with o := [120] } (by decide) (by kernel_rfl) (by kernel_rfl) (by kernel_rfl)).mono ?_
  rintro e w7 ⟨rfl, h7⟩
  have H7 := _root_.Go.Lib.hid h7
  clear h7 H6
  go_wp2_with fail
  refine (out_u H7.out ⟨#[120]⟩ S0 (by kernel_rfl) (by kernel_rfl)).mono ?_
  rintro e w8 ⟨rfl, h8⟩
  have H8 := _root_.Go.Lib.hid h8
  clear h8 H7
  go_wp2_with fail
  refine (out_u H8.out ⟨#[]⟩ S0 (by kernel_rfl) (by kernel_rfl)).mono ?_
  rintro e w9 ⟨rfl, h9⟩
  have H9 := _root_.Go.Lib.hid h9
  clear h9 H8
  go_wp2_with fail
  refine (up_u H9.out false (by kernel_rfl)).mono ?_
  rintro e w10 ⟨rfl, rfl⟩
  go_wp2_with fail
  go_ret
  exact ⟨rfl, H9.out.bel⟩
end Go.Proofs.Ytjaldngafappdaa
