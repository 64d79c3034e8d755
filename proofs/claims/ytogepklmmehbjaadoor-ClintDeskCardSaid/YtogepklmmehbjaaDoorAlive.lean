/-
  What the methods leave of all blocks; alive answers true.
-/
import Derived.Test.YtogepklmmehbjaaDoorPlain
set_option linter.unusedVariables false
set_option linter.unusedSimpArgs false
namespace Go.Proofs.YtogepklmmehbjaaDoor
open Go.RowKit Go.Lib

/-! ### The clock -/
structure Ck where
  t : Int
  l : Int
  s : Bool
structure Ck.ok (c : Ck) : Prop where
  t : 0 ≤ c.t ∧ c.t < 18446744073709551616
  l : 0 ≤ c.l ∧ c.l < 18446744073709551616
abbrev Ck.o (c : Ck) : Obj := ckO c.t c.l c.s
def ck0 : Ck := ⟨0, 18446744073709551615, false⟩
def cBad (off : Int) : Bool := !(off == 0 || off == 16384 || off == 16388 || off == 49144 || off == 49148)
def cGet (c : Ck) (off : Int) : Int :=
  if off = 0 then (if c.s then 1 else 0) else if off = 16384 then c.l % 4294967296 else if off = 16388 then c.l / 4294967296 else if off = 49144 then c.t % 4294967296 else if off = 49148 then c.t / 4294967296 else 0
def cSet (c : Ck) (off v : Int) : Ck :=
  if off = 0 then { c with s := v % 2 == 1 } else if off = 16384 then { c with l := c.l / 4294967296 * 4294967296 + v } else if off = 16388 then { c with l := c.l % 4294967296 + v * 4294967296 } else
  if off = 49144 then { c with t := c.t / 4294967296 * 4294967296 + v } else if off = 49148 then { c with t := c.t % 4294967296 + v * 4294967296 } else c
def cTick (c : Ck) (n : Int) : Ck := { c with t := (c.t + n) % 18446744073709551616 }
def cLn (c : Ck) : Int := lnV c.t c.l c.s
theorem ck0_ok : ck0.ok := ⟨by decide, by decide⟩
theorem Ck.ok.set {c : Ck} (h : c.ok) (off v : Int) (hv : 0 ≤ v ∧ v < 4294967296) : (cSet c off v).ok := by
  obtain ⟨h1, h2⟩ := h
  unfold cSet
  repeat' split
  all_goals exact ⟨by first | omega | (simp only; omega), by first | omega | (simp only; omega)⟩
theorem Ck.ok.tick {c : Ck} (h : c.ok) (n : Int) : (cTick c n).ok := ⟨by unfold cTick; simp only; omega, h.l⟩

section
variable {B b : Nat} {W w : World} {K : Blocks} {c : Ck}
theorem new_k (h : KW B W K w) : Calls Tryd.prog 10 #[] w fun e w' => e = .returned (.pointer (some ⟨w.heap.size, 0, none⟩)) ∧ KW B W ((w.heap.size, ck0.o) :: K) w' := by
  refine (newClock_raw w).mono ?_
  rintro e w' ⟨rfl, rfl⟩
  exact ⟨rfl, h.push _⟩
theorem tick_k (h : KW B W ((b, c.o) :: K) w) (n : Int) : Calls Tryd.prog 16 #[.pointer (some ⟨b, 0, none⟩), .int .u64 n] w fun e w' => e = .returned (.tuple #[]) ∧ KW B W ((b, (cTick c n).o) :: K) w' := by
  refine (tick_raw b c.t c.l n c.s w (h.get List.mem_cons_self)).mono ?_
  rintro e w' ⟨rfl, rfl⟩
  exact ⟨rfl, h.cell (by rw [IntKind.wrap_u64]; rfl)⟩
theorem lines_k (h : KW B W ((b, c.o) :: K) w) (x : Int) (hx : cLn c = x) : Calls Tryd.prog 17 #[.pointer (some ⟨b, 0, none⟩)] w fun e w' => e = .returned (.int .u32 x) ∧ w' = w.drewN 1 := by
  refine (lines_raw b c.t c.l c.s w (h.get List.mem_cons_self)).mono ?_
  rintro e w' ⟨rfl, rfl⟩
  exact ⟨by rw [← hx]; rfl, rfl⟩

theorem cBad_true {off : Int} (h : cBad off = true) : off ≠ 0 ∧ off ≠ 16384 ∧ off ≠ 16388 ∧ off ≠ 49144 ∧ off ≠ 49148 := by
  unfold cBad at h
  simp at h
  omega
theorem cBad_false {off : Int} (h : cBad off = false) : off = 0 ∨ off = 16384 ∨ off = 16388 ∨ off = 49144 ∨ off = 49148 := by
  unfold cBad at h
  simp at h
  omega
theorem bad_bits {off : Int} (ho : 0 ≤ off ∧ off < 4294967296) (h : cBad off = true) : bits .andNot .u32 off 4 ≠ 16384 ∧ bits .andNot .u32 off 4 ≠ 49144 := by
  obtain ⟨h0, h1, h2, h3, h4⟩ := cBad_true h
  exact ⟨off_4 off ho 16384#32 (by decide) h1 h2, off_4 off ho 49144#32 (by decide) h3 h4⟩

theorem get_k (h : KW B W ((b, c.o) :: K) w) (hc : c.ok) (off x : Int) (t : Bool) (ho : 0 ≤ off ∧ off < 4294967296) (hx : cGet c off = x) (ht : (!cBad off) = t) :
    Calls Tryd.prog 12 #[.pointer (some ⟨b, 0, none⟩), .int .u32 off] w fun e w' => e = .returned (.tuple #[.int .u32 x, .bool t]) ∧ w = w' := by
  have hr : w.heap[b]? = some (ckO c.t c.l c.s) := h.get List.mem_cons_self
  subst hx ht
  cases hb : cBad off with
  | true =>
    obtain ⟨k1, k2⟩ := bad_bits ho hb
    obtain ⟨h0, h1, h2, h3, h4⟩ := cBad_true hb
    exact (get_other b c.t c.l off c.s w h0 k1 k2).mono fun e w' ⟨e1, e2⟩ => ⟨by rw [e1]; simp [cGet, h0, h1, h2, h3, h4], e2⟩
  | false =>
    rcases cBad_false hb with rfl | rfl | rfl | rfl | rfl
    · exact (get_0 b c.t c.l c.s w hr).mono fun e w' ⟨e1, e2⟩ => ⟨by rw [e1]; simp [cGet], e2⟩
    · exact (get_16384 b c.t c.l c.s w hr hc.l).mono fun e w' ⟨e1, e2⟩ => ⟨by rw [e1]; simp [cGet], e2⟩
    · exact (get_16388 b c.t c.l c.s w hr hc.l).mono fun e w' ⟨e1, e2⟩ => ⟨by rw [e1]; simp [cGet], e2⟩
    · exact (get_49144 b c.t c.l c.s w hr hc.t).mono fun e w' ⟨e1, e2⟩ => ⟨by rw [e1]; simp [cGet], e2⟩
    · exact (get_49148 b c.t c.l c.s w hr hc.t).mono fun e w' ⟨e1, e2⟩ => ⟨by rw [e1]; simp [cGet], e2⟩

theorem set_k (h : KW B W ((b, c.o) :: K) w) (hc : c.ok) (off v : Int) (t : Bool) (c' : Ck) (ho : 0 ≤ off ∧ off < 4294967296) (hv : 0 ≤ v ∧ v < 4294967296) (ht : (!cBad off) = t) (hS : cSet c off v = c') :
    Calls Tryd.prog 15 #[.pointer (some ⟨b, 0, none⟩), .int .u32 off, .int .u32 v] w fun e w' => e = .returned (.bool t) ∧ KW B W ((b, c'.o) :: K) w' := by
  have hr : w.heap[b]? = some (ckO c.t c.l c.s) := h.get List.mem_cons_self
  subst ht hS
  cases hb : cBad off with
  | true =>
    obtain ⟨k1, k2⟩ := bad_bits ho hb
    obtain ⟨h0, h1, h2, h3, h4⟩ := cBad_true hb
    refine (set_other b c.t c.l off v c.s w h0 k1 k2).mono ?_
    rintro e w' ⟨rfl, rfl⟩
    refine ⟨rfl, ?_⟩
    have : cSet c off v = c := by simp [cSet, h0, h1, h2, h3, h4]
    rw [this]
    exact h
  | false =>
    rcases cBad_false hb with rfl | rfl | rfl | rfl | rfl
    · refine (set_0 b c.t c.l v c.s w hr).mono ?_
      rintro e w' ⟨rfl, rfl⟩
      exact ⟨rfl, h.cell (by rw [and_1 v hv]; rfl)⟩
    · refine (set_16384 b c.t c.l v c.s w hr hv).mono ?_
      rintro e w' ⟨rfl, rfl⟩
      exact ⟨rfl, (h.cell (by rw [low_set _ v hc.l hv]; rfl)).drew⟩
    · refine (set_16388 b c.t c.l v c.s w hr hv).mono ?_
      rintro e w' ⟨rfl, rfl⟩
      exact ⟨rfl, (h.cell (by rw [high_set _ v hc.l hv]; rfl)).drew⟩
    · refine (set_49144 b c.t c.l v c.s w hr hv).mono ?_
      rintro e w' ⟨rfl, rfl⟩
      exact ⟨rfl, (h.cell (by rw [low_set _ v hc.t hv]; rfl)).drew⟩
    · refine (set_49148 b c.t c.l v c.s w hr hv).mono ?_
      rintro e w' ⟨rfl, rfl⟩
      exact ⟨rfl, (h.cell (by rw [high_set _ v hc.t hv]; rfl)).drew⟩
end

/-! ### The desk -/
structure Dk where
  a : Int
  e : Int
  s : Int
abbrev Dk.o (d : Dk) : Obj := dkO d.a d.e d.s
def dk0 : Dk := ⟨0, 0, 0⟩
def dW (d : Dk) : Int := wtV d.a d.e d.s
theorem bits_range (op : BinOp) (x y : Int) : 0 ≤ bits op .u32 x y ∧ bits op .u32 x y < 4294967296 := by
  have hw : ∀ n : Int, 0 ≤ IntKind.u32.wrap n ∧ IntKind.u32.wrap n < 4294967296 := fun n => by rw [IntKind.wrap_u32']; omega
  unfold bits
  split <;> exact hw _
theorem dW_range (d : Dk) : 0 ≤ dW d ∧ dW d < 4294967296 := bits_range .andNot (bits .and .u32 d.a d.e) d.s
def dNum (d : Dk) : Nat := if dW d = 0 then 0 else Lib.ctz 32 (dW d).toNat
def dServe (d : Dk) : Dk := if dW d = 0 then d else { d with s := bits .or .u32 d.s ((2 : Int) ^ (Lib.ctz 32 (dW d).toNat) % 4294967296) }
def dAsk (d : Dk) (v : Int) : Dk := { d with a := bits .andNot .u32 v 1 }
def dBad (off : Int) : Bool := !(off == 0 || off == 4 || off == 8)
def dGet (d : Dk) (off : Int) : Int := if off = 0 then d.a else if off = 4 then d.e else if off = 8 then (dNum d : Int) else 0
def dGetS (d : Dk) (off : Int) : Dk := if off = 8 then dServe d else d
def dSet (d : Dk) (off v : Int) : Dk :=
  if off = 4 then { d with e := bits .andNot .u32 v 1 } else if off = 8 then (if v < 32 then { d with s := bits .andNot .u32 d.s ((2 : Int) ^ v.toNat % 4294967296) } else d) else d

section
variable {B b : Nat} {W w : World} {K : Blocks} {d : Dk}
theorem newd_k (h : KW B W K w) : Calls Tryd.prog 19 #[] w fun e w' => e = .returned (.pointer (some ⟨w.heap.size, 0, none⟩)) ∧ KW B W ((w.heap.size, dk0.o) :: K) w' := by
  refine (newDesk_raw w).mono ?_
  rintro e w' ⟨rfl, rfl⟩
  exact ⟨rfl, h.push _⟩
theorem ask_k (h : KW B W ((b, d.o) :: K) w) (v : Int) (d' : Dk) (hd : dAsk d v = d') : Calls Tryd.prog 24 #[.pointer (some ⟨b, 0, none⟩), .int .u32 v] w fun e w' => e = .returned (.tuple #[]) ∧ KW B W ((b, d'.o) :: K) w' := by
  subst hd
  refine (ask_raw b d.a d.e d.s v w (h.get List.mem_cons_self)).mono ?_
  rintro e w' ⟨rfl, rfl⟩
  exact ⟨rfl, h.cell rfl⟩
theorem up_k (h : KW B W ((b, d.o) :: K) w) (t : Bool) (ht : (dW d != 0) = t) : Calls Tryd.prog 25 #[.pointer (some ⟨b, 0, none⟩)] w fun e w' => e = .returned (.bool t) ∧ w' = w.drewN 1 := by
  subst ht
  exact up_raw b d.a d.e d.s w (h.get List.mem_cons_self)
theorem dBad_true {off : Int} (h : dBad off = true) : off ≠ 0 ∧ off ≠ 4 ∧ off ≠ 8 := by
  unfold dBad at h
  simp at h
  omega
theorem dBad_false {off : Int} (h : dBad off = false) : off = 0 ∨ off = 4 ∨ off = 8 := by
  unfold dBad at h
  simp at h
  omega
theorem dget_k (h : KW B W ((b, d.o) :: K) w) (hT : Tab w) (off x : Int) (t : Bool) (d' : Dk) (hx : dGet d off = x) (ht : (!dBad off) = t) (hd : dGetS d off = d') :
    Calls Tryd.prog 20 #[.pointer (some ⟨b, 0, none⟩), .int .u32 off] w fun e w' => e = .returned (.tuple #[.int .u32 x, .bool t]) ∧ KW B W ((b, d'.o) :: K) w' := by
  have hr : w.heap[b]? = some (dkO d.a d.e d.s) := h.get List.mem_cons_self
  subst hx ht hd
  cases hb : dBad off with
  | true =>
    obtain ⟨h0, h1, h2⟩ := dBad_true hb
    refine (dget_other b off w h0 h1 h2).mono ?_
    rintro e w' ⟨rfl, rfl⟩
    refine ⟨by simp [dGet, h0, h1, h2], ?_⟩
    rw [show dGetS d off = d by simp [dGetS, h2]]
    exact h
  | false =>
    rcases dBad_false hb with rfl | rfl | rfl
    · refine (dget_0 b d.a d.e d.s w hr).mono ?_
      rintro e w' ⟨rfl, rfl⟩
      exact ⟨by simp [dGet], h⟩
    · refine (dget_4 b d.a d.e d.s w hr).mono ?_
      rintro e w' ⟨rfl, rfl⟩
      exact ⟨by simp [dGet], h⟩
    · by_cases hw : dW d = 0
      · refine (dget_8_none b d.a d.e d.s w hr hw).mono ?_
        rintro e w' ⟨rfl, rfl⟩
        refine ⟨by simp [dGet, dNum, hw], ?_⟩
        rw [show dGetS d 8 = d by simp [dGetS, dServe, hw]]
        exact h.drew
      · have hrange := dW_range d
        have hx : wtV d.a d.e d.s = (((dW d).toNat : Nat) : Int) := by show dW d = _; omega
        have hne : (dW d).toNat ≠ 0 := by omega
        have hlt : (dW d).toNat < 4294967296 := by omega
        refine (dget_8_some b d.a d.e d.s (dW d).toNat (Lib.ctz 32 (dW d).toNat) w hr hx hlt hne rfl (Lib.lowest_bit 32 _ hne hlt).2 hT).mono ?_
        rintro e w' ⟨rfl, rfl⟩
        refine ⟨by simp [dGet, dNum, hw], ?_⟩
        have hs : dGetS d 8 = { d with s := bits .or .u32 d.s ((2 : Int) ^ (Lib.ctz 32 (dW d).toNat) % 4294967296) } := by simp [dGetS, dServe, hw]
        rw [hs]
        exact (KW.cell (i := 2) (x := .int .u32 (bits .or .u32 d.s ((2 : Int) ^ (Lib.ctz 32 (dW d).toNat) % 4294967296))) (show KW B W ((b, d.o) :: K) (w.drewN 1) from h.drew) rfl).drew
theorem dset_k (h : KW B W ((b, d.o) :: K) w) (off v : Int) (t : Bool) (d' : Dk) (hv : 0 ≤ v ∧ v < 4294967296) (ht : (!dBad off) = t) (hd : dSet d off v = d') :
    Calls Tryd.prog 23 #[.pointer (some ⟨b, 0, none⟩), .int .u32 off, .int .u32 v] w fun e w' => e = .returned (.bool t) ∧ KW B W ((b, d'.o) :: K) w' := by
  have hr : w.heap[b]? = some (dkO d.a d.e d.s) := h.get List.mem_cons_self
  subst ht hd
  cases hb : dBad off with
  | true =>
    obtain ⟨h0, h1, h2⟩ := dBad_true hb
    refine (dset_other b off v w h0 h1 h2).mono ?_
    rintro e w' ⟨rfl, rfl⟩
    refine ⟨rfl, ?_⟩
    rw [show dSet d off v = d by simp [dSet, h1, h2]]
    exact h
  | false =>
    rcases dBad_false hb with rfl | rfl | rfl
    · refine (dset_0 b v w).mono ?_
      rintro e w' ⟨rfl, rfl⟩
      exact ⟨rfl, h⟩
    · refine (dset_4 b d.a d.e d.s v w hr).mono ?_
      rintro e w' ⟨rfl, rfl⟩
      exact ⟨rfl, h.cell rfl⟩
    · by_cases h32 : v < 32
      · obtain ⟨k, rfl⟩ : ∃ k : Nat, v = (k : Int) := ⟨v.toNat, by omega⟩
        refine (dset_8 b k d.a d.e d.s w hr (by omega)).mono ?_
        rintro e w' ⟨rfl, rfl⟩
        refine ⟨rfl, ?_⟩
        have hs : dSet d 8 (k : Int) = { d with s := bits .andNot .u32 d.s ((2 : Int) ^ k % 4294967296) } := by simp [dSet, h32]
        rw [hs]
        exact h.cell rfl
      · refine (dset_8_big b v w (by omega)).mono ?_
        rintro e w' ⟨rfl, rfl⟩
        refine ⟨rfl, ?_⟩
        rw [show dSet d 8 v = d by simp [dSet, h32]]
        exact h
end

theorem alive_calls (w : World) (hT : Tab w) : Calls Tryd.prog 9 #[] w fun e w' => e = .returned (.bool true) ∧ Below w.heap.size w w' := by
  have HT := _root_.Go.Lib.hid hT
  have tabOf : ∀ (K : Blocks) (w' : World), KW w.heap.size w K w' → Tab w' := fun _ _ h => HT.out.below h.bel HT.out.pos
  have TO := _root_.Go.Lib.hid tabOf
  clear tabOf hT
  go_enter Tryd.func9, Tryd.ntmps9
  go_wp2_with fail
  refine (new_k (KW.start (Below.refl w.heap.size w) (Nat.le_refl _))).mono ?_
  rintro e w1 ⟨rfl, h1⟩
  have H1 := _root_.Go.Lib.hid h1
  clear h1
  go_wp2_with fail
  refine (newd_k H1.out).mono ?_
  rintro e w2 ⟨rfl, h2⟩
  have H2 := _root_.Go.Lib.hid h2
  clear h2 H1
  go_wp2_with fail
  refine (tick_k H2.out.swap 5).mono ?_
  rintro e w3 ⟨rfl, h3⟩
  have H3 := _root_.Go.Lib.hid h3
  clear h3 H2
  go_wp2_with fail
  refine ((get_k H3.out (ck0_ok.tick 5) 49144 5 true (by decide) (by kernel_rfl) (by kernel_rfl)).mono fun e w' (hh : e = _ ∧ w3 = w') => (show e = _ ∧ KW w.heap.size w [(w.heap.size, (cTick ck0 5).o), (w1.heap.size, dk0.o)] w' from ⟨hh.1, by rw [← hh.2]; exact H3.out⟩)).mono ?_
  rintro e w4 ⟨rfl, h4⟩
  have H4 := _root_.Go.Lib.hid h4
  clear h4 H3
  go_wp2_with fail
  refine (ask_k H4.out.swap 7 ⟨6, 0, 0⟩ (by kernel_rfl)).mono ?_
  rintro e w5 ⟨rfl, h5⟩
  have H5 := _root_.Go.Lib.hid h5
  clear h5 H4
  go_wp2_with fail
  refine (dset_k H5.out 4 7 true ⟨6, 6, 0⟩ (by decide) (by kernel_rfl) (by kernel_rfl)).mono ?_
  rintro e w6 ⟨rfl, h6⟩
  have H6 := _root_.Go.Lib.hid h6
  clear h6 H5
  go_wp2_with fail
  refine (up_k H6.out true (by kernel_rfl)).mono ?_
  rintro e w7 ⟨rfl, rfl⟩
  have H7 := _root_.Go.Lib.hid H6.out.drew
  clear H6
  go_wp2_with fail
  refine (dget_k H7.out (TO.out _ _ H7.out) 8 1 true ⟨6, 6, 2⟩ (by kernel_rfl) (by kernel_rfl) (by kernel_rfl)).mono ?_
  rintro e w8 ⟨rfl, h8⟩
  have H8 := _root_.Go.Lib.hid h8
  clear h8 H7
  go_wp2_with fail
  refine (dget_k H8.out (TO.out _ _ H8.out) 8 2 true ⟨6, 6, 6⟩ (by kernel_rfl) (by kernel_rfl) (by kernel_rfl)).mono ?_
  rintro e w9 ⟨rfl, h9⟩
  have H9 := _root_.Go.Lib.hid h9
  clear h9 H8
  go_wp2_with fail
  refine (dget_k H9.out (TO.out _ _ H9.out) 8 0 true ⟨6, 6, 6⟩ (by kernel_rfl) (by kernel_rfl) (by kernel_rfl)).mono ?_
  rintro e w10 ⟨rfl, h10⟩
  have H10 := _root_.Go.Lib.hid h10
  clear h10 H9
  go_wp2_with fail
  refine (lines_k H10.out.swap 0 (by kernel_rfl)).mono ?_
  rintro e w11 ⟨rfl, rfl⟩
  have H11 := _root_.Go.Lib.hid H10.out.drew
  clear H10
  go_wp2_with fail
  refine (set_k H11.out.swap (ck0_ok.tick 5) 0 1 true ⟨5, 18446744073709551615, true⟩ (by decide) (by decide) (by kernel_rfl) (by kernel_rfl)).mono ?_
  rintro e w12 ⟨rfl, h12⟩
  have H12 := _root_.Go.Lib.hid h12
  clear h12 H11
  go_wp2_with fail
  refine (lines_k H12.out 8 (by kernel_rfl)).mono ?_
  rintro e w13 ⟨rfl, rfl⟩
  have H13 := _root_.Go.Lib.hid H12.out.drew
  clear H12
  go_wp2_with fail
  refine (up_k H13.out.swap false (by kernel_rfl)).mono ?_
  rintro e w14 ⟨rfl, rfl⟩
  have H14 := _root_.Go.Lib.hid H13.out.drew
  clear H13
  go_wp2_with fail
  go_ret
  exact ⟨rfl, H14.out.bel⟩
end Go.Proofs.YtogepklmmehbjaaDoor
