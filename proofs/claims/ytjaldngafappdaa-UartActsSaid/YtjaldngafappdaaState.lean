/-
  What a uart in memory holds; what its methods that only read tell. Conditions: the registers' offsets are in range.
-/
import Derived.Test.YtjaldngafappdaaRow
import Derived.Lib.Hide
import Derived.Lib.Builder
namespace Go.Proofs.Ytjaldngafappdaa
open Go.RowKit Go.Lib

/-- Bytes as cells. -/
abbrev bcells (l : List UInt8) : List Value := Lib.byteCells l
theorem bcells_length (l : List UInt8) : (bcells l).length = l.length := Lib.byteCells_length l

/-- A uart's state: what came, what went, the registers, whether something was lost. -/
structure Ua where
  c : List UInt8
  o : List UInt8
  r : Nat → Int
  ov : Bool

abbrev uRow (cv pv bv : Value) (r : Nat → Int) (ov : Bool) : Array Value := #[cv, pv, bv, .int .u32 (r 0), .int .u32 (r 1), .int .u32 (r 2), .int .u32 (r 3), .int .u32 (r 4), .int .u32 (r 5), .int .u32 (r 6), .int .u32 (r 7), .bool ov]

/-- World w holds a uart of state S at block b; all that is its own lies at or behind B. -/
structure IsUx (B b : Nat) (cv pv bv : Value) (S : Ua) (w : World) : Prop where
  at_b : B ≤ b
  row : w.heap[b]? = some (.cells (uRow cv pv bv S.r S.ov) 55 (0, 0))
  came : Row 5 B cv (bcells S.c) w
  went : w.ownsRow B 5 1 bv S.o.length (bcells S.o)
  addr : (pv = .pointer none ∧ bv = .slice none 0 0) ∨ pv = .pointer (some ⟨b, 1, none⟩)
  apart : ∀ g, cv.ownBlock = some g → bv.ownBlock = some g → False
  empt : S.o = [] → bv = .slice none 0 0

def IsU (B b : Nat) (S : Ua) (w : World) : Prop := ∃ cv pv bv, IsUx B b cv pv bv S w

theorem cell_at {w : World} {b : Nat} {cs : Array Value} {t : TypeId} {fr : Nat × Nat} (h : w.heap[b]? = some (.cells cs t fr)) (i : Nat) : w.cell? ⟨b, i, none⟩ = cs[i]? := cell_of_row w b i cs t fr h

theorem reg_calls (b : Nat) (off : Int) (w : World) (h : 0 ≤ off ∧ off < 32) : Calls Try.prog 23 #[.pointer (some ⟨b, 0, none⟩), .int .u32 off] w fun e w' => e = .returned (.pointer (some ⟨b, 3 + (off / 4).toNat, none⟩)) ∧ w = w' := by
  obtain ⟨h1, h2⟩ := h
  have hq : off.tdiv 4 = off / 4 := Int.tdiv_eq_ediv_of_nonneg h1
  have q1 : 0 ≤ off / 4 := by omega
  have q2 : off / 4 < 8 := by omega
  go_enter Try.func23, Try.ntmps23
  go_wp2
  go_ret
  exact ⟨rfl, rfl⟩

theorem other_calls (b : Nat) (v : Int) (o : Bool) (w : World) (hc : w.cell? ⟨b, 6, none⟩ = some (.int .u32 v)) (ho : (bits .and .u32 v 128 != 0) = o) :
    Calls Try.prog 20 #[.pointer (some ⟨b, 0, none⟩)] w fun e w' => e = .returned (.bool o) ∧ w = w' := by
  go_enter Try.func20, Try.ntmps20
  go_wp2_with (go_at_call 23; refine (reg_calls b 12 _ (by decide)).mono ?_; rintro e w1 ⟨rfl, rfl⟩)
  go_ret
  exact ⟨by first | rfl | simp [← ho], rfl⟩

theorem up_calls (b : Nat) (v : Int) (a : Option Addr) (n cap : Nat) (o : Bool) (w : World) (hc : w.cell? ⟨b, 4, none⟩ = some (.int .u32 v)) (hs : w.cell? ⟨b, 0, none⟩ = some (.slice a n cap)) (ho : ((bits .and .u32 v 1 != 0) && decide (0 < n)) = o) :
    Calls Try.prog 18 #[.pointer (some ⟨b, 0, none⟩)] w fun e w' => e = .returned (.bool o) ∧ w = w' := by
  subst ho
  cases hb : (bits .and .u32 v 1 != 0) with
  | false =>
    go_enter Try.func18, Try.ntmps18
    go_wp2_with (go_at_call 23; refine (reg_calls b 4 _ (by decide)).mono ?_; rintro e w1 ⟨rfl, rfl⟩)
    go_ret
    exact ⟨rfl, rfl⟩
  | true =>
    go_enter Try.func18, Try.ntmps18
    go_wp2_with (go_at_call 23; refine (reg_calls b 4 _ (by decide)).mono ?_; rintro e w1 ⟨rfl, rfl⟩)
    go_ret
    exact ⟨by simp, rfl⟩

theorem up_nil (w : World) : Calls Try.prog 18 #[.pointer none] w fun e w' => e = .returned (.bool false) ∧ w = w' := by
  go_enter Try.func18, Try.ntmps18
  go_wp2
  go_ret
  exact ⟨rfl, rfl⟩
end Go.Proofs.Ytjaldngafappdaa
