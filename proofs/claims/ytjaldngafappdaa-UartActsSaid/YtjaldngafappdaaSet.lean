/-
  New and Set: what they leave. Conditions: what went is shorter than 2 to the 47.
-/
import Derived.Test.YtjaldngafappdaaFeed
import Derived.Test.YtjaldngafappdaaGet
set_option linter.unusedVariables false
set_option linter.unusedSimpArgs false
namespace Go.Proofs.Ytjaldngafappdaa
open Go.RowKit Go.Lib

def upd (r : Nat → Int) (k : Nat) (x : Int) : Nat → Int := fun i => if i = k then x else r i
def S0 : Ua := { c := [], o := [], r := fun _ => 0, ov := false }
def clB (c : UInt8) : Bool := bits .and .u32 (c.toNat : Int) 2 != 0
/-- What Set leaves. -/
def sS (S : Ua) (off : Int) (c : UInt8) : Ua :=
  if badO off then S else if off = 0 then (if otB S then S else { S with o := S.o ++ [c] }) else if off = 4 then (if otB S then S else { S with r := upd S.r 1 c.toNat }) else
  if off = 8 then (if clB c then { S with c := [] } else S) else if off = 20 then S else if off = 24 then S else { S with r := upd S.r (off / 4).toNat c.toNat }

theorem new_calls (B : Nat) (w : World) (hB : B ≤ w.heap.size) : Calls Try.prog 10 #[] w fun e w' => e = .returned (.pointer (some ⟨w.heap.size, 0, none⟩)) ∧ IsU B w.heap.size S0 w' ∧ Below B w w' ∧ (∀ (k : Nat) (o : Obj), w.heap[k]? = some o → w'.heap[k]? = some o) := by
  go_enter Try.func10, Try.ntmps10
  go_wp2
  go_ret
  refine ⟨rfl, ⟨.slice none 0 0, .pointer none, .slice none 0 0, ⟨hB, ?_, Row.nil _ _ _, ⟨rfl, .inl ⟨rfl, rfl⟩⟩, .inl ⟨rfl, rfl⟩, (fun g h => by cases h), fun _ => rfl⟩⟩, (Below.refl _ _).alloc hB _, fun k o h => ?_⟩
  · exact heap_alloc_new w _
  · rw [Below.heap_alloc w _ k (lt_of_heap h)]; exact h

theorem set_nil (off v : Int) (w : World) (ho : 0 ≤ off) : Calls Try.prog 14 #[.pointer none, .int .u32 off, .int .u32 v] w fun e w' => e = .returned (.bool false) ∧ w = w' := by
  go_enter Try.func14, Try.ntmps14
  go_wp2
  go_ret
  exact ⟨rfl, rfl⟩
theorem set_bad (b : Nat) (off v : Int) (w : World) (ho : 0 ≤ off) (h : badO off = true) : Calls Try.prog 14 #[.pointer (some ⟨b, 0, none⟩), .int .u32 off, .int .u32 v] w fun e w' => e = .returned (.bool false) ∧ w = w' := by
  have hq : off.tmod 4 = off % 4 := Int.tmod_eq_emod_of_nonneg ho
  unfold badO at h
  cases h1 : (off % 4 != 0) with
  | true =>
    go_enter Try.func14, Try.ntmps14
    go_wp2
    go_ret
    exact ⟨rfl, rfl⟩
  | false =>
    rw [h1, Bool.false_or] at h
    have h2 : 32 ≤ off := of_decide_eq_true h
    go_enter Try.func14, Try.ntmps14
    go_wp2
    go_ret
    exact ⟨rfl, rfl⟩
theorem u8_wrap (c : UInt8) : IntKind.u8.wrap (c.toNat : Int) = c.toNat := by
  have := c.toNat_lt
  simp [IntKind.wrap_u8']
  omega

theorem set_0_other {B b : Nat} {S : Ua} {w : World} (h : IsU B b S w) (v : Int) (c : UInt8) (hv : bits .and .u32 v 255 = (c.toNat : Int)) (hot : otB S = true) : Calls Try.prog 14 #[.pointer (some ⟨b, 0, none⟩), .int .u32 0, .int .u32 v] w fun e w' => e = .returned (.bool true) ∧ IsU B b S w' ∧ Left B b w w' := by
  have H := _root_.Go.Lib.hid h
  clear h
  go_enter Try.func14, Try.ntmps14
  go_wp2_with (first | (go_at_call 20; refine (other_of H.out).mono ?_; rw [hot]; rintro e w1 ⟨rfl, rfl⟩))
  go_ret
  exact ⟨rfl, H.out, Left.refl _ _ _⟩
theorem set_4_other {B b : Nat} {S : Ua} {w : World} (h : IsU B b S w) (v : Int) (c : UInt8) (hv : bits .and .u32 v 255 = (c.toNat : Int)) (hot : otB S = true) : Calls Try.prog 14 #[.pointer (some ⟨b, 0, none⟩), .int .u32 4, .int .u32 v] w fun e w' => e = .returned (.bool true) ∧ IsU B b S w' ∧ Left B b w w' := by
  have H := _root_.Go.Lib.hid h
  clear h
  go_enter Try.func14, Try.ntmps14
  go_wp2_with (first | (go_at_call 20; refine (other_of H.out).mono ?_; rw [hot]; rintro e w1 ⟨rfl, rfl⟩))
  go_ret
  exact ⟨rfl, H.out, Left.refl _ _ _⟩
theorem set_0 {B b : Nat} {S : Ua} {w : World} (h : IsU B b S w) (v : Int) (c : UInt8) (hv : bits .and .u32 v 255 = (c.toNat : Int)) (hot : otB S = false) (hlen : S.o.length + 1 ≤ 140737488355328) (hBw : B ≤ w.heap.size) : Calls Try.prog 14 #[.pointer (some ⟨b, 0, none⟩), .int .u32 0, .int .u32 v] w fun e w' => e = .returned (.bool true) ∧ IsU B b { S with o := S.o ++ [c] } w' ∧ Left B b w w' := by
  have hw := u8_wrap c
  have H := _root_.Go.Lib.hid h
  clear h
  go_enter Try.func14, Try.ntmps14
  go_wp2_with (first | (go_at_call 20; refine (other_of H.out).mono ?_; rw [hot]; rintro e w1 ⟨rfl, rfl⟩) | (go_at_call 25; refine (write_calls H.out c hlen hBw).mono ?_; rintro e w1 ⟨rfl, hu, hl⟩))
  go_ret
  exact ⟨rfl, hu, hl⟩
theorem set_4 {B b : Nat} {S : Ua} {w : World} (h : IsU B b S w) (v : Int) (c : UInt8) (hv : bits .and .u32 v 255 = (c.toNat : Int)) (hot : otB S = false) : Calls Try.prog 14 #[.pointer (some ⟨b, 0, none⟩), .int .u32 4, .int .u32 v] w fun e w' => e = .returned (.bool true) ∧ IsU B b { S with r := upd S.r 1 c.toNat } w' ∧ Left B b w w' := by
  obtain ⟨cv, pv, bv, hU⟩ := id h
  have hcell : w.cell? ⟨b, 4, none⟩ = some (.int .u32 (S.r 1)) := hU.cell 4
  have hfree : w.frozen? ⟨b, 4, none⟩ = false := hU.free 4
  have HU := _root_.Go.Lib.hid hU
  clear hU
  have H := _root_.Go.Lib.hid h
  clear h
  go_enter Try.func14, Try.ntmps14
  go_wp2_with (first | (go_at_call 20; refine (other_of H.out).mono ?_; rw [hot]; rintro e w1 ⟨rfl, rfl⟩) | (go_at_call 23; refine (reg_calls b 4 _ (by decide)).mono ?_; rintro e w1 ⟨rfl, rfl⟩))
  go_ret
  exact ⟨rfl, ⟨cv, pv, bv, HU.out.put 4 _ _ rfl rfl rfl⟩, (Left.refl _ _ _).setCell HU.out.at_b _⟩
theorem set_12 {B b : Nat} {S : Ua} {w : World} (h : IsU B b S w) (v : Int) (c : UInt8) (hv : bits .and .u32 v 255 = (c.toNat : Int))  : Calls Try.prog 14 #[.pointer (some ⟨b, 0, none⟩), .int .u32 12, .int .u32 v] w fun e w' => e = .returned (.bool true) ∧ IsU B b { S with r := upd S.r 3 c.toNat } w' ∧ Left B b w w' := by
  obtain ⟨cv, pv, bv, hU⟩ := id h
  have hcell : w.cell? ⟨b, 6, none⟩ = some (.int .u32 (S.r 3)) := hU.cell 6
  have hfree : w.frozen? ⟨b, 6, none⟩ = false := hU.free 6
  have HU := _root_.Go.Lib.hid hU
  clear hU
  have H := _root_.Go.Lib.hid h
  clear h
  go_enter Try.func14, Try.ntmps14
  go_wp2_with (first | (go_at_call 23; refine (reg_calls b 12 _ (by decide)).mono ?_; rintro e w1 ⟨rfl, rfl⟩))
  go_ret
  exact ⟨rfl, ⟨cv, pv, bv, HU.out.put 6 _ _ rfl rfl rfl⟩, (Left.refl _ _ _).setCell HU.out.at_b _⟩
theorem set_16 {B b : Nat} {S : Ua} {w : World} (h : IsU B b S w) (v : Int) (c : UInt8) (hv : bits .and .u32 v 255 = (c.toNat : Int))  : Calls Try.prog 14 #[.pointer (some ⟨b, 0, none⟩), .int .u32 16, .int .u32 v] w fun e w' => e = .returned (.bool true) ∧ IsU B b { S with r := upd S.r 4 c.toNat } w' ∧ Left B b w w' := by
  obtain ⟨cv, pv, bv, hU⟩ := id h
  have hcell : w.cell? ⟨b, 7, none⟩ = some (.int .u32 (S.r 4)) := hU.cell 7
  have hfree : w.frozen? ⟨b, 7, none⟩ = false := hU.free 7
  have HU := _root_.Go.Lib.hid hU
  clear hU
  have H := _root_.Go.Lib.hid h
  clear h
  go_enter Try.func14, Try.ntmps14
  go_wp2_with (first | (go_at_call 23; refine (reg_calls b 16 _ (by decide)).mono ?_; rintro e w1 ⟨rfl, rfl⟩))
  go_ret
  exact ⟨rfl, ⟨cv, pv, bv, HU.out.put 7 _ _ rfl rfl rfl⟩, (Left.refl _ _ _).setCell HU.out.at_b _⟩
theorem set_28 {B b : Nat} {S : Ua} {w : World} (h : IsU B b S w) (v : Int) (c : UInt8) (hv : bits .and .u32 v 255 = (c.toNat : Int))  : Calls Try.prog 14 #[.pointer (some ⟨b, 0, none⟩), .int .u32 28, .int .u32 v] w fun e w' => e = .returned (.bool true) ∧ IsU B b { S with r := upd S.r 7 c.toNat } w' ∧ Left B b w w' := by
  obtain ⟨cv, pv, bv, hU⟩ := id h
  have hcell : w.cell? ⟨b, 10, none⟩ = some (.int .u32 (S.r 7)) := hU.cell 10
  have hfree : w.frozen? ⟨b, 10, none⟩ = false := hU.free 10
  have HU := _root_.Go.Lib.hid hU
  clear hU
  have H := _root_.Go.Lib.hid h
  clear h
  go_enter Try.func14, Try.ntmps14
  go_wp2_with (first | (go_at_call 23; refine (reg_calls b 28 _ (by decide)).mono ?_; rintro e w1 ⟨rfl, rfl⟩))
  go_ret
  exact ⟨rfl, ⟨cv, pv, bv, HU.out.put 10 _ _ rfl rfl rfl⟩, (Left.refl _ _ _).setCell HU.out.at_b _⟩
theorem set_8_no {B b : Nat} {S : Ua} {w : World} (h : IsU B b S w) (v : Int) (c : UInt8) (hv : bits .and .u32 v 255 = (c.toNat : Int)) (hcl : clB c = false) : Calls Try.prog 14 #[.pointer (some ⟨b, 0, none⟩), .int .u32 8, .int .u32 v] w fun e w' => e = .returned (.bool true) ∧ IsU B b S w' ∧ Left B b w w' := by
  unfold clB at hcl
  have H := _root_.Go.Lib.hid h
  clear h
  go_enter Try.func14, Try.ntmps14
  go_wp2
  go_ret
  exact ⟨rfl, H.out, Left.refl _ _ _⟩
theorem set_8_clear {B b : Nat} {S : Ua} {w : World} (h : IsU B b S w) (v : Int) (c : UInt8) (hv : bits .and .u32 v 255 = (c.toNat : Int)) (hcl : clB c = true) : Calls Try.prog 14 #[.pointer (some ⟨b, 0, none⟩), .int .u32 8, .int .u32 v] w fun e w' => e = .returned (.bool true) ∧ IsU B b { S with c := [] } w' ∧ Left B b w w' := by
  unfold clB at hcl
  obtain ⟨cv, pv, bv, hU⟩ := id h
  have hcell : w.cell? ⟨b, 0, none⟩ = some cv := hU.cell 0
  have hfree : w.frozen? ⟨b, 0, none⟩ = false := hU.free 0
  have HU := _root_.Go.Lib.hid hU
  clear hU
  have H := _root_.Go.Lib.hid h
  clear h
  go_enter Try.func14, Try.ntmps14
  go_wp2
  go_ret
  exact ⟨rfl, ⟨.slice none 0 0, pv, bv, HU.out.putCame _ [] (Row.nil _ _ _) (fun g h => by cases h)⟩, (Left.refl _ _ _).setCell HU.out.at_b _⟩
theorem set_20 {B b : Nat} {S : Ua} {w : World} (h : IsU B b S w) (v : Int) (c : UInt8) (hv : bits .and .u32 v 255 = (c.toNat : Int))  : Calls Try.prog 14 #[.pointer (some ⟨b, 0, none⟩), .int .u32 20, .int .u32 v] w fun e w' => e = .returned (.bool true) ∧ IsU B b S w' ∧ Left B b w w' := by
  have H := _root_.Go.Lib.hid h
  clear h
  go_enter Try.func14, Try.ntmps14
  go_wp2
  go_ret
  exact ⟨rfl, H.out, Left.refl _ _ _⟩
theorem set_24 {B b : Nat} {S : Ua} {w : World} (h : IsU B b S w) (v : Int) (c : UInt8) (hv : bits .and .u32 v 255 = (c.toNat : Int))  : Calls Try.prog 14 #[.pointer (some ⟨b, 0, none⟩), .int .u32 24, .int .u32 v] w fun e w' => e = .returned (.bool true) ∧ IsU B b S w' ∧ Left B b w w' := by
  have H := _root_.Go.Lib.hid h
  clear h
  go_enter Try.func14, Try.ntmps14
  go_wp2
  go_ret
  exact ⟨rfl, H.out, Left.refl _ _ _⟩
end Go.Proofs.Ytjaldngafappdaa
