/-
  The reference's Feed: what it leaves. Conditions: at most sixteen bytes wait.
-/
import Derived.Test.YtjaldngafappdaaRefs
set_option linter.unusedVariables false
set_option linter.unusedSimpArgs false
namespace Go.Proofs.Ytjaldngafappdaa
open Go.RowKit Go.Lib

/-- What waits behind j bytes. -/
def cJ (x s : ByteArray) (j : Nat) : ByteArray := x ++ preB s (min j (16 - x.size))
def oJ (x : ByteArray) (ov : Bool) (j : Nat) : Bool := ov || decide (16 - x.size < j)
theorem cJ_zero (x s : ByteArray) : cJ x s 0 = x := by
  unfold cJ
  rw [Nat.zero_min, preB_zero]
  apply ByteArray.ext
  simp
theorem cJ_size (x s : ByteArray) (j : Nat) (h : j ≤ s.size) : (cJ x s j).size = x.size + min j (16 - x.size) := by
  have h1 : (preB s (min j (16 - x.size))).size = (s.data.toList.take (min j (16 - x.size))).length := rfl
  have h2 : s.data.toList.length = s.size := by simp
  unfold cJ
  rw [ByteArray.size_append, h1, List.length_take]
  omega
theorem preB_step (s : ByteArray) (j : Nat) (h : j < s.size) : preB s j ++ s.extract j (j + 1) = preB s (j + 1) := by
  unfold preB
  apply ByteArray.ext
  have h2 : j < s.data.toList.length := by simpa using h
  rw [List.take_succ_eq_append_getElem h2]
  apply Array.ext'
  simp only [ByteArray.data_append, ByteArray.data_extract, Array.toList_append, Array.toList_extract]
  rw [List.extract_eq_take_drop, List.drop_eq_getElem_cons h2, Nat.add_sub_cancel_left]
  rfl
theorem cJ_step (x s : ByteArray) (j : Nat) (h : j < s.size) (hx : j < 16 - x.size) : cJ x s j ++ s.extract j (j + 1) = cJ x s (j + 1) := by
  unfold cJ
  rw [show min j (16 - x.size) = j by omega, show min (j + 1) (16 - x.size) = j + 1 by omega, ByteArray.append_assoc, preB_step s j h]
theorem cJ_stay (x s : ByteArray) (j : Nat) (hx : 16 - x.size ≤ j) : cJ x s (j + 1) = cJ x s j := by
  unfold cJ
  rw [show min j (16 - x.size) = 16 - x.size by omega, show min (j + 1) (16 - x.size) = 16 - x.size by omega]
theorem oJ_zero (x : ByteArray) (ov : Bool) : oJ x ov 0 = ov := by unfold oJ; simp
theorem oJ_step (x : ByteArray) (ov : Bool) (j : Nat) (hx : j < 16 - x.size) : oJ x ov (j + 1) = oJ x ov j := by
  unfold oJ
  rw [show decide (16 - x.size < j + 1) = false by simp; omega, show decide (16 - x.size < j) = false by simp; omega]
theorem oJ_over (x : ByteArray) (ov : Bool) (j : Nat) (hx : 16 - x.size ≤ j) : oJ x ov (j + 1) = true := by
  unfold oJ
  rw [show decide (16 - x.size < j + 1) = true by simp; omega]
  simp

set_option maxHeartbeats 1000000 in
theorem refFeed_calls (x y s : ByteArray) (en lcr mcr scr : Int) (ov : Bool) (w : World) (hx : x.size ≤ 16) (hs : s.size ≤ 60) :
    Calls Try.prog 16 #[rV x y en lcr mcr scr ov, .string s] w fun e w' => e = .returned (rV (cJ x s s.size) y en lcr mcr scr (oJ x ov s.size)) ∧ Below w.heap.size w w' := by
  have HX := _root_.Go.Lib.hid hx
  clear hx
  go_enter Try.func16, Try.ntmps16
  go_wp2

  go_loopg [5] s.size (fun k i wr => ∃ j : Nat, j + k = s.size ∧ i = .int .i64 (j : Int) ∧ ∃ d, wr = ((w.alloc (.cells #[.string (cJ x s j), .string y, .int .u32 en, .int .u32 lcr, .int .u32 mcr, .int .u32 scr, .bool (oJ x ov j)] 28)).alloc (.cells #[.string ⟨#[]⟩, .string ⟨#[]⟩, .int .u32 0, .int .u32 0, .int .u32 0, .int .u32 0, .bool false] 28)).grow #[] d)
  case atStart => exact ⟨0, by omega, rfl, w.drawn, by rw [cJ_zero, oJ_zero]; exact (World.grow_nil _).symm⟩
  case round =>
    obtain ⟨j, hj, rfl, d, rfl⟩ := hrel
    by_cases hjm : j < s.size
    · have hlt : ((j : Int) < s.size) = True := eq_true (by omega)
      have hsz := cJ_size x s j (by omega)
      by_cases hc : j < 16 - x.size
      · have hst := cJ_step x s j hjm hc
        have hot := oJ_step x ov j hc
        obtain ⟨X', hX'⟩ : ∃ X', X' = cJ x s (j + 1) := ⟨_, rfl⟩
        rw [← hX'] at hst
        have HX' := _root_.Go.Lib.hid hX'
        have HOT := _root_.Go.Lib.hid hot
        clear hX' hot
        generalize cJ x s j = X at hsz hst ⊢
        have h16 : ((X.size : Int) ≥ 16) = False := eq_false (by omega)
        have hcat : X.size + 1 ≤ 9223372036854775807 := by omega
        clear hsz
        go_wp2
        go_region
        go_wp2
        go_roundg (s.size - (j + 1))
        case measure => omega
        case rel => exact ⟨j + 1, by omega, by first | rfl | go_num, d + 1, by rw [HOT.out, ← HX'.out]; rfl⟩
      · have hst := cJ_stay x s j (by omega)
        have hot := oJ_over x ov j (by omega)
        generalize cJ x s j = X at hsz hst ⊢
        have h16 : ((X.size : Int) ≥ 16) = True := eq_true (by have := HX.out; omega)
        have HST := _root_.Go.Lib.hid hst
        have HOT := _root_.Go.Lib.hid hot
        clear hsz hst hot
        go_wp2
        go_roundg (s.size - (j + 1))
        case measure => omega
        case rel => exact ⟨j + 1, by omega, by first | rfl | go_num, d, by rw [HST.out, HOT.out]⟩
    · have hlt : ((j : Int) < s.size) = False := eq_false (by omega)
      obtain rfl : j = s.size := by omega
      go_wp2
      exact bodyPost_ret (v := rV (cJ x s s.size) y en lcr mcr scr (oJ x ov s.size)) (by simp [results, Try.results16, go_sem]) rfl ⟨rfl, by repeat (first | exact Below.refl _ _ | (refine Below.setCell ?_ (by simp) _) | (refine Below.grow ?_ (by first | (simp; done) | (simp; omega)) _ _) | (refine Below.alloc ?_ (by first | (simp; done) | (simp; omega)) _))⟩
end Go.Proofs.Ytjaldngafappdaa
