/-
  Of more bytes than there is room for just the first ones come, and that is told once.
-/
import Derived.Test.YtjaldngafappdaaPlain
import Derived.Deep.LoopGhost
import Derived.Laws.IdiomStrings
set_option linter.unusedVariables false
set_option linter.unusedSimpArgs false
namespace Go.Proofs.Ytjaldngafappdaa
open Go.RowKit Go.Lib

/-- Bytes wait. -/
def stW (l : List UInt8) (ov : Bool) : Ua := { c := l, o := [], r := fun _ => 0, ov := ov }
def preB (y : ByteArray) (j : Nat) : ByteArray := ⟨(y.data.toList.take j).toArray⟩
theorem preB_size (y : ByteArray) (j : Nat) (h : y.size ≤ 16) : (preB y j).size + 1 ≤ 9223372036854775807 := by
  have : (preB y j).size = (y.data.toList.take j).length := rfl
  have h2 : y.data.toList.length = y.size := by simp
  rw [this, List.length_take]
  omega
theorem preB_zero (y : ByteArray) : preB y 0 = ⟨#[]⟩ := rfl
theorem preB_all (y : ByteArray) : preB y y.size = y := by
  unfold preB
  rw [List.take_of_length_le (by simp)]
theorem preB_snoc (y : ByteArray) (j : Nat) (c : UInt8) (l : List UInt8) (h : y.data.toList.drop j = c :: l) : preB y j ++ ⟨#[c]⟩ = preB y (j + 1) := by
  unfold preB
  have hlt : j < y.data.toList.length := by
    rcases Nat.lt_or_ge j y.data.toList.length with h' | h'
    · exact h'
    · rw [List.drop_eq_nil_of_le h'] at h; cases h
  have e : y.data.toList[j] = c := by
    rw [List.drop_eq_getElem_cons hlt] at h
    injection h
  rw [List.take_succ_eq_append_getElem hlt, e]
  apply ByteArray.ext
  simp
theorem conv_one (w : World) (c : UInt8) : (convert 43 9 (.slice (some ⟨w.heap.size, 0, none⟩) 1 1)).run Try.prog (w.alloc (.cells #[.int .u8 (c.toNat : Int)] 5)) = .ok (.string ⟨#[c]⟩) (w.alloc (.cells #[.int .u8 (c.toNat : Int)] 5)) := by
  refine run_convert_bytes_back (P := Try.prog) _ 43 9 5 ⟨w.heap.size, 0, none⟩ 1 [c] Try.underlying43 (by kernel_rfl) Try.underlying9 ?_
  intro i hi
  match i, hi with
  | 0, hi => simp [Addr.add]
theorem st_one (l1 l2 : List UInt8) : fS (fS S0 l1) l2 = stW ((l1 ++ l2).take 16) (decide (16 < (l1 ++ l2).length)) := by
  unfold fS S0 stW
  simp only [List.nil_append, List.length_nil, Nat.sub_zero, Bool.false_or, List.length_append, List.length_take]
  congr 1
  · rw [List.take_append]
    congr 2
    omega
  · rw [Bool.eq_iff_iff]
    simp
    omega
theorem get_W (l : List UInt8) (ov : Bool) (c : UInt8) : gS (stW (c :: l) ov) 0 = stW l ov := by kernel_rfl
theorem getv_W (l : List UInt8) (ov : Bool) (c : UInt8) : gV (stW (c :: l) ov) 0 = (c.toNat : Int) := by kernel_rfl
theorem stv_W (l : List UInt8) (ov : Bool) : gV (stW l ov) 20 = 96 + (if l = [] then 0 else 1) + (if ov then 2 else 0) := by
  unfold gV
  rw [if_neg (by decide), if_neg (by decide), if_neg (by decide), if_neg (by decide), if_pos rfl]
  rfl
theorem stv_bit (l : List UInt8) (ov : Bool) : (bits .and .u32 (gV (stW l ov) 20) 2 != 0) = ov := by
  rw [stv_W]
  by_cases h : l = [] <;> cases ov <;> simp only [h, if_true, if_false] <;> kernel_rfl

set_option maxRecDepth 100000 in
set_option maxHeartbeats 1000000 in
theorem loses_no (s t x : ByteArray) (w : World) (hs : s.size ≤ 60) (ht : t.size ≤ 60) (hx : s ++ t = x) (hc : x.size ≤ 16) (hy2 : x.size ≤ 16) (hf : fS (fS S0 s.data.toList) t.data.toList = stW x.data.toList false) (h16 : (fS S0 s.data.toList).c.length ≤ 16) :
    Calls Try.prog 8 #[.string s, .string t] w fun e w' => e = .returned (.bool true) ∧ Below w.heap.size w w' := by
  have HX2 := _root_.Go.Lib.hid (show x.size ≤ 120 by rw [← hx]; simp; omega)
  have HS := _root_.Go.Lib.hid hs
  have HT := _root_.Go.Lib.hid ht
  have HC := _root_.Go.Lib.hid hc
  have HY2 := _root_.Go.Lib.hid hy2
  have HF := _root_.Go.Lib.hid hf
  have H16 := _root_.Go.Lib.hid h16
  have s1 : ((s.size : Int) > 60) = False := by simp; omega
  have t1 : ((t.size : Int) > 60) = False := by simp; omega
  have x1 : ((x.size : Int) > 16) = False := by simp; omega
  have x2 : ((x.size : Int) ≤ 16) = True := by simp; omega
  have x3 : x.size ≤ 16 := by omega
  have hcat : s.size + t.size ≤ 9223372036854775807 := by omega
  clear hs ht hc hy2 hf h16
  obtain ⟨va, hva⟩ : ∃ v, v = gV (stW x.data.toList false) 20 := ⟨_, rfl⟩
  obtain ⟨vb, hvb⟩ : ∃ v, v = gV (stW x.data.toList false) 20 := ⟨_, rfl⟩
  have a2 : (bits .and .u32 va 2 != 0) = false := by rw [hva]; exact stv_bit _ _
  have b2 : (bits .and .u32 vb 2 == 0) = true := by have := stv_bit x.data.toList false; rw [← hvb] at this; simpa using this
  have VA := _root_.Go.Lib.hid hva
  have VB := _root_.Go.Lib.hid hvb
  clear hva hvb
  go_enter Try.func8, Try.ntmps8
  go_wp2_with fail
  refine (alive_calls _).mono ?_
  rintro e w1 ⟨rfl, h1⟩
  have H1 := _root_.Go.Lib.hid h1
  clear h1
  go_wp2_with fail
  refine (new_u (B := w.heap.size) (W := w) [] H1.out H1.out.size (fun p hp => by cases hp)).mono ?_
  rintro e w2 ⟨rfl, h2⟩
  have H2 := _root_.Go.Lib.hid h2
  clear h2 H1
  go_wp2_with fail
  refine (feed_u H2.out s _ (by decide) (by have := HS.out; omega) rfl).mono ?_
  rintro e w3 ⟨rfl, h3⟩
  have H3 := _root_.Go.Lib.hid h3
  clear h3 H2
  go_wp2_with fail
  refine (feed_u H3.out t _ H16.out (by have := HT.out; omega) HF.out).mono ?_
  rintro e w4 ⟨rfl, h4⟩
  have H4 := _root_.Go.Lib.hid h4
  clear h4 H3
  go_wp2_with fail
  refine (get_u H4.out 20 va true (stW x.data.toList false) (by decide) VA.out.symm (by kernel_rfl) (by kernel_rfl)).mono ?_
  rintro e w5 ⟨rfl, h5⟩
  have H5 := _root_.Go.Lib.hid h5
  clear h5 H4
  go_wp2_with fail
  refine (get_u H5.out 20 vb true (stW x.data.toList false) (by decide) VB.out.symm (by kernel_rfl) (by kernel_rfl)).mono ?_
  rintro e w6 ⟨rfl, h6⟩
  have H6 := _root_.Go.Lib.hid h6
  clear h6 H5
  go_wp2_with fail
  go_loopg [12, 57] (x.size) (fun k g i wr => ∃ j : Nat, j + k = x.size ∧ i = .int .i64 (j : Int) ∧ g = .string (preB x j) ∧ UW w.heap.size w1.heap.size (stW (x.data.toList.drop j) false) w [] wr)
  case atStart => exact ⟨0, by omega, rfl, rfl, H6.out⟩
  case round =>
    obtain ⟨j, hj, rfl, rfl, hu⟩ := hrel
    by_cases hjm : j < x.size
    · have hlt : ((j : Int) < x.size) = True := by simp; omega
      obtain ⟨c, l, hcl⟩ : ∃ c l, x.data.toList.drop j = c :: l := by
        cases h : x.data.toList.drop j with
        | nil => rw [List.drop_eq_nil_iff] at h; simp at h; omega
        | cons c l => exact ⟨c, l, rfl⟩
      rw [hcl] at hu
      have HCL := _root_.Go.Lib.hid hcl
      have HU := _root_.Go.Lib.hid hu
      have hw := u8_wrap c
      have hcv := fun w => conv_one w c
      have hyb := HY2.out
      have hps : (preB x j).size + 1 ≤ 9223372036854775807 := preB_size x j (by have := HY2.out; omega)
      clear hu H6 hcl
      go_wp2_with fail
      refine (get_u HU.out 0 c.toNat true (stW l false) (by decide) (getv_W l false c) (by kernel_rfl) (get_W l false c)).mono ?_
      rintro e w7 ⟨rfl, h7⟩
      have H7 := _root_.Go.Lib.hid h7
      clear h7 HU
      go_wp2_with fail
      go_roundg (x.size - (j + 1))
      case measure => omega
      case rel => exact ⟨j + 1, by omega, by first | rfl | go_num, by rw [preB_snoc _ _ _ _ HCL.out], by
        have e : x.data.toList.drop (j + 1) = l := by rw [← List.drop_drop, HCL.out]; rfl
        rw [e]; exact H7.out.alloc _⟩
    · have hlt : ((j : Int) < x.size) = False := by simp; omega
      obtain rfl : j = x.size := by omega
      have hall := preB_all x
      have HU := _root_.Go.Lib.hid hu
      clear hu H6
      go_wp2_with fail
      go_ret
      exact ⟨rfl, HU.out.bel⟩
set_option maxRecDepth 100000 in
set_option maxHeartbeats 1000000 in
theorem loses_some (s t x y : ByteArray) (w : World) (hs : s.size ≤ 60) (ht : t.size ≤ 60) (hx : s ++ t = x) (hc : 16 < x.size) (hy : x.extract 0 16 = y) (hy2 : y.size ≤ 16) (hf : fS (fS S0 s.data.toList) t.data.toList = stW y.data.toList true) (h16 : (fS S0 s.data.toList).c.length ≤ 16) :
    Calls Try.prog 8 #[.string s, .string t] w fun e w' => e = .returned (.bool true) ∧ Below w.heap.size w w' := by
  have HX2 := _root_.Go.Lib.hid (show x.size ≤ 120 by rw [← hx]; simp; omega)
  have HS := _root_.Go.Lib.hid hs
  have HT := _root_.Go.Lib.hid ht
  have HC := _root_.Go.Lib.hid hc
  have HY2 := _root_.Go.Lib.hid hy2
  have HF := _root_.Go.Lib.hid hf
  have H16 := _root_.Go.Lib.hid h16
  have s1 : ((s.size : Int) > 60) = False := by simp; omega
  have t1 : ((t.size : Int) > 60) = False := by simp; omega
  have x1 : ((x.size : Int) > 16) = True := by simp; omega
  have x2 : ((x.size : Int) ≤ 16) = False := by simp; omega
  have x3 : 16 ≤ x.size := by omega
  have hcat : s.size + t.size ≤ 9223372036854775807 := by omega
  clear hs ht hc hy2 hf h16
  obtain ⟨va, hva⟩ : ∃ v, v = gV (stW y.data.toList true) 20 := ⟨_, rfl⟩
  obtain ⟨vb, hvb⟩ : ∃ v, v = gV (stW y.data.toList false) 20 := ⟨_, rfl⟩
  have a2 : (bits .and .u32 va 2 != 0) = true := by rw [hva]; exact stv_bit _ _
  have b2 : (bits .and .u32 vb 2 == 0) = true := by have := stv_bit y.data.toList false; rw [← hvb] at this; simpa using this
  have VA := _root_.Go.Lib.hid hva
  have VB := _root_.Go.Lib.hid hvb
  clear hva hvb
  go_enter Try.func8, Try.ntmps8
  go_wp2_with fail
  refine (alive_calls _).mono ?_
  rintro e w1 ⟨rfl, h1⟩
  have H1 := _root_.Go.Lib.hid h1
  clear h1
  go_wp2_with fail
  refine (new_u (B := w.heap.size) (W := w) [] H1.out H1.out.size (fun p hp => by cases hp)).mono ?_
  rintro e w2 ⟨rfl, h2⟩
  have H2 := _root_.Go.Lib.hid h2
  clear h2 H1
  go_wp2_with fail
  refine (feed_u H2.out s _ (by decide) (by have := HS.out; omega) rfl).mono ?_
  rintro e w3 ⟨rfl, h3⟩
  have H3 := _root_.Go.Lib.hid h3
  clear h3 H2
  go_wp2_with fail
  refine (feed_u H3.out t _ H16.out (by have := HT.out; omega) HF.out).mono ?_
  rintro e w4 ⟨rfl, h4⟩
  have H4 := _root_.Go.Lib.hid h4
  clear h4 H3
  go_wp2_with fail
  refine (get_u H4.out 20 va true (stW y.data.toList false) (by decide) VA.out.symm (by kernel_rfl) (by kernel_rfl)).mono ?_
  rintro e w5 ⟨rfl, h5⟩
  have H5 := _root_.Go.Lib.hid h5
  clear h5 H4
  go_wp2_with fail
  refine (get_u H5.out 20 vb true (stW y.data.toList false) (by decide) VB.out.symm (by kernel_rfl) (by kernel_rfl)).mono ?_
  rintro e w6 ⟨rfl, h6⟩
  have H6 := _root_.Go.Lib.hid h6
  clear h6 H5
  go_wp2_with fail
  go_loopg [12, 57] (y.size) (fun k g i wr => ∃ j : Nat, j + k = y.size ∧ i = .int .i64 (j : Int) ∧ g = .string (preB y j) ∧ UW w.heap.size w1.heap.size (stW (y.data.toList.drop j) false) w [] wr)
  case atStart => exact ⟨0, by omega, rfl, rfl, H6.out⟩
  case round =>
    obtain ⟨j, hj, rfl, rfl, hu⟩ := hrel
    by_cases hjm : j < y.size
    · have hlt : ((j : Int) < y.size) = True := by simp; omega
      obtain ⟨c, l, hcl⟩ : ∃ c l, y.data.toList.drop j = c :: l := by
        cases h : y.data.toList.drop j with
        | nil => rw [List.drop_eq_nil_iff] at h; simp at h; omega
        | cons c l => exact ⟨c, l, rfl⟩
      rw [hcl] at hu
      have HCL := _root_.Go.Lib.hid hcl
      have HU := _root_.Go.Lib.hid hu
      have hw := u8_wrap c
      have hcv := fun w => conv_one w c
      have hyb := HY2.out
      have hps : (preB y j).size + 1 ≤ 9223372036854775807 := preB_size y j (by have := HY2.out; omega)
      clear hu H6 hcl
      go_wp2_with fail
      refine (get_u HU.out 0 c.toNat true (stW l false) (by decide) (getv_W l false c) (by kernel_rfl) (get_W l false c)).mono ?_
      rintro e w7 ⟨rfl, h7⟩
      have H7 := _root_.Go.Lib.hid h7
      clear h7 HU
      go_wp2_with fail
      go_roundg (y.size - (j + 1))
      case measure => omega
      case rel => exact ⟨j + 1, by omega, by first | rfl | go_num, by rw [preB_snoc _ _ _ _ HCL.out], by
        have e : y.data.toList.drop (j + 1) = l := by rw [← List.drop_drop, HCL.out]; rfl
        rw [e]; exact H7.out.alloc _⟩
    · have hlt : ((j : Int) < y.size) = False := by simp; omega
      obtain rfl : j = y.size := by omega
      have hall := preB_all y
      have HU := _root_.Go.Lib.hid hu
      clear hu H6
      go_wp2_with fail
      go_ret
      exact ⟨rfl, HU.out.bel⟩
theorem loses_big1 (s t : ByteArray) (w : World) (hs : 60 < s.size) (hm : s.size ≤ maxLen) (hm2 : t.size ≤ maxLen) : Calls Try.prog 8 #[.string s, .string t] w fun e w' => e = .returned (.bool true) ∧ Below w.heap.size w w' := by
  unfold maxLen at hm hm2
  have s1 : ((s.size : Int) > 60) = True := by simp; omega
  go_enter Try.func8, Try.ntmps8
  go_wp2_with fail
  refine (alive_calls _).mono ?_
  rintro e w1 ⟨rfl, h1⟩
  have H1 := _root_.Go.Lib.hid h1
  clear h1
  go_wp2_with fail
  go_ret
  exact ⟨rfl, H1.out⟩
theorem loses_big2 (s t : ByteArray) (w : World) (hs : s.size ≤ 60) (ht : 60 < t.size) (hm2 : t.size ≤ maxLen) : Calls Try.prog 8 #[.string s, .string t] w fun e w' => e = .returned (.bool true) ∧ Below w.heap.size w w' := by
  unfold maxLen at hm2
  have s1 : ((s.size : Int) > 60) = False := by simp; omega
  have t1 : ((t.size : Int) > 60) = True := by simp; omega
  go_enter Try.func8, Try.ntmps8
  go_wp2_with fail
  refine (alive_calls _).mono ?_
  rintro e w1 ⟨rfl, h1⟩
  have H1 := _root_.Go.Lib.hid h1
  clear h1
  go_wp2_with fail
  go_ret
  exact ⟨rfl, H1.out⟩
theorem loses_calls (s t : ByteArray) (w : World) (hm : s.size ≤ maxLen) (hm2 : t.size ≤ maxLen) : Calls Try.prog 8 #[.string s, .string t] w fun e w' => e = .returned (.bool true) ∧ Below w.heap.size w w' := by
  rcases Nat.lt_or_ge 60 s.size with hs | hs
  · exact loses_big1 s t w hs hm hm2
  rcases Nat.lt_or_ge 60 t.size with ht | ht
  · exact loses_big2 s t w hs ht hm2
  have hst := st_one s.data.toList t.data.toList
  have e1 : (s ++ t).data.toList = s.data.toList ++ t.data.toList := by simp
  have e2 : (s.data.toList ++ t.data.toList).length = (s ++ t).size := by rw [← e1]; simp
  have h16 : (fS S0 s.data.toList).c.length ≤ 16 := by
    unfold fS S0
    simp only [List.nil_append, List.length_nil, List.length_take]
    omega
  rcases Nat.lt_or_ge 16 (s ++ t).size with h | h
  · refine loses_some s t _ _ w hs ht rfl h rfl ?_ ?_ h16
    · simp
      omega
    · rw [hst, e2, ← e1, show decide (16 < (s ++ t).size) = true by simpa using h]
      congr 1
      simp [List.take_append]
  · refine loses_no s t _ w hs ht rfl h h ?_ h16
    rw [hst, e2, ← e1, show decide (16 < (s ++ t).size) = false by simpa using h, List.take_of_length_le (by rw [e1, e2]; exact h)]
end Go.Proofs.Ytjaldngafappdaa
