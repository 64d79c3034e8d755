/-
  Bytes that come are told in their order, each once; bytes that go go in their order.
-/
import Derived.Test.YtjaldngafappdaaLoses
import Derived.Test.YtjaldngafappdaaOpen
set_option linter.unusedVariables false
set_option linter.unusedSimpArgs false
namespace Go.Proofs.Ytjaldngafappdaa
open Go.RowKit Go.Lib

def stO (l : List UInt8) : Ua := { c := [], o := l, r := fun _ => 0, ov := false }
theorem set_O (l : List UInt8) (c : UInt8) : sS (stO l) 0 c = stO (l ++ [c]) := by kernel_rfl
theorem or_u (a b : BitVec 32) : bits .or .u32 (u a) (u b) = u (a ||| b) := by
  show IntKind.u32.wrap ((BitVec.ofInt 32 (u a) ||| BitVec.ofInt 32 (u b)).toNat : Int) = _
  rw [ofInt_u, ofInt_u, wrap_u]
theorem high_low (c : UInt8) : bits .and .u32 (bits .or .u32 (c.toNat : Int) 1792) 255 = (c.toNat : Int) := by
  have hc := c.toNat_lt
  obtain ⟨x, hx⟩ := u_of (c.toNat : Int) (by omega)
  have e1 : bits .or .u32 (c.toNat : Int) 1792 = u (x ||| 1792#32) := by rw [hx]; exact or_u x 1792#32
  rw [e1]
  refine (and_u (x ||| 1792#32) 255#32).trans ?_
  rw [hx]
  congr 1
  have e2 : x &&& 255#32 = x := by
    apply BitVec.eq_of_toNat_eq
    rw [BitVec.toNat_and]
    refine (Nat.and_two_pow_sub_one_eq_mod x.toNat 8).trans (Nat.mod_eq_of_lt ?_)
    unfold u at hx
    omega
  have e3 : (x ||| 1792#32) &&& 255#32 = x &&& 255#32 := by
    ext i hi
    simp only [BitVec.getElem_and, BitVec.getElem_or]
    have : ((1792#32)[i] && (255#32)[i]) = false := by
      have : 1792#32 &&& 255#32 = 0#32 := by decide
      rw [← BitVec.getElem_and, this]
      simp
    cases h1 : x[i] <;> cases h2 : (1792#32)[i] <;> cases h3 : (255#32)[i] <;> simp_all
  rw [e3, e2]
theorem preB_size2 (y : ByteArray) (j : Nat) (h : y.size ≤ 60) : (preB y j).size + 1 ≤ 9223372036854775807 := by
  have : (preB y j).size = (y.data.toList.take j).length := rfl
  have h2 : y.data.toList.length = y.size := by simp
  rw [this, List.length_take]
  omega
theorem stv_low (l : List UInt8) (ov : Bool) : (bits .and .u32 (gV (stW l ov) 20) 1 != 1) = decide (l = []) := by
  rw [stv_W]
  by_cases h : l = [] <;> cases ov <;> simp only [h, if_true, if_false, decide_true, decide_false] <;> kernel_rfl
theorem st_feed (l : List UInt8) : fS S0 l = stW (l.take 16) (decide (16 < l.length)) := by
  unfold fS S0 stW
  simp

set_option maxRecDepth 100000 in
set_option maxHeartbeats 2000000 in
theorem rows_zero_none (s : ByteArray) (cap : Nat) (ad : Option Addr) (w : World) (hs : s.size ≤ 60) (hc : s.size = 0) (h16 : (s.data.toList.take 16).length = 0) :
    Calls Try.prog 4 #[.string s, .slice ad 0 cap] w fun e w' => e = .returned (.bool true) ∧ Below w.heap.size w w' := by
  obtain rfl : s = ⟨#[]⟩ := ByteArray.ext (Array.eq_empty_of_size_eq_zero hc)
  have HS := _root_.Go.Lib.hid hs
  have HC := _root_.Go.Lib.hid hc
  have H16 := _root_.Go.Lib.hid h16
  have HF := _root_.Go.Lib.hid (show fS S0 (⟨#[]⟩ : ByteArray).data.toList = stW ((⟨#[]⟩ : ByteArray).data.toList.take 16) false by rw [st_feed]; rfl)
  obtain ⟨va, hva⟩ : ∃ v, v = gV (stW ((⟨#[]⟩ : ByteArray).data.toList.take 16) false) 20 := ⟨_, rfl⟩
  have a1 : (bits .and .u32 va 1 != 1) = true := by
    rw [hva]
    refine (stv_low _ _).trans ?_
    rw [List.eq_nil_of_length_eq_zero h16]; rfl
  have a2 : (bits .and .u32 va 2 != 0) = false := by rw [hva]; exact stv_bit _ _
  have VA := _root_.Go.Lib.hid hva
  clear hva hs hc h16
  go_enter Try.func4, Try.ntmps4
  go_wp2_with fail
  refine (alive_calls _).mono ?_
  rintro e w1 ⟨rfl, h1⟩
  have H1 := _root_.Go.Lib.hid h1
  clear h1
  go_wp2_with fail
  refine (new_u (B := w.heap.size) (W := w) [] H1.out H1.out.size (fun p hp => by cases hp)).mono ?_
  rintro e w2 ⟨rfl, h2⟩
  have H2 := _root_.Go.Lib.hid h2
  clear h2 H1
  go_wp2_with fail
  refine (feed_u H2.out (⟨#[]⟩ : ByteArray) _ (by decide) (by have := HS.out; omega) HF.out).mono ?_
  rintro e w3 ⟨rfl, h3⟩
  have H3 := _root_.Go.Lib.hid h3
  clear h3 H2
  go_wp2_with fail
  refine (get_u H3.out 20 va true (stW ((⟨#[]⟩ : ByteArray).data.toList.take 16) false) (by decide) VA.out.symm (by kernel_rfl) (by kernel_rfl)).mono ?_
  rintro e w4 ⟨rfl, h4⟩
  have H4 := _root_.Go.Lib.hid h4
  clear h4 H3
  go_wp2_with fail
  go_loopg [59] 0 (fun k i wr => ∃ j : Nat, j + k = 0 ∧ i = .int .i64 (j : Int) ∧ UW w.heap.size w1.heap.size (stW (((⟨#[]⟩ : ByteArray).data.toList.take 16).drop j) false) w [] wr)
  case atStart => exact ⟨0, by omega, rfl, H4.out⟩
  case round =>
    obtain ⟨j, hj, rfl, hu⟩ := hrel
    by_cases hjm : j < 0
    · omega
    · have hlt : ((j : Int) < (0 : Int)) = False := by simp <;> omega
      have HU := _root_.Go.Lib.hid (show UW w.heap.size w1.heap.size (stW [] false) w [] wr by
        rw [List.drop_eq_nil_of_le (by rw [H16.out]; omega)] at hu; exact hu)
      clear hu H4
      go_wp2_with fail
      refine (get_u HU.out 0 0 true (stW [] false) (by decide) (by kernel_rfl) (by kernel_rfl) (by kernel_rfl)).mono ?_
      rintro e w8 ⟨rfl, h8⟩
      have H8 := _root_.Go.Lib.hid h8
      clear h8
      go_wp2_with fail
      refine (get_u H8.out 20 96 true (stO []) (by decide) (by kernel_rfl) (by kernel_rfl) (by kernel_rfl)).mono ?_
      rintro e w9 ⟨rfl, h9⟩
      have H9 := _root_.Go.Lib.hid h9
      clear h9 H8
      go_wp2_with fail
      go_loopg [15, 90] 0 (fun k g i wr => ∃ j : Nat, j + k = 0 ∧ i = .int .i64 (j : Int) ∧ g = .string (preB ⟨([] : List UInt8).toArray⟩ j) ∧ UW w.heap.size w1.heap.size (stO (List.take j ([] : List UInt8))) w [] wr)
      case atStart => exact ⟨0, by omega, rfl, rfl, H9.out⟩
      case round =>
        obtain ⟨j2, hj2, rfl, rfl, hu2⟩ := hrel
        have HV := _root_.Go.Lib.hid hu2
        clear hu2 H9 HU
        obtain rfl : j2 = 0 := by omega
        go_wp2_with fail
        refine (out_u HV.out (preB ⟨([] : List UInt8).toArray⟩ 0) _ rfl rfl).mono ?_
        rintro e w11 ⟨rfl, h11⟩
        have H11 := _root_.Go.Lib.hid h11
        clear h11 HV
        go_wp2_with fail
        go_ret
        exact ⟨rfl, H11.out.bel⟩
set_option maxRecDepth 100000 in
set_option maxHeartbeats 2000000 in
theorem rows_zero_any (s : ByteArray) (cap : Nat) (g off : Nat) (bs : List UInt8) (w : World) (hs : s.size ≤ 60) (hc : s.size = 0) (hb : bs.length ≤ 60) (hg : g < w.heap.size) (hcell : ∀ j, j < bs.length → w.cell? ⟨g, off + j, none⟩ = some (.int .u8 ((bs.getD j 0).toNat : Int))) (h16 : (s.data.toList.take 16).length = 0) :
    Calls Try.prog 4 #[.string s, .slice (some ⟨g, off, none⟩) bs.length cap] w fun e w' => e = .returned (.bool true) ∧ Below w.heap.size w w' := by
  obtain rfl : s = ⟨#[]⟩ := ByteArray.ext (Array.eq_empty_of_size_eq_zero hc)
  have HS := _root_.Go.Lib.hid hs
  have HC := _root_.Go.Lib.hid hc
  have H16 := _root_.Go.Lib.hid h16
  have b1 : ((bs.length : Int) > 60) = False := by simp; omega
  have HB := _root_.Go.Lib.hid hb
  have HG := _root_.Go.Lib.hid hg
  have HCELL := _root_.Go.Lib.hid hcell
  have HF := _root_.Go.Lib.hid (show fS S0 (⟨#[]⟩ : ByteArray).data.toList = stW ((⟨#[]⟩ : ByteArray).data.toList.take 16) false by rw [st_feed]; rfl)
  obtain ⟨va, hva⟩ : ∃ v, v = gV (stW ((⟨#[]⟩ : ByteArray).data.toList.take 16) false) 20 := ⟨_, rfl⟩
  have a1 : (bits .and .u32 va 1 != 1) = true := by
    rw [hva]
    refine (stv_low _ _).trans ?_
    rw [List.eq_nil_of_length_eq_zero h16]; rfl
  have a2 : (bits .and .u32 va 2 != 0) = false := by rw [hva]; exact stv_bit _ _
  have VA := _root_.Go.Lib.hid hva
  clear hva hs hc h16 hb hg hcell
  go_enter Try.func4, Try.ntmps4
  go_wp2_with fail
  refine (alive_calls _).mono ?_
  rintro e w1 ⟨rfl, h1⟩
  have H1 := _root_.Go.Lib.hid h1
  clear h1
  go_wp2_with fail
  refine (new_u (B := w.heap.size) (W := w) [] H1.out H1.out.size (fun p hp => by cases hp)).mono ?_
  rintro e w2 ⟨rfl, h2⟩
  have H2 := _root_.Go.Lib.hid h2
  clear h2 H1
  go_wp2_with fail
  refine (feed_u H2.out (⟨#[]⟩ : ByteArray) _ (by decide) (by have := HS.out; omega) HF.out).mono ?_
  rintro e w3 ⟨rfl, h3⟩
  have H3 := _root_.Go.Lib.hid h3
  clear h3 H2
  go_wp2_with fail
  refine (get_u H3.out 20 va true (stW ((⟨#[]⟩ : ByteArray).data.toList.take 16) false) (by decide) VA.out.symm (by kernel_rfl) (by kernel_rfl)).mono ?_
  rintro e w4 ⟨rfl, h4⟩
  have H4 := _root_.Go.Lib.hid h4
  clear h4 H3
  go_wp2_with fail
  go_loopg [59] 0 (fun k i wr => ∃ j : Nat, j + k = 0 ∧ i = .int .i64 (j : Int) ∧ UW w.heap.size w1.heap.size (stW (((⟨#[]⟩ : ByteArray).data.toList.take 16).drop j) false) w [] wr)
  case atStart => exact ⟨0, by omega, rfl, H4.out⟩
  case round =>
    obtain ⟨j, hj, rfl, hu⟩ := hrel
    by_cases hjm : j < 0
    · omega
    · have hlt : ((j : Int) < (0 : Int)) = False := by simp <;> omega
      have HU := _root_.Go.Lib.hid (show UW w.heap.size w1.heap.size (stW [] false) w [] wr by
        rw [List.drop_eq_nil_of_le (by rw [H16.out]; omega)] at hu; exact hu)
      clear hu H4
      go_wp2_with fail
      refine (get_u HU.out 0 0 true (stW [] false) (by decide) (by kernel_rfl) (by kernel_rfl) (by kernel_rfl)).mono ?_
      rintro e w8 ⟨rfl, h8⟩
      have H8 := _root_.Go.Lib.hid h8
      clear h8
      go_wp2_with fail
      refine (get_u H8.out 20 96 true (stO []) (by decide) (by kernel_rfl) (by kernel_rfl) (by kernel_rfl)).mono ?_
      rintro e w9 ⟨rfl, h9⟩
      have H9 := _root_.Go.Lib.hid h9
      clear h9 H8
      go_wp2_with fail
      go_loopg [15, 90] bs.length (fun k g i wr => ∃ j : Nat, j + k = bs.length ∧ i = .int .i64 (j : Int) ∧ g = .string (preB ⟨bs.toArray⟩ j) ∧ UW w.heap.size w1.heap.size (stO (List.take j bs)) w [] wr)
      case atStart => exact ⟨0, by omega, rfl, rfl, H9.out⟩
      case round =>
        obtain ⟨j2, hj2, rfl, rfl, hu2⟩ := hrel
        have HV := _root_.Go.Lib.hid hu2
        clear hu2 H9 HU
        by_cases hj2m : j2 < bs.length
        · have hlt2 : ((j2 : Int) < bs.length) = True := by simp <;> omega
          have g1 : wr.cell? ⟨g, off + j2, none⟩ = some (.int .u8 (bs[j2].toNat : Int)) := by
            rw [HV.out.bel.cell (p := ⟨g, off + j2, none⟩) HG.out, HCELL.out j2 hj2m]
            simp [List.getD, hj2m]
          generalize hc : bs[j2] = c at g1
          have HC := _root_.Go.Lib.hid hc
          have hw := u8_wrap c
          have hcb := c.toNat_lt
          have hcv := fun w => conv_one w c
          have hps := preB_size2 ⟨bs.toArray⟩ j2 (by have := HB.out; exact this)
          have hbb := HB.out
          clear hc
          go_wp2_with fail
          refine (set_u HV.out 0 _ c true _ (by decide) (high_low c) (by show (bs.take j2).length ≤ 1000; rw [List.length_take]; have := HB.out; omega) (by kernel_rfl) (set_O (bs.take j2) c)).mono ?_
          rintro e w10 ⟨rfl, h10⟩
          have H10 := _root_.Go.Lib.hid h10
          clear h10 HV g1
          go_wp2_with fail
          go_roundg (bs.length - (j2 + 1))
          case measure => omega
          case rel => exact ⟨j2 + 1, by omega, by first | rfl | go_num, by
              rw [preB_snoc ⟨bs.toArray⟩ j2 c (bs.drop (j2 + 1)) (by show bs.drop j2 = _; rw [List.drop_eq_getElem_cons hj2m, HC.out])], by
              rw [List.take_succ_eq_append_getElem hj2m, HC.out]; exact H10.out.alloc _⟩
        · have hlt2 : ((j2 : Int) < bs.length) = False := by simp <;> omega
          go_wp2_with fail
          refine (out_u HV.out (preB ⟨bs.toArray⟩ j2) _ rfl rfl).mono ?_
          rintro e w11 ⟨rfl, h11⟩
          have H11 := _root_.Go.Lib.hid h11
          clear h11 HV
          go_wp2_with fail
          go_ret
          exact ⟨rfl, H11.out.bel⟩
set_option maxRecDepth 100000 in
set_option maxHeartbeats 2000000 in
theorem rows_some_none (s : ByteArray) (cap : Nat) (ad : Option Addr) (w : World) (hs : s.size ≤ 60) (hc : 0 < s.size ∧ s.size ≤ 16) (h16 : (s.data.toList.take 16).length = s.size) :
    Calls Try.prog 4 #[.string s, .slice ad 0 cap] w fun e w' => e = .returned (.bool true) ∧ Below w.heap.size w w' := by
  have HS := _root_.Go.Lib.hid hs
  have HC := _root_.Go.Lib.hid hc
  have H16 := _root_.Go.Lib.hid h16
  have HSZ := _root_.Go.Lib.hid (show s.data.toList.length = s.size by simp)
  have s1 : ((s.size : Int) > 60) = False := by simp; omega
  have s2 : ((s.size : Int) > 0) = True := by simp; omega
  have s3 : ((s.size : Int) > 16) = False := by simp; omega
  have s4 : ((s.size : Int) ≤ 16) = True := by simp; omega
  have HF := _root_.Go.Lib.hid (show fS S0 s.data.toList = stW (s.data.toList.take 16) false by rw [st_feed, show decide (16 < s.data.toList.length) = false by simp; omega])
  obtain ⟨va, hva⟩ : ∃ v, v = gV (stW (s.data.toList.take 16) false) 20 := ⟨_, rfl⟩
  have a1 : (bits .and .u32 va 1 != 1) = false := by
    rw [hva]
    refine (stv_low _ _).trans ?_
    have : s.data.toList.take 16 ≠ [] := fun e => by rw [e] at h16; simp at h16 <;> omega
    simpa using this
  have a2 : (bits .and .u32 va 2 != 0) = false := by rw [hva]; exact stv_bit _ _
  have VA := _root_.Go.Lib.hid hva
  clear hva hs hc h16
  go_enter Try.func4, Try.ntmps4
  go_wp2_with fail
  refine (alive_calls _).mono ?_
  rintro e w1 ⟨rfl, h1⟩
  have H1 := _root_.Go.Lib.hid h1
  clear h1
  go_wp2_with fail
  refine (new_u (B := w.heap.size) (W := w) [] H1.out H1.out.size (fun p hp => by cases hp)).mono ?_
  rintro e w2 ⟨rfl, h2⟩
  have H2 := _root_.Go.Lib.hid h2
  clear h2 H1
  go_wp2_with fail
  refine (feed_u H2.out s _ (by decide) (by have := HS.out; omega) HF.out).mono ?_
  rintro e w3 ⟨rfl, h3⟩
  have H3 := _root_.Go.Lib.hid h3
  clear h3 H2
  go_wp2_with fail
  refine (get_u H3.out 20 va true (stW (s.data.toList.take 16) false) (by decide) VA.out.symm (by kernel_rfl) (by kernel_rfl)).mono ?_
  rintro e w4 ⟨rfl, h4⟩
  have H4 := _root_.Go.Lib.hid h4
  clear h4 H3
  go_wp2_with fail
  go_loopg [59] s.size (fun k i wr => ∃ j : Nat, j + k = s.size ∧ i = .int .i64 (j : Int) ∧ UW w.heap.size w1.heap.size (stW ((s.data.toList.take 16).drop j) false) w [] wr)
  case atStart => exact ⟨0, by omega, rfl, H4.out⟩
  case round =>
    obtain ⟨j, hj, rfl, hu⟩ := hrel
    by_cases hjm : j < s.size
    · have hlt : ((j : Int) < (s.size : Int)) = True := by simp <;> omega
      have hjs : j < s.size := by have := HS.out; have := HC.out; omega
      obtain ⟨c, l, hcl⟩ : ∃ c l, (s.data.toList.take 16).drop j = c :: l := by
        cases h : (s.data.toList.take 16).drop j with
        | nil => rw [List.drop_eq_nil_iff, H16.out] at h; omega
        | cons c l => exact ⟨c, l, rfl⟩
      have hsj : s[j]'hjs = c := by
        have h1 : ((s.data.toList.take 16).drop j)[0]? = some c := by rw [hcl]; rfl
        rw [List.getElem?_drop, List.getElem?_take_of_lt (by have := H16.out; have h17 : (List.take 16 s.data.toList).length ≤ 16 := List.length_take_le _ _; omega)] at h1
        have h2 : s.data.toList[j]? = some c := by simpa using h1
        rw [List.getElem?_eq_getElem (by simpa using hjs)] at h2
        injection h2
      rw [hcl] at hu
      have HCL := _root_.Go.Lib.hid hcl
      have HU := _root_.Go.Lib.hid hu
      have hcb := c.toNat_lt
      have hs60 := HS.out
      clear hu H4 hcl
      go_wp2_with fail
      refine (get_u HU.out 0 c.toNat true (stW l false) (by decide) (getv_W l false c) (by kernel_rfl) (get_W l false c)).mono ?_
      rintro e w7 ⟨rfl, h7⟩
      have H7 := _root_.Go.Lib.hid h7
      clear h7 HU
      go_wp2_with fail
      go_roundg (s.size - (j + 1))
      case measure => omega
      case rel => exact ⟨j + 1, by omega, by first | rfl | go_num, by
        have e : (s.data.toList.take 16).drop (j + 1) = l := by rw [← List.drop_drop, HCL.out]; rfl
        rw [e]; exact H7.out⟩
    · have hlt : ((j : Int) < (s.size : Int)) = False := by simp <;> omega
      have HU := _root_.Go.Lib.hid (show UW w.heap.size w1.heap.size (stW [] false) w [] wr by
        rw [List.drop_eq_nil_of_le (by rw [H16.out]; omega)] at hu; exact hu)
      clear hu H4
      go_wp2_with fail
      refine (get_u HU.out 0 0 true (stW [] false) (by decide) (by kernel_rfl) (by kernel_rfl) (by kernel_rfl)).mono ?_
      rintro e w8 ⟨rfl, h8⟩
      have H8 := _root_.Go.Lib.hid h8
      clear h8
      go_wp2_with fail
      refine (get_u H8.out 20 96 true (stO []) (by decide) (by kernel_rfl) (by kernel_rfl) (by kernel_rfl)).mono ?_
      rintro e w9 ⟨rfl, h9⟩
      have H9 := _root_.Go.Lib.hid h9
      clear h9 H8
      go_wp2_with fail
      go_loopg [15, 90] 0 (fun k g i wr => ∃ j : Nat, j + k = 0 ∧ i = .int .i64 (j : Int) ∧ g = .string (preB ⟨([] : List UInt8).toArray⟩ j) ∧ UW w.heap.size w1.heap.size (stO (List.take j ([] : List UInt8))) w [] wr)
      case atStart => exact ⟨0, by omega, rfl, rfl, H9.out⟩
      case round =>
        obtain ⟨j2, hj2, rfl, rfl, hu2⟩ := hrel
        have HV := _root_.Go.Lib.hid hu2
        clear hu2 H9 HU
        obtain rfl : j2 = 0 := by omega
        go_wp2_with fail
        refine (out_u HV.out (preB ⟨([] : List UInt8).toArray⟩ 0) _ rfl rfl).mono ?_
        rintro e w11 ⟨rfl, h11⟩
        have H11 := _root_.Go.Lib.hid h11
        clear h11 HV
        go_wp2_with fail
        go_ret
        exact ⟨rfl, H11.out.bel⟩
set_option maxRecDepth 100000 in
set_option maxHeartbeats 2000000 in
theorem rows_some_any (s : ByteArray) (cap : Nat) (g off : Nat) (bs : List UInt8) (w : World) (hs : s.size ≤ 60) (hc : 0 < s.size ∧ s.size ≤ 16) (hb : bs.length ≤ 60) (hg : g < w.heap.size) (hcell : ∀ j, j < bs.length → w.cell? ⟨g, off + j, none⟩ = some (.int .u8 ((bs.getD j 0).toNat : Int))) (h16 : (s.data.toList.take 16).length = s.size) :
    Calls Try.prog 4 #[.string s, .slice (some ⟨g, off, none⟩) bs.length cap] w fun e w' => e = .returned (.bool true) ∧ Below w.heap.size w w' := by
  have HS := _root_.Go.Lib.hid hs
  have HC := _root_.Go.Lib.hid hc
  have H16 := _root_.Go.Lib.hid h16
  have HSZ := _root_.Go.Lib.hid (show s.data.toList.length = s.size by simp)
  have s1 : ((s.size : Int) > 60) = False := by simp; omega
  have s2 : ((s.size : Int) > 0) = True := by simp; omega
  have s3 : ((s.size : Int) > 16) = False := by simp; omega
  have s4 : ((s.size : Int) ≤ 16) = True := by simp; omega
  have b1 : ((bs.length : Int) > 60) = False := by simp; omega
  have HB := _root_.Go.Lib.hid hb
  have HG := _root_.Go.Lib.hid hg
  have HCELL := _root_.Go.Lib.hid hcell
  have HF := _root_.Go.Lib.hid (show fS S0 s.data.toList = stW (s.data.toList.take 16) false by rw [st_feed, show decide (16 < s.data.toList.length) = false by simp; omega])
  obtain ⟨va, hva⟩ : ∃ v, v = gV (stW (s.data.toList.take 16) false) 20 := ⟨_, rfl⟩
  have a1 : (bits .and .u32 va 1 != 1) = false := by
    rw [hva]
    refine (stv_low _ _).trans ?_
    have : s.data.toList.take 16 ≠ [] := fun e => by rw [e] at h16; simp at h16 <;> omega
    simpa using this
  have a2 : (bits .and .u32 va 2 != 0) = false := by rw [hva]; exact stv_bit _ _
  have VA := _root_.Go.Lib.hid hva
  clear hva hs hc h16 hb hg hcell
  go_enter Try.func4, Try.ntmps4
  go_wp2_with fail
  refine (alive_calls _).mono ?_
  rintro e w1 ⟨rfl, h1⟩
  have H1 := _root_.Go.Lib.hid h1
  clear h1
  go_wp2_with fail
  refine (new_u (B := w.heap.size) (W := w) [] H1.out H1.out.size (fun p hp => by cases hp)).mono ?_
  rintro e w2 ⟨rfl, h2⟩
  have H2 := _root_.Go.Lib.hid h2
  clear h2 H1
  go_wp2_with fail
  refine (feed_u H2.out s _ (by decide) (by have := HS.out; omega) HF.out).mono ?_
  rintro e w3 ⟨rfl, h3⟩
  have H3 := _root_.Go.Lib.hid h3
  clear h3 H2
  go_wp2_with fail
  refine (get_u H3.out 20 va true (stW (s.data.toList.take 16) false) (by decide) VA.out.symm (by kernel_rfl) (by kernel_rfl)).mono ?_
  rintro e w4 ⟨rfl, h4⟩
  have H4 := _root_.Go.Lib.hid h4
  clear h4 H3
  go_wp2_with fail
  go_loopg [59] s.size (fun k i wr => ∃ j : Nat, j + k = s.size ∧ i = .int .i64 (j : Int) ∧ UW w.heap.size w1.heap.size (stW ((s.data.toList.take 16).drop j) false) w [] wr)
  case atStart => exact ⟨0, by omega, rfl, H4.out⟩
  case round =>
    obtain ⟨j, hj, rfl, hu⟩ := hrel
    by_cases hjm : j < s.size
    · have hlt : ((j : Int) < (s.size : Int)) = True := by simp <;> omega
      have hjs : j < s.size := by have := HS.out; have := HC.out; omega
      obtain ⟨c, l, hcl⟩ : ∃ c l, (s.data.toList.take 16).drop j = c :: l := by
        cases h : (s.data.toList.take 16).drop j with
        | nil => rw [List.drop_eq_nil_iff, H16.out] at h; omega
        | cons c l => exact ⟨c, l, rfl⟩
      have hsj : s[j]'hjs = c := by
        have h1 : ((s.data.toList.take 16).drop j)[0]? = some c := by rw [hcl]; rfl
        rw [List.getElem?_drop, List.getElem?_take_of_lt (by have := H16.out; have h17 : (List.take 16 s.data.toList).length ≤ 16 := List.length_take_le _ _; omega)] at h1
        have h2 : s.data.toList[j]? = some c := by simpa using h1
        rw [List.getElem?_eq_getElem (by simpa using hjs)] at h2
        injection h2
      rw [hcl] at hu
      have HCL := _root_.Go.Lib.hid hcl
      have HU := _root_.Go.Lib.hid hu
      have hcb := c.toNat_lt
      have hs60 := HS.out
      clear hu H4 hcl
      go_wp2_with fail
      refine (get_u HU.out 0 c.toNat true (stW l false) (by decide) (getv_W l false c) (by kernel_rfl) (get_W l false c)).mono ?_
      rintro e w7 ⟨rfl, h7⟩
      have H7 := _root_.Go.Lib.hid h7
      clear h7 HU
      go_wp2_with fail
      go_roundg (s.size - (j + 1))
      case measure => omega
      case rel => exact ⟨j + 1, by omega, by first | rfl | go_num, by
        have e : (s.data.toList.take 16).drop (j + 1) = l := by rw [← List.drop_drop, HCL.out]; rfl
        rw [e]; exact H7.out⟩
    · have hlt : ((j : Int) < (s.size : Int)) = False := by simp <;> omega
      have HU := _root_.Go.Lib.hid (show UW w.heap.size w1.heap.size (stW [] false) w [] wr by
        rw [List.drop_eq_nil_of_le (by rw [H16.out]; omega)] at hu; exact hu)
      clear hu H4
      go_wp2_with fail
      refine (get_u HU.out 0 0 true (stW [] false) (by decide) (by kernel_rfl) (by kernel_rfl) (by kernel_rfl)).mono ?_
      rintro e w8 ⟨rfl, h8⟩
      have H8 := _root_.Go.Lib.hid h8
      clear h8
      go_wp2_with fail
      refine (get_u H8.out 20 96 true (stO []) (by decide) (by kernel_rfl) (by kernel_rfl) (by kernel_rfl)).mono ?_
      rintro e w9 ⟨rfl, h9⟩
      have H9 := _root_.Go.Lib.hid h9
      clear h9 H8
      go_wp2_with fail
      go_loopg [15, 90] bs.length (fun k g i wr => ∃ j : Nat, j + k = bs.length ∧ i = .int .i64 (j : Int) ∧ g = .string (preB ⟨bs.toArray⟩ j) ∧ UW w.heap.size w1.heap.size (stO (List.take j bs)) w [] wr)
      case atStart => exact ⟨0, by omega, rfl, rfl, H9.out⟩
      case round =>
        obtain ⟨j2, hj2, rfl, rfl, hu2⟩ := hrel
        have HV := _root_.Go.Lib.hid hu2
        clear hu2 H9 HU
        by_cases hj2m : j2 < bs.length
        · have hlt2 : ((j2 : Int) < bs.length) = True := by simp <;> omega
          have g1 : wr.cell? ⟨g, off + j2, none⟩ = some (.int .u8 (bs[j2].toNat : Int)) := by
            rw [HV.out.bel.cell (p := ⟨g, off + j2, none⟩) HG.out, HCELL.out j2 hj2m]
            simp [List.getD, hj2m]
          generalize hc : bs[j2] = c at g1
          have HC := _root_.Go.Lib.hid hc
          have hw := u8_wrap c
          have hcb := c.toNat_lt
          have hcv := fun w => conv_one w c
          have hps := preB_size2 ⟨bs.toArray⟩ j2 (by have := HB.out; exact this)
          have hbb := HB.out
          clear hc
          go_wp2_with fail
          refine (set_u HV.out 0 _ c true _ (by decide) (high_low c) (by show (bs.take j2).length ≤ 1000; rw [List.length_take]; have := HB.out; omega) (by kernel_rfl) (set_O (bs.take j2) c)).mono ?_
          rintro e w10 ⟨rfl, h10⟩
          have H10 := _root_.Go.Lib.hid h10
          clear h10 HV g1
          go_wp2_with fail
          go_roundg (bs.length - (j2 + 1))
          case measure => omega
          case rel => exact ⟨j2 + 1, by omega, by first | rfl | go_num, by
              rw [preB_snoc ⟨bs.toArray⟩ j2 c (bs.drop (j2 + 1)) (by show bs.drop j2 = _; rw [List.drop_eq_getElem_cons hj2m, HC.out])], by
              rw [List.take_succ_eq_append_getElem hj2m, HC.out]; exact H10.out.alloc _⟩
        · have hlt2 : ((j2 : Int) < bs.length) = False := by simp <;> omega
          go_wp2_with fail
          refine (out_u HV.out (preB ⟨bs.toArray⟩ j2) _ rfl rfl).mono ?_
          rintro e w11 ⟨rfl, h11⟩
          have H11 := _root_.Go.Lib.hid h11
          clear h11 HV
          go_wp2_with fail
          go_ret
          exact ⟨rfl, H11.out.bel⟩
set_option maxRecDepth 100000 in
set_option maxHeartbeats 2000000 in
theorem rows_many_none (s : ByteArray) (cap : Nat) (ad : Option Addr) (w : World) (hs : s.size ≤ 60) (hc : 16 < s.size) (h16 : (s.data.toList.take 16).length = 16) :
    Calls Try.prog 4 #[.string s, .slice ad 0 cap] w fun e w' => e = .returned (.bool true) ∧ Below w.heap.size w w' := by
  have HS := _root_.Go.Lib.hid hs
  have HC := _root_.Go.Lib.hid hc
  have H16 := _root_.Go.Lib.hid h16
  have HSZ := _root_.Go.Lib.hid (show s.data.toList.length = s.size by simp)
  have s1 : ((s.size : Int) > 60) = False := by simp; omega
  have s2 : ((s.size : Int) > 0) = True := by simp; omega
  have s3 : ((s.size : Int) > 16) = True := by simp; omega
  have s4 : ((s.size : Int) ≤ 16) = False := by simp; omega
  have HF := _root_.Go.Lib.hid (show fS S0 s.data.toList = stW (s.data.toList.take 16) true by rw [st_feed, show decide (16 < s.data.toList.length) = true by simp; omega])
  obtain ⟨va, hva⟩ : ∃ v, v = gV (stW (s.data.toList.take 16) true) 20 := ⟨_, rfl⟩
  have a1 : (bits .and .u32 va 1 != 1) = false := by
    rw [hva]
    refine (stv_low _ _).trans ?_
    have : s.data.toList.take 16 ≠ [] := fun e => by rw [e] at h16; simp at h16 <;> omega
    simpa using this
  have a2 : (bits .and .u32 va 2 != 0) = true := by rw [hva]; exact stv_bit _ _
  have VA := _root_.Go.Lib.hid hva
  clear hva hs hc h16
  go_enter Try.func4, Try.ntmps4
  go_wp2_with fail
  refine (alive_calls _).mono ?_
  rintro e w1 ⟨rfl, h1⟩
  have H1 := _root_.Go.Lib.hid h1
  clear h1
  go_wp2_with fail
  refine (new_u (B := w.heap.size) (W := w) [] H1.out H1.out.size (fun p hp => by cases hp)).mono ?_
  rintro e w2 ⟨rfl, h2⟩
  have H2 := _root_.Go.Lib.hid h2
  clear h2 H1
  go_wp2_with fail
  refine (feed_u H2.out s _ (by decide) (by have := HS.out; omega) HF.out).mono ?_
  rintro e w3 ⟨rfl, h3⟩
  have H3 := _root_.Go.Lib.hid h3
  clear h3 H2
  go_wp2_with fail
  refine (get_u H3.out 20 va true (stW (s.data.toList.take 16) false) (by decide) VA.out.symm (by kernel_rfl) (by kernel_rfl)).mono ?_
  rintro e w4 ⟨rfl, h4⟩
  have H4 := _root_.Go.Lib.hid h4
  clear h4 H3
  go_wp2_with fail
  go_loopg [59] 16 (fun k i wr => ∃ j : Nat, j + k = 16 ∧ i = .int .i64 (j : Int) ∧ UW w.heap.size w1.heap.size (stW ((s.data.toList.take 16).drop j) false) w [] wr)
  case atStart => exact ⟨0, by omega, rfl, H4.out⟩
  case round =>
    obtain ⟨j, hj, rfl, hu⟩ := hrel
    by_cases hjm : j < 16
    · have hlt : ((j : Int) < (16 : Int)) = True := by simp <;> omega
      have hjs : j < s.size := by have := HS.out; have := HC.out; omega
      obtain ⟨c, l, hcl⟩ : ∃ c l, (s.data.toList.take 16).drop j = c :: l := by
        cases h : (s.data.toList.take 16).drop j with
        | nil => rw [List.drop_eq_nil_iff, H16.out] at h; omega
        | cons c l => exact ⟨c, l, rfl⟩
      have hsj : s[j]'hjs = c := by
        have h1 : ((s.data.toList.take 16).drop j)[0]? = some c := by rw [hcl]; rfl
        rw [List.getElem?_drop, List.getElem?_take_of_lt (by have := H16.out; have h17 : (List.take 16 s.data.toList).length ≤ 16 := List.length_take_le _ _; omega)] at h1
        have h2 : s.data.toList[j]? = some c := by simpa using h1
        rw [List.getElem?_eq_getElem (by simpa using hjs)] at h2
        injection h2
      rw [hcl] at hu
      have HCL := _root_.Go.Lib.hid hcl
      have HU := _root_.Go.Lib.hid hu
      have hcb := c.toNat_lt
      have hs60 := HS.out
      clear hu H4 hcl
      go_wp2_with fail
      refine (get_u HU.out 0 c.toNat true (stW l false) (by decide) (getv_W l false c) (by kernel_rfl) (get_W l false c)).mono ?_
      rintro e w7 ⟨rfl, h7⟩
      have H7 := _root_.Go.Lib.hid h7
      clear h7 HU
      go_wp2_with fail
      go_roundg (16 - (j + 1))
      case measure => omega
      case rel => exact ⟨j + 1, by omega, by first | rfl | go_num, by
        have e : (s.data.toList.take 16).drop (j + 1) = l := by rw [← List.drop_drop, HCL.out]; rfl
        rw [e]; exact H7.out⟩
    · have hlt : ((j : Int) < (16 : Int)) = False := by simp <;> omega
      have HU := _root_.Go.Lib.hid (show UW w.heap.size w1.heap.size (stW [] false) w [] wr by
        rw [List.drop_eq_nil_of_le (by rw [H16.out]; omega)] at hu; exact hu)
      clear hu H4
      go_wp2_with fail
      refine (get_u HU.out 0 0 true (stW [] false) (by decide) (by kernel_rfl) (by kernel_rfl) (by kernel_rfl)).mono ?_
      rintro e w8 ⟨rfl, h8⟩
      have H8 := _root_.Go.Lib.hid h8
      clear h8
      go_wp2_with fail
      refine (get_u H8.out 20 96 true (stO []) (by decide) (by kernel_rfl) (by kernel_rfl) (by kernel_rfl)).mono ?_
      rintro e w9 ⟨rfl, h9⟩
      have H9 := _root_.Go.Lib.hid h9
      clear h9 H8
      go_wp2_with fail
      go_loopg [15, 90] 0 (fun k g i wr => ∃ j : Nat, j + k = 0 ∧ i = .int .i64 (j : Int) ∧ g = .string (preB ⟨([] : List UInt8).toArray⟩ j) ∧ UW w.heap.size w1.heap.size (stO (List.take j ([] : List UInt8))) w [] wr)
      case atStart => exact ⟨0, by omega, rfl, rfl, H9.out⟩
      case round =>
        obtain ⟨j2, hj2, rfl, rfl, hu2⟩ := hrel
        have HV := _root_.Go.Lib.hid hu2
        clear hu2 H9 HU
        obtain rfl : j2 = 0 := by omega
        go_wp2_with fail
        refine (out_u HV.out (preB ⟨([] : List UInt8).toArray⟩ 0) _ rfl rfl).mono ?_
        rintro e w11 ⟨rfl, h11⟩
        have H11 := _root_.Go.Lib.hid h11
        clear h11 HV
        go_wp2_with fail
        go_ret
        exact ⟨rfl, H11.out.bel⟩
set_option maxRecDepth 100000 in
set_option maxHeartbeats 2000000 in
theorem rows_many_any (s : ByteArray) (cap : Nat) (g off : Nat) (bs : List UInt8) (w : World) (hs : s.size ≤ 60) (hc : 16 < s.size) (hb : bs.length ≤ 60) (hg : g < w.heap.size) (hcell : ∀ j, j < bs.length → w.cell? ⟨g, off + j, none⟩ = some (.int .u8 ((bs.getD j 0).toNat : Int))) (h16 : (s.data.toList.take 16).length = 16) :
    Calls Try.prog 4 #[.string s, .slice (some ⟨g, off, none⟩) bs.length cap] w fun e w' => e = .returned (.bool true) ∧ Below w.heap.size w w' := by
  have HS := _root_.Go.Lib.hid hs
  have HC := _root_.Go.Lib.hid hc
  have H16 := _root_.Go.Lib.hid h16
  have HSZ := _root_.Go.Lib.hid (show s.data.toList.length = s.size by simp)
  have s1 : ((s.size : Int) > 60) = False := by simp; omega
  have s2 : ((s.size : Int) > 0) = True := by simp; omega
  have s3 : ((s.size : Int) > 16) = True := by simp; omega
  have s4 : ((s.size : Int) ≤ 16) = False := by simp; omega
  have b1 : ((bs.length : Int) > 60) = False := by simp; omega
  have HB := _root_.Go.Lib.hid hb
  have HG := _root_.Go.Lib.hid hg
  have HCELL := _root_.Go.Lib.hid hcell
  have HF := _root_.Go.Lib.hid (show fS S0 s.data.toList = stW (s.data.toList.take 16) true by rw [st_feed, show decide (16 < s.data.toList.length) = true by simp; omega])
  obtain ⟨va, hva⟩ : ∃ v, v = gV (stW (s.data.toList.take 16) true) 20 := ⟨_, rfl⟩
  have a1 : (bits .and .u32 va 1 != 1) = false := by
    rw [hva]
    refine (stv_low _ _).trans ?_
    have : s.data.toList.take 16 ≠ [] := fun e => by rw [e] at h16; simp at h16 <;> omega
    simpa using this
  have a2 : (bits .and .u32 va 2 != 0) = true := by rw [hva]; exact stv_bit _ _
  have VA := _root_.Go.Lib.hid hva
  clear hva hs hc h16 hb hg hcell
  go_enter Try.func4, Try.ntmps4
  go_wp2_with fail
  refine (alive_calls _).mono ?_
  rintro e w1 ⟨rfl, h1⟩
  have H1 := _root_.Go.Lib.hid h1
  clear h1
  go_wp2_with fail
  refine (new_u (B := w.heap.size) (W := w) [] H1.out H1.out.size (fun p hp => by cases hp)).mono ?_
  rintro e w2 ⟨rfl, h2⟩
  have H2 := _root_.Go.Lib.hid h2
  clear h2 H1
  go_wp2_with fail
  refine (feed_u H2.out s _ (by decide) (by have := HS.out; omega) HF.out).mono ?_
  rintro e w3 ⟨rfl, h3⟩
  have H3 := _root_.Go.Lib.hid h3
  clear h3 H2
  go_wp2_with fail
  refine (get_u H3.out 20 va true (stW (s.data.toList.take 16) false) (by decide) VA.out.symm (by kernel_rfl) (by kernel_rfl)).mono ?_
  rintro e w4 ⟨rfl, h4⟩
  have H4 := _root_.Go.Lib.hid h4
  clear h4 H3
  go_wp2_with fail
  go_loopg [59] 16 (fun k i wr => ∃ j : Nat, j + k = 16 ∧ i = .int .i64 (j : Int) ∧ UW w.heap.size w1.heap.size (stW ((s.data.toList.take 16).drop j) false) w [] wr)
  case atStart => exact ⟨0, by omega, rfl, H4.out⟩
  case round =>
    obtain ⟨j, hj, rfl, hu⟩ := hrel
    by_cases hjm : j < 16
    · have hlt : ((j : Int) < (16 : Int)) = True := by simp <;> omega
      have hjs : j < s.size := by have := HS.out; have := HC.out; omega
      obtain ⟨c, l, hcl⟩ : ∃ c l, (s.data.toList.take 16).drop j = c :: l := by
        cases h : (s.data.toList.take 16).drop j with
        | nil => rw [List.drop_eq_nil_iff, H16.out] at h; omega
        | cons c l => exact ⟨c, l, rfl⟩
      have hsj : s[j]'hjs = c := by
        have h1 : ((s.data.toList.take 16).drop j)[0]? = some c := by rw [hcl]; rfl
        rw [List.getElem?_drop, List.getElem?_take_of_lt (by have := H16.out; have h17 : (List.take 16 s.data.toList).length ≤ 16 := List.length_take_le _ _; omega)] at h1
        have h2 : s.data.toList[j]? = some c := by simpa using h1
        rw [List.getElem?_eq_getElem (by simpa using hjs)] at h2
        injection h2
      rw [hcl] at hu
      have HCL := _root_.Go.Lib.hid hcl
      have HU := _root_.Go.Lib.hid hu
      have hcb := c.toNat_lt
      have hs60 := HS.out
      clear hu H4 hcl
      go_wp2_with fail
      refine (get_u HU.out 0 c.toNat true (stW l false) (by decide) (getv_W l false c) (by kernel_rfl) (get_W l false c)).mono ?_
      rintro e w7 ⟨rfl, h7⟩
      have H7 := _root_.Go.Lib.hid h7
      clear h7 HU
      go_wp2_with fail
      go_roundg (16 - (j + 1))
      case measure => omega
      case rel => exact ⟨j + 1, by omega, by first | rfl | go_num, by
        have e : (s.data.toList.take 16).drop (j + 1) = l := by rw [← List.drop_drop, HCL.out]; rfl
        rw [e]; exact H7.out⟩
    · have hlt : ((j : Int) < (16 : Int)) = False := by simp <;> omega
      have HU := _root_.Go.Lib.hid (show UW w.heap.size w1.heap.size (stW [] false) w [] wr by
        rw [List.drop_eq_nil_of_le (by rw [H16.out]; omega)] at hu; exact hu)
      clear hu H4
      go_wp2_with fail
      refine (get_u HU.out 0 0 true (stW [] false) (by decide) (by kernel_rfl) (by kernel_rfl) (by kernel_rfl)).mono ?_
      rintro e w8 ⟨rfl, h8⟩
      have H8 := _root_.Go.Lib.hid h8
      clear h8
      go_wp2_with fail
      refine (get_u H8.out 20 96 true (stO []) (by decide) (by kernel_rfl) (by kernel_rfl) (by kernel_rfl)).mono ?_
      rintro e w9 ⟨rfl, h9⟩
      have H9 := _root_.Go.Lib.hid h9
      clear h9 H8
      go_wp2_with fail
      go_loopg [15, 90] bs.length (fun k g i wr => ∃ j : Nat, j + k = bs.length ∧ i = .int .i64 (j : Int) ∧ g = .string (preB ⟨bs.toArray⟩ j) ∧ UW w.heap.size w1.heap.size (stO (List.take j bs)) w [] wr)
      case atStart => exact ⟨0, by omega, rfl, rfl, H9.out⟩
      case round =>
        obtain ⟨j2, hj2, rfl, rfl, hu2⟩ := hrel
        have HV := _root_.Go.Lib.hid hu2
        clear hu2 H9 HU
        by_cases hj2m : j2 < bs.length
        · have hlt2 : ((j2 : Int) < bs.length) = True := by simp <;> omega
          have g1 : wr.cell? ⟨g, off + j2, none⟩ = some (.int .u8 (bs[j2].toNat : Int)) := by
            rw [HV.out.bel.cell (p := ⟨g, off + j2, none⟩) HG.out, HCELL.out j2 hj2m]
            simp [List.getD, hj2m]
          generalize hc : bs[j2] = c at g1
          have HC := _root_.Go.Lib.hid hc
          have hw := u8_wrap c
          have hcb := c.toNat_lt
          have hcv := fun w => conv_one w c
          have hps := preB_size2 ⟨bs.toArray⟩ j2 (by have := HB.out; exact this)
          have hbb := HB.out
          clear hc
          go_wp2_with fail
          refine (set_u HV.out 0 _ c true _ (by decide) (high_low c) (by show (bs.take j2).length ≤ 1000; rw [List.length_take]; have := HB.out; omega) (by kernel_rfl) (set_O (bs.take j2) c)).mono ?_
          rintro e w10 ⟨rfl, h10⟩
          have H10 := _root_.Go.Lib.hid h10
          clear h10 HV g1
          go_wp2_with fail
          go_roundg (bs.length - (j2 + 1))
          case measure => omega
          case rel => exact ⟨j2 + 1, by omega, by first | rfl | go_num, by
              rw [preB_snoc ⟨bs.toArray⟩ j2 c (bs.drop (j2 + 1)) (by show bs.drop j2 = _; rw [List.drop_eq_getElem_cons hj2m, HC.out])], by
              rw [List.take_succ_eq_append_getElem hj2m, HC.out]; exact H10.out.alloc _⟩
        · have hlt2 : ((j2 : Int) < bs.length) = False := by simp <;> omega
          go_wp2_with fail
          refine (out_u HV.out (preB ⟨bs.toArray⟩ j2) _ rfl rfl).mono ?_
          rintro e w11 ⟨rfl, h11⟩
          have H11 := _root_.Go.Lib.hid h11
          clear h11 HV
          go_wp2_with fail
          go_ret
          exact ⟨rfl, H11.out.bel⟩

theorem rows_big1 (s : ByteArray) (v : Value) (bs : List UInt8) (w : World) (hs : 60 < s.size) (hm : s.size ≤ maxLen) : Calls Try.prog 4 #[.string s, v] w fun e w' => e = .returned (.bool true) ∧ Below w.heap.size w w' := by
  unfold maxLen at hm
  have s1 : ((s.size : Int) > 60) = True := by simp; omega
  go_enter Try.func4, Try.ntmps4
  go_wp2_with fail
  refine (alive_calls _).mono ?_
  rintro e w1 ⟨rfl, h1⟩
  have H1 := _root_.Go.Lib.hid h1
  clear h1
  go_wp2_with fail
  go_ret
  exact ⟨rfl, H1.out⟩
theorem rows_big2 (s : ByteArray) (a : Option Addr) (n cap : Nat) (w : World) (hs : s.size ≤ 60) (hn : 60 < n) (hm : n ≤ maxLen) : Calls Try.prog 4 #[.string s, .slice a n cap] w fun e w' => e = .returned (.bool true) ∧ Below w.heap.size w w' := by
  unfold maxLen at hm
  have s1 : ((s.size : Int) > 60) = False := by simp; omega
  have s2 : ((n : Int) > 60) = True := by simp; omega
  go_enter Try.func4, Try.ntmps4
  go_wp2_with fail
  refine (alive_calls _).mono ?_
  rintro e w1 ⟨rfl, h1⟩
  have H1 := _root_.Go.Lib.hid h1
  clear h1
  go_wp2_with fail
  go_ret
  exact ⟨rfl, H1.out⟩
theorem rows_calls (s : ByteArray) (v : Value) (bs : List UInt8) (w : World) (hm : s.size ≤ maxLen) (hv : BytesAt v bs w) : Calls Try.prog 4 #[.string s, v] w fun e w' => e = .returned (.bool true) ∧ Below w.heap.size w w' := by
  rcases Nat.lt_or_ge 60 s.size with hs | hs
  · exact rows_big1 s v bs w hs hm
  have hl : (s.data.toList.take 16).length = min 16 s.size := by simp
  rcases hv with ⟨a, cap, rfl, rfl⟩ | ⟨g, off, cap, rfl, hbm, hg, hcell⟩
  · rcases Nat.lt_or_ge 16 s.size with h | h
    · exact rows_many_none s cap a w hs h (by omega)
    rcases Nat.eq_zero_or_pos s.size with h0 | h0
    · exact rows_zero_none s cap a w hs h0 (by omega)
    · exact rows_some_none s cap a w hs ⟨h0, h⟩ (by omega)
  · rcases Nat.lt_or_ge 60 bs.length with hb | hb
    · exact rows_big2 s _ _ cap w hs hb hbm
    rcases Nat.lt_or_ge 16 s.size with h | h
    · exact rows_many_any s cap g off bs w hs h hb hg hcell (by omega)
    rcases Nat.eq_zero_or_pos s.size with h0 | h0
    · exact rows_zero_any s cap g off bs w hs h0 hb hg hcell (by omega)
    · exact rows_some_any s cap g off bs w hs ⟨h0, h⟩ hb hg hcell (by omega)
end Go.Proofs.Ytjaldngafappdaa
