/-
  csr.Read and csr.Write answer as the reference's do: both sides under one name.
-/
import Derived.Test.YtpmgdidigfincaaRefw
import Derived.Test.YtpmgdidigfincaaPlainLaw
set_option linter.unusedSimpArgs false
namespace Go.Proofs.Ytpmgdidigfincaa
open Go.RowKit Go.Val Go.MapKept

theorem loc_256 (f : Nat → Int) : loc (f 2) 256 = some (.fld 0 786722 786722 0) := by
  simp [loc]
theorem loc_260 (f : Nat → Int) : loc (f 2) 260 = some (.fld 3 (f 2) (f 2) 0) := by
  simp [loc]
theorem loc_261 (f : Nat → Int) : loc (f 2) 261 = some (.fld 10 4294967295 4294967295 2) := by
  simp [loc, look, plainKeys, clr]
theorem loc_320 (f : Nat → Int) : loc (f 2) 320 = some (.fld 11 4294967295 4294967295 0) := by
  simp [loc, look, plainKeys, clr]
theorem loc_321 (f : Nat → Int) : loc (f 2) 321 = some (.fld 12 4294967295 4294967295 3) := by
  simp [loc, look, plainKeys, clr]
theorem loc_322 (f : Nat → Int) : loc (f 2) 322 = some (.fld 13 4294967295 4294967295 0) := by
  simp [loc, look, plainKeys, clr]
theorem loc_323 (f : Nat → Int) : loc (f 2) 323 = some (.fld 14 4294967295 4294967295 0) := by
  simp [loc, look, plainKeys, clr]
theorem loc_324 (f : Nat → Int) : loc (f 2) 324 = some (.fld 4 (f 2) (bits .and .u32 (f 2) 2) 0) := by
  simp [loc]
theorem loc_384 (f : Nat → Int) : loc (f 2) 384 = some (.fld 15 4294967295 4294967295 0) := by
  simp [loc, look, plainKeys, clr]
theorem loc_768 (f : Nat → Int) : loc (f 2) 768 = some (.fld 0 4294967295 924074 0) := by
  simp [loc]
theorem loc_769 (f : Nat → Int) : loc (f 2) 769 = some (.own 1075056897 4294967295) := by
  simp [loc]
theorem loc_770 (f : Nat → Int) : loc (f 2) 770 = some (.fld 1 4294967295 46079 0) := by
  simp [loc]
theorem loc_771 (f : Nat → Int) : loc (f 2) 771 = some (.fld 2 4294967295 546 0) := by
  simp [loc]
theorem loc_772 (f : Nat → Int) : loc (f 2) 772 = some (.fld 3 4294967295 2730 0) := by
  simp [loc]
theorem loc_773 (f : Nat → Int) : loc (f 2) 773 = some (.fld 5 4294967295 4294967295 2) := by
  simp [loc, look, plainKeys, clr]
theorem loc_832 (f : Nat → Int) : loc (f 2) 832 = some (.fld 6 4294967295 4294967295 0) := by
  simp [loc, look, plainKeys, clr]
theorem loc_833 (f : Nat → Int) : loc (f 2) 833 = some (.fld 7 4294967295 4294967295 3) := by
  simp [loc, look, plainKeys, clr]
theorem loc_834 (f : Nat → Int) : loc (f 2) 834 = some (.fld 8 4294967295 4294967295 0) := by
  simp [loc, look, plainKeys, clr]
theorem loc_835 (f : Nat → Int) : loc (f 2) 835 = some (.fld 9 4294967295 4294967295 0) := by
  simp [loc, look, plainKeys, clr]
theorem loc_836 (f : Nat → Int) : loc (f 2) 836 = some (.fld 4 4294967295 546 0) := by
  simp [loc]
theorem loc_2816 (f : Nat → Int) : loc (f 2) 2816 = some (.cyc false) := by
  simp [loc]
theorem loc_3072 (f : Nat → Int) : loc (f 2) 3072 = some (.cyc false) := by
  simp [loc]
theorem loc_2944 (f : Nat → Int) : loc (f 2) 2944 = some (.cyc true) := by
  simp [loc]
theorem loc_3200 (f : Nat → Int) : loc (f 2) 3200 = some (.cyc true) := by
  simp [loc]
theorem loc_3857 (f : Nat → Int) : loc (f 2) 3857 = some (.own 0 0) := by
  simp [loc]
theorem loc_3858 (f : Nat → Int) : loc (f 2) 3858 = some (.own 0 0) := by
  simp [loc]
theorem loc_3859 (f : Nat → Int) : loc (f 2) 3859 = some (.own 0 0) := by
  simp [loc]
theorem loc_3860 (f : Nat → Int) : loc (f 2) 3860 = some (.own 0 0) := by
  simp [loc]

/-- Both sides know the same registers, and read the same of them. -/
theorem loc_cases (f : Nat → Int) (hF : Fits f) (n : Int) : (loc (f 2) n = none ∧ kn f n = none) ∨
    ∃ l v, loc (f 2) n = some l ∧ kn f n = some v ∧ rdv f l = v ∧ l.ok ∧ lvl n = n / 256 % 4 ∧ (bits .and .i64 (n / 1024) 3 == 3) = decide (n / 1024 % 4 = 3) := by
  have r : ∀ i, i < 16 → bits .and .u32 (f i) 4294967295 = f i := fun i hi => and_all _ (hF.1 i hi)
  by_cases h256 : n = 256
  · subst h256
    exact .inr ⟨_, bits .and .u32 (f 0) 786722, loc_256 f, by simp [kn], rfl, (by decide : 0 < 16), by kernel_rfl, by kernel_rfl⟩
  by_cases h260 : n = 260
  · subst h260
    exact .inr ⟨_, bits .and .u32 (f 3) (f 2), loc_260 f, by simp [kn], rfl, (by decide : 3 < 16), by kernel_rfl, by kernel_rfl⟩
  by_cases h261 : n = 261
  · subst h261
    exact .inr ⟨_, f 10, loc_261 f, by simp [kn], r _ (by decide), (by decide : 10 < 16), by kernel_rfl, by kernel_rfl⟩
  by_cases h320 : n = 320
  · subst h320
    exact .inr ⟨_, f 11, loc_320 f, by simp [kn], r _ (by decide), (by decide : 11 < 16), by kernel_rfl, by kernel_rfl⟩
  by_cases h321 : n = 321
  · subst h321
    exact .inr ⟨_, f 12, loc_321 f, by simp [kn], r _ (by decide), (by decide : 12 < 16), by kernel_rfl, by kernel_rfl⟩
  by_cases h322 : n = 322
  · subst h322
    exact .inr ⟨_, f 13, loc_322 f, by simp [kn], r _ (by decide), (by decide : 13 < 16), by kernel_rfl, by kernel_rfl⟩
  by_cases h323 : n = 323
  · subst h323
    exact .inr ⟨_, f 14, loc_323 f, by simp [kn], r _ (by decide), (by decide : 14 < 16), by kernel_rfl, by kernel_rfl⟩
  by_cases h324 : n = 324
  · subst h324
    exact .inr ⟨_, bits .and .u32 (f 4) (f 2), loc_324 f, by simp [kn], rfl, (by decide : 4 < 16), by kernel_rfl, by kernel_rfl⟩
  by_cases h384 : n = 384
  · subst h384
    exact .inr ⟨_, f 15, loc_384 f, by simp [kn], r _ (by decide), (by decide : 15 < 16), by kernel_rfl, by kernel_rfl⟩
  by_cases h768 : n = 768
  · subst h768
    exact .inr ⟨_, f 0, loc_768 f, by simp [kn], r _ (by decide), (by decide : 0 < 16), by kernel_rfl, by kernel_rfl⟩
  by_cases h769 : n = 769
  · subst h769
    exact .inr ⟨_, 1075056897, loc_769 f, by simp [kn], by kernel_rfl, trivial, by kernel_rfl, by kernel_rfl⟩
  by_cases h770 : n = 770
  · subst h770
    exact .inr ⟨_, f 1, loc_770 f, by simp [kn], r _ (by decide), (by decide : 1 < 16), by kernel_rfl, by kernel_rfl⟩
  by_cases h771 : n = 771
  · subst h771
    exact .inr ⟨_, f 2, loc_771 f, by simp [kn], r _ (by decide), (by decide : 2 < 16), by kernel_rfl, by kernel_rfl⟩
  by_cases h772 : n = 772
  · subst h772
    exact .inr ⟨_, f 3, loc_772 f, by simp [kn], r _ (by decide), (by decide : 3 < 16), by kernel_rfl, by kernel_rfl⟩
  by_cases h773 : n = 773
  · subst h773
    exact .inr ⟨_, f 5, loc_773 f, by simp [kn], r _ (by decide), (by decide : 5 < 16), by kernel_rfl, by kernel_rfl⟩
  by_cases h832 : n = 832
  · subst h832
    exact .inr ⟨_, f 6, loc_832 f, by simp [kn], r _ (by decide), (by decide : 6 < 16), by kernel_rfl, by kernel_rfl⟩
  by_cases h833 : n = 833
  · subst h833
    exact .inr ⟨_, f 7, loc_833 f, by simp [kn], r _ (by decide), (by decide : 7 < 16), by kernel_rfl, by kernel_rfl⟩
  by_cases h834 : n = 834
  · subst h834
    exact .inr ⟨_, f 8, loc_834 f, by simp [kn], r _ (by decide), (by decide : 8 < 16), by kernel_rfl, by kernel_rfl⟩
  by_cases h835 : n = 835
  · subst h835
    exact .inr ⟨_, f 9, loc_835 f, by simp [kn], r _ (by decide), (by decide : 9 < 16), by kernel_rfl, by kernel_rfl⟩
  by_cases h836 : n = 836
  · subst h836
    exact .inr ⟨_, f 4, loc_836 f, by simp [kn], r _ (by decide), (by decide : 4 < 16), by kernel_rfl, by kernel_rfl⟩
  by_cases h2816 : n = 2816
  · subst h2816
    exact .inr ⟨_, f 16 % 4294967296, loc_2816 f, by simp [kn], rfl, trivial, by kernel_rfl, by kernel_rfl⟩
  by_cases h3072 : n = 3072
  · subst h3072
    exact .inr ⟨_, f 16 % 4294967296, loc_3072 f, by simp [kn], rfl, trivial, by kernel_rfl, by kernel_rfl⟩
  by_cases h2944 : n = 2944
  · subst h2944
    exact .inr ⟨_, f 16 / 4294967296, loc_2944 f, by simp [kn], rfl, trivial, by kernel_rfl, by kernel_rfl⟩
  by_cases h3200 : n = 3200
  · subst h3200
    exact .inr ⟨_, f 16 / 4294967296, loc_3200 f, by simp [kn], rfl, trivial, by kernel_rfl, by kernel_rfl⟩
  by_cases h3857 : n = 3857
  · subst h3857
    exact .inr ⟨_, 0, loc_3857 f, by simp [kn], by kernel_rfl, trivial, by kernel_rfl, by kernel_rfl⟩
  by_cases h3858 : n = 3858
  · subst h3858
    exact .inr ⟨_, 0, loc_3858 f, by simp [kn], by kernel_rfl, trivial, by kernel_rfl, by kernel_rfl⟩
  by_cases h3859 : n = 3859
  · subst h3859
    exact .inr ⟨_, 0, loc_3859 f, by simp [kn], by kernel_rfl, trivial, by kernel_rfl, by kernel_rfl⟩
  by_cases h3860 : n = 3860
  · subst h3860
    exact .inr ⟨_, 0, loc_3860 f, by simp [kn], by kernel_rfl, trivial, by kernel_rfl, by kernel_rfl⟩
  refine .inl ⟨?_, by simp [kn, h256, h260, h261, h320, h321, h322, h323, h324, h384, h768, h769, h770, h771, h772, h773, h832, h833, h834, h835, h836, h2816, h3072, h2944, h3200, h3857, h3858, h3859, h3860]⟩
  have hl : look 0 n = none := by
    unfold look
    rw [Option.map_eq_none_iff, List.find?_eq_none]
    intro q hq hqn
    have e : q.1 = n := by simpa using hqn
    simp only [plainKeys, List.mem_cons, List.not_mem_nil, or_false] at hq
    rcases hq with rfl | rfl | rfl | rfl | rfl | rfl | rfl | rfl | rfl | rfl | rfl <;> simp_all
  simp [loc, hl, h256, h260, h324, h768, h770, h771, h772, h836, h769, h2816, h3072, h2944, h3200, h3857, h3858, h3859, h3860]

/-- READ, as the reference tells it. -/
theorem read_calls (f : Nat → Int) (n q : Int) (w : World) (hF : Fits f) :
    Calls Try.prog 9 #[fileV f, .int .i64 n, .int .i64 q] w fun e w' => e = .returned (.tuple #[.int .u32 (rrV f n q), .bool (rrB f n q)]) ∧ Below w.heap.size w w' := by
  rcases loc_cases f hF n with ⟨h1, h2⟩ | ⟨l, v, h1, h2, h3, h4, h5, _⟩
  · have e1 : rrB f n q = false := by simp [rrB, h2]
    have e2 : rrV f n q = 0 := by simp [rrV, e1]
    rw [e1, e2]
    exact read_none f n q w h1
  · by_cases hq : lvl n ≤ q
    · have e1 : rrB f n q = true := by simp [rrB, h2, ← h5, hq]
      have e2 : rrV f n q = rdv f l := by simp [rrV, e1, h2, h3]
      rw [e1, e2]
      exact read_yes f n q w l hF h1 h4 hq
    · have e1 : rrB f n q = false := by simp [rrB, ← h5, hq]
      have e2 : rrV f n q = 0 := by simp [rrV, e1]
      rw [e1, e2]
      exact read_no f n q w l h1 (by omega)

/-- May it be written? -/
def wB (f : Nat → Int) (n q : Int) : Bool := rrB f n q && !decide (n / 1024 % 4 = 3)

/-- What is written. -/
def wt (f : Nat → Int) (n v : Int) : Nat → Int :=
  if n = 256 then upd f 0 (mk (f 0) v 786722) else
  if n = 260 then upd f 3 (mk (f 3) v (f 2)) else
  if n = 261 then upd f 10 (mk v 0 2) else
  if n = 320 then upd f 11 (v) else
  if n = 321 then upd f 12 (v - v % 4) else
  if n = 322 then upd f 13 (v) else
  if n = 323 then upd f 14 (v) else
  if n = 324 then upd f 4 (mk (f 4) v (bits .and .u32 (f 2) 2)) else
  if n = 384 then upd f 15 (v) else
  if n = 768 then upd f 0 (st (f 0) v) else
  if n = 770 then upd f 1 (mk (f 1) v 46079) else
  if n = 771 then upd f 2 (mk (f 2) v 546) else
  if n = 772 then upd f 3 (mk (f 3) v 2730) else
  if n = 773 then upd f 5 (mk v 0 2) else
  if n = 832 then upd f 6 (v) else
  if n = 833 then upd f 7 (v - v % 4) else
  if n = 834 then upd f 8 (v) else
  if n = 835 then upd f 9 (v) else
  if n = 836 then upd f 4 (mk (f 4) v 546) else
  if n = 2816 then upd f 16 (f 16 - f 16 % 4294967296 + v) else
  if n = 2944 then upd f 16 (f 16 % 4294967296 + v * 4294967296) else
  f
def wr (f : Nat → Int) (n q v : Int) : Nat → Int := if wB f n q = true then wt f n v else f

theorem write_at_256 (f : Nat → Int) (q v : Int) (w : World) (hF : Fits f) (hv : 0 ≤ v ∧ v < 4294967296) (hq : lvl 256 ≤ q) :
    Calls Try.prog 11 #[fileV f, .int .i64 256, .int .i64 q, .int .u32 v] w fun e w' => e = .returned (.tuple #[fileV (upd f 0 (mk (f 0) v 786722)), .bool true]) ∧ Below w.heap.size w w' := by
  have e := mask_eq (f 0) v 786722 (hF.1 _ (by decide)) hv (by decide)
  unfold mk
  rw [← e]
  exact write_fld_0a f 256 q v w _ _ _ (loc_256 f) hq (by kernel_rfl) rfl
theorem write_at_260 (f : Nat → Int) (q v : Int) (w : World) (hF : Fits f) (hv : 0 ≤ v ∧ v < 4294967296) (hq : lvl 260 ≤ q) :
    Calls Try.prog 11 #[fileV f, .int .i64 260, .int .i64 q, .int .u32 v] w fun e w' => e = .returned (.tuple #[fileV (upd f 3 (mk (f 3) v (f 2))), .bool true]) ∧ Below w.heap.size w w' := by
  have e := mask_eq (f 3) v (f 2) (hF.1 _ (by decide)) hv (hF.1 2 (by decide))
  unfold mk
  rw [← e]
  exact write_fld_3a f 260 q v w _ _ _ (loc_260 f) hq (by kernel_rfl) rfl
theorem write_at_261 (f : Nat → Int) (q v : Int) (w : World) (hF : Fits f) (hv : 0 ≤ v ∧ v < 4294967296) (hq : lvl 261 ≤ q) :
    Calls Try.prog 11 #[fileV f, .int .i64 261, .int .i64 q, .int .u32 v] w fun e w' => e = .returned (.tuple #[fileV (upd f 10 (mk v 0 2)), .bool true]) ∧ Below w.heap.size w w' := by
  have e := plain2_eq (f 10) v (hF.1 _ (by decide)) hv
  unfold mk
  rw [← e]
  exact write_fld_10a f 261 q v w _ _ _ (loc_261 f) hq (by kernel_rfl) rfl
theorem write_at_320 (f : Nat → Int) (q v : Int) (w : World) (hF : Fits f) (hv : 0 ≤ v ∧ v < 4294967296) (hq : lvl 320 ≤ q) :
    Calls Try.prog 11 #[fileV f, .int .i64 320, .int .i64 q, .int .u32 v] w fun e w' => e = .returned (.tuple #[fileV (upd f 11 (v)), .bool true]) ∧ Below w.heap.size w w' := by
  have e := plain_eq (f 11) v (hF.1 _ (by decide)) hv
  refine Calls.mono (write_fld_11a f 320 q v w _ _ _ (loc_320 f) hq (by kernel_rfl) rfl) fun e1 w1 h => ?_
  rw [e] at h
  exact h
theorem write_at_321 (f : Nat → Int) (q v : Int) (w : World) (hF : Fits f) (hv : 0 ≤ v ∧ v < 4294967296) (hq : lvl 321 ≤ q) :
    Calls Try.prog 11 #[fileV f, .int .i64 321, .int .i64 q, .int .u32 v] w fun e w' => e = .returned (.tuple #[fileV (upd f 12 (v - v % 4)), .bool true]) ∧ Below w.heap.size w w' := by
  have e := plain3_eq (f 12) v (hF.1 _ (by decide)) hv
  refine Calls.mono (write_fld_12a f 321 q v w _ _ _ (loc_321 f) hq (by kernel_rfl) rfl) fun e1 w1 h => ?_
  rw [e] at h
  exact h
theorem write_at_322 (f : Nat → Int) (q v : Int) (w : World) (hF : Fits f) (hv : 0 ≤ v ∧ v < 4294967296) (hq : lvl 322 ≤ q) :
    Calls Try.prog 11 #[fileV f, .int .i64 322, .int .i64 q, .int .u32 v] w fun e w' => e = .returned (.tuple #[fileV (upd f 13 (v)), .bool true]) ∧ Below w.heap.size w w' := by
  have e := plain_eq (f 13) v (hF.1 _ (by decide)) hv
  refine Calls.mono (write_fld_13a f 322 q v w _ _ _ (loc_322 f) hq (by kernel_rfl) rfl) fun e1 w1 h => ?_
  rw [e] at h
  exact h
theorem write_at_323 (f : Nat → Int) (q v : Int) (w : World) (hF : Fits f) (hv : 0 ≤ v ∧ v < 4294967296) (hq : lvl 323 ≤ q) :
    Calls Try.prog 11 #[fileV f, .int .i64 323, .int .i64 q, .int .u32 v] w fun e w' => e = .returned (.tuple #[fileV (upd f 14 (v)), .bool true]) ∧ Below w.heap.size w w' := by
  have e := plain_eq (f 14) v (hF.1 _ (by decide)) hv
  refine Calls.mono (write_fld_14a f 323 q v w _ _ _ (loc_323 f) hq (by kernel_rfl) rfl) fun e1 w1 h => ?_
  rw [e] at h
  exact h
theorem write_at_324 (f : Nat → Int) (q v : Int) (w : World) (hF : Fits f) (hv : 0 ≤ v ∧ v < 4294967296) (hq : lvl 324 ≤ q) :
    Calls Try.prog 11 #[fileV f, .int .i64 324, .int .i64 q, .int .u32 v] w fun e w' => e = .returned (.tuple #[fileV (upd f 4 (mk (f 4) v (bits .and .u32 (f 2) 2))), .bool true]) ∧ Below w.heap.size w w' := by
  have e := mask_eq (f 4) v (bits .and .u32 (f 2) 2) (hF.1 _ (by decide)) hv (bits_range _ _ _)
  unfold mk
  rw [← e]
  exact write_fld_4a f 324 q v w _ _ _ (loc_324 f) hq (by kernel_rfl) rfl
theorem write_at_384 (f : Nat → Int) (q v : Int) (w : World) (hF : Fits f) (hv : 0 ≤ v ∧ v < 4294967296) (hq : lvl 384 ≤ q) :
    Calls Try.prog 11 #[fileV f, .int .i64 384, .int .i64 q, .int .u32 v] w fun e w' => e = .returned (.tuple #[fileV (upd f 15 (v)), .bool true]) ∧ Below w.heap.size w w' := by
  have e := plain_eq (f 15) v (hF.1 _ (by decide)) hv
  refine Calls.mono (write_fld_15a f 384 q v w _ _ _ (loc_384 f) hq (by kernel_rfl) rfl) fun e1 w1 h => ?_
  rw [e] at h
  exact h
theorem write_at_768 (f : Nat → Int) (q v : Int) (w : World) (hF : Fits f) (hv : 0 ≤ v ∧ v < 4294967296) (hq : lvl 768 ≤ q) :
    Calls Try.prog 11 #[fileV f, .int .i64 768, .int .i64 q, .int .u32 v] w fun e w' => e = .returned (.tuple #[fileV (upd f 0 (st (f 0) v)), .bool true]) ∧ Below w.heap.size w w' := by
  by_cases h : v / 2048 % 4 = 2
  · have e := mask_eq (f 0) (v - 4096) 924074 (hF.1 _ (by decide)) (by omega) (by decide)
    rw [show st (f 0) v = mk (f 0) (v - 4096) 924074 by simp [st, h], mk, ← e, ← less_bit v hv h]
    exact write_fld_0c f 768 q v w _ _ _ (loc_768 f) hq (by kernel_rfl) hv.1 rfl (by rw [two_bits v hv]; simpa using h)
  · have e := mask_eq (f 0) v 924074 (hF.1 _ (by decide)) hv (by decide)
    rw [show st (f 0) v = mk (f 0) v 924074 by simp [st, h], mk, ← e]
    exact write_fld_0b f 768 q v w _ _ _ (loc_768 f) hq (by kernel_rfl) hv.1 rfl (by rw [two_bits v hv]; simpa using h)
theorem write_at_770 (f : Nat → Int) (q v : Int) (w : World) (hF : Fits f) (hv : 0 ≤ v ∧ v < 4294967296) (hq : lvl 770 ≤ q) :
    Calls Try.prog 11 #[fileV f, .int .i64 770, .int .i64 q, .int .u32 v] w fun e w' => e = .returned (.tuple #[fileV (upd f 1 (mk (f 1) v 46079)), .bool true]) ∧ Below w.heap.size w w' := by
  have e := mask_eq (f 1) v 46079 (hF.1 _ (by decide)) hv (by decide)
  unfold mk
  rw [← e]
  exact write_fld_1a f 770 q v w _ _ _ (loc_770 f) hq (by kernel_rfl) rfl
theorem write_at_771 (f : Nat → Int) (q v : Int) (w : World) (hF : Fits f) (hv : 0 ≤ v ∧ v < 4294967296) (hq : lvl 771 ≤ q) :
    Calls Try.prog 11 #[fileV f, .int .i64 771, .int .i64 q, .int .u32 v] w fun e w' => e = .returned (.tuple #[fileV (upd f 2 (mk (f 2) v 546)), .bool true]) ∧ Below w.heap.size w w' := by
  have e := mask_eq (f 2) v 546 (hF.1 _ (by decide)) hv (by decide)
  unfold mk
  rw [← e]
  exact write_fld_2a f 771 q v w _ _ _ (loc_771 f) hq (by kernel_rfl) rfl
theorem write_at_772 (f : Nat → Int) (q v : Int) (w : World) (hF : Fits f) (hv : 0 ≤ v ∧ v < 4294967296) (hq : lvl 772 ≤ q) :
    Calls Try.prog 11 #[fileV f, .int .i64 772, .int .i64 q, .int .u32 v] w fun e w' => e = .returned (.tuple #[fileV (upd f 3 (mk (f 3) v 2730)), .bool true]) ∧ Below w.heap.size w w' := by
  have e := mask_eq (f 3) v 2730 (hF.1 _ (by decide)) hv (by decide)
  unfold mk
  rw [← e]
  exact write_fld_3a f 772 q v w _ _ _ (loc_772 f) hq (by kernel_rfl) rfl
theorem write_at_773 (f : Nat → Int) (q v : Int) (w : World) (hF : Fits f) (hv : 0 ≤ v ∧ v < 4294967296) (hq : lvl 773 ≤ q) :
    Calls Try.prog 11 #[fileV f, .int .i64 773, .int .i64 q, .int .u32 v] w fun e w' => e = .returned (.tuple #[fileV (upd f 5 (mk v 0 2)), .bool true]) ∧ Below w.heap.size w w' := by
  have e := plain2_eq (f 5) v (hF.1 _ (by decide)) hv
  unfold mk
  rw [← e]
  exact write_fld_5a f 773 q v w _ _ _ (loc_773 f) hq (by kernel_rfl) rfl
theorem write_at_832 (f : Nat → Int) (q v : Int) (w : World) (hF : Fits f) (hv : 0 ≤ v ∧ v < 4294967296) (hq : lvl 832 ≤ q) :
    Calls Try.prog 11 #[fileV f, .int .i64 832, .int .i64 q, .int .u32 v] w fun e w' => e = .returned (.tuple #[fileV (upd f 6 (v)), .bool true]) ∧ Below w.heap.size w w' := by
  have e := plain_eq (f 6) v (hF.1 _ (by decide)) hv
  refine Calls.mono (write_fld_6a f 832 q v w _ _ _ (loc_832 f) hq (by kernel_rfl) rfl) fun e1 w1 h => ?_
  rw [e] at h
  exact h
theorem write_at_833 (f : Nat → Int) (q v : Int) (w : World) (hF : Fits f) (hv : 0 ≤ v ∧ v < 4294967296) (hq : lvl 833 ≤ q) :
    Calls Try.prog 11 #[fileV f, .int .i64 833, .int .i64 q, .int .u32 v] w fun e w' => e = .returned (.tuple #[fileV (upd f 7 (v - v % 4)), .bool true]) ∧ Below w.heap.size w w' := by
  have e := plain3_eq (f 7) v (hF.1 _ (by decide)) hv
  refine Calls.mono (write_fld_7a f 833 q v w _ _ _ (loc_833 f) hq (by kernel_rfl) rfl) fun e1 w1 h => ?_
  rw [e] at h
  exact h
theorem write_at_834 (f : Nat → Int) (q v : Int) (w : World) (hF : Fits f) (hv : 0 ≤ v ∧ v < 4294967296) (hq : lvl 834 ≤ q) :
    Calls Try.prog 11 #[fileV f, .int .i64 834, .int .i64 q, .int .u32 v] w fun e w' => e = .returned (.tuple #[fileV (upd f 8 (v)), .bool true]) ∧ Below w.heap.size w w' := by
  have e := plain_eq (f 8) v (hF.1 _ (by decide)) hv
  refine Calls.mono (write_fld_8a f 834 q v w _ _ _ (loc_834 f) hq (by kernel_rfl) rfl) fun e1 w1 h => ?_
  rw [e] at h
  exact h
theorem write_at_835 (f : Nat → Int) (q v : Int) (w : World) (hF : Fits f) (hv : 0 ≤ v ∧ v < 4294967296) (hq : lvl 835 ≤ q) :
    Calls Try.prog 11 #[fileV f, .int .i64 835, .int .i64 q, .int .u32 v] w fun e w' => e = .returned (.tuple #[fileV (upd f 9 (v)), .bool true]) ∧ Below w.heap.size w w' := by
  have e := plain_eq (f 9) v (hF.1 _ (by decide)) hv
  refine Calls.mono (write_fld_9a f 835 q v w _ _ _ (loc_835 f) hq (by kernel_rfl) rfl) fun e1 w1 h => ?_
  rw [e] at h
  exact h
theorem write_at_836 (f : Nat → Int) (q v : Int) (w : World) (hF : Fits f) (hv : 0 ≤ v ∧ v < 4294967296) (hq : lvl 836 ≤ q) :
    Calls Try.prog 11 #[fileV f, .int .i64 836, .int .i64 q, .int .u32 v] w fun e w' => e = .returned (.tuple #[fileV (upd f 4 (mk (f 4) v 546)), .bool true]) ∧ Below w.heap.size w w' := by
  have e := mask_eq (f 4) v 546 (hF.1 _ (by decide)) hv (by decide)
  unfold mk
  rw [← e]
  exact write_fld_4a f 836 q v w _ _ _ (loc_836 f) hq (by kernel_rfl) rfl
theorem write_at_2816 (f : Nat → Int) (q v : Int) (w : World) (hF : Fits f) (hv : 0 ≤ v ∧ v < 4294967296) (hq : lvl 2816 ≤ q) :
    Calls Try.prog 11 #[fileV f, .int .i64 2816, .int .i64 q, .int .u32 v] w fun e w' => e = .returned (.tuple #[fileV (upd f 16 (f 16 - f 16 % 4294967296 + v)), .bool true]) ∧ Below w.heap.size w w' := by
  rw [← low_half _ _ hF.2 hv]
  exact write_cyc_false f 2816 q v w hF (loc_2816 f) hq (by kernel_rfl) hv
theorem write_at_2944 (f : Nat → Int) (q v : Int) (w : World) (hF : Fits f) (hv : 0 ≤ v ∧ v < 4294967296) (hq : lvl 2944 ≤ q) :
    Calls Try.prog 11 #[fileV f, .int .i64 2944, .int .i64 q, .int .u32 v] w fun e w' => e = .returned (.tuple #[fileV (upd f 16 (f 16 % 4294967296 + v * 4294967296)), .bool true]) ∧ Below w.heap.size w w' := by
  rw [← high_half _ _ hF.2 hv]
  exact write_cyc_true f 2944 q v w hF (loc_2944 f) hq (by kernel_rfl) hv

theorem kn_write (f : Nat → Int) (n v : Int) (h : kn f n = some v) (ht : ¬ n / 1024 % 4 = 3) : n = 256 ∨ n = 260 ∨ n = 261 ∨ n = 320 ∨ n = 321 ∨ n = 322 ∨ n = 323 ∨ n = 324 ∨ n = 384 ∨ n = 768 ∨ n = 769 ∨ n = 770 ∨ n = 771 ∨ n = 772 ∨ n = 773 ∨ n = 832 ∨ n = 833 ∨ n = 834 ∨ n = 835 ∨ n = 836 ∨ n = 2816 ∨ n = 2944 := by
  unfold kn at h
  by_cases h256 : n = 256
  · omega
  rw [if_neg h256] at h
  by_cases h260 : n = 260
  · omega
  rw [if_neg h260] at h
  by_cases h261 : n = 261
  · omega
  rw [if_neg h261] at h
  by_cases h320 : n = 320
  · omega
  rw [if_neg h320] at h
  by_cases h321 : n = 321
  · omega
  rw [if_neg h321] at h
  by_cases h322 : n = 322
  · omega
  rw [if_neg h322] at h
  by_cases h323 : n = 323
  · omega
  rw [if_neg h323] at h
  by_cases h324 : n = 324
  · omega
  rw [if_neg h324] at h
  by_cases h384 : n = 384
  · omega
  rw [if_neg h384] at h
  by_cases h768 : n = 768
  · omega
  rw [if_neg h768] at h
  by_cases h769 : n = 769
  · omega
  rw [if_neg h769] at h
  by_cases h770 : n = 770
  · omega
  rw [if_neg h770] at h
  by_cases h771 : n = 771
  · omega
  rw [if_neg h771] at h
  by_cases h772 : n = 772
  · omega
  rw [if_neg h772] at h
  by_cases h773 : n = 773
  · omega
  rw [if_neg h773] at h
  by_cases h832 : n = 832
  · omega
  rw [if_neg h832] at h
  by_cases h833 : n = 833
  · omega
  rw [if_neg h833] at h
  by_cases h834 : n = 834
  · omega
  rw [if_neg h834] at h
  by_cases h835 : n = 835
  · omega
  rw [if_neg h835] at h
  by_cases h836 : n = 836
  · omega
  rw [if_neg h836] at h
  by_cases h2816 : n = 2816
  · omega
  rw [if_neg h2816] at h
  by_cases h3072 : n = 3072
  · omega
  rw [if_neg h3072] at h
  by_cases h2944 : n = 2944
  · omega
  rw [if_neg h2944] at h
  by_cases h3200 : n = 3200
  · omega
  rw [if_neg h3200] at h
  by_cases h3857 : n = 3857
  · omega
  rw [if_neg h3857] at h
  by_cases h3858 : n = 3858
  · omega
  rw [if_neg h3858] at h
  by_cases h3859 : n = 3859
  · omega
  rw [if_neg h3859] at h
  by_cases h3860 : n = 3860
  · omega
  rw [if_neg h3860] at h
  cases h

/-- WRITE (write_calls). -/
theorem write_calls (f : Nat → Int) (n q v : Int) (w : World) (hF : Fits f) (hv : 0 ≤ v ∧ v < 4294967296) :
    Calls Try.prog 11 #[fileV f, .int .i64 n, .int .i64 q, .int .u32 v] w fun e w' => e = .returned (.tuple #[fileV (wr f n q v), .bool (wB f n q)]) ∧ Below w.heap.size w w' := by
  cases hB : wB f n q with
  | false =>
    have e : wr f n q v = f := by simp [wr, hB]
    rw [e]
    rcases loc_cases f hF n with ⟨h1, h2⟩ | ⟨l, v', h1, h2, h3, h4, h5, h6⟩
    · exact write_none f n q v w h1
    · by_cases hq : lvl n ≤ q
      · have e1 : rrB f n q = true := by simp [rrB, h2, ← h5, hq]
        have ht : n / 1024 % 4 = 3 := by simpa [wB, e1] using hB
        exact write_top f n q v w l h1 hq (by rw [h6]; simpa using ht)
      · exact write_no f n q v w l h1 (by omega)
  | true =>
    have e : wr f n q v = wt f n v := by simp [wr, hB]
    rw [e]
    have hR : rrB f n q = true := by
      unfold wB at hB
      simp only [Bool.and_eq_true] at hB
      exact hB.1
    have ht : ¬ n / 1024 % 4 = 3 := by simpa [wB, hR] using hB
    have hk : ∃ v, kn f n = some v := by
      have := hR
      unfold rrB at this
      simp only [Bool.and_eq_true] at this
      exact Option.isSome_iff_exists.1 this.1
    obtain ⟨v', hk⟩ := hk
    have hq : n / 256 % 4 ≤ q := by
      have := hR
      unfold rrB at this
      simpa [hk] using this
    rcases kn_write f n v' hk ht with rfl | rfl | rfl | rfl | rfl | rfl | rfl | rfl | rfl | rfl | rfl | rfl | rfl | rfl | rfl | rfl | rfl | rfl | rfl | rfl | rfl | rfl
    · exact write_at_256 f q v w hF hv (show lvl 256 ≤ q from (show lvl 256 = 1 by kernel_rfl) ▸ hq)
    · exact write_at_260 f q v w hF hv (show lvl 260 ≤ q from (show lvl 260 = 1 by kernel_rfl) ▸ hq)
    · exact write_at_261 f q v w hF hv (show lvl 261 ≤ q from (show lvl 261 = 1 by kernel_rfl) ▸ hq)
    · exact write_at_320 f q v w hF hv (show lvl 320 ≤ q from (show lvl 320 = 1 by kernel_rfl) ▸ hq)
    · exact write_at_321 f q v w hF hv (show lvl 321 ≤ q from (show lvl 321 = 1 by kernel_rfl) ▸ hq)
    · exact write_at_322 f q v w hF hv (show lvl 322 ≤ q from (show lvl 322 = 1 by kernel_rfl) ▸ hq)
    · exact write_at_323 f q v w hF hv (show lvl 323 ≤ q from (show lvl 323 = 1 by kernel_rfl) ▸ hq)
    · exact write_at_324 f q v w hF hv (show lvl 324 ≤ q from (show lvl 324 = 1 by kernel_rfl) ▸ hq)
    · exact write_at_384 f q v w hF hv (show lvl 384 ≤ q from (show lvl 384 = 1 by kernel_rfl) ▸ hq)
    · exact write_at_768 f q v w hF hv (show lvl 768 ≤ q from (show lvl 768 = 3 by kernel_rfl) ▸ hq)
    · exact write_own f 769 q v w _ _ (loc_769 f) (show lvl 769 ≤ q from (show lvl 769 = 3 by kernel_rfl) ▸ hq) (by kernel_rfl) rfl
    · exact write_at_770 f q v w hF hv (show lvl 770 ≤ q from (show lvl 770 = 3 by kernel_rfl) ▸ hq)
    · exact write_at_771 f q v w hF hv (show lvl 771 ≤ q from (show lvl 771 = 3 by kernel_rfl) ▸ hq)
    · exact write_at_772 f q v w hF hv (show lvl 772 ≤ q from (show lvl 772 = 3 by kernel_rfl) ▸ hq)
    · exact write_at_773 f q v w hF hv (show lvl 773 ≤ q from (show lvl 773 = 3 by kernel_rfl) ▸ hq)
    · exact write_at_832 f q v w hF hv (show lvl 832 ≤ q from (show lvl 832 = 3 by kernel_rfl) ▸ hq)
    · exact write_at_833 f q v w hF hv (show lvl 833 ≤ q from (show lvl 833 = 3 by kernel_rfl) ▸ hq)
    · exact write_at_834 f q v w hF hv (show lvl 834 ≤ q from (show lvl 834 = 3 by kernel_rfl) ▸ hq)
    · exact write_at_835 f q v w hF hv (show lvl 835 ≤ q from (show lvl 835 = 3 by kernel_rfl) ▸ hq)
    · exact write_at_836 f q v w hF hv (show lvl 836 ≤ q from (show lvl 836 = 3 by kernel_rfl) ▸ hq)
    · exact write_at_2816 f q v w hF hv (show lvl 2816 ≤ q from (show lvl 2816 = 3 by kernel_rfl) ▸ hq)
    · exact write_at_2944 f q v w hF hv (show lvl 2944 ≤ q from (show lvl 2944 = 3 by kernel_rfl) ▸ hq)

/-- WRITE (refWrite_calls). -/
theorem refWrite_calls (f : Nat → Int) (n q v : Int) (w : World) (hF : Fits f) (hv : 0 ≤ v ∧ v < 4294967296) :
    Calls Try.prog 12 #[fileV f, .int .i64 n, .int .i64 q, .int .u32 v] w fun e w' => e = .returned (.tuple #[fileV (wr f n q v), .bool (wB f n q)]) ∧ Below w.heap.size w w' := by
  cases hB : wB f n q with
  | false =>
    have e : wr f n q v = f := by simp [wr, hB]
    rw [e]
    cases hR : rrB f n q with
    | false => exact refWrite_no f n q v w hF hR
    | true =>
      have ht : n / 1024 % 4 = 3 := by simpa [wB, hR] using hB
      have hk : ∃ v, kn f n = some v := by
        unfold rrB at hR
        simp only [Bool.and_eq_true] at hR
        exact Option.isSome_iff_exists.1 hR.1
      obtain ⟨v', hk⟩ := hk
      exact refWrite_top f n q v w hF hR (kn_nonneg hk) ht
  | true =>
    have e : wr f n q v = wt f n v := by simp [wr, hB]
    rw [e]
    have hR : rrB f n q = true := by
      unfold wB at hB
      simp only [Bool.and_eq_true] at hB
      exact hB.1
    have ht : ¬ n / 1024 % 4 = 3 := by simpa [wB, hR] using hB
    have hk : ∃ v, kn f n = some v := by
      have := hR
      unfold rrB at this
      simp only [Bool.and_eq_true] at this
      exact Option.isSome_iff_exists.1 this.1
    obtain ⟨v', hk⟩ := hk
    have hq : n / 256 % 4 ≤ q := by
      have := hR
      unfold rrB at this
      simpa [hk] using this
    rcases kn_write f n v' hk ht with rfl | rfl | rfl | rfl | rfl | rfl | rfl | rfl | rfl | rfl | rfl | rfl | rfl | rfl | rfl | rfl | rfl | rfl | rfl | rfl | rfl | rfl
    · exact refWrite_256 f q v w hF hv hR
    · exact refWrite_260 f q v w hF hv hR
    · exact refWrite_261 f q v w hF hv hR
    · exact refWrite_320 f q v w hF hv hR
    · exact refWrite_321 f q v w hF hv hR
    · exact refWrite_322 f q v w hF hv hR
    · exact refWrite_323 f q v w hF hv hR
    · exact refWrite_324 f q v w hF hv hR
    · exact refWrite_384 f q v w hF hv hR
    · exact refWrite_768 f q v w hF hv hR
    · exact refWrite_769 f q v w hF hv hR
    · exact refWrite_770 f q v w hF hv hR
    · exact refWrite_771 f q v w hF hv hR
    · exact refWrite_772 f q v w hF hv hR
    · exact refWrite_773 f q v w hF hv hR
    · exact refWrite_832 f q v w hF hv hR
    · exact refWrite_833 f q v w hF hv hR
    · exact refWrite_834 f q v w hF hv hR
    · exact refWrite_835 f q v w hF hv hR
    · exact refWrite_836 f q v w hF hv hR
    · exact refWrite_2816 f q v w hF hv hR
    · exact refWrite_2944 f q v w hF hv hR

end Go.Proofs.Ytpmgdidigfincaa
