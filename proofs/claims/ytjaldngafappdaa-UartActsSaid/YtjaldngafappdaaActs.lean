/-
  An uart answers every call, in every order, as the document says.
-/
import Derived.Test.YtjaldngafappdaaSame
set_option linter.unusedVariables false
set_option linter.unusedSimpArgs false
namespace Go.Proofs.Ytjaldngafappdaa
open Go.RowKit Go.Lib

theorem size28 : (Try.prog.info? 28).map (·.size) = some 7 := by kernel_rfl
abbrev mR (S : Ua) : Array Value := #[.string (bA S.c), .string (bA S.o), .int .u32 (S.r 1), .int .u32 (S.r 3), .int .u32 (S.r 4), .int .u32 (S.r 7), .bool S.ov]
abbrev mO (S : Ua) : Obj := .cells (mR S) 28

/-- A store to a whole row among the blocks. -/
theorem UW.row {B b g : Nat} {S : Ua} {W w : World} {K : Blocks} {cs vs : Array Value} (h : UW B b S W ((g, .cells cs 28) :: K) w) (hg : B ≤ g) (hK : ∀ p ∈ K, p.1 ≠ g) : UW B b S W ((g, .cells vs 28) :: K) (w.setRow g vs) := by
  obtain ⟨h1, h2, h3⟩ := h.kept _ List.mem_cons_self
  have far : ∀ (k : Nat) (o : Obj), k ≠ g → w.heap[k]? = some o → (w.setRow g vs).heap[k]? = some o := fun k o hk ho => by rw [setRow_other w g k vs hk]; exact ho
  have row : ∀ (k : Nat) (cur : Array Value), w.heap[k]? = some (.cells cur 5 (0, 0)) → k ≠ g := fun k cur hk e => by
    rw [e] at hk
    have h1' : w.heap[g]? = some (.cells cs 28 (0, 0)) := h1
    rw [h1'] at hk
    cases hk
  refine ⟨?_, h.bel.trans ⟨rfl, rfl, rfl, by simp [World.setRow], fun k hk => setRow_other w g k vs (by omega)⟩, by simp [World.setRow]; exact h.size, ?_⟩
  · obtain ⟨cv, pv, bv, hU⟩ := h.u
    refine ⟨cv, pv, bv, hU.at_b, far _ _ (fun e => h2 e.symm) hU.row, hU.came.keep fun k hk o ho => ?_, ownsRow_keep hU.went fun k hk o ho => ?_, hU.addr, hU.apart, hU.empt⟩
    · obtain ⟨_, cur, hc⟩ := hU.came.block hk
      exact far k o (row k cur hc) ho
    · obtain ⟨_, cur, hc⟩ := ownsRow_block hU.went hk
      exact far k o (row k cur hc) ho
  · intro p hp
    rcases List.mem_cons.1 hp with rfl | hp
    · exact ⟨setRow_heap w g cs vs 28 _ h1, h2, fun _ _ e => by cases e⟩
    · obtain ⟨k1, k2, k3⟩ := h.kept p (List.mem_cons_of_mem _ hp)
      exact ⟨far _ _ (hK p hp) k1, k2, k3⟩

theorem refGet_u {S : Ua} (h : Inv S) (off v : Int) (t : Bool) (S' : Ua) (ho : 0 ≤ off) (hv : gV S off = v) (ht : (!badO off) = t) (hS : gS S off = S') (w : World) :
    Calls Try.prog 12 #[mV S, .int .u32 off] w fun e w' => e = .returned (.tuple #[mV S', .int .u32 v, .bool t]) ∧ Below w.heap.size w w' := by
  subst hv ht hS
  exact refGet_S h off ho w
theorem refSet_u {S : Ua} (h : Inv S) (off v : Int) (t : Bool) (S' : Ua) (ho : 0 ≤ off) (hv : 0 ≤ v ∧ v < 4294967296) (hlen : S.o.length ≤ 1000) (ht : (!badO off) = t) (hS : sS S off (low v) = S') (w : World) :
    Calls Try.prog 13 #[mV S, .int .u32 off, .int .u32 v] w fun e w' => e = .returned (.tuple #[mV S', .bool t]) ∧ Below w.heap.size w w' := by
  subst ht hS
  exact refSet_S h off v ho hv hlen w
theorem refFeed_u {S : Ua} (h : Inv S) (s : ByteArray) (S' : Ua) (hs : s.size ≤ 60) (hS : fS S s.data.toList = S') (w : World) :
    Calls Try.prog 16 #[mV S, .string s] w fun e w' => e = .returned (mV S') ∧ Below w.heap.size w w' := by
  subst hS
  exact refFeed_S h s hs w

/-- A call. -/
structure Act where
  kind : Int
  off : Int
  v : Int
  s : ByteArray
def Act.ok (a : Act) : Prop := (0 ≤ a.kind ∧ a.kind < 256) ∧ (0 ≤ a.off ∧ a.off < 4294967296) ∧ (0 ≤ a.v ∧ a.v < 4294967296) ∧ a.s.size ≤ maxLen
abbrev aR (a : Act) : Array Value := #[.int .u8 a.kind, .int .u32 a.off, .int .u32 a.v, .string a.s]
abbrev aO (a : Act) : Obj := .cells (aR a) 30
/-- v is a slice of calls. -/
def ActsAt (v : Value) (n : Nat) (f : Nat → Act) (w : World) : Prop :=
  (∃ a cap, v = .slice a 0 cap ∧ n = 0) ∨
  ∃ g o cap, v = .slice (some ⟨g, o, none⟩) n cap ∧ n ≤ maxLen ∧ g < w.heap.size ∧ ∀ j, j < n → (f j).ok ∧ ∀ i, i < 4 → w.cell? ⟨g, o + j * 4 + i, none⟩ = (aR (f j))[i]?

theorem UW.cellStr {B b g i : Nat} {S : Ua} {W w : World} {K : Blocks} {cs vs : Array Value} {x : Value} (h : UW B b S W ((g, .cells cs 28) :: K) w) (hg : B ≤ g) (hK : ∀ p ∈ K, p.1 ≠ g) (hv : cs.setIfInBounds i x = vs) : UW B b S W ((g, .cells vs 28) :: K) (w.setCell ⟨g, i, none⟩ x) := by
  rw [setCell_eq_setRow w g i cs 28 (0, 0) x (h.kept _ List.mem_cons_self).1, hv]
  exact h.row hg hK
theorem UW.swap {B b : Nat} {S : Ua} {W w : World} {p1 p2 : Nat × Obj} (h : UW B b S W [p1, p2] w) : UW B b S W [p2, p1] w := h.only (fun p hp => by simp at hp ⊢; exact hp.symm)
theorem UW.at2 {B b : Nat} {S : Ua} {W w : World} {p1 p2 : Nat × Obj} (h : UW B b S W [p1, p2] w) : w.heap[p2.1]? = some p2.2 := (h.kept p2 (by simp)).1
theorem UW.at1 {B b : Nat} {S : Ua} {W w : World} {p1 : Nat × Obj} {K : Blocks} (h : UW B b S W (p1 :: K) w) : w.heap[p1.1]? = some p1.2 := (h.kept p1 (by simp)).1

set_option maxRecDepth 100000 in
set_option maxHeartbeats 4000000 in
theorem acts_main (n : Nat) (f : Nat → Act) (g o cap : Nat) (w : World) (hn : n ≤ 100) (hg : g < w.heap.size) (hf : ∀ j, j < n → (f j).ok ∧ ∀ i, i < 4 → w.cell? ⟨g, o + j * 4 + i, none⟩ = (aR (f j))[i]?) :
    Calls Try.prog 3 #[.slice (some ⟨g, o, none⟩) n cap] w fun e w' => e = .returned (.bool true) ∧ Below w.heap.size w w' := by
  have HG := _root_.Go.Lib.hid hg
  have HF := _root_.Go.Lib.hid hf
  have n1 : ((n : Int) > 100) = False := eq_false (by omega)
  clear hg hf
  go_enter Try.func3, Try.ntmps3
  go_wp2_with fail
  refine (alive_calls _).mono ?_
  rintro e w1 ⟨rfl, h1⟩
  have H1 := _root_.Go.Lib.hid h1
  clear h1
  go_wp2_with fail
  refine (new_u (B := w.heap.size) (W := w) [] H1.out H1.out.size (fun p hp => by cases hp)).mono ?_
  rintro e w2 ⟨rfl, h2⟩
  have H2 := _root_.Go.Lib.hid h2
  clear h2 H1
  go_wp2_with fail
  have h3 := (H2.out.alloc (mO S0)).push (heap_alloc_new w2 (mO S0)) (show w2.heap.size ≠ w1.heap.size from fun e => by obtain ⟨_, _, _, hU⟩ := H2.out.u; have := lt_of_heap hU.row; omega) (fun _ _ h => by cases h)
  have H3 := _root_.Go.Lib.hid h3
  have MB := _root_.Go.Lib.hid (show w.heap.size ≤ w2.heap.size from H2.out.size)
  generalize hmb : w2.heap.size = mb at *
  go_loopg [25] n (fun k i wr => ∃ (j : Nat) (S : Ua), j + k = n ∧ i = .int .i64 (j : Int) ∧ Inv S ∧ S.o.length ≤ j ∧ UW w.heap.size w1.heap.size S w [(mb, mO S)] wr)
  case atStart => exact ⟨0, S0, by omega, rfl, ⟨by decide, by decide, by decide⟩, by decide, H3.out⟩
  case round =>
    obtain ⟨j, S, hj, rfl, hI, hlen, hu⟩ := hrel
    by_cases hjn : j < n
    · have hlt : ((j : Int) < n) = True := eq_true (by omega)
      obtain ⟨ha, hcs⟩ := HF.out j hjn
      have hcw : ∀ i, i < 4 → wr.cell? ⟨g, o + j * 4 + i, none⟩ = (aR (f j))[i]? := fun i hi => by rw [hu.bel.cell (p := ⟨g, o + j * 4 + i, none⟩) HG.out]; exact hcs i hi
      generalize f j = A at *
      obtain ⟨kind, off, v, s⟩ := A
      have c0 : wr.cell? ⟨g, o + j * 4, none⟩ = some (.int .u8 kind) := hcw 0 (by decide)
      have c1 : wr.cell? ⟨g, o + j * 4 + 1, none⟩ = some (.int .u32 off) := hcw 1 (by decide)
      have c2 : wr.cell? ⟨g, o + j * 4 + 2, none⟩ = some (.int .u32 v) := hcw 2 (by decide)
      have c3 : wr.cell? ⟨g, o + j * 4 + 3, none⟩ = some (.string s) := hcw 3 (by decide)
      have HCW := _root_.Go.Lib.hid hcw
      have HU := _root_.Go.Lib.hid hu
      have HI := _root_.Go.Lib.hid hI
      clear hcs hcw hu hI
      have hm6 : kind.tmod 6 = kind % 6 := Int.tmod_eq_emod_of_nonneg ha.1.1
      have HA := _root_.Go.Lib.hid ha
      clear ha
      by_cases hs60 : 60 < s.size
      · have s1 : ((s.size : Int) > 60) = True := eq_true (by omega)
        go_wp2_with fail
        go_ret
        exact ⟨rfl, (HU.out.alloc _).bel⟩
      · have s1 : ((s.size : Int) > 60) = False := eq_false (by omega)
        rcases (show kind % 6 = 0 ∨ kind % 6 = 1 ∨ kind % 6 = 2 ∨ kind % 6 = 3 ∨ kind % 6 = 4 ∨ kind % 6 = 5 by omega) with h6 | h6 | h6 | h6 | h6 | h6

        · obtain ⟨S2, hS2⟩ : ∃ S2, gS S off = S2 := ⟨_, rfl⟩
          obtain ⟨t, ht⟩ : ∃ t, (!badO off) = t := ⟨_, rfl⟩
          obtain ⟨gv, hgv⟩ : ∃ x, gV S off = x := ⟨_, rfl⟩
          have HS2 := _root_.Go.Lib.hid hS2
          have HT := _root_.Go.Lib.hid ht
          have HGV := _root_.Go.Lib.hid hgv
          have hne : wr.heap.size ≠ mb := by have := lt_of_heap HU.out.at1; simp only at this; omega
          have KNE := _root_.Go.Lib.hid (show ∀ p ∈ [(wr.heap.size, aO ⟨kind, off, v, s⟩)], p.1 ≠ mb from fun p hp => by obtain rfl := List.mem_singleton.1 hp; exact hne)
          have hp0 := (HU.out.alloc (aO ⟨kind, off, v, s⟩)).push (heap_alloc_new _ _) (show wr.heap.size ≠ w1.heap.size from fun e => by obtain ⟨_, _, _, hU⟩ := HU.out.u; have := lt_of_heap hU.row; omega) (fun _ _ h => by cases h)
          have HP := _root_.Go.Lib.hid hp0
          have hm0 := HU.out.at1
          simp only at hm0
          have hml0 : mb < wr.heap.size := lt_of_heap hm0
          clear hS2 ht hgv hp0 hne
          go_wp2_with fail
          refine (get_u HP.out off gv t S2 HA.out.2.1.1 HGV.out HT.out HS2.out).mono ?_
          rintro e wa ⟨rfl, ha⟩
          have hm : wa.heap[mb]? = some (mO S) := (ha).at2
          have hml : mb < wa.heap.size := lt_of_heap hm
          have d1 : wa.cell? ⟨wr.heap.size, 1, none⟩ = some (.int .u32 off) := cell_at (ha).at1 1
          have d2 : wa.cell? ⟨wr.heap.size, 2, none⟩ = some (.int .u32 v) := cell_at (ha).at1 2
          have d3 : wa.cell? ⟨wr.heap.size, 3, none⟩ = some (.string s) := cell_at (ha).at1 3
          have HA1 := _root_.Go.Lib.hid ha
          clear ha HP
          go_wp2_with ((with_reducible apply wpList_load_at 28 Try.underlying28); rfl; ((repeat ((with_reducible refine (World.heap_alloc_past _ _ _ ?_).trans ?_); focus (first | omega | (simp only [World.size_alloc]; omega)))); (with_reducible exact hm)); rfl; exact size28)
          refine (refGet_u HI.out off gv t S2 HA.out.2.1.1 HGV.out HT.out HS2.out _).mono ?_
          rintro e wb ⟨rfl, hb⟩
          have hb2 := HA1.out.grown hb
          clear hm hml d1 d2 d3 hb
          have hm : wb.heap[mb]? = some (mO S) := (hb2).at2
          have hml : mb < wb.heap.size := lt_of_heap hm
          have d1 : wb.cell? ⟨wr.heap.size, 1, none⟩ = some (.int .u32 off) := cell_at (hb2).at1 1
          have d2 : wb.cell? ⟨wr.heap.size, 2, none⟩ = some (.int .u32 v) := cell_at (hb2).at1 2
          have d3 : wb.cell? ⟨wr.heap.size, 3, none⟩ = some (.string s) := cell_at (hb2).at1 3
          have HB := _root_.Go.Lib.hid hb2
          clear hb2 HA1
          go_wp2_with (first | ((with_reducible apply wpList_load_at 28 Try.underlying28); rfl; ((with_reducible refine World.heap_alloc_at _ _ _ ?_); focus (first | rfl | (simp only [World.size_alloc]; done) | (simp only [World.size_alloc]; omega))); rfl; exact size28) | ((with_reducible apply wpList_load_at 28 Try.underlying28); rfl; ((repeat ((with_reducible refine (World.heap_alloc_past _ _ _ ?_).trans ?_); focus (first | omega | (simp only [World.size_alloc]; omega)))); (with_reducible exact hm)); rfl; exact size28) | ((with_reducible apply wpList_store_at 28); rfl; rfl; ((with_reducible refine World.heap_alloc_at _ _ _ ?_); focus (first | rfl | (simp only [World.size_alloc]; done) | (simp only [World.size_alloc]; omega))); exact size28; rfl; rfl; (with_reducible exact World.setRow_alloc_at _ _ _ _ _ (by first | rfl | (simp only [World.size_alloc]; done)))) | ((with_reducible apply wpList_store_at 28); rfl; rfl; ((repeat ((with_reducible refine (World.heap_alloc_past _ _ _ ?_).trans ?_); focus (first | omega | (simp only [World.size_alloc]; omega)))); (with_reducible exact hm)); exact size28; rfl; rfl; rfl; (have hx := UW.row (vs := mR S2) ((HB.out.alloc (mO S2)).swap) MB.out KNE.out); (generalize World.setRow _ mb _ = wx at hx ⊢); (have e1 : wx.cell? ⟨wr.heap.size, 1, none⟩ = some (.int .u32 off) := cell_at hx.at2 1); (have e2 : wx.cell? ⟨wr.heap.size, 2, none⟩ = some (.int .u32 v) := cell_at hx.at2 2); (have HX := _root_.Go.Lib.hid hx); clear hx hm hml))
          have k0 : wx.cell? ⟨mb, 0, none⟩ = some (.string (bA S2.c)) := cell_at HX.out.at1 0
          have k1 : wx.cell? ⟨mb, 1, none⟩ = some (.string (bA S2.o)) := cell_at HX.out.at1 1
          have k2 : wx.cell? ⟨mb, 2, none⟩ = some (.int .u32 (S2.r 1)) := cell_at HX.out.at1 2
          have k3 : wx.cell? ⟨mb, 3, none⟩ = some (.int .u32 (S2.r 3)) := cell_at HX.out.at1 3
          have k4 : wx.cell? ⟨mb, 4, none⟩ = some (.int .u32 (S2.r 4)) := cell_at HX.out.at1 4
          have k5 : wx.cell? ⟨mb, 5, none⟩ = some (.int .u32 (S2.r 7)) := cell_at HX.out.at1 5
          have k6 : wx.cell? ⟨mb, 6, none⟩ = some (.bool S2.ov) := cell_at HX.out.at1 6
          have HI2 := _root_.Go.Lib.hid (show Inv S2 by rw [← HS2.out]; exact HI.out.get off)
          obtain ⟨up, hup⟩ : ∃ up, upB S2 = up := ⟨_, rfl⟩
          have HUP := _root_.Go.Lib.hid hup
          clear hup
          go_region_with (first | (go_at_call 18; refine (up_u HX.out.drew up HUP.out).mono ?_; rintro e wc ⟨rfl, rfl⟩) | (go_at_call 19; refine (refUp_S HI2.out _).mono ?_; rw [HUP.out]; rintro e wc ⟨rfl, hb⟩))
          all_goals
            go_wp2_with fail
            go_roundg (n - (j + 1))
            case measure => omega
            case rel => exact ⟨j + 1, S2, by omega, by first | rfl | go_num, HI2.out, by rw [← HS2.out]; rw [get_len]; omega, (HX.out.drew.grown hb).only (fun p hp => by simp at hp ⊢; exact .inl hp)⟩
        · obtain ⟨S2, hS2⟩ : ∃ S2, gS S off = S2 := ⟨_, rfl⟩
          obtain ⟨t, ht⟩ : ∃ t, (!badO off) = t := ⟨_, rfl⟩
          obtain ⟨gv, hgv⟩ : ∃ x, gV S off = x := ⟨_, rfl⟩
          have HS2 := _root_.Go.Lib.hid hS2
          have HT := _root_.Go.Lib.hid ht
          have HGV := _root_.Go.Lib.hid hgv
          have hne : wr.heap.size ≠ mb := by have := lt_of_heap HU.out.at1; simp only at this; omega
          have KNE := _root_.Go.Lib.hid (show ∀ p ∈ [(wr.heap.size, aO ⟨kind, off, v, s⟩)], p.1 ≠ mb from fun p hp => by obtain rfl := List.mem_singleton.1 hp; exact hne)
          have hp0 := (HU.out.alloc (aO ⟨kind, off, v, s⟩)).push (heap_alloc_new _ _) (show wr.heap.size ≠ w1.heap.size from fun e => by obtain ⟨_, _, _, hU⟩ := HU.out.u; have := lt_of_heap hU.row; omega) (fun _ _ h => by cases h)
          have HP := _root_.Go.Lib.hid hp0
          have hm0 := HU.out.at1
          simp only at hm0
          have hml0 : mb < wr.heap.size := lt_of_heap hm0
          clear hS2 ht hgv hp0 hne
          go_wp2_with fail
          refine (get_u HP.out off gv t S2 HA.out.2.1.1 HGV.out HT.out HS2.out).mono ?_
          rintro e wa ⟨rfl, ha⟩
          have hm : wa.heap[mb]? = some (mO S) := (ha).at2
          have hml : mb < wa.heap.size := lt_of_heap hm
          have d1 : wa.cell? ⟨wr.heap.size, 1, none⟩ = some (.int .u32 off) := cell_at (ha).at1 1
          have d2 : wa.cell? ⟨wr.heap.size, 2, none⟩ = some (.int .u32 v) := cell_at (ha).at1 2
          have d3 : wa.cell? ⟨wr.heap.size, 3, none⟩ = some (.string s) := cell_at (ha).at1 3
          have HA1 := _root_.Go.Lib.hid ha
          clear ha HP
          go_wp2_with ((with_reducible apply wpList_load_at 28 Try.underlying28); rfl; ((repeat ((with_reducible refine (World.heap_alloc_past _ _ _ ?_).trans ?_); focus (first | omega | (simp only [World.size_alloc]; omega)))); (with_reducible exact hm)); rfl; exact size28)
          refine (refGet_u HI.out off gv t S2 HA.out.2.1.1 HGV.out HT.out HS2.out _).mono ?_
          rintro e wb ⟨rfl, hb⟩
          have hb2 := HA1.out.grown hb
          clear hm hml d1 d2 d3 hb
          have hm : wb.heap[mb]? = some (mO S) := (hb2).at2
          have hml : mb < wb.heap.size := lt_of_heap hm
          have d1 : wb.cell? ⟨wr.heap.size, 1, none⟩ = some (.int .u32 off) := cell_at (hb2).at1 1
          have d2 : wb.cell? ⟨wr.heap.size, 2, none⟩ = some (.int .u32 v) := cell_at (hb2).at1 2
          have d3 : wb.cell? ⟨wr.heap.size, 3, none⟩ = some (.string s) := cell_at (hb2).at1 3
          have HB := _root_.Go.Lib.hid hb2
          clear hb2 HA1
          go_wp2_with (first | ((with_reducible apply wpList_load_at 28 Try.underlying28); rfl; ((with_reducible refine World.heap_alloc_at _ _ _ ?_); focus (first | rfl | (simp only [World.size_alloc]; done) | (simp only [World.size_alloc]; omega))); rfl; exact size28) | ((with_reducible apply wpList_load_at 28 Try.underlying28); rfl; ((repeat ((with_reducible refine (World.heap_alloc_past _ _ _ ?_).trans ?_); focus (first | omega | (simp only [World.size_alloc]; omega)))); (with_reducible exact hm)); rfl; exact size28) | ((with_reducible apply wpList_store_at 28); rfl; rfl; ((with_reducible refine World.heap_alloc_at _ _ _ ?_); focus (first | rfl | (simp only [World.size_alloc]; done) | (simp only [World.size_alloc]; omega))); exact size28; rfl; rfl; (with_reducible exact World.setRow_alloc_at _ _ _ _ _ (by first | rfl | (simp only [World.size_alloc]; done)))) | ((with_reducible apply wpList_store_at 28); rfl; rfl; ((repeat ((with_reducible refine (World.heap_alloc_past _ _ _ ?_).trans ?_); focus (first | omega | (simp only [World.size_alloc]; omega)))); (with_reducible exact hm)); exact size28; rfl; rfl; rfl; (have hx := UW.row (vs := mR S2) ((HB.out.alloc (mO S2)).swap) MB.out KNE.out); (generalize World.setRow _ mb _ = wx at hx ⊢); (have e1 : wx.cell? ⟨wr.heap.size, 1, none⟩ = some (.int .u32 off) := cell_at hx.at2 1); (have e2 : wx.cell? ⟨wr.heap.size, 2, none⟩ = some (.int .u32 v) := cell_at hx.at2 2); (have HX := _root_.Go.Lib.hid hx); clear hx hm hml))
          have k0 : wx.cell? ⟨mb, 0, none⟩ = some (.string (bA S2.c)) := cell_at HX.out.at1 0
          have k1 : wx.cell? ⟨mb, 1, none⟩ = some (.string (bA S2.o)) := cell_at HX.out.at1 1
          have k2 : wx.cell? ⟨mb, 2, none⟩ = some (.int .u32 (S2.r 1)) := cell_at HX.out.at1 2
          have k3 : wx.cell? ⟨mb, 3, none⟩ = some (.int .u32 (S2.r 3)) := cell_at HX.out.at1 3
          have k4 : wx.cell? ⟨mb, 4, none⟩ = some (.int .u32 (S2.r 4)) := cell_at HX.out.at1 4
          have k5 : wx.cell? ⟨mb, 5, none⟩ = some (.int .u32 (S2.r 7)) := cell_at HX.out.at1 5
          have k6 : wx.cell? ⟨mb, 6, none⟩ = some (.bool S2.ov) := cell_at HX.out.at1 6
          have HI2 := _root_.Go.Lib.hid (show Inv S2 by rw [← HS2.out]; exact HI.out.get off)
          obtain ⟨up, hup⟩ : ∃ up, upB S2 = up := ⟨_, rfl⟩
          have HUP := _root_.Go.Lib.hid hup
          clear hup
          go_region_with (first | (go_at_call 18; refine (up_u HX.out.drew up HUP.out).mono ?_; rintro e wc ⟨rfl, rfl⟩) | (go_at_call 19; refine (refUp_S HI2.out _).mono ?_; rw [HUP.out]; rintro e wc ⟨rfl, hb⟩))
          all_goals
            go_wp2_with fail
            go_roundg (n - (j + 1))
            case measure => omega
            case rel => exact ⟨j + 1, S2, by omega, by first | rfl | go_num, HI2.out, by rw [← HS2.out]; rw [get_len]; omega, (HX.out.drew.grown hb).only (fun p hp => by simp at hp ⊢; exact .inl hp)⟩
        · obtain ⟨S2, hS2⟩ : ∃ S2, sS S off (low v) = S2 := ⟨_, rfl⟩
          obtain ⟨t, ht⟩ : ∃ t, (!badO off) = t := ⟨_, rfl⟩
          obtain ⟨gv, hgv⟩ : ∃ x, gV S off = x := ⟨_, rfl⟩
          have HS2 := _root_.Go.Lib.hid hS2
          have HT := _root_.Go.Lib.hid ht
          have HGV := _root_.Go.Lib.hid hgv
          have hne : wr.heap.size ≠ mb := by have := lt_of_heap HU.out.at1; simp only at this; omega
          have KNE := _root_.Go.Lib.hid (show ∀ p ∈ [(wr.heap.size, aO ⟨kind, off, v, s⟩)], p.1 ≠ mb from fun p hp => by obtain rfl := List.mem_singleton.1 hp; exact hne)
          have hp0 := (HU.out.alloc (aO ⟨kind, off, v, s⟩)).push (heap_alloc_new _ _) (show wr.heap.size ≠ w1.heap.size from fun e => by obtain ⟨_, _, _, hU⟩ := HU.out.u; have := lt_of_heap hU.row; omega) (fun _ _ h => by cases h)
          have HP := _root_.Go.Lib.hid hp0
          have hm0 := HU.out.at1
          simp only at hm0
          have hml0 : mb < wr.heap.size := lt_of_heap hm0
          clear hS2 ht hgv hp0 hne
          have hm := hm0
          have hml := hml0
          go_wp2_with ((with_reducible apply wpList_load_at 28 Try.underlying28); rfl; ((repeat ((with_reducible refine (World.heap_alloc_past _ _ _ ?_).trans ?_); focus (first | omega | (simp only [World.size_alloc]; omega)))); (with_reducible exact hm)); rfl; exact size28)
          refine (refSet_u HI.out off v t S2 HA.out.2.1.1 HA.out.2.2.1 (by omega) HT.out HS2.out _).mono ?_
          rintro e wb ⟨rfl, hb⟩
          have hb2 := HP.out.grown hb
          clear hm hml hm0 hml0 hb
          have hm : wb.heap[mb]? = some (mO S) := (hb2).at2
          have hml : mb < wb.heap.size := lt_of_heap hm
          have d1 : wb.cell? ⟨wr.heap.size, 1, none⟩ = some (.int .u32 off) := cell_at (hb2).at1 1
          have d2 : wb.cell? ⟨wr.heap.size, 2, none⟩ = some (.int .u32 v) := cell_at (hb2).at1 2
          have d3 : wb.cell? ⟨wr.heap.size, 3, none⟩ = some (.string s) := cell_at (hb2).at1 3
          have HB := _root_.Go.Lib.hid hb2
          clear hb2 HP
          go_wp2_with (first | ((with_reducible apply wpList_load_at 28 Try.underlying28); rfl; ((with_reducible refine World.heap_alloc_at _ _ _ ?_); focus (first | rfl | (simp only [World.size_alloc]; done) | (simp only [World.size_alloc]; omega))); rfl; exact size28) | ((with_reducible apply wpList_load_at 28 Try.underlying28); rfl; ((repeat ((with_reducible refine (World.heap_alloc_past _ _ _ ?_).trans ?_); focus (first | omega | (simp only [World.size_alloc]; omega)))); (with_reducible exact hm)); rfl; exact size28) | ((with_reducible apply wpList_store_at 28); rfl; rfl; ((with_reducible refine World.heap_alloc_at _ _ _ ?_); focus (first | rfl | (simp only [World.size_alloc]; done) | (simp only [World.size_alloc]; omega))); exact size28; rfl; rfl; (with_reducible exact World.setRow_alloc_at _ _ _ _ _ (by first | rfl | (simp only [World.size_alloc]; done)))) | ((with_reducible apply wpList_store_at 28); rfl; rfl; ((repeat ((with_reducible refine (World.heap_alloc_past _ _ _ ?_).trans ?_); focus (first | omega | (simp only [World.size_alloc]; omega)))); (with_reducible exact hm)); exact size28; rfl; rfl; rfl; (have hx := UW.row (vs := mR S2) ((HB.out.alloc (mO S2)).swap) MB.out KNE.out); (generalize World.setRow _ mb _ = wx at hx ⊢); (have e1 : wx.cell? ⟨wr.heap.size, 1, none⟩ = some (.int .u32 off) := cell_at hx.at2 1); (have e2 : wx.cell? ⟨wr.heap.size, 2, none⟩ = some (.int .u32 v) := cell_at hx.at2 2); (have HX := _root_.Go.Lib.hid hx); clear hx hm hml))
          refine (set_u HX.out off v (low v) t S2 HA.out.2.1.1 (low_and v HA.out.2.2.1) (by omega) HT.out HS2.out).mono ?_
          rintro e wy ⟨rfl, hy⟩
          clear e1 e2 HX
          have HX := _root_.Go.Lib.hid hy
          clear hy
          go_wp2_with fail
          have k0 : wy.cell? ⟨mb, 0, none⟩ = some (.string (bA S2.c)) := cell_at HX.out.at1 0
          have k1 : wy.cell? ⟨mb, 1, none⟩ = some (.string (bA S2.o)) := cell_at HX.out.at1 1
          have k2 : wy.cell? ⟨mb, 2, none⟩ = some (.int .u32 (S2.r 1)) := cell_at HX.out.at1 2
          have k3 : wy.cell? ⟨mb, 3, none⟩ = some (.int .u32 (S2.r 3)) := cell_at HX.out.at1 3
          have k4 : wy.cell? ⟨mb, 4, none⟩ = some (.int .u32 (S2.r 4)) := cell_at HX.out.at1 4
          have k5 : wy.cell? ⟨mb, 5, none⟩ = some (.int .u32 (S2.r 7)) := cell_at HX.out.at1 5
          have k6 : wy.cell? ⟨mb, 6, none⟩ = some (.bool S2.ov) := cell_at HX.out.at1 6
          have HI2 := _root_.Go.Lib.hid (show Inv S2 by rw [← HS2.out]; exact HI.out.set off (low v))
          obtain ⟨up, hup⟩ : ∃ up, upB S2 = up := ⟨_, rfl⟩
          have HUP := _root_.Go.Lib.hid hup
          clear hup
          go_region_with (first | (go_at_call 18; refine (up_u HX.out.drew up HUP.out).mono ?_; rintro e wc ⟨rfl, rfl⟩) | (go_at_call 19; refine (refUp_S HI2.out _).mono ?_; rw [HUP.out]; rintro e wc ⟨rfl, hb⟩))
          all_goals
            go_wp2_with fail
            go_roundg (n - (j + 1))
            case measure => omega
            case rel => exact ⟨j + 1, S2, by omega, by first | rfl | go_num, HI2.out, by rw [← HS2.out]; have := set_len S off (low v); omega, (HX.out.drew.grown hb).only (fun p hp => by simp at hp ⊢; exact .inl hp)⟩
        · obtain ⟨S2, hS2⟩ : ∃ S2, sS S off (low v) = S2 := ⟨_, rfl⟩
          obtain ⟨t, ht⟩ : ∃ t, (!badO off) = t := ⟨_, rfl⟩
          obtain ⟨gv, hgv⟩ : ∃ x, gV S off = x := ⟨_, rfl⟩
          have HS2 := _root_.Go.Lib.hid hS2
          have HT := _root_.Go.Lib.hid ht
          have HGV := _root_.Go.Lib.hid hgv
          have hne : wr.heap.size ≠ mb := by have := lt_of_heap HU.out.at1; simp only at this; omega
          have KNE := _root_.Go.Lib.hid (show ∀ p ∈ [(wr.heap.size, aO ⟨kind, off, v, s⟩)], p.1 ≠ mb from fun p hp => by obtain rfl := List.mem_singleton.1 hp; exact hne)
          have hp0 := (HU.out.alloc (aO ⟨kind, off, v, s⟩)).push (heap_alloc_new _ _) (show wr.heap.size ≠ w1.heap.size from fun e => by obtain ⟨_, _, _, hU⟩ := HU.out.u; have := lt_of_heap hU.row; omega) (fun _ _ h => by cases h)
          have HP := _root_.Go.Lib.hid hp0
          have hm0 := HU.out.at1
          simp only at hm0
          have hml0 : mb < wr.heap.size := lt_of_heap hm0
          clear hS2 ht hgv hp0 hne
          have hm := hm0
          have hml := hml0
          go_wp2_with ((with_reducible apply wpList_load_at 28 Try.underlying28); rfl; ((repeat ((with_reducible refine (World.heap_alloc_past _ _ _ ?_).trans ?_); focus (first | omega | (simp only [World.size_alloc]; omega)))); (with_reducible exact hm)); rfl; exact size28)
          refine (refSet_u HI.out off v t S2 HA.out.2.1.1 HA.out.2.2.1 (by omega) HT.out HS2.out _).mono ?_
          rintro e wb ⟨rfl, hb⟩
          have hb2 := HP.out.grown hb
          clear hm hml hm0 hml0 hb
          have hm : wb.heap[mb]? = some (mO S) := (hb2).at2
          have hml : mb < wb.heap.size := lt_of_heap hm
          have d1 : wb.cell? ⟨wr.heap.size, 1, none⟩ = some (.int .u32 off) := cell_at (hb2).at1 1
          have d2 : wb.cell? ⟨wr.heap.size, 2, none⟩ = some (.int .u32 v) := cell_at (hb2).at1 2
          have d3 : wb.cell? ⟨wr.heap.size, 3, none⟩ = some (.string s) := cell_at (hb2).at1 3
          have HB := _root_.Go.Lib.hid hb2
          clear hb2 HP
          go_wp2_with (first | ((with_reducible apply wpList_load_at 28 Try.underlying28); rfl; ((with_reducible refine World.heap_alloc_at _ _ _ ?_); focus (first | rfl | (simp only [World.size_alloc]; done) | (simp only [World.size_alloc]; omega))); rfl; exact size28) | ((with_reducible apply wpList_load_at 28 Try.underlying28); rfl; ((repeat ((with_reducible refine (World.heap_alloc_past _ _ _ ?_).trans ?_); focus (first | omega | (simp only [World.size_alloc]; omega)))); (with_reducible exact hm)); rfl; exact size28) | ((with_reducible apply wpList_store_at 28); rfl; rfl; ((with_reducible refine World.heap_alloc_at _ _ _ ?_); focus (first | rfl | (simp only [World.size_alloc]; done) | (simp only [World.size_alloc]; omega))); exact size28; rfl; rfl; (with_reducible exact World.setRow_alloc_at _ _ _ _ _ (by first | rfl | (simp only [World.size_alloc]; done)))) | ((with_reducible apply wpList_store_at 28); rfl; rfl; ((repeat ((with_reducible refine (World.heap_alloc_past _ _ _ ?_).trans ?_); focus (first | omega | (simp only [World.size_alloc]; omega)))); (with_reducible exact hm)); exact size28; rfl; rfl; rfl; (have hx := UW.row (vs := mR S2) ((HB.out.alloc (mO S2)).swap) MB.out KNE.out); (generalize World.setRow _ mb _ = wx at hx ⊢); (have e1 : wx.cell? ⟨wr.heap.size, 1, none⟩ = some (.int .u32 off) := cell_at hx.at2 1); (have e2 : wx.cell? ⟨wr.heap.size, 2, none⟩ = some (.int .u32 v) := cell_at hx.at2 2); (have HX := _root_.Go.Lib.hid hx); clear hx hm hml))
          refine (set_u HX.out off v (low v) t S2 HA.out.2.1.1 (low_and v HA.out.2.2.1) (by omega) HT.out HS2.out).mono ?_
          rintro e wy ⟨rfl, hy⟩
          clear e1 e2 HX
          have HX := _root_.Go.Lib.hid hy
          clear hy
          go_wp2_with fail
          have k0 : wy.cell? ⟨mb, 0, none⟩ = some (.string (bA S2.c)) := cell_at HX.out.at1 0
          have k1 : wy.cell? ⟨mb, 1, none⟩ = some (.string (bA S2.o)) := cell_at HX.out.at1 1
          have k2 : wy.cell? ⟨mb, 2, none⟩ = some (.int .u32 (S2.r 1)) := cell_at HX.out.at1 2
          have k3 : wy.cell? ⟨mb, 3, none⟩ = some (.int .u32 (S2.r 3)) := cell_at HX.out.at1 3
          have k4 : wy.cell? ⟨mb, 4, none⟩ = some (.int .u32 (S2.r 4)) := cell_at HX.out.at1 4
          have k5 : wy.cell? ⟨mb, 5, none⟩ = some (.int .u32 (S2.r 7)) := cell_at HX.out.at1 5
          have k6 : wy.cell? ⟨mb, 6, none⟩ = some (.bool S2.ov) := cell_at HX.out.at1 6
          have HI2 := _root_.Go.Lib.hid (show Inv S2 by rw [← HS2.out]; exact HI.out.set off (low v))
          obtain ⟨up, hup⟩ : ∃ up, upB S2 = up := ⟨_, rfl⟩
          have HUP := _root_.Go.Lib.hid hup
          clear hup
          go_region_with (first | (go_at_call 18; refine (up_u HX.out.drew up HUP.out).mono ?_; rintro e wc ⟨rfl, rfl⟩) | (go_at_call 19; refine (refUp_S HI2.out _).mono ?_; rw [HUP.out]; rintro e wc ⟨rfl, hb⟩))
          all_goals
            go_wp2_with fail
            go_roundg (n - (j + 1))
            case measure => omega
            case rel => exact ⟨j + 1, S2, by omega, by first | rfl | go_num, HI2.out, by rw [← HS2.out]; have := set_len S off (low v); omega, (HX.out.drew.grown hb).only (fun p hp => by simp at hp ⊢; exact .inl hp)⟩
        · obtain ⟨S2, hS2⟩ : ∃ S2, fS S s.data.toList = S2 := ⟨_, rfl⟩
          obtain ⟨t, ht⟩ : ∃ t, (!badO off) = t := ⟨_, rfl⟩
          obtain ⟨gv, hgv⟩ : ∃ x, gV S off = x := ⟨_, rfl⟩
          have HS2 := _root_.Go.Lib.hid hS2
          have HT := _root_.Go.Lib.hid ht
          have HGV := _root_.Go.Lib.hid hgv
          have hne : wr.heap.size ≠ mb := by have := lt_of_heap HU.out.at1; simp only at this; omega
          have KNE := _root_.Go.Lib.hid (show ∀ p ∈ [(wr.heap.size, aO ⟨kind, off, v, s⟩)], p.1 ≠ mb from fun p hp => by obtain rfl := List.mem_singleton.1 hp; exact hne)
          have hp0 := (HU.out.alloc (aO ⟨kind, off, v, s⟩)).push (heap_alloc_new _ _) (show wr.heap.size ≠ w1.heap.size from fun e => by obtain ⟨_, _, _, hU⟩ := HU.out.u; have := lt_of_heap hU.row; omega) (fun _ _ h => by cases h)
          have HP := _root_.Go.Lib.hid hp0
          have hm0 := HU.out.at1
          simp only at hm0
          have hml0 : mb < wr.heap.size := lt_of_heap hm0
          clear hS2 ht hgv hp0 hne
          go_wp2_with fail
          refine (feed_u HP.out s S2 HI.out.c (by omega) HS2.out).mono ?_
          rintro e wa ⟨rfl, ha⟩
          clear hm0 hml0
          have hm : wa.heap[mb]? = some (mO S) := (ha).at2
          have hml : mb < wa.heap.size := lt_of_heap hm
          have d1 : wa.cell? ⟨wr.heap.size, 1, none⟩ = some (.int .u32 off) := cell_at (ha).at1 1
          have d2 : wa.cell? ⟨wr.heap.size, 2, none⟩ = some (.int .u32 v) := cell_at (ha).at1 2
          have d3 : wa.cell? ⟨wr.heap.size, 3, none⟩ = some (.string s) := cell_at (ha).at1 3
          have HA1 := _root_.Go.Lib.hid ha
          clear ha HP
          go_wp2_with ((with_reducible apply wpList_load_at 28 Try.underlying28); rfl; ((repeat ((with_reducible refine (World.heap_alloc_past _ _ _ ?_).trans ?_); focus (first | omega | (simp only [World.size_alloc]; omega)))); (with_reducible exact hm)); rfl; exact size28)
          refine (refFeed_u HI.out s S2 (by omega) HS2.out _).mono ?_
          rintro e wb ⟨rfl, hb⟩
          have hb2 := HA1.out.grown hb
          clear hm hml d1 d2 d3 hb
          have hm : wb.heap[mb]? = some (mO S) := (hb2).at2
          have hml : mb < wb.heap.size := lt_of_heap hm
          have d1 : wb.cell? ⟨wr.heap.size, 1, none⟩ = some (.int .u32 off) := cell_at (hb2).at1 1
          have d2 : wb.cell? ⟨wr.heap.size, 2, none⟩ = some (.int .u32 v) := cell_at (hb2).at1 2
          have d3 : wb.cell? ⟨wr.heap.size, 3, none⟩ = some (.string s) := cell_at (hb2).at1 3
          have HB := _root_.Go.Lib.hid hb2
          clear hb2 HA1
          go_wp2_with (first | ((with_reducible apply wpList_load_at 28 Try.underlying28); rfl; ((repeat ((with_reducible refine (World.heap_alloc_past _ _ _ ?_).trans ?_); focus (first | omega | (simp only [World.size_alloc]; omega)))); (with_reducible exact hm)); rfl; exact size28) | ((with_reducible apply wpList_store_at 28); rfl; rfl; ((repeat ((with_reducible refine (World.heap_alloc_past _ _ _ ?_).trans ?_); focus (first | omega | (simp only [World.size_alloc]; omega)))); (with_reducible exact hm)); exact size28; rfl; rfl; rfl; (have hx := UW.row (vs := mR S2) (HB.out.swap) MB.out KNE.out); (generalize World.setRow _ mb _ = wx at hx ⊢); (have e1 : wx.cell? ⟨wr.heap.size, 1, none⟩ = some (.int .u32 off) := cell_at hx.at2 1); (have e2 : wx.cell? ⟨wr.heap.size, 2, none⟩ = some (.int .u32 v) := cell_at hx.at2 2); (have HX := _root_.Go.Lib.hid hx); clear hx hm hml))
          have k0 : wx.cell? ⟨mb, 0, none⟩ = some (.string (bA S2.c)) := cell_at HX.out.at1 0
          have k1 : wx.cell? ⟨mb, 1, none⟩ = some (.string (bA S2.o)) := cell_at HX.out.at1 1
          have k2 : wx.cell? ⟨mb, 2, none⟩ = some (.int .u32 (S2.r 1)) := cell_at HX.out.at1 2
          have k3 : wx.cell? ⟨mb, 3, none⟩ = some (.int .u32 (S2.r 3)) := cell_at HX.out.at1 3
          have k4 : wx.cell? ⟨mb, 4, none⟩ = some (.int .u32 (S2.r 4)) := cell_at HX.out.at1 4
          have k5 : wx.cell? ⟨mb, 5, none⟩ = some (.int .u32 (S2.r 7)) := cell_at HX.out.at1 5
          have k6 : wx.cell? ⟨mb, 6, none⟩ = some (.bool S2.ov) := cell_at HX.out.at1 6
          have HI2 := _root_.Go.Lib.hid (show Inv S2 by rw [← HS2.out]; exact HI.out.feed _)
          obtain ⟨up, hup⟩ : ∃ up, upB S2 = up := ⟨_, rfl⟩
          have HUP := _root_.Go.Lib.hid hup
          clear hup
          go_region_with (first | (go_at_call 18; refine (up_u HX.out.drew up HUP.out).mono ?_; rintro e wc ⟨rfl, rfl⟩) | (go_at_call 19; refine (refUp_S HI2.out _).mono ?_; rw [HUP.out]; rintro e wc ⟨rfl, hb⟩))
          all_goals
            go_wp2_with fail
            go_roundg (n - (j + 1))
            case measure => omega
            case rel => exact ⟨j + 1, S2, by omega, by first | rfl | go_num, HI2.out, by rw [← HS2.out]; show S.o.length ≤ j + 1; omega, (HX.out.drew.grown hb).only (fun p hp => by simp at hp ⊢; exact .inl hp)⟩
        · obtain ⟨S2, hS2⟩ : ∃ S2, ({ S with o := [] } : Ua) = S2 := ⟨_, rfl⟩
          obtain ⟨t, ht⟩ : ∃ t, (!badO off) = t := ⟨_, rfl⟩
          obtain ⟨gv, hgv⟩ : ∃ x, gV S off = x := ⟨_, rfl⟩
          have HS2 := _root_.Go.Lib.hid hS2
          have HT := _root_.Go.Lib.hid ht
          have HGV := _root_.Go.Lib.hid hgv
          have hne : wr.heap.size ≠ mb := by have := lt_of_heap HU.out.at1; simp only at this; omega
          have KNE := _root_.Go.Lib.hid (show ∀ p ∈ [(wr.heap.size, aO ⟨kind, off, v, s⟩)], p.1 ≠ mb from fun p hp => by obtain rfl := List.mem_singleton.1 hp; exact hne)
          have hp0 := (HU.out.alloc (aO ⟨kind, off, v, s⟩)).push (heap_alloc_new _ _) (show wr.heap.size ≠ w1.heap.size from fun e => by obtain ⟨_, _, _, hU⟩ := HU.out.u; have := lt_of_heap hU.row; omega) (fun _ _ h => by cases h)
          have HP := _root_.Go.Lib.hid hp0
          have hm0 := HU.out.at1
          simp only at hm0
          have hml0 : mb < wr.heap.size := lt_of_heap hm0
          clear hS2 ht hgv hp0 hne
          have hs1 : wr.cell? ⟨mb, 1, none⟩ = some (.string (bA S.o)) := cell_at hm0 1
          have HM0 := _root_.Go.Lib.hid hm0
          clear hm0
          go_wp2_with fail
          go_region_with (go_at_call 17; refine (out_u HP.out.drew (bA S.o) S2 rfl HS2.out).mono ?_; rintro e wa ⟨rfl, ha⟩; have g1 : wa.cell? ⟨mb, 1, none⟩ = some (.string (bA S.o)) := cell_at ha.at2 1; have g2 : wa.frozen? ⟨mb, 1, none⟩ = false := (by have := ha.at2; simp only at this; simp [World.frozen?, this]); have HA1 := _root_.Go.Lib.hid ha; clear ha)
          all_goals
            go_wp2_with fail
            have hx := UW.cellStr (i := 1) (x := .string ⟨#[]⟩) (vs := mR S2) HA1.out.swap MB.out KNE.out (by rw [← HS2.out]; rfl)
            generalize World.setCell _ ⟨mb, 1, none⟩ _ = wx at hx ⊢
            have HX := _root_.Go.Lib.hid hx
            clear hx g1 g2 hs1
            have k0 : wx.cell? ⟨mb, 0, none⟩ = some (.string (bA S2.c)) := cell_at HX.out.at1 0
            have k1 : wx.cell? ⟨mb, 1, none⟩ = some (.string (bA S2.o)) := cell_at HX.out.at1 1
            have k2 : wx.cell? ⟨mb, 2, none⟩ = some (.int .u32 (S2.r 1)) := cell_at HX.out.at1 2
            have k3 : wx.cell? ⟨mb, 3, none⟩ = some (.int .u32 (S2.r 3)) := cell_at HX.out.at1 3
            have k4 : wx.cell? ⟨mb, 4, none⟩ = some (.int .u32 (S2.r 4)) := cell_at HX.out.at1 4
            have k5 : wx.cell? ⟨mb, 5, none⟩ = some (.int .u32 (S2.r 7)) := cell_at HX.out.at1 5
            have k6 : wx.cell? ⟨mb, 6, none⟩ = some (.bool S2.ov) := cell_at HX.out.at1 6
            have HI2 := _root_.Go.Lib.hid (show Inv S2 by rw [← HS2.out]; exact HI.out.out)
            obtain ⟨up, hup⟩ : ∃ up, upB S2 = up := ⟨_, rfl⟩
            have HUP := _root_.Go.Lib.hid hup
            clear hup
            go_region_with (first | (go_at_call 18; refine (up_u HX.out.drew up HUP.out).mono ?_; rintro e wc ⟨rfl, rfl⟩) | (go_at_call 19; refine (refUp_S HI2.out _).mono ?_; rw [HUP.out]; rintro e wc ⟨rfl, hb⟩))
            all_goals
              go_wp2_with fail
              go_roundg (n - (j + 1))
              case measure => omega
              case rel => exact ⟨j + 1, S2, by omega, by first | rfl | go_num, HI2.out, by rw [← HS2.out]; exact Nat.zero_le _, (HX.out.drew.grown hb).only (fun p hp => by simp at hp ⊢; exact .inl hp)⟩
    · have hlt : ((j : Int) < n) = False := eq_false (by omega)
      have HU := _root_.Go.Lib.hid hu
      clear hu hI
      go_wp2_with fail
      go_ret
      exact ⟨rfl, HU.out.bel⟩

set_option maxRecDepth 100000 in
theorem acts_none (a : Option Addr) (cap : Nat) (w : World) : Calls Try.prog 3 #[.slice a 0 cap] w fun e w' => e = .returned (.bool true) ∧ Below w.heap.size w w' := by
  go_enter Try.func3, Try.ntmps3
  go_wp2_with fail
  refine (alive_calls _).mono ?_
  rintro e w1 ⟨rfl, h1⟩
  have H1 := _root_.Go.Lib.hid h1
  clear h1
  go_wp2_with fail
  refine (new_u (B := w.heap.size) (W := w) [] H1.out H1.out.size (fun p hp => by cases hp)).mono ?_
  rintro e w2 ⟨rfl, h2⟩
  have H2 := _root_.Go.Lib.hid h2
  clear h2 H1
  have H3 := _root_.Go.Lib.hid (H2.out.alloc (mO S0)).bel
  go_wp2_with fail
  go_loopg [25] 0 (fun k i wr => i = .int .i64 0 ∧ Below w.heap.size w wr)
  case atStart => exact ⟨rfl, H3.out⟩
  case round =>
    obtain ⟨rfl, hu⟩ := hrel
    have HU := _root_.Go.Lib.hid hu
    clear hu
    go_wp2_with fail
    go_ret
    exact ⟨rfl, HU.out⟩
set_option maxRecDepth 100000 in
theorem acts_big (a : Option Addr) (n cap : Nat) (w : World) (hn : 100 < n) (hm : n ≤ maxLen) : Calls Try.prog 3 #[.slice a n cap] w fun e w' => e = .returned (.bool true) ∧ Below w.heap.size w w' := by
  unfold maxLen at hm
  have n1 : ((n : Int) > 100) = True := eq_true (by omega)
  go_enter Try.func3, Try.ntmps3
  go_wp2_with fail
  refine (alive_calls _).mono ?_
  rintro e w1 ⟨rfl, h1⟩
  have H1 := _root_.Go.Lib.hid h1
  clear h1
  go_wp2_with fail
  go_ret
  exact ⟨rfl, H1.out⟩
theorem acts_calls (x : Value) (n : Nat) (f : Nat → Act) (w : World) (h : ActsAt x n f w) : Calls Try.prog 3 #[x] w fun e w' => e = .returned (.bool true) ∧ Below w.heap.size w w' := by
  rcases h with ⟨a, cap, rfl, _⟩ | ⟨g, o, cap, rfl, hm, hg, hf⟩
  · exact acts_none a cap w
  · rcases Nat.lt_or_ge 100 n with hn | hn
    · exact acts_big _ n cap w hn hm
    · exact acts_main n f g o cap w hn hg hf
end Go.Proofs.Ytjaldngafappdaa
