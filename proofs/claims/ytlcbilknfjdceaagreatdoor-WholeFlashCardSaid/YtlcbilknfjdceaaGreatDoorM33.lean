/-
  WholeFlash, part 33 of 44: Bootb, Stepa, Stepb, Stepc.
-/
import Derived.Deep.Cut
import Derived.StillTailTactics
import Derived.Deep.QuietTactic
import Derived.Test.YtlcbilknfjdceaaGreatDoorM32
import Derived.Test.YtlcbilknfjdceaaGreatDoorM23
section
/-
  The bus: devices are added.
-/
set_option linter.unusedVariables false
set_option linter.unusedSimpArgs false
namespace Go.Proofs.YtlcbilknfjdceaaGreatDoor
open Go.RowKit Go.Lib
abbrev ramO (g n c : Nat) : Obj := .cells #[.int .u32 2147483648, .slice (some ⟨g, 0, none⟩) n c] 153
abbrev pt (b : Nat) : Value := .pointer (some ⟨b, 0, none⟩)
theorem good109 {b r : Nat} {l : Value} {w : World} (hb : w.heap[b]? = some (busO r l)) : Calls Tryz.prog 109 #[pt b] w fun e w' => e = .returned (.bool true) ∧ w' = w := by
  have c0 : w.cell? ⟨b, 0, none⟩ = some (pt r) := cell_at hb 0
  go_enter Tryz.func109, Tryz.ntmps109
  go_wp2_with fail
  go_ret
  exact ⟨rfl, rfl⟩
theorem apart110 {f t o e : Int} (h : t ≤ o ∨ e ≤ f) (w : World) : Calls Tryz.prog 110 #[.int .u64 f, .int .u64 t, .int .u64 o, .int .u64 e] w fun e w' => e = .returned (.bool true) ∧ w' = w := by
  by_cases h1 : t ≤ o
  · have h2 : decide (t ≤ o) = true := decide_eq_true h1
    go_enter Tryz.func110, Tryz.ntmps110
    go_wp2_with fail
    go_ret
    exact ⟨rfl, rfl⟩
  · have h2 : decide (t ≤ o) = false := decide_eq_false h1
    have h3 : decide (e ≤ f) = true := decide_eq_true (h.resolve_left h1)
    have h4 : e ≤ f := h.resolve_left h1
    go_enter Tryz.func110, Tryz.ntmps110
    go_wp2_with fail
    go_ret
    exact ⟨rfl, rfl⟩
structure Rg where
  i : TypeId
  q : Value
  f : Int
  t : Int
def encM (x : Rg) : List Value := [.iface x.i x.q, .int .u64 x.f, .int .u64 x.t]
def flatM (rs : List Rg) : List Value := (rs.map encM).flatten
theorem flatM_snoc (rs : List Rg) (x : Rg) : flatM (rs ++ [x]) = flatM rs ++ encM x := by unfold flatM; simp
theorem info212 : (Tryz.prog.info? 212).map (fun i => (i.zero, i.size, i.bytes)) = some (some (.agg #[.nilIface, .int .u64 0, .int .u64 0]), 3, 32) := by kernel_rfl
theorem KO.cellM {B n : Nat} {W w : World} {K : Blocks} {v : Value} {rs : List Rg} (h : KO B W 212 3 v n (flatM rs) K w) {i : Nat} {x : Rg} (hx : rs[i]? = some x) :
    ∃ g cap, v = .slice (some ⟨g, 0, none⟩) n cap ∧ w.cell? ⟨g, i * 3, none⟩ = some (.iface x.i x.q) ∧ w.cell? ⟨g, i * 3 + 1, none⟩ = some (.int .u64 x.f) ∧ w.cell? ⟨g, i * 3 + 2, none⟩ = some (.int .u64 x.t) := by
  have hi : i < rs.length := (List.getElem?_eq_some_iff.1 hx).1
  have hl : (flatM rs).length = 3 * rs.length := by unfold flatM; rw [flat_len' (n := 3) (by intro y hy; obtain ⟨z, _, rfl⟩ := List.mem_map.1 hy; rfl), List.length_map]
  have hN := flatN (n := 3) (l := rs.map encM) (by intro y hy; obtain ⟨z, _, rfl⟩ := List.mem_map.1 hy; rfl) i (by simpa using hi)
  have hg : (rs.map encM).getD i [] = encM x := by rw [List.getD_eq_getElem?_getD, List.getElem?_map, hx]; rfl
  rw [hg] at hN
  rcases h.2 with ⟨_, b, _⟩ | ⟨g, cap, cur, a, hc, _, hz, f, hk⟩
  · have := h.1; omega
  · refine ⟨g, cap, a, ?_⟩
    have hr := hk.get (g := g) (o := .cells cur 212) List.mem_cons_self
    have hn : n * 3 = 3 * rs.length := by rw [← hl, h.1]
    have key : ∀ j y, (encM x)[j]? = some y → w.cell? ⟨g, i * 3 + j, none⟩ = some y := by
      intro j y hj
      have hj3 : j < 3 := by
        have := (List.getElem?_eq_some_iff.1 hj).1
        simpa [encM] using this
      rw [cell_at hr]
      rw [← hN, List.getElem?_take_of_lt hj3, List.getElem?_drop] at hj
      have e : (flatM rs)[i * 3 + j]? = some y := hj
      rw [← f, List.getElem?_take_of_lt (by omega)] at e
      simpa using e
    exact ⟨key 0 _ rfl, key 1 _ rfl, key 2 _ rfl⟩
/-- The bus with its devices. -/
def BusP (B : Nat) (W : World) (K : Blocks) (b r g c : Nat) (rs : List Rg) (w : World) : Prop := ∃ v, KO B W 212 3 v rs.length (flatM rs) ((b, busO r v) :: (r, ramO g 16 c) :: K) w
set_option maxHeartbeats 600000 in
set_option maxRecDepth 100000 in
theorem add74_0 {B b r g c i : Nat} {q : Value} {W w : World} {K : Blocks} {rs : List Rg} (h : BusP B W K b r g c rs w) (h8 : rs.length < 8) (ha : ∀ x ∈ rs, (33603584 : Int) ≤ x.f ∨ x.t ≤ 33554432) :
    Calls Tryz.prog 74 #[pt b, .int .u32 33554432, .int .u32 49152, .iface i q] w fun e w' => e = .returned (.bool true) ∧ BusP B W K b r g c (rs ++ [Rg.mk i q 33554432 33603584]) w' := by
  obtain ⟨v, h⟩ := h
  obtain ⟨i0, hi, hz0, hz1, hz2⟩ := info_parts info212
  have HI := _root_.Go.Lib.hid (And.intro hi (And.intro hz0 (And.intro hz1 hz2)))
  clear hi hz0 hz1 hz2
  have hgb := h.get (g := b) (o := busO r v) (by simp)
  have hgr := h.get (g := r) (o := ramO g 16 c) (by simp)
  have b0 : w.cell? ⟨b, 0, none⟩ = some (pt r) := cell_at hgb 0
  have b1 : w.cell? ⟨b, 1, none⟩ = some v := cell_at hgb 1
  have q1 : w.frozen? ⟨b, 1, none⟩ = false := free_at hgb 1
  have r0 : w.cell? ⟨r, 0, none⟩ = some (.int .u32 2147483648) := cell_at hgr 0
  have r1 : w.cell? ⟨r, 1, none⟩ = some (.slice (some ⟨g, 0, none⟩) 16 c) := cell_at hgr 1
  have hgd := good109 hgb
  have hap0 := apart110 (f := 33554432) (t := 33603584) (o := 2147483648) (e := 2147483712) (.inl (by decide)) w
  obtain ⟨vp, vc, rfl⟩ := h.shape
  obtain ⟨n, hn⟩ : ∃ n, n = rs.length := ⟨_, rfl⟩
  rw [← hn] at h h8 b1
  have H := _root_.Go.Lib.hid (And.intro hgd (And.intro hap0 (And.intro h (And.intro hn ha))))
  clear hgd hap0 h hn ha hgb hgr
  go_enter Tryz.func74, Tryz.ntmps74
  go_wp2_with (first | (go_at_call 109; refine H.out.1.mono ?_; rintro e w1 ⟨rfl, rfl⟩) | (go_at_call 110; refine H.out.2.1.mono ?_; rintro e w1 ⟨rfl, rfl⟩))
  go_loopg [76] n (fun k s76 wr => ∃ i1 : Nat, i1 + k = n ∧ s76 = .int .i64 (i1 : Int) ∧ KO B W 212 3 (.slice vp n vc) n (flatM rs) ((b, busO r (.slice vp n vc)) :: (r, ramO g 16 c) :: K) wr)
  case atStart => exact ⟨0, by omega, rfl, H.out.2.2.1⟩
  case round =>
    obtain ⟨i1, hik, rfl, hko⟩ := hrel
    have hgb := hko.get (g := b) (o := busO r (.slice vp n vc)) (by simp)
    have b0 : wr.cell? ⟨b, 0, none⟩ = some (pt r) := cell_at hgb 0
    have b1 : wr.cell? ⟨b, 1, none⟩ = some (.slice vp n vc) := cell_at hgb 1
    have q1 : wr.frozen? ⟨b, 1, none⟩ = false := free_at hgb 1
    by_cases hin : i1 < n
    · obtain ⟨x, hx⟩ : ∃ x, rs[i1]? = some x := ⟨_, List.getElem?_eq_getElem (by rw [← H.out.2.2.2.1]; exact hin)⟩
      obtain ⟨g2, c2, hv, x0, x1, x2⟩ := hko.cellM hx
      simp only [Value.slice.injEq] at hv
      obtain ⟨rfl, -, rfl⟩ := hv
      have hap := apart110 (H.out.2.2.2.2 x (List.mem_of_getElem? hx))
      have HX := _root_.Go.Lib.hid (And.intro hap (And.intro hko hik))
      clear hap hko hik hgb
      go_wp2_with (go_at_call 110; refine (HX.out.1 _).mono ?_; rintro e w1 ⟨rfl, rfl⟩)
      go_roundg (n - (i1 + 1))
      case measure => have := HX.out.2.2; omega
      case rel =>
        exact ⟨i1 + 1, by have := HX.out.2.2; omega, by first | rfl | go_num, (HX.out.2.1.alloc _).drop⟩
    · have HX := _root_.Go.Lib.hid hko
      clear hko hgb
      go_wp2_with (at_builtin; refine wpList_append_ko rfl _ _ 207 rfl i0 _ 32 Tryz.underlying207 HI.out.1 HI.out.2.1 HI.out.2.2.1 HI.out.2.2.2 rfl (by decide) rfl (HX.out.alloc _) ⟨_, 0, none⟩ 1 1 [.iface i q, .int .u64 33554432, .int .u64 33603584] rfl rfl (news_mid (off := 0) (m := 3) (heap_alloc_new _ _) rfl) (by simp [Value.oneCell']) (by unfold maxLen; omega) (by omega) ?_)
      rintro v' w5 hk5 -
      have hk6 := hk5.drop
      obtain ⟨p2, c2, rfl⟩ := hk6.shape
      have hgb := hk6.get (g := b) (o := busO r (.slice vp n vc)) (by simp)
      have b0 : w5.cell? ⟨b, 0, none⟩ = some (pt r) := cell_at hgb 0
      have b1 : w5.cell? ⟨b, 1, none⟩ = some (.slice vp n vc) := cell_at hgb 1
      have q1 : w5.frozen? ⟨b, 1, none⟩ = false := free_at hgb 1
      have H3 := _root_.Go.Lib.hid hk6
      clear hk5 hk6 hgb
      go_wp2_with fail
      go_ret
      refine ⟨rfl, .slice p2 (n + 1) c2, ?_⟩
      have h9 := H3.out
      rw [flatM_snoc, List.length_append, ← H.out.2.2.2.1]
      exact h9.turn fun K0 hk => KW.cellAt K0 ((r, ramO g 16 c) :: K) hk rfl
set_option maxHeartbeats 600000 in
set_option maxRecDepth 100000 in
theorem add74_1 {B b r g c i : Nat} {q : Value} {W w : World} {K : Blocks} {rs : List Rg} (h : BusP B W K b r g c rs w) (h8 : rs.length < 8) (ha : ∀ x ∈ rs, (201326604 : Int) ≤ x.f ∨ x.t ≤ 201326592) :
    Calls Tryz.prog 74 #[pt b, .int .u32 201326592, .int .u32 12, .iface i q] w fun e w' => e = .returned (.bool true) ∧ BusP B W K b r g c (rs ++ [Rg.mk i q 201326592 201326604]) w' := by
  obtain ⟨v, h⟩ := h
  obtain ⟨i0, hi, hz0, hz1, hz2⟩ := info_parts info212
  have HI := _root_.Go.Lib.hid (And.intro hi (And.intro hz0 (And.intro hz1 hz2)))
  clear hi hz0 hz1 hz2
  have hgb := h.get (g := b) (o := busO r v) (by simp)
  have hgr := h.get (g := r) (o := ramO g 16 c) (by simp)
  have b0 : w.cell? ⟨b, 0, none⟩ = some (pt r) := cell_at hgb 0
  have b1 : w.cell? ⟨b, 1, none⟩ = some v := cell_at hgb 1
  have q1 : w.frozen? ⟨b, 1, none⟩ = false := free_at hgb 1
  have r0 : w.cell? ⟨r, 0, none⟩ = some (.int .u32 2147483648) := cell_at hgr 0
  have r1 : w.cell? ⟨r, 1, none⟩ = some (.slice (some ⟨g, 0, none⟩) 16 c) := cell_at hgr 1
  have hgd := good109 hgb
  have hap0 := apart110 (f := 201326592) (t := 201326604) (o := 2147483648) (e := 2147483712) (.inl (by decide)) w
  obtain ⟨vp, vc, rfl⟩ := h.shape
  obtain ⟨n, hn⟩ : ∃ n, n = rs.length := ⟨_, rfl⟩
  rw [← hn] at h h8 b1
  have H := _root_.Go.Lib.hid (And.intro hgd (And.intro hap0 (And.intro h (And.intro hn ha))))
  clear hgd hap0 h hn ha hgb hgr
  go_enter Tryz.func74, Tryz.ntmps74
  go_wp2_with (first | (go_at_call 109; refine H.out.1.mono ?_; rintro e w1 ⟨rfl, rfl⟩) | (go_at_call 110; refine H.out.2.1.mono ?_; rintro e w1 ⟨rfl, rfl⟩))
  go_loopg [76] n (fun k s76 wr => ∃ i1 : Nat, i1 + k = n ∧ s76 = .int .i64 (i1 : Int) ∧ KO B W 212 3 (.slice vp n vc) n (flatM rs) ((b, busO r (.slice vp n vc)) :: (r, ramO g 16 c) :: K) wr)
  case atStart => exact ⟨0, by omega, rfl, H.out.2.2.1⟩
  case round =>
    obtain ⟨i1, hik, rfl, hko⟩ := hrel
    have hgb := hko.get (g := b) (o := busO r (.slice vp n vc)) (by simp)
    have b0 : wr.cell? ⟨b, 0, none⟩ = some (pt r) := cell_at hgb 0
    have b1 : wr.cell? ⟨b, 1, none⟩ = some (.slice vp n vc) := cell_at hgb 1
    have q1 : wr.frozen? ⟨b, 1, none⟩ = false := free_at hgb 1
    by_cases hin : i1 < n
    · obtain ⟨x, hx⟩ : ∃ x, rs[i1]? = some x := ⟨_, List.getElem?_eq_getElem (by rw [← H.out.2.2.2.1]; exact hin)⟩
      obtain ⟨g2, c2, hv, x0, x1, x2⟩ := hko.cellM hx
      simp only [Value.slice.injEq] at hv
      obtain ⟨rfl, -, rfl⟩ := hv
      have hap := apart110 (H.out.2.2.2.2 x (List.mem_of_getElem? hx))
      have HX := _root_.Go.Lib.hid (And.intro hap (And.intro hko hik))
      clear hap hko hik hgb
      go_wp2_with (go_at_call 110; refine (HX.out.1 _).mono ?_; rintro e w1 ⟨rfl, rfl⟩)
      go_roundg (n - (i1 + 1))
      case measure => have := HX.out.2.2; omega
      case rel =>
        exact ⟨i1 + 1, by have := HX.out.2.2; omega, by first | rfl | go_num, (HX.out.2.1.alloc _).drop⟩
    · have HX := _root_.Go.Lib.hid hko
      clear hko hgb
      go_wp2_with (at_builtin; refine wpList_append_ko rfl _ _ 207 rfl i0 _ 32 Tryz.underlying207 HI.out.1 HI.out.2.1 HI.out.2.2.1 HI.out.2.2.2 rfl (by decide) rfl (HX.out.alloc _) ⟨_, 0, none⟩ 1 1 [.iface i q, .int .u64 201326592, .int .u64 201326604] rfl rfl (news_mid (off := 0) (m := 3) (heap_alloc_new _ _) rfl) (by simp [Value.oneCell']) (by unfold maxLen; omega) (by omega) ?_)
      rintro v' w5 hk5 -
      have hk6 := hk5.drop
      obtain ⟨p2, c2, rfl⟩ := hk6.shape
      have hgb := hk6.get (g := b) (o := busO r (.slice vp n vc)) (by simp)
      have b0 : w5.cell? ⟨b, 0, none⟩ = some (pt r) := cell_at hgb 0
      have b1 : w5.cell? ⟨b, 1, none⟩ = some (.slice vp n vc) := cell_at hgb 1
      have q1 : w5.frozen? ⟨b, 1, none⟩ = false := free_at hgb 1
      have H3 := _root_.Go.Lib.hid hk6
      clear hk5 hk6 hgb
      go_wp2_with fail
      go_ret
      refine ⟨rfl, .slice p2 (n + 1) c2, ?_⟩
      have h9 := H3.out
      rw [flatM_snoc, List.length_append, ← H.out.2.2.2.1]
      exact h9.turn fun K0 hk => KW.cellAt K0 ((r, ramO g 16 c) :: K) hk rfl
set_option maxHeartbeats 600000 in
set_option maxRecDepth 100000 in
theorem add74_2 {B b r g c i : Nat} {q : Value} {W w : World} {K : Blocks} {rs : List Rg} (h : BusP B W K b r g c rs w) (h8 : rs.length < 8) (ha : ∀ x ∈ rs, (268435488 : Int) ≤ x.f ∨ x.t ≤ 268435456) :
    Calls Tryz.prog 74 #[pt b, .int .u32 268435456, .int .u32 32, .iface i q] w fun e w' => e = .returned (.bool true) ∧ BusP B W K b r g c (rs ++ [Rg.mk i q 268435456 268435488]) w' := by
  obtain ⟨v, h⟩ := h
  obtain ⟨i0, hi, hz0, hz1, hz2⟩ := info_parts info212
  have HI := _root_.Go.Lib.hid (And.intro hi (And.intro hz0 (And.intro hz1 hz2)))
  clear hi hz0 hz1 hz2
  have hgb := h.get (g := b) (o := busO r v) (by simp)
  have hgr := h.get (g := r) (o := ramO g 16 c) (by simp)
  have b0 : w.cell? ⟨b, 0, none⟩ = some (pt r) := cell_at hgb 0
  have b1 : w.cell? ⟨b, 1, none⟩ = some v := cell_at hgb 1
  have q1 : w.frozen? ⟨b, 1, none⟩ = false := free_at hgb 1
  have r0 : w.cell? ⟨r, 0, none⟩ = some (.int .u32 2147483648) := cell_at hgr 0
  have r1 : w.cell? ⟨r, 1, none⟩ = some (.slice (some ⟨g, 0, none⟩) 16 c) := cell_at hgr 1
  have hgd := good109 hgb
  have hap0 := apart110 (f := 268435456) (t := 268435488) (o := 2147483648) (e := 2147483712) (.inl (by decide)) w
  obtain ⟨vp, vc, rfl⟩ := h.shape
  obtain ⟨n, hn⟩ : ∃ n, n = rs.length := ⟨_, rfl⟩
  rw [← hn] at h h8 b1
  have H := _root_.Go.Lib.hid (And.intro hgd (And.intro hap0 (And.intro h (And.intro hn ha))))
  clear hgd hap0 h hn ha hgb hgr
  go_enter Tryz.func74, Tryz.ntmps74
  go_wp2_with (first | (go_at_call 109; refine H.out.1.mono ?_; rintro e w1 ⟨rfl, rfl⟩) | (go_at_call 110; refine H.out.2.1.mono ?_; rintro e w1 ⟨rfl, rfl⟩))
  go_loopg [76] n (fun k s76 wr => ∃ i1 : Nat, i1 + k = n ∧ s76 = .int .i64 (i1 : Int) ∧ KO B W 212 3 (.slice vp n vc) n (flatM rs) ((b, busO r (.slice vp n vc)) :: (r, ramO g 16 c) :: K) wr)
  case atStart => exact ⟨0, by omega, rfl, H.out.2.2.1⟩
  case round =>
    obtain ⟨i1, hik, rfl, hko⟩ := hrel
    have hgb := hko.get (g := b) (o := busO r (.slice vp n vc)) (by simp)
    have b0 : wr.cell? ⟨b, 0, none⟩ = some (pt r) := cell_at hgb 0
    have b1 : wr.cell? ⟨b, 1, none⟩ = some (.slice vp n vc) := cell_at hgb 1
    have q1 : wr.frozen? ⟨b, 1, none⟩ = false := free_at hgb 1
    by_cases hin : i1 < n
    · obtain ⟨x, hx⟩ : ∃ x, rs[i1]? = some x := ⟨_, List.getElem?_eq_getElem (by rw [← H.out.2.2.2.1]; exact hin)⟩
      obtain ⟨g2, c2, hv, x0, x1, x2⟩ := hko.cellM hx
      simp only [Value.slice.injEq] at hv
      obtain ⟨rfl, -, rfl⟩ := hv
      have hap := apart110 (H.out.2.2.2.2 x (List.mem_of_getElem? hx))
      have HX := _root_.Go.Lib.hid (And.intro hap (And.intro hko hik))
      clear hap hko hik hgb
      go_wp2_with (go_at_call 110; refine (HX.out.1 _).mono ?_; rintro e w1 ⟨rfl, rfl⟩)
      go_roundg (n - (i1 + 1))
      case measure => have := HX.out.2.2; omega
      case rel =>
        exact ⟨i1 + 1, by have := HX.out.2.2; omega, by first | rfl | go_num, (HX.out.2.1.alloc _).drop⟩
    · have HX := _root_.Go.Lib.hid hko
      clear hko hgb
      go_wp2_with (at_builtin; refine wpList_append_ko rfl _ _ 207 rfl i0 _ 32 Tryz.underlying207 HI.out.1 HI.out.2.1 HI.out.2.2.1 HI.out.2.2.2 rfl (by decide) rfl (HX.out.alloc _) ⟨_, 0, none⟩ 1 1 [.iface i q, .int .u64 268435456, .int .u64 268435488] rfl rfl (news_mid (off := 0) (m := 3) (heap_alloc_new _ _) rfl) (by simp [Value.oneCell']) (by unfold maxLen; omega) (by omega) ?_)
      rintro v' w5 hk5 -
      have hk6 := hk5.drop
      obtain ⟨p2, c2, rfl⟩ := hk6.shape
      have hgb := hk6.get (g := b) (o := busO r (.slice vp n vc)) (by simp)
      have b0 : w5.cell? ⟨b, 0, none⟩ = some (pt r) := cell_at hgb 0
      have b1 : w5.cell? ⟨b, 1, none⟩ = some (.slice vp n vc) := cell_at hgb 1
      have q1 : w5.frozen? ⟨b, 1, none⟩ = false := free_at hgb 1
      have H3 := _root_.Go.Lib.hid hk6
      clear hk5 hk6 hgb
      go_wp2_with fail
      go_ret
      refine ⟨rfl, .slice p2 (n + 1) c2, ?_⟩
      have h9 := H3.out
      rw [flatM_snoc, List.length_append, ← H.out.2.2.2.1]
      exact h9.turn fun K0 hk => KW.cellAt K0 ((r, ramO g 16 c) :: K) hk rfl
set_option maxHeartbeats 600000 in
set_option maxRecDepth 100000 in
theorem add74_3 {B b r g c i : Nat} {q : Value} {W w : World} {K : Blocks} {rs : List Rg} (h : BusP B W K b r g c rs w) (h8 : rs.length < 8) (ha : ∀ x ∈ rs, (268439584 : Int) ≤ x.f ∨ x.t ≤ 268439552) :
    Calls Tryz.prog 74 #[pt b, .int .u32 268439552, .int .u32 32, .iface i q] w fun e w' => e = .returned (.bool true) ∧ BusP B W K b r g c (rs ++ [Rg.mk i q 268439552 268439584]) w' := by
  obtain ⟨v, h⟩ := h
  obtain ⟨i0, hi, hz0, hz1, hz2⟩ := info_parts info212
  have HI := _root_.Go.Lib.hid (And.intro hi (And.intro hz0 (And.intro hz1 hz2)))
  clear hi hz0 hz1 hz2
  have hgb := h.get (g := b) (o := busO r v) (by simp)
  have hgr := h.get (g := r) (o := ramO g 16 c) (by simp)
  have b0 : w.cell? ⟨b, 0, none⟩ = some (pt r) := cell_at hgb 0
  have b1 : w.cell? ⟨b, 1, none⟩ = some v := cell_at hgb 1
  have q1 : w.frozen? ⟨b, 1, none⟩ = false := free_at hgb 1
  have r0 : w.cell? ⟨r, 0, none⟩ = some (.int .u32 2147483648) := cell_at hgr 0
  have r1 : w.cell? ⟨r, 1, none⟩ = some (.slice (some ⟨g, 0, none⟩) 16 c) := cell_at hgr 1
  have hgd := good109 hgb
  have hap0 := apart110 (f := 268439552) (t := 268439584) (o := 2147483648) (e := 2147483712) (.inl (by decide)) w
  obtain ⟨vp, vc, rfl⟩ := h.shape
  obtain ⟨n, hn⟩ : ∃ n, n = rs.length := ⟨_, rfl⟩
  rw [← hn] at h h8 b1
  have H := _root_.Go.Lib.hid (And.intro hgd (And.intro hap0 (And.intro h (And.intro hn ha))))
  clear hgd hap0 h hn ha hgb hgr
  go_enter Tryz.func74, Tryz.ntmps74
  go_wp2_with (first | (go_at_call 109; refine H.out.1.mono ?_; rintro e w1 ⟨rfl, rfl⟩) | (go_at_call 110; refine H.out.2.1.mono ?_; rintro e w1 ⟨rfl, rfl⟩))
  go_loopg [76] n (fun k s76 wr => ∃ i1 : Nat, i1 + k = n ∧ s76 = .int .i64 (i1 : Int) ∧ KO B W 212 3 (.slice vp n vc) n (flatM rs) ((b, busO r (.slice vp n vc)) :: (r, ramO g 16 c) :: K) wr)
  case atStart => exact ⟨0, by omega, rfl, H.out.2.2.1⟩
  case round =>
    obtain ⟨i1, hik, rfl, hko⟩ := hrel
    have hgb := hko.get (g := b) (o := busO r (.slice vp n vc)) (by simp)
    have b0 : wr.cell? ⟨b, 0, none⟩ = some (pt r) := cell_at hgb 0
    have b1 : wr.cell? ⟨b, 1, none⟩ = some (.slice vp n vc) := cell_at hgb 1
    have q1 : wr.frozen? ⟨b, 1, none⟩ = false := free_at hgb 1
    by_cases hin : i1 < n
    · obtain ⟨x, hx⟩ : ∃ x, rs[i1]? = some x := ⟨_, List.getElem?_eq_getElem (by rw [← H.out.2.2.2.1]; exact hin)⟩
      obtain ⟨g2, c2, hv, x0, x1, x2⟩ := hko.cellM hx
      simp only [Value.slice.injEq] at hv
      obtain ⟨rfl, -, rfl⟩ := hv
      have hap := apart110 (H.out.2.2.2.2 x (List.mem_of_getElem? hx))
      have HX := _root_.Go.Lib.hid (And.intro hap (And.intro hko hik))
      clear hap hko hik hgb
      go_wp2_with (go_at_call 110; refine (HX.out.1 _).mono ?_; rintro e w1 ⟨rfl, rfl⟩)
      go_roundg (n - (i1 + 1))
      case measure => have := HX.out.2.2; omega
      case rel =>
        exact ⟨i1 + 1, by have := HX.out.2.2; omega, by first | rfl | go_num, (HX.out.2.1.alloc _).drop⟩
    · have HX := _root_.Go.Lib.hid hko
      clear hko hgb
      go_wp2_with (at_builtin; refine wpList_append_ko rfl _ _ 207 rfl i0 _ 32 Tryz.underlying207 HI.out.1 HI.out.2.1 HI.out.2.2.1 HI.out.2.2.2 rfl (by decide) rfl (HX.out.alloc _) ⟨_, 0, none⟩ 1 1 [.iface i q, .int .u64 268439552, .int .u64 268439584] rfl rfl (news_mid (off := 0) (m := 3) (heap_alloc_new _ _) rfl) (by simp [Value.oneCell']) (by unfold maxLen; omega) (by omega) ?_)
      rintro v' w5 hk5 -
      have hk6 := hk5.drop
      obtain ⟨p2, c2, rfl⟩ := hk6.shape
      have hgb := hk6.get (g := b) (o := busO r (.slice vp n vc)) (by simp)
      have b0 : w5.cell? ⟨b, 0, none⟩ = some (pt r) := cell_at hgb 0
      have b1 : w5.cell? ⟨b, 1, none⟩ = some (.slice vp n vc) := cell_at hgb 1
      have q1 : w5.frozen? ⟨b, 1, none⟩ = false := free_at hgb 1
      have H3 := _root_.Go.Lib.hid hk6
      clear hk5 hk6 hgb
      go_wp2_with fail
      go_ret
      refine ⟨rfl, .slice p2 (n + 1) c2, ?_⟩
      have h9 := H3.out
      rw [flatM_snoc, List.length_append, ← H.out.2.2.2.1]
      exact h9.turn fun K0 hk => KW.cellAt K0 ((r, ramO g 16 c) :: K) hk rfl
end Go.Proofs.YtlcbilknfjdceaaGreatDoor
end
section
/-
  A machine at rest: its small functions.
-/
set_option linter.unusedVariables false
set_option linter.unusedSimpArgs false
set_option maxRecDepth 100000
namespace Go.Proofs.YtlcbilknfjdceaaGreatDoor
open Go.RowKit Go.Lib
def machV (r b c d u s : Nat) (cy pc x1 : Int) : Array Value := #[pt r, pt b, pt c, pt d, pt u, pt s, .int .u32 0, .int .u32 0, .int .u32 0, .int .u32 0, .int .u32 0, .int .u32 0, .int .u32 0, .int .u32 0, .int .u32 0, .int .u32 0, .int .u32 0, .int .u32 0, .int .u32 0, .int .u32 0, .int .u32 0, .int .u32 0, .int .u64 cy, .int .i64 3, .int .u32 pc, .int .u32 0, .int .u32 x1, .int .u32 0, .int .u32 0, .int .u32 0, .int .u32 0, .int .u32 0, .int .u32 0, .int .u32 0, .int .u32 0, .int .u32 0, .int .u32 0, .int .u32 0, .int .u32 0, .int .u32 0, .int .u32 0, .int .u32 0, .int .u32 0, .int .u32 0, .int .u32 0, .int .u32 0, .int .u32 0, .int .u32 0, .int .u32 0, .int .u32 0, .int .u32 0, .int .u32 0, .int .u32 0, .int .u32 0, .int .u32 0, .int .u32 0, .int .u32 0, .int .u32 0, .bool false, .bool false]
abbrev machO (r b c d u s : Nat) (cy pc x1 : Int) : Obj := .cells (machV r b c d u s cy pc x1) 122
section
variable {B r b c d u s m f : Nat} {cy pc x1 : Int} {W w : World} {K : Blocks}
theorem good45 (h : w.heap[m]? = some (machO r b c d u s cy pc x1)) : Calls Tryz.prog 45 #[pt m] w fun e w' => e = .returned (.bool true) ∧ w' = w := by
  have c0 : w.cell? ⟨m, 1, none⟩ = some (pt b) := cell_at h 1
  clear h
  go_enter Tryz.func45, Tryz.ntmps45
  go_wp2_with fail
  go_ret
  exact ⟨rfl, rfl⟩
theorem reg143 : Calls Tryz.prog 143 #[pt u, .int .u32 4] w fun e w' => e = .returned (.pointer (some ⟨u, 4, none⟩)) ∧ w' = w := by
  go_enter Tryz.func143, Tryz.ntmps143
  go_wp2_with fail
  go_ret
  exact ⟨rfl, rfl⟩
theorem up111 (h : w.heap[u]? = some uartO) : Calls Tryz.prog 111 #[pt u] w fun e w' => e = .returned (.bool false) ∧ w' = w := by
  have c0 : w.cell? ⟨u, 4, none⟩ = some (.int .u32 0) := cell_at h 4
  clear h
  go_enter Tryz.func111, Tryz.ntmps111
  go_wp2_with (go_at_call 143; refine reg143.mono ?_; rintro e w1 ⟨rfl, rfl⟩)
  go_ret
  exact ⟨rfl, rfl⟩
theorem good144 (h : w.heap[s]? = some (sectO f)) : Calls Tryz.prog 144 #[pt s] w fun e w' => e = .returned (.bool true) ∧ w' = w := by
  have c0 : w.cell? ⟨s, 0, none⟩ = some (.iface 30 (pt f)) := cell_at h 0
  clear h
  go_enter Tryz.func144, Tryz.ntmps144
  go_wp2_with fail
  go_ret
  exact ⟨rfl, rfl⟩
theorem up112 (h : w.heap[s]? = some (sectO f)) : Calls Tryz.prog 112 #[pt s] w fun e w' => e = .returned (.bool false) ∧ w' = w := by
  have c0 : w.cell? ⟨s, 4, none⟩ = some (.bool false) := cell_at h 4
  have hc := good144 h
  have H := _root_.Go.Lib.hid hc
  clear h hc
  go_enter Tryz.func112, Tryz.ntmps112
  go_wp2_with (go_at_call 144; refine H.out.mono ?_; rintro e w1 ⟨rfl, rfl⟩)
  go_ret
  exact ⟨rfl, rfl⟩
theorem asks79 (h : w.heap[m]? = some (machO r b c d u s cy pc x1)) (hu : w.heap[u]? = some uartO) (hs : w.heap[s]? = some (sectO f)) : Calls Tryz.prog 79 #[pt m] w fun e w' => e = .returned (.int .u32 0) ∧ w' = w := by
  have c0 : w.cell? ⟨m, 4, none⟩ = some (pt u) := cell_at h 4
  have c1 : w.cell? ⟨m, 5, none⟩ = some (pt s) := cell_at h 5
  have H := _root_.Go.Lib.hid (And.intro (up111 hu) (up112 hs))
  clear h hu hs
  go_enter Tryz.func79, Tryz.ntmps79
  go_wp2_with (first | (go_at_call 111; refine H.out.1.mono ?_; rintro e w1 ⟨rfl, rfl⟩) | (go_at_call 112; refine H.out.2.mono ?_; rintro e w1 ⟨rfl, rfl⟩))
  go_ret
  exact ⟨rfl, rfl⟩
theorem waits145 (h : w.heap[d]? = some deskO) : Calls Tryz.prog 145 #[pt d] w fun e w' => e = .returned (.int .u32 0) ∧ w' = w.drew := by
  have c0 : w.cell? ⟨d, 0, none⟩ = some (.int .u32 0) := cell_at h 0
  have c1 : w.cell? ⟨d, 1, none⟩ = some (.int .u32 0) := cell_at h 1
  have c2 : w.cell? ⟨d, 2, none⟩ = some (.int .u32 0) := cell_at h 2
  clear h
  go_enter Tryz.func145, Tryz.ntmps145
  go_upto_region 1 with fail
  go_still (by kernel_rfl)
  go_wp2_with fail
  go_ret
  exact ⟨rfl, rfl⟩
theorem lines113 {n : Int} (hn : n < 18446744073709551615) (h : w.heap[c]? = some (clockO n)) : Calls Tryz.prog 113 #[pt c] w fun e w' => e = .returned (.int .u32 0) ∧ w' = w.drew := by
  have c0 : w.cell? ⟨c, 0, none⟩ = some (.int .u64 n) := cell_at h 0
  have c1 : w.cell? ⟨c, 1, none⟩ = some (.int .u64 18446744073709551615) := cell_at h 1
  have c2 : w.cell? ⟨c, 2, none⟩ = some (.bool false) := cell_at h 2
  have hd : decide (n ≥ 18446744073709551615) = false := decide_eq_false (by omega)
  have hd2 : decide (18446744073709551615 ≤ n) = false := decide_eq_false (by omega)
  clear h
  go_enter Tryz.func113, Tryz.ntmps113
  go_upto_region 5 with fail
  go_still (by kernel_rfl)
  go_wp2_with fail
  go_ret
  exact ⟨rfl, rfl⟩
theorem up114 (h : w.heap[d]? = some deskO) : Calls Tryz.prog 114 #[pt d] w fun e w' => e = .returned (.bool false) ∧ w' = w.drew := by
  have H := _root_.Go.Lib.hid (waits145 h)
  clear h
  go_enter Tryz.func114, Tryz.ntmps114
  go_wp2_with (go_at_call 145; refine H.out.mono ?_; rintro e w1 ⟨rfl, rfl⟩)
  go_ret
  exact ⟨rfl, rfl⟩
theorem lines81 {n : Int} (hn : n < 18446744073709551615) (h : w.heap[m]? = some (machO r b c d u s cy pc x1)) (hc : w.heap[c]? = some (clockO n)) (hd : w.heap[d]? = some deskO) : Calls Tryz.prog 81 #[pt m] w fun e w' => e = .returned (.int .u32 0) ∧ w' = w.drew.drew := by
  have c0 : w.cell? ⟨m, 2, none⟩ = some (pt c) := cell_at h 2
  have c1 : w.cell? ⟨m, 3, none⟩ = some (pt d) := cell_at h 3
  have H := _root_.Go.Lib.hid (And.intro (good45 h) (And.intro (lines113 hn hc) (up114 (w := w.drew) (d := d) hd)))
  clear h hc hd
  go_enter Tryz.func81, Tryz.ntmps81
  go_wp2_with (first | (go_at_call 45; refine H.out.1.mono ?_; rintro e w1 ⟨rfl, rfl⟩) | (go_at_call 113; refine H.out.2.1.mono ?_; rintro e w1 ⟨rfl, rfl⟩) | (go_at_call 114; refine H.out.2.2.mono ?_; rintro e w1 ⟨rfl, rfl⟩))
  go_ret
  exact ⟨rfl, rfl⟩
theorem tick77 {n : Int} (hw : IntKind.u64.wrap (n + 1) = n + 1) (h : KW B W ((c, clockO n) :: K) w) : Calls Tryz.prog 77 #[pt c, .int .u64 1] w fun e w' => e = .returned (.tuple #[]) ∧ KW B W ((c, clockO (n + 1)) :: K) w' := by
  have hc := h.get (g := c) (o := clockO n) (by simp)
  have c0 : w.cell? ⟨c, 0, none⟩ = some (.int .u64 n) := cell_at hc 0
  have q0 : w.frozen? ⟨c, 0, none⟩ = false := free_at hc 0
  have H := _root_.Go.Lib.hid h
  clear h hc
  go_enter Tryz.func77, Tryz.ntmps77
  go_wp2_with fail
  refine bodyPost_end (v := .tuple #[]) (by simp [results, Tryz.results77]) rfl ⟨rfl, KW.cell (i := 0) (x := .int .u64 (n + 1)) H.out rfl⟩
theorem ask78 (h : KW B W ((d, deskO) :: K) w) : Calls Tryz.prog 78 #[pt d, .int .u32 0] w fun e w' => e = .returned (.tuple #[]) ∧ KW B W ((d, deskO) :: K) w' := by
  have hc := h.get (g := d) (o := deskO) (by simp)
  have c0 : w.cell? ⟨d, 0, none⟩ = some (.int .u32 0) := cell_at hc 0
  have q0 : w.frozen? ⟨d, 0, none⟩ = false := free_at hc 0
  have H := _root_.Go.Lib.hid h
  clear h hc
  go_enter Tryz.func78, Tryz.ntmps78
  go_wp2_with fail
  refine bodyPost_end (v := .tuple #[]) (by simp [results, Tryz.results78]) rfl ⟨rfl, KW.cell (i := 0) (x := .int .u32 0) H.out rfl⟩
end
end Go.Proofs.YtlcbilknfjdceaaGreatDoor
end
section
/-
  A word is fetched.
-/
set_option linter.unusedVariables false
set_option linter.unusedSimpArgs false
set_option maxRecDepth 100000
namespace Go.Proofs.YtlcbilknfjdceaaGreatDoor
open Go.RowKit Go.Lib Go.Sort
abbrev coreO (o b : Nat) (n d a e i wd nx : Int) : Obj := .cells #[pt o, pt b, .int .i64 n, .int .i64 d, .int .i64 a, .int .i64 e, .int .u32 i, .int .u32 wd, .int .u32 nx] 221
section
variable {B r b c o g g0 cap : Nat} {cy pc x1 n d a e i wd nx : Int} {W w : World} {K : Blocks} {v : Value}
theorem data200 (h : w.heap[c]? = some (coreO o b n d a e i wd nx)) (ho : w.heap[o]? = some (.cells (hartV cy pc x1) 72)) : Calls Tryz.prog 200 #[pt c] w fun e w' => e = .returned (.int .i64 3) ∧ w' = w := by
  have c0 : w.cell? ⟨c, 0, none⟩ = some (pt o) := cell_at h 0
  have o0 : w.cell? ⟨o, 0, none⟩ = some (.int .u32 0) := cell_at ho 0
  have o17 : w.cell? ⟨o, 17, none⟩ = some (.int .i64 3) := cell_at ho 17
  clear h ho
  go_enter Tryz.func200, Tryz.ntmps200
  go_wp2_with fail
  go_ret
  exact ⟨rfl, rfl⟩
theorem size_al (w : World) (o : Obj) : (w.alloc o).heap.size = w.heap.size + 1 := Array.size_push _
theorem results201 {tmps : Array Value} {r4 r5 r6 : Nat} {v1 v2 v3 : Value} {t4 t5 t6 : TypeId} (h4 : tmps.getD 4 undef = pt r4) (h5 : tmps.getD 5 undef = pt r5) (h6 : tmps.getD 6 undef = pt r6)
    (g4 : w.heap[r4]? = some (.cells #[v1] t4)) (g5 : w.heap[r5]? = some (.cells #[v2] t5)) (g6 : w.heap[r6]? = some (.cells #[v3] t6)) : (results Tryz.f201 tmps).run Tryz.prog w = .ok (.tuple #[v1, v2, v3]) w := by
  have l4 : (Instr.loadAt 38 (pt r4)).run Tryz.prog w = .ok v1 w := Mem.run_loadAt_cell (by rfl) Tryz.underlying38 g4 rfl
  have l5 : (Instr.loadAt 38 (pt r5)).run Tryz.prog w = .ok v2 w := Mem.run_loadAt_cell (by rfl) Tryz.underlying38 g5 rfl
  have l6 : (Instr.loadAt 4 (pt r6)).run Tryz.prog w = .ok v3 w := Mem.run_loadAt_cell (by rfl) Tryz.underlying4 g6 rfl
  rw [Array.getD_eq_getD_getElem?] at h4 h5 h6
  simp only [Instr.loadAt, Instr.sureAddr, pure_bind] at l4 l5 l6
  simp [results, h4, h5, h6, Result.andThen, asAddr, l4, l5, l6]
theorem to201 (w : World) : Calls Tryz.prog 201 #[v, .agg #[.int .u32 pc, .int .u32 0, .int .u32 0, .int .i64 0, .int .i64 3]] w fun e w' => e = .returned (.tuple #[.int .u32 pc, .int .u32 0, .bool true]) ∧ ∃ q os', w' = grow (w.drewN q) os' := by
  go_enter Tryz.func201, Tryz.ntmps201
  go_wp2_with fail
  have hos : ∃ os, (((w.alloc (.cells #[.int .u32 pc, .int .u32 0, .int .u32 0, .int .i64 0, .int .i64 3] 299)).alloc (.cells #[.int .u32 pc] 38)).alloc (.cells #[.int .u32 0] 38)).alloc (.cells #[.bool true] 4) = grow w os := ⟨_, by rw [alloc_eq_grow, alloc_eq_grow, alloc_eq_grow, alloc_eq_grow, grow_grow, grow_grow, grow_grow]⟩
  have h1 := (KW.start (Below.refl w.heap.size w) (Nat.le_refl _)).alloc (.cells #[.int .u32 pc, .int .u32 0, .int .u32 0, .int .i64 0, .int .i64 3] 299)
  have hs := size_al w (.cells #[.int .u32 pc, .int .u32 0, .int .u32 0, .int .i64 0, .int .i64 3] 299)
  generalize World.alloc w _ = w1 at h1 hs hos ⊢
  rw [← hs]
  have h2 := h1.push (.cells #[.int .u32 pc] 38)
  have hs2 := size_al w1 (.cells #[.int .u32 pc] 38)
  generalize World.alloc w1 _ = w2 at h2 hs2 hos ⊢
  rw [← hs2]
  have h3 := h2.push (.cells #[.int .u32 0] 38)
  have hs3 := size_al w2 (.cells #[.int .u32 0] 38)
  generalize World.alloc w2 _ = w3 at h3 hs3 hos ⊢
  rw [← hs3]
  have h4 := h3.push (.cells #[.bool true] 4)
  refine bodyPost_ret (v := .tuple #[.int .u32 pc, .int .u32 0, .bool true]) (results201 rfl rfl rfl (h4.get (g := w1.heap.size) (o := .cells #[.int .u32 pc] 38) (by simp)) (h4.get (g := w2.heap.size) (o := .cells #[.int .u32 0] 38) (by simp)) (h4.get (g := w3.heap.size) (o := .cells #[.bool true] 4) (by simp))) rfl ⟨rfl, 0, by simpa [World.drewN] using hos⟩
theorem place237 (hr : w.heap[r]? = some (ramO g 16 cap)) : Calls Tryz.prog 237 #[pt r, .int .u32 2147483648] w fun e w' => e = .returned (.tuple #[.pointer (some ⟨g, 0, none⟩), .bool true]) ∧ w' = w := by
  have r0 : w.cell? ⟨r, 0, none⟩ = some (.int .u32 2147483648) := cell_at hr 0
  have r1 : w.cell? ⟨r, 1, none⟩ = some (.slice (some ⟨g, 0, none⟩) 16 cap) := cell_at hr 1
  clear hr
  go_enter Tryz.func237, Tryz.ntmps237
  go_wp2_with fail
  refine bodyPost_ret (v := .tuple #[.pointer (some ⟨g, 0, none⟩), .bool true]) (by simp [results, Tryz.results237, Sem.run_bind, Result.andThen]) rfl ⟨rfl, rfl⟩
theorem word203 (hr : w.heap[r]? = some (ramO g 16 cap)) (hg : w.cell? ⟨g, 0, none⟩ = some (.int .u32 5243027)) : Calls Tryz.prog 203 #[pt r, .int .u32 2147483648] w fun e w' => e = .returned (.tuple #[.int .u32 5243027, .bool true]) ∧ w' = w := by
  have H := _root_.Go.Lib.hid (place237 hr)
  clear hr
  go_enter Tryz.func203, Tryz.ntmps203
  go_wp2_with (go_at_call 237; refine H.out.mono ?_; rintro e w1 ⟨rfl, rfl⟩)
  refine bodyPost_ret (v := .tuple #[.int .u32 5243027, .bool true]) (by simp [results, Tryz.results203, Sem.run_bind, Result.andThen]) rfl ⟨rfl, rfl⟩
theorem check202 (hb : w.heap[b]? = some (busO r v)) : Calls Tryz.prog 202 #[pt b, .int .u32 2147483648, .int .i64 4] w fun e w' => e = .returned (.int .i64 0) ∧ w' = w := by
  have H := _root_.Go.Lib.hid (good109 hb)
  clear hb
  go_enter Tryz.func202, Tryz.ntmps202
  go_wp2_with (go_at_call 109; refine H.out.mono ?_; rintro e w1 ⟨rfl, rfl⟩)
  go_ret
  exact ⟨rfl, rfl⟩
theorem mask238_32 (w : World) : Calls Tryz.prog 238 #[.int .i64 32] w fun e w' => e = .returned (.int .u64 4294967295) ∧ w' = w := by
  go_enter Tryz.func238, Tryz.ntmps238
  go_wp2_with fail
  go_ret
  exact ⟨rfl, rfl⟩
theorem mask238_12 (w : World) : Calls Tryz.prog 238 #[.int .i64 12] w fun e w' => e = .returned (.int .u64 4095) ∧ w' = w := by
  go_enter Tryz.func238, Tryz.ntmps238
  go_wp2_with fail
  go_ret
  exact ⟨rfl, rfl⟩
theorem mask238_5 (w : World) : Calls Tryz.prog 238 #[.int .i64 5] w fun e w' => e = .returned (.int .u64 31) ∧ w' = w := by
  go_enter Tryz.func238, Tryz.ntmps238
  go_wp2_with fail
  go_ret
  exact ⟨rfl, rfl⟩
theorem field204w (w : World) : Calls Tryz.prog 204 #[.int .u32 5243027, .int .i64 0, .int .i64 32] w fun e w' => e = .returned (.int .u32 5243027) ∧ w' = w := by
  go_enter Tryz.func204, Tryz.ntmps204
  go_wp2_with (go_at_call 238; refine (mask238_32 _).mono ?_; rintro e w1 ⟨rfl, rfl⟩)
  go_ret
  exact ⟨rfl, rfl⟩
theorem field204i (w : World) : Calls Tryz.prog 204 #[.int .u32 5243027, .int .i64 20, .int .i64 12] w fun e w' => e = .returned (.int .u32 5) ∧ w' = w := by
  go_enter Tryz.func204, Tryz.ntmps204
  go_wp2_with (go_at_call 238; refine (mask238_12 _).mono ?_; rintro e w1 ⟨rfl, rfl⟩)
  go_ret
  exact ⟨rfl, rfl⟩
theorem field204d (w : World) : Calls Tryz.prog 204 #[.int .u32 5243027, .int .i64 7, .int .i64 5] w fun e w' => e = .returned (.int .u32 1) ∧ w' = w := by
  go_enter Tryz.func204, Tryz.ntmps204
  go_wp2_with (go_at_call 238; refine (mask238_5 _).mono ?_; rintro e w1 ⟨rfl, rfl⟩)
  go_ret
  exact ⟨rfl, rfl⟩
theorem field204a (w : World) : Calls Tryz.prog 204 #[.int .u32 5243027, .int .i64 15, .int .i64 5] w fun e w' => e = .returned (.int .u32 0) ∧ w' = w := by
  go_enter Tryz.func204, Tryz.ntmps204
  go_wp2_with (go_at_call 238; refine (mask238_5 _).mono ?_; rintro e w1 ⟨rfl, rfl⟩)
  go_ret
  exact ⟨rfl, rfl⟩
end
end Go.Proofs.YtlcbilknfjdceaaGreatDoor
end
section
/-
  A word is fetched (the rest).
-/
set_option linter.unusedVariables false
set_option linter.unusedSimpArgs false
set_option maxRecDepth 100000
namespace Go.Proofs.YtlcbilknfjdceaaGreatDoor
open Go.RowKit Go.Lib Go.Sort
section
variable {B r b c o g g0 cap : Nat} {x1 n d a e i wd nx : Int} {W w : World} {K : Blocks} {v : Value}
theorem place172 (h : w.heap[c]? = some (coreO o b n d a e i wd nx)) (ho : w.heap[o]? = some (.cells (hartV 1 2147483648 x1) 72)) : Calls Tryz.prog 172 #[pt c, .int .u32 2147483648, .int .i64 4, .int .i64 0] w fun e w' => e = .returned (.int .u32 2147483648) ∧ Below w.heap.size w w' := by
  have hf : Tryz.prog.follows .mixedOrders = true := by kernel_rfl
  have c0 : ∀ n os, (grow (w.drewN n) os).cell? ⟨c, 0, none⟩ = some (pt o) := cell_grown (lt_of_heap h) (cell_at h 0)
  have c1 : ∀ n os, (grow (w.drewN n) os).cell? ⟨c, 1, none⟩ = some (pt b) := cell_grown (lt_of_heap h) (cell_at h 1)
  have o0 : ∀ n os, (grow (w.drewN n) os).cell? ⟨o, 0, none⟩ = some (.int .u32 0) := cell_grown (lt_of_heap ho) (cell_at ho 0)
  have o15 : ∀ n os, (grow (w.drewN n) os).cell? ⟨o, 15, none⟩ = some (.int .u32 0) := cell_grown (lt_of_heap ho) (cell_at ho 15)
  have d0 : w.cell? ⟨c, 0, none⟩ = some (pt o) := cell_at h 0
  have hK := KW.start (Below.refl w.heap.size w) (Nat.le_refl _)
  have HK := _root_.Go.Lib.hid hK
  clear hK
  have o17 : w.cell? ⟨o, 17, none⟩ = some (.int .i64 3) := cell_at ho 17
  have H := _root_.Go.Lib.hid (And.intro (data200 h ho) (to201 (v := .iface 114 (pt b)) (pc := 2147483648)))
  clear h ho
  go_enter Tryz.func172, Tryz.ntmps172
  go_upto_region 6 with (go_at_call 200; refine H.out.1.mono ?_; rintro e w1 ⟨rfl, rfl⟩)
  go_quiet_grown (exact Calls.grown_of (H.out.2 _))
  go_wp2_with fail
  go_ret
  exact ⟨rfl, (HK.out.sortGrown nq osq).bel⟩
theorem load173 (hb : w.heap[b]? = some (busO r v)) (hr : w.heap[r]? = some (ramO g 16 cap)) (hg : w.cell? ⟨g, 0, none⟩ = some (.int .u32 5243027)) : Calls Tryz.prog 173 #[pt b, .int .u32 2147483648, .int .i64 4] w fun e w' => e = .returned (.tuple #[.int .u32 5243027, .int .i64 0]) ∧ w' = w := by
  have b0 : w.cell? ⟨b, 0, none⟩ = some (pt r) := cell_at hb 0
  have e1 : bits BinOp.and IntKind.u32 2147483648 3 = 0 := by kernel_rfl
  have e2 : bits BinOp.andNot IntKind.u32 2147483648 3 = 2147483648 := by kernel_rfl
  have H := _root_.Go.Lib.hid (And.intro (check202 hb) (word203 hr hg))
  clear hb hr hg
  go_enter Tryz.func173, Tryz.ntmps173
  go_wp2_with (first | (go_at_call 202; refine H.out.1.mono ?_; rintro e w1 ⟨rfl, rfl⟩) | (go_at_call 203; refine H.out.2.mono ?_; rintro e w1 ⟨rfl, rfl⟩) | (go_at_call 204; refine (field204w _).mono ?_; rintro e w1 ⟨rfl, rfl⟩))
  refine bodyPost_ret (v := .tuple #[.int .u32 5243027, .int .i64 0]) (by simp [results, Tryz.results173, Sem.run_bind, Result.andThen]) rfl ⟨rfl, rfl⟩
theorem load150 (h : w.heap[c]? = some (coreO o b n d a e i wd nx)) (ho : w.heap[o]? = some (.cells (hartV 1 2147483648 x1) 72)) (hb : w.heap[b]? = some (busO r v)) (hr : w.heap[r]? = some (ramO g 16 cap)) (hg : w.cell? ⟨g, 0, none⟩ = some (.int .u32 5243027)) (hgl : g < w.heap.size) :
    Calls Tryz.prog 150 #[pt c, .int .u32 2147483648, .int .i64 4, .int .i64 0] w fun e w' => e = .returned (.tuple #[.int .u32 5243027, .int .u32 2147483648]) ∧ Below w.heap.size w w' := by
  have H := _root_.Go.Lib.hid (And.intro (place172 h ho) (And.intro h (And.intro hb (And.intro hr (And.intro hg hgl)))))
  clear h ho hb hr hg hgl
  go_enter Tryz.func150, Tryz.ntmps150
  go_upto_region 2 with (go_at_call 172; refine H.out.1.mono ?_; rintro e w1 ⟨rfl, hb1⟩)
  obtain ⟨_, h, hb, hr, hg, hgl⟩ := H.out
  have h' := (hb1.block c (lt_of_heap h)).trans h
  have c1 : w1.cell? ⟨c, 1, none⟩ = some (pt b) := cell_at h' 1
  have hl := load173 (w := w1) ((hb1.block b (lt_of_heap hb)).trans hb) ((hb1.block r (lt_of_heap hr)).trans hr) ((hb1.cell (p := ⟨g, 0, none⟩) hgl).trans hg)
  have H1 := _root_.Go.Lib.hid (And.intro hl hb1)
  clear H h hb hr hg hgl h' hb1 hl
  go_wp2_with (go_at_call 173; refine H1.out.1.mono ?_; rintro e w2 ⟨rfl, rfl⟩)
  refine bodyPost_ret (v := .tuple #[.int .u32 5243027, .int .u32 2147483648]) (by simp [results, Tryz.results150, Sem.run_bind, Result.andThen]) rfl ⟨rfl, H1.out.2⟩
end
end Go.Proofs.YtlcbilknfjdceaaGreatDoor
end
