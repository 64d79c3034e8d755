/-
  The builder that lies in a uart's field: copyCheck, WriteByte, String, Reset. Conditions: the new length is at most 2 to the 47.
-/
import Derived.Test.YtjaldngafappdaaTake
import Derived.Lib.Builder
import Derived.Maps.AppendAt
set_option linter.unusedVariables false
set_option linter.unusedSimpArgs false
namespace Go.Proofs.Ytjaldngafappdaa
open Go.RowKit Go.Lib

theorem info52 : (Try.prog.info? 52).map (·.size) = some 2 := by kernel_rfl
theorem lies52 : liesAt Try.prog Try.prog.depth 55 (12 / Try.prog.cellsOf 55) 1 52 1 = true := by kernel_rfl
theorem infoByte : (Try.prog.info? 5).map (fun i => (i.zero, i.size, i.bytes)) = some (some (.int .u8 0), 1, 1) := by kernel_rfl

theorem check_used (b : Nat) (w : World) (h0 : w.cell? ⟨b, 1, none⟩ = some (.pointer (some ⟨b, 1, none⟩))) :
    Calls Try.prog 28 #[.pointer (some ⟨b, 1, none⟩)] w fun e w' => e = .returned (.tuple #[]) ∧ w' = w := by
  obtain ⟨j, hj, _⟩ := Option.map_eq_some_iff.1 info52
  go_enter Try.func28, Try.ntmps28
  go_wp2
  rw [Lib.run_neq_ptr_same w _ Try.underlying50 hj]
  go_wp2
  go_end0
  exact ⟨rfl, rfl⟩

theorem check_fresh (b : Nat) (w : World) (h0 : w.cell? ⟨b, 1, none⟩ = some (.pointer none)) (hsh : w.shape? b = some (55, 12)) (hfz : w.frozen? ⟨b, 1, none⟩ = false) :
    Calls Try.prog 28 #[.pointer (some ⟨b, 1, none⟩)] w fun e w' => e = .returned (.tuple #[]) ∧ w' = w.setCell ⟨b, 1, none⟩ (.pointer (some ⟨b, 1, none⟩)) := by
  obtain ⟨j, hj, hjs⟩ := Option.map_eq_some_iff.1 info52
  go_enter Try.func28, Try.ntmps28
  go_wp2
  rw [Lib.run_to_unsafe w ⟨b, 1, none⟩ Try.underlying50 Try.underlying64 hj (by rw [hjs]; decide) hsh (by show 1 < 12; decide)]
  simp only [Result.andThen]
  rw [Oper.upon_value]
  go_wp2
  rw [run_callFunc_extern Try.func29 (by kernel_rfl) (by kernel_rfl) (by kernel_rfl) (e := Extern.AbiNoEscape.same) (by kernel_rfl)]
  rw [Lib.run_noEscape]
  simp only [Result.andThen]
  rw [Oper.upon_value]
  go_wp2
  rw [Lib.run_from_unsafe w ⟨b, 1, none⟩ Try.underlying64 Try.underlying50 hj hsh lies52]
  simp only [Result.andThen]
  rw [Oper.upon_value]
  go_wp2
  go_end0
  exact ⟨rfl, rfl⟩

theorem IsUx.shape {B b : Nat} {cv pv bv : Value} {S : Ua} {w : World} (h : IsUx B b cv pv bv S w) : w.shape? b = some (55, 12) := by simp [World.shape?, h.row]

theorem ownsRow_alloc {w : World} {base : Nat} {e : TypeId} {v : Value} {n : Nat} {xs : List Value} (h : w.ownsRow base e 1 v n xs) (o : Obj) : (w.alloc o).ownsRow base e 1 v n xs :=
  ownsRow_keep h fun g hg x hx => by
    have : g < w.heap.size := by
      rcases Nat.lt_or_ge g w.heap.size with h' | h'
      · exact h'
      · rw [Array.getElem?_eq_none h'] at hx; cases hx
    rw [Below.heap_alloc w o g this]; exact hx

/-- copyCheck. -/
theorem check_calls {B b : Nat} {cv pv bv : Value} {S : Ua} {w : World} (hU : IsUx B b cv pv bv S w) :
    Calls Try.prog 28 #[.pointer (some ⟨b, 1, none⟩)] w fun e w' => e = .returned (.tuple #[]) ∧ IsUx B b cv (.pointer (some ⟨b, 1, none⟩)) bv S w' ∧ Left B b w w' ∧ w'.heap.size = w.heap.size := by
  rcases hU.addr with ⟨hp, hb⟩ | hp
  · refine (check_fresh b w (by rw [hU.cell 1, hp]; rfl) hU.shape (hU.free 1)).mono ?_
    rintro e w' ⟨rfl, rfl⟩
    refine ⟨rfl, ⟨hU.at_b, by rw [heap_setCell_same w b 1 _ 55 _ hU.row]; rfl, hU.came.setCell hU.came_far, ?_, .inr rfl, hU.apart, hU.empt⟩, (Left.refl B b w).setCell hU.at_b _, by simp [World.setCell]⟩
    exact ownsRow_keep hU.went fun g hg o ho => by rw [heap_setCell_other w ⟨b, 1, none⟩ g _ (fun e => hU.went_far (by rw [hg, e]))]; exact ho
  · refine (check_used b w (by rw [hU.cell 1, hp]; rfl)).mono ?_
    rintro e w' ⟨rfl, rfl⟩
    rw [hp] at hU
    exact ⟨rfl, hU, Left.refl _ _ _, rfl⟩

set_option maxHeartbeats 2000000 in
set_option maxRecDepth 100000 in
/-- WriteByte. -/
theorem write_calls {B b : Nat} {S : Ua} {w : World} (h : IsU B b S w) (c : UInt8) (hlen : S.o.length + 1 ≤ 140737488355328) (hBw : B ≤ w.heap.size) :
    Calls Try.prog 25 #[.pointer (some ⟨b, 1, none⟩), .int .u8 (c.toNat : Int)] w fun e w' => e = .returned .nilIface ∧ IsU B b { S with o := S.o ++ [c] } w' ∧ Left B b w w' := by
  obtain ⟨cv, pv, bv, hU⟩ := h
  have HU := _root_.Go.Lib.hid hU
  clear hU
  obtain ⟨i0, hi, hz0, hz1, hz2⟩ := info_parts infoByte
  go_enter Try.func25, Try.ntmps25
  go_wp2_with (go_at_call 28; refine (check_calls HU.out).mono ?_)
  rintro e w1 ⟨rfl, h1, l1, s1⟩
  have H1 := _root_.Go.Lib.hid h1
  have L1 := _root_.Go.Lib.hid l1
  have c2 : w1.cell? ⟨b, 2, none⟩ = some bv := h1.cell 2
  have hown := h1.went
  have hbase : B ≤ w1.heap.size := by omega
  clear h1 l1 s1
  go_wp2_with (at_builtin; refine wpList_append_own_at _ rfl _ _ 43 rfl B 5 i0 (.int .u8 0) 1 1 Try.underlying43 hi hz0 hz1 hz2 rfl (by decide) _ _ _ rfl (ownsRow_alloc hown _) ⟨w1.heap.size, 0, none⟩ 1 1 [.int .u8 (c.toNat : Int)] rfl rfl ?c1 ?c2 ?c3 ?c4 ?c5 ?_)
  case c1 =>
    intro j u hj
    match j, hj with
    | 0, hj => simp at hj; subst hj; simp [Addr.add]
  case c2 => intro u hu; simp at hu; subst hu; rfl
  case c3 => unfold maxLen; omega
  case c4 => omega
  case c5 => simp; omega
  intro v' w2 hown' hgrow _ hat
  have HO := _root_.Go.Lib.hid hown'
  have HG := _root_.Go.Lib.hid hgrow
  have HA := _root_.Go.Lib.hid hat
  have hb1 : b < w1.heap.size := by
    rcases Nat.lt_or_ge b w1.heap.size with h' | h'
    · exact h'
    · have := H1.out.row; rw [Array.getElem?_eq_none h'] at this; cases this
  have hfar : some b ≠ bv.ownBlock := fun e => H1.out.went_far e.symm
  have hb2 : w2.heap[b]? = some (.cells (uRow cv (.pointer (some ⟨b, 1, none⟩)) bv S.r S.ov) 55 (0, 0)) := by
    rw [HG.out.block b (by simp; omega) hfar, Below.heap_alloc w1 _ b hb1]
    exact H1.out.row
  have d2 : w2.cell? ⟨b, 2, none⟩ = some bv := by rw [cell_at hb2 2]; rfl
  have f2 : w2.frozen? ⟨b, 2, none⟩ = false := by simp [World.frozen?, hb2]
  obtain ⟨g, cap, rfl⟩ : ∃ g cap, v' = .slice (some ⟨g, 0, none⟩) (S.o.length + 1) cap := by
    rcases HO.out.2 with ⟨_, h0⟩ | ⟨g, cap, cur, hv, _⟩
    · omega
    · exact ⟨g, cap, hv⟩
  have HB := _root_.Go.Lib.hid hb2
  have HF := _root_.Go.Lib.hid hfar
  have HX := _root_.Go.Lib.hid hb1
  clear hown' hgrow hat hb2 hfar hb1 hown c2
  go_wp2
  go_ret
  have hkeep : ∀ k o, w1.heap[k]? = some o → some k ≠ bv.ownBlock → w2.heap[k]? = some o := fun k o hk hne => by
    have hlt : k < w1.heap.size := by
      rcases Nat.lt_or_ge k w1.heap.size with h' | h'
      · exact h'
      · rw [Array.getElem?_eq_none h'] at hk; cases hk
    rw [HG.out.block k (by simp; omega) hne, Below.heap_alloc w1 _ k hlt]; exact hk
  have hgb : g ≠ b := fun e => by
    obtain ⟨_, cur, hc⟩ := ownsRow_block HO.out (g := g) rfl
    rw [e, HB.out] at hc; cases hc
  refine ⟨rfl, ⟨cv, _, _, ⟨HU.out.at_b, by rw [heap_setCell_same w2 b 2 _ 55 _ HB.out]; rfl, ?_, ?_, .inr rfl, ?_, fun e => absurd e (by simp)⟩⟩, ?_⟩
  · refine (H1.out.came.keep fun k hk o ho => hkeep k o ho fun e => H1.out.apart k hk e.symm).setCell H1.out.came_far
  · have h1 : w2.ownsRow B 5 1 (.slice (some ⟨g, 0, none⟩) (S.o.length + 1) cap) (S.o ++ [c]).length (bcells (S.o ++ [c])) := by
      have := HO.out
      simpa [bcells, Lib.byteCells] using this
    refine ownsRow_keep h1 fun k hk o ho => ?_
    have hgk : g = k := by simpa [Value.ownBlock] using hk
    rw [heap_setCell_other w2 ⟨b, 2, none⟩ k _ (fun e => hgb (hgk.trans e))]
    exact ho
  · intro k hk hg
    have hgk : g = k := by simpa [Value.ownBlock] using hg
    rcases HA.out with h | h
    · exact H1.out.apart k hk (by rw [← h]; exact hg)
    · obtain ⟨_, cur, hc⟩ := H1.out.came.block hk
      have h2 : (some g : Option Nat) = some _ := h
      injection h2 with h2
      rw [← hgk, h2, Array.getElem?_eq_none (by simp)] at hc
      cases hc
  · refine Left.setCell ?_ HU.out.at_b _
    refine L1.out.trans ⟨?_, ?_⟩
    · exact ((Below.refl B w1).alloc hbase _).grown HG.out (by simp; omega) (fun k hk => (ownsRow_block H1.out.went hk).1)
    · exact ((OthersKept.refl 5 (some b) w1).alloc _).grown HG.out (fun k hk => by
        obtain ⟨_, cur, hc⟩ := ownsRow_block (ownsRow_alloc H1.out.went _) hk
        exact ⟨cur, _, hc⟩)
end Go.Proofs.Ytjaldngafappdaa
