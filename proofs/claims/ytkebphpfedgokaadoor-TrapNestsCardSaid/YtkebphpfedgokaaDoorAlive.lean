/-
  alive.
-/
import Derived.Test.YtkebphpfedgokaaDoorRight
set_option linter.unusedVariables false
set_option linter.unusedSimpArgs false
namespace Go.Proofs.YtkebphpfedgokaaDoor
open Go.RowKit Go.Lib

abbrev sA0 : St := ⟨0, 0, 0, 0, 0, 0, 0, 0, 0, 0, 0, 0, 0, 0, 0, 0, 0, 0, 40⟩
abbrev sA1 : St := ⟨0, 0, 0, 0, 0, 0, 0, 40, 8, 5, 0, 0, 0, 0, 0, 0, 0, 3, 0⟩
abbrev sA3 : St := ⟨0, 0, 0, 128, 128, 0, 0, 0, 0, 0, 0, 0, 0, 0, 0, 0, 0, 0, 0⟩
theorem aTake : sTake sA0 8 5 = sA1 := by kernel_rfl
theorem aPend : sPend sA3 = (2147483655, true) := by kernel_rfl

def aB : Int := bits .andNot .u32 (sMach 0) 131072
abbrev sA2 : St := ⟨aB, 0, 0, 0, 0, 0, 0, 40, 8, 5, 0, 0, 0, 0, 0, 0, 0, 0, 40⟩
theorem aBack : sBack sA1 true = sA2 := by kernel_rfl
theorem alive_calls (w : World) (hT : Tab w) : Calls Tryd.prog 9 #[] w fun e w' => e = .returned (.bool true) ∧ Below w.heap.size w w' := by
  have HT := _root_.Go.Lib.hid hT
  clear hT
  have k0 := KW.start (Below.refl w.heap.size w) (Nat.le_refl _)
  have H0 := _root_.Go.Lib.hid k0
  clear k0
  go_enter Tryd.func9, Tryd.ntmps9
  go_wp2_with fail
  refine ((aTake ▸ take_calls sA0 8 5 w : Calls Tryd.prog 15 #[.agg (St.r sA0), .int .u32 8, .int .u32 5] w fun e w' => e = .returned (.agg (St.r sA1)) ∧ Below w.heap.size w w')).mono ?_
  rintro e w1 ⟨rfl, hb⟩
  have k := H0.out.grown hb
  clear hb H0
  have H1 := _root_.Go.Lib.hid k
  clear k
  have k := H1.out.push resO
  have P := _root_.Go.Lib.hid k
  clear k
  go_upto_region 2 with ((with_reducible apply wpList_store_at 32); rfl; rfl; (exact P.out.get (g := w1.heap.size) (o := resO) (by simp)); exact size32; rfl; rfl; rfl; (have h := KW.row (vs := St.r sA1) P.out); (generalize World.setRow _ (World.heap w1).size _ = w2 at h ⊢))
  generalize (World.heap w1).size = b1 at h ⊢
  clear P H1 w1
  have H2 := _root_.Go.Lib.hid h
  clear h
  go_wp2_with ((with_reducible apply wpList_load_at 32 Tryd.underlying32); rfl; exact H2.out.get (g := b1) (o := St.o sA1) (by simp); rfl; exact size32)
  refine ((aBack ▸ back_calls sA1 true _ : Calls Tryd.prog 17 #[.agg (St.r sA1), .bool true] _ fun e w' => e = .returned (.agg (St.r sA2)) ∧ Below _ _ w')).mono ?_
  rintro e w3 ⟨rfl, hb⟩
  have k := H2.out.grown hb
  clear hb H2
  have H3 := _root_.Go.Lib.hid k
  clear k
  have k := H3.out.push resO
  have P := _root_.Go.Lib.hid k
  clear k
  go_upto_region 3 with ((with_reducible apply wpList_store_at 32); rfl; rfl; (exact P.out.get (g := w3.heap.size) (o := resO) (by simp)); exact size32; rfl; rfl; rfl; (have h := KW.row (vs := St.r sA2) P.out); (generalize World.setRow _ (World.heap w3).size _ = w4 at h ⊢))
  generalize (World.heap w3).size = b2 at h ⊢
  clear P H3 w3
  have H4 := _root_.Go.Lib.hid h
  clear h
  have pe := pending_calls sA3 (.inl rfl) w4 (HT.out.below H4.out.bel HT.out.pos)
  rw [aPend] at pe
  have PE := _root_.Go.Lib.hid pe
  clear pe
  go_wp2_with fail
  refine (PE.out).mono ?_
  rintro e w5 ⟨rfl, hb⟩
  have k := H4.out.grown hb
  clear hb H4
  have H5 := _root_.Go.Lib.hid k
  clear k
  have m17 : w5.cell? ⟨b1, 17, none⟩ = some (.int .i64 3) := cell_at (H5.out.get (g := b1) (o := St.o sA1) (by simp)) 17
  have m7 : w5.cell? ⟨b1, 7, none⟩ = some (.int .u32 40) := cell_at (H5.out.get (g := b1) (o := St.o sA1) (by simp)) 7
  have m8 : w5.cell? ⟨b1, 8, none⟩ = some (.int .u32 8) := cell_at (H5.out.get (g := b1) (o := St.o sA1) (by simp)) 8
  have m9 : w5.cell? ⟨b1, 9, none⟩ = some (.int .u32 5) := cell_at (H5.out.get (g := b1) (o := St.o sA1) (by simp)) 9
  have n17 : w5.cell? ⟨b2, 17, none⟩ = some (.int .i64 0) := cell_at (H5.out.get (g := b2) (o := St.o sA2) (by simp)) 17
  have n18 : w5.cell? ⟨b2, 18, none⟩ = some (.int .u32 40) := cell_at (H5.out.get (g := b2) (o := St.o sA2) (by simp)) 18
  go_wp2
  go_ret
  exact ⟨rfl, H5.out.bel⟩
end Go.Proofs.YtkebphpfedgokaaDoor
