/-
  WholeFlash, part 21 of 44: Sorted.
-/
import Derived.Shelf.SlSortCmp.NoneTotal
import Derived.Ground.SlsfProg
import Derived.Sort.OwnSortedInts
import Derived.Test.YtlcbilknfjdceaaGreatDoorM20
section
/-
  slices.SortFunc over places.
-/
set_option linter.unusedVariables false
set_option linter.unusedSimpArgs false
namespace Go.Proofs.YtlcbilknfjdceaaGreatDoor
open Go.RowKit Go.Lib
open Go.Shelf Go.Sort Go.WideShapes Go.ChangeShapes
def Tryz.sortPc_ren : Go.Shelf.Ren := ⟨fun | 6 => 157 | 15 => 192 | 14 => 191 | 28 => 228 | 29 => 229 | 20 => 220 | 21 => 221 | 22 => 222 | 23 => 223 | 24 => 224 | 25 => 225 | 26 => 226 | 27 => 227 | 46 => 268 | 47 => 269 | 48 => 270 | 49 => 271 | 50 => 272 | 57 => 286 | n => n, fun | 22 => 181 | 24 => 102 | 25 => 233 | 3 => 3 | 39 => 171 | 0 => 0 | 53 => 38 | 55 => 65 | 4 => 4 | 46 => 324 | 45 => 323 | 50 => 328 | 5 => 5 | 9 => 9 | 66 => 356 | 70 => 307 | 76 => 368 | 77 => 369 | n => n, fun | n => n⟩
theorem Tryz.sortPc : Go.Proofs.SlLaysF0.n6 Tryz.prog Tryz.sortPc_ren := {
  mixed := by kernel_rfl
  f6 := ⟨Tryz.f157.name, by decide, Tryz.func157.trans (congrArg some (by kernel_rfl))⟩
  f14 := ⟨Tryz.f191.name, by decide, Tryz.func191.trans (congrArg some (by kernel_rfl))⟩
  f15 := Tryz.func192.trans (congrArg some (by kernel_rfl))
  f20 := ⟨Tryz.f220.name, by decide, Tryz.func220.trans (congrArg some (by kernel_rfl))⟩
  f21 := ⟨Tryz.f221.name, by decide, Tryz.func221.trans (congrArg some (by kernel_rfl))⟩
  f22 := ⟨Tryz.f222.name, by decide, Tryz.func222.trans (congrArg some (by kernel_rfl))⟩
  f23 := ⟨Tryz.f223.name, by decide, Tryz.func223.trans (congrArg some (by kernel_rfl))⟩
  f24 := ⟨Tryz.f224.name, by decide, Tryz.func224.trans (congrArg some (by kernel_rfl))⟩
  f25 := ⟨Tryz.f225.name, by decide, Tryz.func225.trans (congrArg some (by kernel_rfl))⟩
  f26 := ⟨Tryz.f226.name, by decide, Tryz.func226.trans (congrArg some (by kernel_rfl))⟩
  f27 := ⟨Tryz.f227.name, by decide, Tryz.func227.trans (congrArg some (by kernel_rfl))⟩
  f28 := Tryz.func228.trans (congrArg some (by kernel_rfl))
  f29 := Tryz.func229.trans (congrArg some (by kernel_rfl))
  f46 := ⟨Tryz.f268.name, by decide, Tryz.func268.trans (congrArg some (by kernel_rfl))⟩
  f47 := Tryz.func269.trans (congrArg some (by kernel_rfl))
  f48 := Tryz.func270.trans (congrArg some (by kernel_rfl))
  f49 := ⟨Tryz.f271.name, by decide, Tryz.func271.trans (congrArg some (by kernel_rfl))⟩
  f50 := ⟨Tryz.f272.name, by decide, Tryz.func272.trans (congrArg some (by kernel_rfl))⟩
  f57 := ⟨Tryz.f286.name, by decide, Tryz.func286.trans (congrArg some (by kernel_rfl))⟩
  t0 := Tryz.underlying0
  a0 := Tryz.isAgg0
  z0 := Tryz.sizeOf0
  v0 := Tryz.zeroValue0
  t3 := Tryz.underlying3
  a3 := Tryz.isAgg3
  z3 := Tryz.sizeOf3
  v3 := Tryz.zeroValue3
  t4 := Tryz.underlying4
  a4 := Tryz.isAgg4
  z4 := Tryz.sizeOf4
  v4 := Tryz.zeroValue4
  t5 := Tryz.underlying5
  a5 := Tryz.isAgg5
  z5 := Tryz.sizeOf5
  v5 := Tryz.zeroValue5
  t9 := Tryz.underlying9
  a9 := Tryz.isAgg9
  z9 := Tryz.sizeOf9
  v9 := Tryz.zeroValue9
  t22 := Tryz.underlying181
  a22 := Tryz.isAgg181
  z22 := Tryz.sizeOf181
  v22 := Tryz.zeroValue181
  t25 := Tryz.underlying233
  a25 := Tryz.isAgg233
  z25 := Tryz.sizeOf233
  v25 := Tryz.zeroValue233
  t39 := Tryz.underlying171
  a39 := Tryz.isAgg171
  z39 := Tryz.sizeOf171
  v39 := Tryz.zeroValue171
  t45 := Tryz.underlying323
  a45 := Tryz.isAgg323
  z45 := Tryz.sizeOf323
  v45 := Tryz.zeroValue323
  t46 := Tryz.underlying324
  a46 := Tryz.isAgg324
  z46 := Tryz.sizeOf324
  v46 := Tryz.zeroValue324
  t50 := Tryz.underlying328
  a50 := Tryz.isAgg328
  z50 := Tryz.sizeOf328
  v50 := Tryz.zeroValue328
  t53 := Tryz.underlying38
  a53 := Tryz.isAgg38
  z53 := Tryz.sizeOf38
  v53 := Tryz.zeroValue38
  t55 := Tryz.underlying65
  a55 := Tryz.isAgg65
  z55 := Tryz.sizeOf65
  v55 := Tryz.zeroValue65
  t66 := Tryz.underlying356
  a66 := Tryz.isAgg356
  z66 := Tryz.sizeOf356
  v66 := Tryz.zeroValue356
  t70 := Tryz.underlying307
  a70 := Tryz.isAgg307
  z70 := Tryz.sizeOf307
  v70 := Tryz.zeroValue307
  t76 := Tryz.underlying368
  a76 := Tryz.isAgg368
  z76 := Tryz.sizeOf368
  v76 := Tryz.zeroValue368
  t77 := Tryz.underlying369
  a77 := Tryz.isAgg369
  z77 := Tryz.sizeOf369
  v77 := Tryz.zeroValue369 }
def encL (x : Pc) : List Value := (pcV x).toList
theorem encL_one : ∀ x, ∀ v ∈ encL x, v.oneCell' = true := by
  intro x v hv
  simp [encL] at hv
  rcases hv with rfl | rfl | rfl | rfl | rfl | rfl | rfl | rfl | rfl <;> rfl
theorem ltP {x y : Pc} : ltOf cfP x y = true ↔ ¬ LeP y x := by unfold ltOf; rw [decide_eq_true_iff]; exact cfP_neg
theorem ltPf {x y : Pc} : ltOf cfP x y = false ↔ LeP y x := by
  have := @ltP x y
  cases h : ltOf cfP x y
  · rw [h] at this
    exact ⟨fun _ => Classical.byContradiction fun hn => (by simpa using this.2 hn), fun _ => rfl⟩
  · exact ⟨fun e => (by cases e), fun e => absurd e (this.1 h)⟩
theorem swoP : SWO (ltOf cfP) := {
  irrefl := fun x => ltPf.2 ((LeP.total x x).elim id id)
  trans := fun x y z h1 h2 => by
    rw [ltP] at *
    intro h3
    exact h1 (((LeP.total y z).resolve_right h2).trans h3)
  ntrans := fun x y z h1 h2 => by
    rw [ltPf] at *
    exact h2.trans h1 }
theorem flatP_get (l : List Pc) (t : Nat) (h : t < l.length * 9) : (flatP l)[t]? = some ((encL (l.toArray[t / 9]!))[t % 9]!) := by
  have hq : t / 9 < l.length := by omega
  have hm : t % 9 < 9 := by omega
  have hf := flatN (l := l.map fun x => (pcV x).toList) (n := 9) (by intro x hx; obtain ⟨p, _, rfl⟩ := List.mem_map.1 hx; rfl) (t / 9) (by simpa using hq)
  have e1 : (flatP l)[t]? = (((l.map fun x => (pcV x).toList).flatten.drop (t / 9 * 9)).take 9)[t % 9]? := by
    rw [List.getElem?_take_of_lt hm, List.getElem?_drop]
    unfold flatP
    congr 1
    omega
  rw [e1, hf, List.getD_eq_getElem?_getD, List.getElem?_map, List.getElem?_eq_getElem hq]
  have e2 : l.toArray[t / 9]! = l[t / 9] := by simp [hq]
  rw [e2]
  simp only [Option.map_some, Option.getD_some]
  rw [List.getElem?_eq_getElem (by exact hm)]
  unfold encL
  rw [getElem!_pos _ _ (by exact hm)]
theorem flatK_toList (d : Array Pc) : (flatK encL 9 d).toList = flatP d.toList := by
  apply List.ext_getElem?
  intro t
  by_cases h : t < d.size * 9
  · rw [flatP_get _ t (by simpa using h), Array.getElem?_toList, Array.getElem?_eq_getElem (by simpa using h)]
    have := get_flatK encL 9 d t h
    rw [getElem!_pos _ t (by simpa using h)] at this
    rw [this]
  · rw [List.getElem?_eq_none (by simpa using h), List.getElem?_eq_none (by rw [flatP_len]; simpa using h)]
theorem take_putCells (cur F : Array Value) (h : F.size ≤ cur.size) : (putCells id 0 F cur).toList.take F.size = F.toList := by
  apply List.ext_getElem?
  intro j
  by_cases hj : j < F.size
  · rw [List.getElem?_take_of_lt hj, Array.getElem?_toList]
    simp [putCells, hj, show j < cur.size by omega]
  · rw [List.getElem?_take_eq_none (by omega), List.getElem?_eq_none (by simp; omega)]
theorem heap_sortK {w : World} {g n : Nat} {os : Array Obj} {cur : Array Value} {e : TypeId} {fr : Nat × Nat} (d : Array Pc) (hb : w.heap[g]? = some (.cells cur e fr)) :
    (sortWorldK encL 9 w g 0 n d os).heap[g]? = some (.cells (putCells id 0 (flatK encL 9 d) cur) e fr) := by
  have hg : g < w.heap.size := (Array.getElem?_eq_some_iff.1 hb).1
  unfold sortWorldK
  rw [heap_grow_old _ _ (by simpa [putRowK] using hg)]
  simp [putRowK, putRow, mapBlock, Sort.ahead, Array.getElem?_modify, hb, onCells]
theorem grownBy_sortK {w : World} {g n : Nat} {os : Array Obj} (d : Array Pc) : w.grownBy (sortWorldK encL 9 w g 0 n d os) (some g) := by
  refine ⟨rfl, rfl, rfl, by simp [sortWorldK, putRowK], fun k hk hne => ?_⟩
  have : g ≠ k := fun e => hne (by rw [e])
  unfold sortWorldK
  rw [heap_grow_old _ _ (by simpa [putRowK] using hk)]
  simp [putRowK, putRow, mapBlock, Sort.ahead, Array.getElem?_modify, this]
theorem cmpLaysP (blk size : Nat) (w : World) : CmpLays Tryz.prog 127 #[] encL 9 cfP blk 0 size w := fun _ _ _ _ x y => compare127 x y _
theorem isAgg102' : ∀ w, (isAgg 102).run Tryz.prog w = .ok true w := fun w => by kernel_rfl
theorem sizeOf102' : ∀ w, (Go.sizeOf 102).run Tryz.prog w = .ok 9 w := fun w => by kernel_rfl
theorem sort157 {B n : Nat} {W w : World} {K : Blocks} {v : Value} {l : List Pc} (h : KO B W 102 9 v n (flatP l) K w) (hn : n = l.length) (hs : n < 1000) :
    Calls Tryz.prog 157 #[v, .func (.func 127) #[] #[]] w fun e w' => e = .returned (.tuple #[]) ∧ ∃ l', l'.Perm l ∧ SortedP l' ∧ KO B W 102 9 v n (flatP l') K w' := by
  rcases h.2 with ⟨rfl, rfl, hk⟩ | ⟨g, cap, cur, rfl, hcap, hmax, hsz, htk, hk⟩
  · have := AnyF.slices_SortFunc_none (P := Tryz.prog) (ρ := Tryz.sortPc_ren) Tryz.sortPc none 0 (.func (.func 127) #[] #[]) w
    refine Calls.mono (show Calls Tryz.prog 157 _ _ _ from this) ?_
    rintro e w' ⟨rfl, rfl⟩
    have hl : l = [] := List.length_eq_zero_iff.1 hn.symm
    subst hl
    exact ⟨rfl, [], .refl _, fun i j x y _ hx _ => (by simp at hx), h⟩
  · have hb := hk.get (g := g) (o := .cells cur 102) List.mem_cons_self
    have hsize : l.toArray.size = n := by simp [hn]
    have hH : HoldsK encL 9 w g 0 l.toArray := by
      intro j hj
      rw [size_flatK, hsize] at hj
      refine ⟨?_, free_at hb _⟩
      rw [cell_at hb, Nat.zero_add, id, get_flatK _ _ _ _ (by rw [hsize]; exact hj), ← flatP_get l j (by rw [← hn]; exact hj), ← htk, List.getElem?_take_of_lt hj, Array.getElem?_toList]
    have := AnyQ.slices_SortFunc (P := Tryz.prog) (ρ := Tryz.sortPc_ren) Tryz.sortPc 9 isAgg102' sizeOf102' encL (fun _ => rfl) encL_one cfP swoP 127 #[] g 0 cap l.toArray w (enters_of Tryz.func127 (by kernel_rfl) rfl) (cmpLaysP g _ w) hH (lt_of_heap hb) (by rw [hsize]; omega)
    rw [hsize] at this
    refine Calls.mono (show Calls Tryz.prog 157 _ _ _ from this) ?_
    rintro e w' ⟨rfl, d', m, os, hp, hso, rfl⟩
    have hds : d'.size = n := hp.1.trans hsize
    have hperm : d'.toList.Perm l := by
      have h2 := hp.2.2
      have a1 : d'.extract 0 n = d' := by rw [← hds]; simp
      have a2 : l.toArray.extract 0 n = l.toArray := by rw [← hsize]; simp
      rw [a1, a2] at h2
      simpa using h2
    have ho : (sortWorldK encL 9 w g 0 m d' os).ownsRow B 102 9 (.slice (some ⟨g, 0, none⟩) n cap) n (flatP d'.toList) := by
      refine ⟨by rw [flatP_len]; simp [hds], .inr ⟨g, cap, _, rfl, (hk.kept _ List.mem_cons_self).1, heap_sortK d' hb, hcap, hmax, by simp [putCells, hsz], ?_⟩⟩
      rw [← flatK_toList, show n * 9 = (flatK encL 9 d').size by rw [size_flatK, hds]]
      exact take_putCells _ _ (by rw [size_flatK, hds, hsz]; exact Nat.mul_le_mul_right 9 hcap)
    refine ⟨rfl, d'.toList, hperm, ?_, h.after ho (grownBy_sortK d') (.inl rfl)⟩
    intro i j x y hij hx hy
    have hj : j < d'.size := by
      have := (List.getElem?_eq_some_iff.1 hy).1
      simpa using this
    have h3 := hso i j (Nat.zero_le _) hij (by rw [← hds]; exact hj)
    rw [Array.getElem?_toList] at hx hy
    have ex : d'[i]! = x := by rw [getElem!_def, hx]
    have ey : d'[j]! = y := by rw [getElem!_def, hy]
    rw [ex, ey, ltPf] at h3
    exact h3
end Go.Proofs.YtlcbilknfjdceaaGreatDoor
end
