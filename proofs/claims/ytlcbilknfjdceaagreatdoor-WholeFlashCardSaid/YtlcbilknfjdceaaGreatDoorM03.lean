/-
  WholeFlash, part 3 of 44: Kw, Nor.
-/
import Derived.Lib.Hide
import Derived.WalkKit
import Derived.Below
import Derived.Laws.Rows
import Derived.Deep.QuietTactic
import Derived.BigQuiet
import Derived.Test.YtlcbilknfjdceaaGreatDoorRows
section
/-
  Blocks that a call knows, and what each step makes of them.
-/
set_option linter.unusedVariables false
set_option linter.unusedSimpArgs false
namespace Go.Proofs.YtlcbilknfjdceaaGreatDoor
open Go.RowKit Go.Lib

abbrev Blocks := List (Nat × Obj)
theorem lt_of_heap {w : World} {k : Nat} {o : Obj} (h : w.heap[k]? = some o) : k < w.heap.size := (Array.getElem?_eq_some_iff.1 h).1
theorem cell_at {w : World} {b : Nat} {cs : Array Value} {t : TypeId} {fr : Nat × Nat} (h : w.heap[b]? = some (.cells cs t fr)) (i : Nat) : w.cell? ⟨b, i, none⟩ = cs[i]? := cell_of_row w b i cs t fr h
theorem free_at {w : World} {b : Nat} {cs : Array Value} {t : TypeId} (h : w.heap[b]? = some (.cells cs t)) (i : Nat) : w.frozen? ⟨b, i, none⟩ = false := by simp [World.frozen?, h]

/-- Below B all is as in W; the blocks of K are as they say. -/
structure KW (B : Nat) (W : World) (K : Blocks) (w : World) : Prop where
  bel : Below B W w
  size : B ≤ w.heap.size
  kept : ∀ p ∈ K, B ≤ p.1 ∧ w.heap[p.1]? = some p.2
  nodup : (K.map (·.1)).Nodup

section
variable {B : Nat} {W w w' : World} {K : Blocks}
theorem KW.start {B : Nat} {W w : World} (h : Below B W w) (hB : B ≤ w.heap.size) : KW B W [] w := ⟨h, hB, fun p hp => (by cases hp), List.nodup_nil⟩
theorem KW.get (h : KW B W K w) {g : Nat} {o : Obj} (hp : (g, o) ∈ K) : w.heap[g]? = some o := (h.kept _ hp).2
theorem KW.keep (h : KW B W K w) (hk : ∀ (k : Nat) (o : Obj), w.heap[k]? = some o → w'.heap[k]? = some o) (hb : Below B w w') : KW B W K w' :=
  ⟨h.bel.trans hb, Nat.le_trans h.size hb.size, fun p hp => ⟨(h.kept p hp).1, hk _ _ (h.kept p hp).2⟩, h.nodup⟩
theorem KW.drew (h : KW B W K w) : KW B W K w.drew := h.keep (fun _ _ h => h) (Below.refl _ _).drew
theorem KW.alloc (h : KW B W K w) (o : Obj) : KW B W K (w.alloc o) :=
  h.keep (fun k x hx => by rw [Below.heap_alloc w o k (lt_of_heap hx)]; exact hx) ((Below.refl _ _).alloc h.size o)
theorem KW.grown (h : KW B W K w) (hb : Below w.heap.size w w') : KW B W K w' :=
  h.keep (fun k x hx => by rw [hb.block k (lt_of_heap hx)]; exact hx) (hb.mono h.size)
theorem KW.push (h : KW B W K w) (o : Obj) : KW B W ((w.heap.size, o) :: K) (w.alloc o) :=
  ⟨(h.alloc o).bel, (h.alloc o).size, fun p hp => by
    rcases List.mem_cons.1 hp with rfl | hp
    · exact ⟨h.size, heap_alloc_new w o⟩
    · exact (h.alloc o).kept p hp, by
    rw [List.map_cons, List.nodup_cons]
    refine ⟨fun hm => ?_, h.nodup⟩
    obtain ⟨p, hp, e⟩ := List.mem_map.1 hm
    have := lt_of_heap (h.kept p hp).2
    omega⟩
theorem KW.perm {K' : Blocks} (h : KW B W K w) (hp : K.Perm K') : KW B W K' w :=
  ⟨h.bel, h.size, fun p hq => h.kept p (hp.mem_iff.2 hq), (hp.map _).nodup_iff.1 h.nodup⟩
theorem KW.tail {p : Nat × Obj} (h : KW B W (p :: K) w) : KW B W K w := ⟨h.bel, h.size, fun q hq => h.kept q (List.mem_cons_of_mem _ hq), (List.nodup_cons.1 h.nodup).2⟩
theorem KW.row {g : Nat} {t : TypeId} {cs vs : Array Value} (h : KW B W ((g, .cells cs t) :: K) w) : KW B W ((g, .cells vs t) :: K) (w.setRow g vs) := by
  have hg := h.kept _ List.mem_cons_self
  have hn := (List.nodup_cons.1 h.nodup).1
  refine ⟨h.bel.trans ⟨rfl, rfl, rfl, by simp [World.setRow], fun k hk => setRow_other w g k vs (fun e => by have := hg.1; simp only at this; omega)⟩, by simp [World.setRow]; exact h.size, fun p hp => ?_, h.nodup⟩
  rcases List.mem_cons.1 hp with rfl | hp
  · exact ⟨hg.1, setRow_heap w g cs vs t _ hg.2⟩
  · refine ⟨(h.kept p (List.mem_cons_of_mem _ hp)).1, ?_⟩
    rw [setRow_other w g p.1 vs fun e => hn (List.mem_map.2 ⟨p, hp, e⟩)]
    exact (h.kept p (List.mem_cons_of_mem _ hp)).2
theorem KW.cell {g i : Nat} {t : TypeId} {cs vs : Array Value} {x : Value} (h : KW B W ((g, .cells cs t) :: K) w) (hv : cs.setIfInBounds i x = vs) : KW B W ((g, .cells vs t) :: K) (w.setCell ⟨g, i, none⟩ x) := by
  rw [setCell_eq_setRow w g i cs t (0, 0) x (h.get List.mem_cons_self), hv]
  exact h.row
theorem KW.swap {p q : Nat × Obj} (h : KW B W (p :: q :: K) w) : KW B W (q :: p :: K) w := h.perm (List.Perm.swap _ _ _)
theorem KW.rot {p q r : Nat × Obj} (h : KW B W (p :: q :: r :: K) w) : KW B W (r :: p :: q :: K) w := h.perm (((List.Perm.swap r q K).cons p).trans (List.Perm.swap r p (q :: K)))
end

end Go.Proofs.YtlcbilknfjdceaaGreatDoor
end
section
/-
  A chip of five blocks: its blocks of memory, and the functions that only read of it.
-/
set_option linter.unusedVariables false
set_option linter.unusedSimpArgs false
namespace Go.Proofs.YtlcbilknfjdceaaGreatDoor
open Go.RowKit Go.Lib

/-- A chip that has power: its 320 words, how often each of its five blocks was erased, how often each may be. -/
structure Ch where
  ws : List Int
  wear : List Int
  endure : Int
structure Ch.Ok (C : Ch) : Prop where
  hw : C.ws.length = 320
  hr : C.wear.length = 5
/-- Where a chip lies: its struct, its words, its wear, and what room these have, and what lies behind the words. -/
structure At where
  c : Nat
  w : Nat
  v : Nat
  n : Nat
  m : Nat
  sp : Array Value
def ints (k : IntKind) (l : List Int) : Array Value := (l.map (Value.int k)).toArray
theorem ints_at {k : IntKind} {l : List Int} {i : Nat} (h : i < l.length) : (ints k l)[i]? = some (.int k (l.getD i 0)) := by
  unfold ints
  simp [List.getD, h]
theorem ints_set {k : IntKind} {l : List Int} {i : Nat} {x : Int} : (ints k l).setIfInBounds i (.int k x) = ints k (l.set i x) := by
  unfold ints
  apply Array.ext'
  simp [List.map_set]
theorem ints_at' {k : IntKind} {l : List Int} {sp : Array Value} {i : Nat} (h : i < l.length) : (ints k l ++ sp)[i]? = some (.int k (l.getD i 0)) := by
  rw [Array.getElem?_append_left (by unfold ints; simpa using h), ints_at h]
theorem ints_set' {k : IntKind} {l : List Int} {sp : Array Value} {i : Nat} {x : Int} (h : i < l.length) : (ints k l ++ sp).setIfInBounds i (.int k x) = ints k (l.set i x) ++ sp := by
  unfold ints
  apply Array.ext'
  simp [List.map_set, List.set_append, h]
abbrev chO (C : Ch) (a : At) : Obj := .cells #[.slice (some ⟨a.w, 0, none⟩) 320 a.n, .slice (some ⟨a.v, 0, none⟩) 5 a.m, .int .i64 C.endure, .int .i64 0, .int .u32 0, .bool false] 92
abbrev chK (C : Ch) (a : At) : Blocks := [(a.c, chO C a), (a.w, .cells (ints .u32 C.ws ++ a.sp) 38), (a.v, .cells (ints .i64 C.wear) 3)]
section
variable {B : Nat} {W w : World} {K : Blocks} {C : Ch} {a : At}
theorem blocks_calls (h : KW B W (chK C a ++ K) w) : Calls Tryz.prog 28 #[.pointer (some ⟨a.c, 0, none⟩)] w fun e w' => e = .returned (.int .i64 5) ∧ w = w' := by
  have m1 : w.cell? ⟨a.c, 1, none⟩ = some (.slice (some ⟨a.v, 0, none⟩) 5 a.m) := cell_at (h.get (g := a.c) (o := chO C a) (by simp)) 1
  clear h
  go_enter Tryz.func28, Tryz.ntmps28
  go_wp2
  go_ret
  exact ⟨rfl, rfl⟩
theorem up_calls (h : KW B W (chK C a ++ K) w) : Calls Tryz.prog 43 #[.pointer (some ⟨a.c, 0, none⟩)] w fun e w' => e = .returned (.bool true) ∧ w = w' := by
  have m5 : w.cell? ⟨a.c, 5, none⟩ = some (.bool false) := cell_at (h.get (g := a.c) (o := chO C a) (by simp)) 5
  have H := _root_.Go.Lib.hid h
  clear h
  go_enter Tryz.func43, Tryz.ntmps43
  go_wp2_with (go_at_call 28; refine (blocks_calls H.out).mono ?_; rintro e w' ⟨rfl, rfl⟩)
  go_ret
  exact ⟨rfl, rfl⟩
theorem check_calls (h : KW B W (chK C a ++ K) w) (i each : Int) (he : each = 64 ∨ each = 1) (h0 : 0 ≤ i) (h1 : i < 5 * each) : Calls Tryz.prog 142 #[.pointer (some ⟨a.c, 0, none⟩), .int .i64 i, .int .i64 each] w fun e w' => e = .returned (.int .i64 0) ∧ w = w' := by
  have m5 : w.cell? ⟨a.c, 5, none⟩ = some (.bool false) := cell_at (h.get (g := a.c) (o := chO C a) (by simp)) 5
  have H := _root_.Go.Lib.hid h
  clear h
  rcases he with rfl | rfl
  · have g0 : (i < 0) = False := eq_false (by omega)
    have g1 : (i ≥ 320) = False := eq_false (by omega)
    clear h0 h1
    go_enter Tryz.func142, Tryz.ntmps142
    go_wp2_with (go_at_call 28; refine (blocks_calls H.out).mono ?_; rintro e w' ⟨rfl, rfl⟩)
    go_ret
    exact ⟨rfl, rfl⟩
  · have g0 : (i < 0) = False := eq_false (by omega)
    have g1 : (i ≥ 5) = False := eq_false (by omega)
    clear h0 h1
    go_enter Tryz.func142, Tryz.ntmps142
    go_wp2_with (go_at_call 28; refine (blocks_calls H.out).mono ?_; rintro e w' ⟨rfl, rfl⟩)
    go_ret
    exact ⟨rfl, rfl⟩
theorem cread_calls (h : KW B W (chK C a ++ K) w) (ho : C.Ok) (i : Nat) (hi : i < 320) : Calls Tryz.prog 107 #[.pointer (some ⟨a.c, 0, none⟩), .int .i64 (i : Int)] w fun e w' => e = .returned (.tuple #[.int .u32 (C.ws.getD i 0), .int .i64 0]) ∧ w = w' := by
  have m0 : w.cell? ⟨a.c, 0, none⟩ = some (.slice (some ⟨a.w, 0, none⟩) 320 a.n) := cell_at (h.get (g := a.c) (o := chO C a) (by simp)) 0
  have mi : w.cell? ⟨a.w, i, none⟩ = some (.int .u32 (C.ws.getD i 0)) := by
    rw [cell_at (h.get (g := a.w) (o := .cells (ints .u32 C.ws ++ a.sp) 38) (by simp)) i]
    exact ints_at' (by rw [ho.hw]; exact hi)
  have H := _root_.Go.Lib.hid h
  clear h
  generalize C.ws.getD i 0 = x at mi ⊢
  have HI := _root_.Go.Lib.hid hi
  go_enter Tryz.func107, Tryz.ntmps107
  go_wp2_with (go_at_call 142; refine (check_calls H.out (i : Int) 64 (.inl rfl) (by omega) (by have := HI.out; omega)).mono ?_; rintro e w' ⟨rfl, rfl⟩)
  refine bodyPost_ret (v := .tuple #[.int .u32 x, .int .i64 0]) (by simp [results, Tryz.results107, Sem.run_bind, Result.andThen]) rfl ⟨rfl, rfl⟩
/-- What change makes of n words from i on. -/
def chg (f : Int → Int) (l : List Int) (i : Nat) : Nat → List Int
  | 0 => l
  | n + 1 => (chg f l i n).set (i + n) (f (l.getD (i + n) 0))
theorem chg_len (f : Int → Int) (l : List Int) (i : Nat) : ∀ n, (chg f l i n).length = l.length
  | 0 => rfl
  | n + 1 => by unfold chg; rw [List.length_set, chg_len f l i n]
theorem chg_past (f : Int → Int) (l : List Int) (i : Nat) : ∀ n j, i + n ≤ j → (chg f l i n).getD j 0 = l.getD j 0
  | 0, _, _ => rfl
  | n + 1, j, h => by
    unfold chg
    rw [List.getD_eq_getElem?_getD, List.getElem?_set_ne (by omega), ← List.getD_eq_getElem?_getD, chg_past f l i n j (by omega)]
abbrev Ch.put (C : Ch) (l : List Int) : Ch := { C with ws := l }
theorem KW.second {p : Nat × Obj} {g : Nat} {t : TypeId} {cs vs : Array Value} {i : Nat} {x : Value} (h : KW B W (p :: (g, .cells cs t) :: K) w) (hv : cs.setIfInBounds i x = vs) : KW B W (p :: (g, .cells vs t) :: K) (w.setCell ⟨g, i, none⟩ x) := (h.swap.cell hv).swap
theorem KW.third {p q : Nat × Obj} {g : Nat} {t : TypeId} {cs vs : Array Value} {i : Nat} {x : Value} (h : KW B W (p :: q :: (g, .cells cs t) :: K) w) (hv : cs.setIfInBounds i x = vs) : KW B W (p :: q :: (g, .cells vs t) :: K) (w.setCell ⟨g, i, none⟩ x) := ((h.rot.cell hv).rot.rot)
end
end Go.Proofs.YtlcbilknfjdceaaGreatDoor
end
