/-
  WholeFlash, part 34 of 44: Stepd, Stepe, Stepf, Stepg.
-/
import Derived.Test.YtlcbilknfjdceaaGreatDoorM33
section
/-
  A word is told apart: small functions.
-/
set_option linter.unusedVariables false
set_option linter.unusedSimpArgs false
set_option maxRecDepth 100000
namespace Go.Proofs.YtlcbilknfjdceaaGreatDoor
open Go.RowKit Go.Lib Go.Sort
abbrev sD1 : Value := .string { data := #[100, 49] }
abbrev sd : Value := .string { data := #[100] }
theorem byte293d (w : World) : Calls Tryz.prog 293 #[sD1, .int .u8 100] w fun e w' => e = .returned (.int .i64 0) ∧ w' = w := by
  have hx : ∀ w, (callFunc 297 #[sD1, .int .u8 100]).run Tryz.prog w = .ok (.value (.int .i64 0)) w := fun w => by kernel_rfl
  go_enter Tryz.func293, Tryz.ntmps293
  go_wp2_with fail
  go_ret
  exact ⟨rfl, rfl⟩
theorem index292d (w : World) : Calls Tryz.prog 292 #[sD1, sd] w fun e w' => e = .returned (.int .i64 0) ∧ w' = w := by
  go_enter Tryz.func292, Tryz.ntmps292
  go_wp2_with (go_at_call 293; refine (byte293d _).mono ?_; rintro e w1 ⟨rfl, rfl⟩)
  go_ret
  exact ⟨rfl, rfl⟩
theorem index281d (w : World) : Calls Tryz.prog 281 #[sD1, sd] w fun e w' => e = .returned (.int .i64 0) ∧ w' = w := by
  go_enter Tryz.func281, Tryz.ntmps281
  go_wp2_with (go_at_call 292; refine (index292d _).mono ?_; rintro e w1 ⟨rfl, rfl⟩)
  go_ret
  exact ⟨rfl, rfl⟩
theorem contains241d (w : World) : Calls Tryz.prog 241 #[sD1, sd] w fun e w' => e = .returned (.bool true) ∧ w' = w := by
  go_enter Tryz.func241, Tryz.ntmps241
  go_wp2_with (go_at_call 281; refine (index281d _).mono ?_; rintro e w1 ⟨rfl, rfl⟩)
  go_ret
  exact ⟨rfl, rfl⟩
abbrev sa : Value := .string { data := #[49] }
theorem byte293a (w : World) : Calls Tryz.prog 293 #[sD1, .int .u8 49] w fun e w' => e = .returned (.int .i64 1) ∧ w' = w := by
  have hx : ∀ w, (callFunc 297 #[sD1, .int .u8 49]).run Tryz.prog w = .ok (.value (.int .i64 1)) w := fun w => by kernel_rfl
  go_enter Tryz.func293, Tryz.ntmps293
  go_wp2_with fail
  go_ret
  exact ⟨rfl, rfl⟩
theorem index292a (w : World) : Calls Tryz.prog 292 #[sD1, sa] w fun e w' => e = .returned (.int .i64 1) ∧ w' = w := by
  go_enter Tryz.func292, Tryz.ntmps292
  go_wp2_with (go_at_call 293; refine (byte293a _).mono ?_; rintro e w1 ⟨rfl, rfl⟩)
  go_ret
  exact ⟨rfl, rfl⟩
theorem index281a (w : World) : Calls Tryz.prog 281 #[sD1, sa] w fun e w' => e = .returned (.int .i64 1) ∧ w' = w := by
  go_enter Tryz.func281, Tryz.ntmps281
  go_wp2_with (go_at_call 292; refine (index292a _).mono ?_; rintro e w1 ⟨rfl, rfl⟩)
  go_ret
  exact ⟨rfl, rfl⟩
theorem contains241a (w : World) : Calls Tryz.prog 241 #[sD1, sa] w fun e w' => e = .returned (.bool true) ∧ w' = w := by
  go_enter Tryz.func241, Tryz.ntmps241
  go_wp2_with (go_at_call 281; refine (index281a _).mono ?_; rintro e w1 ⟨rfl, rfl⟩)
  go_ret
  exact ⟨rfl, rfl⟩
abbrev se : Value := .string { data := #[50] }
theorem byte293e (w : World) : Calls Tryz.prog 293 #[sD1, .int .u8 50] w fun e w' => e = .returned (.int .i64 (-1)) ∧ w' = w := by
  have hx : ∀ w, (callFunc 297 #[sD1, .int .u8 50]).run Tryz.prog w = .ok (.value (.int .i64 (-1))) w := fun w => by kernel_rfl
  go_enter Tryz.func293, Tryz.ntmps293
  go_wp2_with fail
  go_ret
  exact ⟨rfl, rfl⟩
theorem index292e (w : World) : Calls Tryz.prog 292 #[sD1, se] w fun e w' => e = .returned (.int .i64 (-1)) ∧ w' = w := by
  go_enter Tryz.func292, Tryz.ntmps292
  go_wp2_with (go_at_call 293; refine (byte293e _).mono ?_; rintro e w1 ⟨rfl, rfl⟩)
  go_ret
  exact ⟨rfl, rfl⟩
theorem index281e (w : World) : Calls Tryz.prog 281 #[sD1, se] w fun e w' => e = .returned (.int .i64 (-1)) ∧ w' = w := by
  go_enter Tryz.func281, Tryz.ntmps281
  go_wp2_with (go_at_call 292; refine (index292e _).mono ?_; rintro e w1 ⟨rfl, rfl⟩)
  go_ret
  exact ⟨rfl, rfl⟩
theorem contains241e (w : World) : Calls Tryz.prog 241 #[sD1, se] w fun e w' => e = .returned (.bool false) ∧ w' = w := by
  go_enter Tryz.func241, Tryz.ntmps241
  go_wp2_with (go_at_call 281; refine (index281e _).mono ?_; rintro e w1 ⟨rfl, rfl⟩)
  go_ret
  exact ⟨rfl, rfl⟩
end Go.Proofs.YtlcbilknfjdceaaGreatDoor
end
section
/-
  The shapes of the words.
-/
set_option linter.unusedVariables false
set_option linter.unusedSimpArgs false
set_option maxRecDepth 100000
namespace Go.Proofs.YtlcbilknfjdceaaGreatDoor
open Go.RowKit Go.Lib Go.Sort
theorem size287 : (Tryz.prog.info? 287).map (·.size) = some 4 := by kernel_rfl
theorem results176 {tmps : Array Value} {w : World} {rb : Nat} {a b c d : Value} {t : TypeId} (h2 : tmps.getD 2 undef = .pointer (some ⟨rb, 0, none⟩)) (hg : w.heap[rb]? = some (.cells #[a, b, c, d] t)) :
    (results Tryz.f176 tmps).run Tryz.prog w = .ok (.agg #[a, b, c, d]) w := by
  have hl : (Instr.loadAt 287 (.pointer (some ⟨rb, 0, none⟩))).run Tryz.prog w = .ok (.agg #[a, b, c, d]) w := Mem.run_loadAt_part (by rfl) Tryz.underlying287 hg (by rw [size287]; rfl) rfl
  rw [Array.getD_eq_getD_getElem?] at h2
  simp only [Instr.loadAt, Instr.sureAddr, pure_bind] at hl
  simp [results, h2, Result.andThen, asAddr, hl]
abbrev formZ : Obj := .cells #[.int .u32 0, .string { data := #[] }, .int .i64 0, .slice none 0 0] 287
theorem shape176U (w : World) : Calls Tryz.prog 176 #[.int .u8 85] w fun e w' => ∃ g, e = .returned (.agg #[.int .u32 127, .string { data := #[100] }, .int .i64 0, .slice (some ⟨g, 0, none⟩) 1 1]) ∧ w.heap.size ≤ g ∧ w'.heap[g]? = some (.cells #[.int .i64 12, .int .i64 20, .int .i64 12] 305) ∧ Below w.heap.size w w' := by
  obtain ⟨p, hp⟩ : ∃ p, p = w.heap.size + 1 := ⟨_, rfl⟩
  have h2 := ((KW.start (Below.refl w.heap.size w) (Nat.le_refl _)).push (.cells #[.int .u32 127, .string { data := #[100] }, .int .i64 0, .slice (some ⟨p, 0, none⟩) 1 1] 287)).push (.cells #[.int .i64 12, .int .i64 20, .int .i64 12] 305)
  rw [size_al, ← hp] at h2
  have H := _root_.Go.Lib.hid (And.intro h2 hp)
  clear h2 hp
  go_enter Tryz.func176, Tryz.ntmps176
  go_wp2_with fail
  obtain ⟨h2, hp⟩ := H.out
  rw [← hp]
  generalize World.alloc (World.alloc w _) _ = w4 at h2 ⊢
  refine bodyPost_ret (v := .agg #[.int .u32 127, .string { data := #[100] }, .int .i64 0, .slice (some ⟨p, 0, none⟩) 1 1]) (results176 rfl (h2.get (g := w.heap.size) (o := .cells #[.int .u32 127, .string { data := #[100] }, .int .i64 0, .slice (some ⟨p, 0, none⟩) 1 1] 287) (by simp))) rfl ⟨p, rfl, by omega, h2.get (g := p) (o := .cells #[.int .i64 12, .int .i64 20, .int .i64 12] 305) (by simp), h2.bel⟩
theorem shape176J (w : World) : Calls Tryz.prog 176 #[.int .u8 74] w fun e w' => ∃ g, e = .returned (.agg #[.int .u32 127, .string { data := #[100] }, .int .i64 21, .slice (some ⟨g, 0, none⟩) 4 4]) ∧ w.heap.size ≤ g ∧ w'.heap[g]? = some (.cells #[.int .i64 31, .int .i64 1, .int .i64 20, .int .i64 12, .int .i64 8, .int .i64 12, .int .i64 20, .int .i64 1, .int .i64 11, .int .i64 21, .int .i64 10, .int .i64 1] 305) ∧ Below w.heap.size w w' := by
  obtain ⟨p, hp⟩ : ∃ p, p = w.heap.size + 1 := ⟨_, rfl⟩
  have h2 := ((KW.start (Below.refl w.heap.size w) (Nat.le_refl _)).push (.cells #[.int .u32 127, .string { data := #[100] }, .int .i64 21, .slice (some ⟨p, 0, none⟩) 4 4] 287)).push (.cells #[.int .i64 31, .int .i64 1, .int .i64 20, .int .i64 12, .int .i64 8, .int .i64 12, .int .i64 20, .int .i64 1, .int .i64 11, .int .i64 21, .int .i64 10, .int .i64 1] 305)
  rw [size_al, ← hp] at h2
  have H := _root_.Go.Lib.hid (And.intro h2 hp)
  clear h2 hp
  go_enter Tryz.func176, Tryz.ntmps176
  go_wp2_with fail
  obtain ⟨h2, hp⟩ := H.out
  rw [← hp]
  generalize World.alloc (World.alloc w _) _ = w4 at h2 ⊢
  refine bodyPost_ret (v := .agg #[.int .u32 127, .string { data := #[100] }, .int .i64 21, .slice (some ⟨p, 0, none⟩) 4 4]) (results176 rfl (h2.get (g := w.heap.size) (o := .cells #[.int .u32 127, .string { data := #[100] }, .int .i64 21, .slice (some ⟨p, 0, none⟩) 4 4] 287) (by simp))) rfl ⟨p, rfl, by omega, h2.get (g := p) (o := .cells #[.int .i64 31, .int .i64 1, .int .i64 20, .int .i64 12, .int .i64 8, .int .i64 12, .int .i64 20, .int .i64 1, .int .i64 11, .int .i64 21, .int .i64 10, .int .i64 1] 305) (by simp), h2.bel⟩
theorem shape176I (w : World) : Calls Tryz.prog 176 #[.int .u8 73] w fun e w' => ∃ g, e = .returned (.agg #[.int .u32 28799, .string { data := #[100, 49] }, .int .i64 12, .slice (some ⟨g, 0, none⟩) 1 1]) ∧ w.heap.size ≤ g ∧ w'.heap[g]? = some (.cells #[.int .i64 20, .int .i64 12, .int .i64 0] 305) ∧ Below w.heap.size w w' := by
  obtain ⟨p, hp⟩ : ∃ p, p = w.heap.size + 1 := ⟨_, rfl⟩
  have h2 := ((KW.start (Below.refl w.heap.size w) (Nat.le_refl _)).push (.cells #[.int .u32 28799, .string { data := #[100, 49] }, .int .i64 12, .slice (some ⟨p, 0, none⟩) 1 1] 287)).push (.cells #[.int .i64 20, .int .i64 12, .int .i64 0] 305)
  rw [size_al, ← hp] at h2
  have H := _root_.Go.Lib.hid (And.intro h2 hp)
  clear h2 hp
  go_enter Tryz.func176, Tryz.ntmps176
  go_wp2_with fail
  obtain ⟨h2, hp⟩ := H.out
  rw [← hp]
  generalize World.alloc (World.alloc w _) _ = w4 at h2 ⊢
  refine bodyPost_ret (v := .agg #[.int .u32 28799, .string { data := #[100, 49] }, .int .i64 12, .slice (some ⟨p, 0, none⟩) 1 1]) (results176 rfl (h2.get (g := w.heap.size) (o := .cells #[.int .u32 28799, .string { data := #[100, 49] }, .int .i64 12, .slice (some ⟨p, 0, none⟩) 1 1] 287) (by simp))) rfl ⟨p, rfl, by omega, h2.get (g := p) (o := .cells #[.int .i64 20, .int .i64 12, .int .i64 0] 305) (by simp), h2.bel⟩
theorem shape176B (w : World) : Calls Tryz.prog 176 #[.int .u8 66] w fun e w' => ∃ g, e = .returned (.agg #[.int .u32 28799, .string { data := #[49, 50] }, .int .i64 13, .slice (some ⟨g, 0, none⟩) 4 4]) ∧ w.heap.size ≤ g ∧ w'.heap[g]? = some (.cells #[.int .i64 31, .int .i64 1, .int .i64 12, .int .i64 7, .int .i64 1, .int .i64 11, .int .i64 25, .int .i64 6, .int .i64 5, .int .i64 8, .int .i64 4, .int .i64 1] 305) ∧ Below w.heap.size w w' := by
  obtain ⟨p, hp⟩ : ∃ p, p = w.heap.size + 1 := ⟨_, rfl⟩
  have h2 := ((KW.start (Below.refl w.heap.size w) (Nat.le_refl _)).push (.cells #[.int .u32 28799, .string { data := #[49, 50] }, .int .i64 13, .slice (some ⟨p, 0, none⟩) 4 4] 287)).push (.cells #[.int .i64 31, .int .i64 1, .int .i64 12, .int .i64 7, .int .i64 1, .int .i64 11, .int .i64 25, .int .i64 6, .int .i64 5, .int .i64 8, .int .i64 4, .int .i64 1] 305)
  rw [size_al, ← hp] at h2
  have H := _root_.Go.Lib.hid (And.intro h2 hp)
  clear h2 hp
  go_enter Tryz.func176, Tryz.ntmps176
  go_wp2_with fail
  obtain ⟨h2, hp⟩ := H.out
  rw [← hp]
  generalize World.alloc (World.alloc w _) _ = w4 at h2 ⊢
  refine bodyPost_ret (v := .agg #[.int .u32 28799, .string { data := #[49, 50] }, .int .i64 13, .slice (some ⟨p, 0, none⟩) 4 4]) (results176 rfl (h2.get (g := w.heap.size) (o := .cells #[.int .u32 28799, .string { data := #[49, 50] }, .int .i64 13, .slice (some ⟨p, 0, none⟩) 4 4] 287) (by simp))) rfl ⟨p, rfl, by omega, h2.get (g := p) (o := .cells #[.int .i64 31, .int .i64 1, .int .i64 12, .int .i64 7, .int .i64 1, .int .i64 11, .int .i64 25, .int .i64 6, .int .i64 5, .int .i64 8, .int .i64 4, .int .i64 1] 305) (by simp), h2.bel⟩
theorem shape176S (w : World) : Calls Tryz.prog 176 #[.int .u8 83] w fun e w' => ∃ g, e = .returned (.agg #[.int .u32 28799, .string { data := #[49, 50] }, .int .i64 12, .slice (some ⟨g, 0, none⟩) 2 2]) ∧ w.heap.size ≤ g ∧ w'.heap[g]? = some (.cells #[.int .i64 25, .int .i64 7, .int .i64 5, .int .i64 7, .int .i64 5, .int .i64 0] 305) ∧ Below w.heap.size w w' := by
  obtain ⟨p, hp⟩ : ∃ p, p = w.heap.size + 1 := ⟨_, rfl⟩
  have h2 := ((KW.start (Below.refl w.heap.size w) (Nat.le_refl _)).push (.cells #[.int .u32 28799, .string { data := #[49, 50] }, .int .i64 12, .slice (some ⟨p, 0, none⟩) 2 2] 287)).push (.cells #[.int .i64 25, .int .i64 7, .int .i64 5, .int .i64 7, .int .i64 5, .int .i64 0] 305)
  rw [size_al, ← hp] at h2
  have H := _root_.Go.Lib.hid (And.intro h2 hp)
  clear h2 hp
  go_enter Tryz.func176, Tryz.ntmps176
  go_wp2_with fail
  obtain ⟨h2, hp⟩ := H.out
  rw [← hp]
  generalize World.alloc (World.alloc w _) _ = w4 at h2 ⊢
  refine bodyPost_ret (v := .agg #[.int .u32 28799, .string { data := #[49, 50] }, .int .i64 12, .slice (some ⟨p, 0, none⟩) 2 2]) (results176 rfl (h2.get (g := w.heap.size) (o := .cells #[.int .u32 28799, .string { data := #[49, 50] }, .int .i64 12, .slice (some ⟨p, 0, none⟩) 2 2] 287) (by simp))) rfl ⟨p, rfl, by omega, h2.get (g := p) (o := .cells #[.int .i64 25, .int .i64 7, .int .i64 5, .int .i64 7, .int .i64 5, .int .i64 0] 305) (by simp), h2.bel⟩
end Go.Proofs.YtlcbilknfjdceaaGreatDoor
end
section
/-
  The rows of the words. A region that calls nothing, run as it stands.
-/
set_option linter.unusedVariables false
set_option linter.unusedSimpArgs false
set_option maxRecDepth 100000
namespace Go.Proofs.YtlcbilknfjdceaaGreatDoor
open Go.RowKit Go.Lib Go.Sort
section
variable {P : Program} {ops : Array Oper} {Q : Exit → Act → World → Prop}
/-- The operations one by one; none is guarded, none calls. -/
def runL (P : Program) : List Oper → Act → World → Option (Act × World)
  | [], a, w => some (a, w)
  | o :: l, a, w => match o.guard with
    | some _ => none
    | none => match (execOp a.eval o).run P w with
      | .ok (.value v) w' => runL P l (a.put o.dst v) w'
      | .ok .skip w' => runL P l (a.put o.dst undef) w'
      | _ => none
theorem wpList_runL : ∀ (l : List Oper) (a : Act) (w : World) {a' : Act} {w' : World}, runL P l a w = some (a', w') → Q .normal a' w' → wpList P ops Q l a w
  | [], a, w, a', w', h, hQ => by
    simp only [runL, Option.some.injEq, Prod.mk.injEq] at h
    obtain ⟨rfl, rfl⟩ := h
    exact wpList_nil hQ
  | o :: l, a, w, a', w', h, hQ => by
    rw [runL] at h
    split at h
    · cases h
    · rename_i hg
      split at h
      · rename_i v w1 hr
        exact Mem.wpList_run hg hr (wpList_runL l _ _ h hQ)
      · rename_i w1 hr
        exact Mem.wpList_skip hg hr (wpList_runL l _ _ h hQ)
      · cases h
theorem wp_region_runL {id : Nat} {a a' : Act} {w w' : World} (h : runL P ops.toList a w = some (a', w')) (hQ : Q .normal a' w') : (Code.region id ops false).wp P Q a w := wp_region_list (wpList_runL _ _ _ h hQ)
theorem wp_region_run1 {id : Nat} {a : Act} {w w' : World} (t : Nat) (v : Value) (h : (runL P ops.toList a w).map (fun x => (x.1.tmps[t]?, x.1.defers, x.2)) = some (some v, [], w')) (hQ : ∀ a' : Act, a'.tmps[t]? = some v → a'.defers = [] → Q .normal a' w') : (Code.region id ops false).wp P Q a w := by
  cases hr : runL P ops.toList a w with
  | none => rw [hr] at h; cases h
  | some x =>
    rw [hr] at h
    simp only [Option.map_some, Option.some.injEq, Prod.mk.injEq] at h
    obtain ⟨h1, h2, h3⟩ := h
    exact wp_region_runL (a' := x.1) (w' := w') (by rw [hr, ← h3]) (hQ _ h1 h2)
end
def rowsL : List (Int × Int) := [(55, 85), (23, 85), (111, 74), (103, 73), (99, 66), (4195, 66), (16483, 66), (20579, 66), (24675, 66), (28771, 66), (3, 73), (4099, 73), (8195, 73), (16387, 73), (20483, 73), (35, 83), (4131, 83), (8227, 83), (19, 73), (8211, 73), (12307, 73), (16403, 73), (24595, 73), (28691, 73), (4115, 72), (20499, 72), (1073762323, 72), (51, 82), (1073741875, 82), (4147, 82), (8243, 82), (12339, 82), (16435, 82), (20531, 82), (1073762355, 82), (24627, 82), (28723, 82), (33554483, 82), (33558579, 82), (33562675, 82), (33566771, 82), (33570867, 82), (33574963, 82), (33579059, 82), (33583155, 82), (268443695, 76), (402661423, 65), (134225967, 65), (8239, 65), (536879151, 65), (1610620975, 65), (1073750063, 65), (2147491887, 65), (2684362799, 65), (3221233711, 65), (3758104623, 65), (15, 70), (115, 69), (1048691, 69), (807403635, 69), (270532723, 69), (273678451, 69), (301990003, 86), (4211, 67), (8307, 67), (12403, 67), (20595, 67), (24691, 67), (28787, 67)]
def rowsV : Array Value := #[.int .u32 55, .int .u8 85, .int .u32 23, .int .u8 85, .int .u32 111, .int .u8 74, .int .u32 103, .int .u8 73, .int .u32 99, .int .u8 66, .int .u32 4195, .int .u8 66, .int .u32 16483, .int .u8 66, .int .u32 20579, .int .u8 66, .int .u32 24675, .int .u8 66, .int .u32 28771, .int .u8 66, .int .u32 3, .int .u8 73, .int .u32 4099, .int .u8 73, .int .u32 8195, .int .u8 73, .int .u32 16387, .int .u8 73, .int .u32 20483, .int .u8 73, .int .u32 35, .int .u8 83, .int .u32 4131, .int .u8 83, .int .u32 8227, .int .u8 83, .int .u32 19, .int .u8 73, .int .u32 8211, .int .u8 73, .int .u32 12307, .int .u8 73, .int .u32 16403, .int .u8 73, .int .u32 24595, .int .u8 73, .int .u32 28691, .int .u8 73, .int .u32 4115, .int .u8 72, .int .u32 20499, .int .u8 72, .int .u32 1073762323, .int .u8 72, .int .u32 51, .int .u8 82, .int .u32 1073741875, .int .u8 82, .int .u32 4147, .int .u8 82, .int .u32 8243, .int .u8 82, .int .u32 12339, .int .u8 82, .int .u32 16435, .int .u8 82, .int .u32 20531, .int .u8 82, .int .u32 1073762355, .int .u8 82, .int .u32 24627, .int .u8 82, .int .u32 28723, .int .u8 82, .int .u32 33554483, .int .u8 82, .int .u32 33558579, .int .u8 82, .int .u32 33562675, .int .u8 82, .int .u32 33566771, .int .u8 82, .int .u32 33570867, .int .u8 82, .int .u32 33574963, .int .u8 82, .int .u32 33579059, .int .u8 82, .int .u32 33583155, .int .u8 82, .int .u32 268443695, .int .u8 76, .int .u32 402661423, .int .u8 65, .int .u32 134225967, .int .u8 65, .int .u32 8239, .int .u8 65, .int .u32 536879151, .int .u8 65, .int .u32 1610620975, .int .u8 65, .int .u32 1073750063, .int .u8 65, .int .u32 2147491887, .int .u8 65, .int .u32 2684362799, .int .u8 65, .int .u32 3221233711, .int .u8 65, .int .u32 3758104623, .int .u8 65, .int .u32 15, .int .u8 70, .int .u32 115, .int .u8 69, .int .u32 1048691, .int .u8 69, .int .u32 807403635, .int .u8 69, .int .u32 270532723, .int .u8 69, .int .u32 273678451, .int .u8 69, .int .u32 301990003, .int .u8 86, .int .u32 4211, .int .u8 67, .int .u32 8307, .int .u8 67, .int .u32 12403, .int .u8 67, .int .u32 20595, .int .u8 67, .int .u32 24691, .int .u8 67, .int .u32 28787, .int .u8 67]
theorem rows175 (w : World) : Calls Tryz.prog 175 #[] w fun e w' => e = .returned (.slice (some ⟨w.heap.size, 0, none⟩) 69 69) ∧ w' = w.alloc (.cells rowsV 284) := by
  go_enter Tryz.func175, Tryz.ntmps175
  go_upto_region 1 with fail
  refine wp_region_run1 0 (.slice (some ⟨w.heap.size, 0, none⟩) 69 69) (w' := w.alloc (.cells rowsV 284)) (by kernel_rfl) ?_
  intro a' h0 hd
  have hx : (results Tryz.f175 a'.tmps).run Tryz.prog (w.alloc (.cells rowsV 284)) = .ok (.slice (some ⟨w.heap.size, 0, none⟩) 69 69) (w.alloc (.cells rowsV 284)) := by simp [results, Tryz.results175, h0]
  go_wp2_with fail
  exact bodyPost_ret hx hd ⟨rfl, rfl⟩
end Go.Proofs.YtlcbilknfjdceaaGreatDoor
end
section
/-
  The number in a word.
-/
set_option linter.unusedVariables false
set_option linter.unusedSimpArgs false
set_option maxRecDepth 100000
namespace Go.Proofs.YtlcbilknfjdceaaGreatDoor
open Go.RowKit Go.Lib Go.Sort
theorem put239 (w : World) : Calls Tryz.prog 239 #[.int .u32 0, .int .i64 0, .int .i64 12, .int .u32 5] w fun e w' => e = .returned (.int .u32 5) ∧ ∃ n, w' = w.drewN n := by
  have e1 : bits BinOp.and IntKind.u64 5 4095 = 5 := by kernel_rfl
  have e2 : bits BinOp.andNot IntKind.u32 0 4095 = 0 := by kernel_rfl
  have e3 : bits BinOp.or IntKind.u32 0 5 = 5 := by kernel_rfl
  go_enter Tryz.func239, Tryz.ntmps239
  go_upto_region 6 with (go_at_call 238; refine (mask238_12 _).mono ?_; rintro e w1 ⟨rfl, rfl⟩)
  go_still (by kernel_rfl)
  go_wp2_with fail
  go_ret
  exact ⟨rfl, 1, rfl⟩
theorem sign240 (w : World) : Calls Tryz.prog 240 #[.int .u32 5, .int .i64 12] w fun e w' => e = .returned (.int .u32 5) ∧ w' = w := by
  go_enter Tryz.func240, Tryz.ntmps240
  go_wp2_with fail
  go_ret
  exact ⟨rfl, rfl⟩
theorem number206 {g : Nat} {w : World} (hg : w.heap[g]? = some (.cells #[.int .i64 20, .int .i64 12, .int .i64 0] 305)) : Calls Tryz.prog 206 #[.agg #[.int .u32 28799, sD1, .int .i64 12, .slice (some ⟨g, 0, none⟩) 1 1], .int .u32 5243027] w fun e w' => e = .returned (.int .u32 5) ∧ Below w.heap.size w w' := by
  have hk := KW.start (Below.refl w.heap.size w) (Nat.le_refl _)
  have hlt := lt_of_heap hg
  go_enter Tryz.func206, Tryz.ntmps206
  go_wp2_with fail
  refine wp_loop_rounds 2 ?_
  rw [rounds_succ]
  have h1 := hk.push (.cells #[.int .u32 28799, sD1, .int .i64 12, .slice (some ⟨g, 0, none⟩) 1 1] 287)
  have hg1 : (w.alloc (.cells #[.int .u32 28799, sD1, .int .i64 12, .slice (some ⟨g, 0, none⟩) 1 1] 287)).heap[g]? = some (.cells #[.int .i64 20, .int .i64 12, .int .i64 0] 305) := by rw [Below.heap_alloc w _ g hlt]; exact hg
  generalize World.alloc w _ = w1 at h1 hg1 ⊢
  have g0 : w1.cell? ⟨g, 0, none⟩ = some (.int .i64 20) := cell_at hg1 0
  have g1 : w1.cell? ⟨g, 1, none⟩ = some (.int .i64 12) := cell_at hg1 1
  have g2 : w1.cell? ⟨g, 2, none⟩ = some (.int .i64 0) := cell_at hg1 2
  go_upto_region 4 with fail
  have h2 := h1.push (.cells #[.int .i64 20, .int .i64 12, .int .i64 0] 305)
  generalize hp : w1.heap.size = p at h2 ⊢
  generalize World.alloc w1 _ = w2 at h2 ⊢
  have y0 : w2.cell? ⟨p, 0, none⟩ = some (.int .i64 20) := cell_at (h2.get (g := p) (o := .cells #[.int .i64 20, .int .i64 12, .int .i64 0] 305) (by simp)) 0
  have y1 : w2.cell? ⟨p, 1, none⟩ = some (.int .i64 12) := cell_at (h2.get (g := p) (o := .cells #[.int .i64 20, .int .i64 12, .int .i64 0] 305) (by simp)) 1
  have y2 : w2.cell? ⟨p, 2, none⟩ = some (.int .i64 0) := cell_at (h2.get (g := p) (o := .cells #[.int .i64 20, .int .i64 12, .int .i64 0] 305) (by simp)) 2
  have z2 : w2.cell? ⟨w.heap.size, 2, none⟩ = some (.int .i64 12) := cell_at (h2.get (g := w.heap.size) (o := .cells #[.int .u32 28799, sD1, .int .i64 12, .slice (some ⟨g, 0, none⟩) 1 1] 287) (by simp)) 2
  have H := _root_.Go.Lib.hid h2
  clear h1 h2 hk hp g0 g1 g2 hg1
  go_quiet ((first | (go_at_call 204; exact Calls.quiet_of_same (field204i _)) | (go_at_call 239; exact Calls.quiet_of (put239 _))))
  go_wp2_with fail
  rw [rounds_succ]
  go_wp2_with (go_at_call 240; refine (sign240 _).mono ?_; rintro e w3 ⟨rfl, rfl⟩)
  go_ret
  exact ⟨rfl, (H.out.drewN (n := nq)).bel⟩
end Go.Proofs.YtlcbilknfjdceaaGreatDoor
end
