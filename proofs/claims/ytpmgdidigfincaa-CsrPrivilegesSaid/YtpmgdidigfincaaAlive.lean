/-
  The examples that the laws of csr ask first; equality of register files.
-/
import Derived.Test.YtpmgdidigfincaaJoin
import Derived.Laws.StructEq
set_option linter.unusedSimpArgs false
namespace Go.Proofs.Ytpmgdidigfincaa
open Go.RowKit Go.Val Go.MapKept

theorem eql_self25 (f : Nat → Int) (w : World) : (binOp .eql 25 (fileV f) (fileV f)).run Try.prog w = .ok (.bool true) w := by
  have h : (Op.equalIn (9999 + 1) 25 (fileV f) (fileV f)).run Try.prog w = .ok true w := by
    rw [run_equalIn_struct w 9999 25 _ _ (by kernel_rfl) (by kernel_rfl)]
    simp [go_sem, Program.fieldsOf, Try.underlying25, Try.underlying22, Try.underlying23]
  show ((Op.equal 25 (fileV f) (fileV f)) >>= _).run Try.prog w = _
  rw [Sem.run_bind, show (Op.equal 25 (fileV f) (fileV f)).run Try.prog w = .ok true w from h]
  rfl

theorem eql_self29 (f : Nat → Int) (w : World) : (binOp .eql 29 (fileV f) (fileV f)).run Try.prog w = .ok (.bool true) w := by
  have h : (Op.equalIn (9999 + 1) 29 (fileV f) (fileV f)).run Try.prog w = .ok true w := by
    rw [run_equalIn_struct w 9999 29 _ _ (by kernel_rfl) (by kernel_rfl)]
    simp [go_sem, Program.fieldsOf, Try.underlying29, Try.underlying22, Try.underlying23]
  show ((Op.equal 29 (fileV f) (fileV f)) >>= _).run Try.prog w = _
  rw [Sem.run_bind, show (Op.equal 29 (fileV f) (fileV f)).run Try.prog w = .ok true w from h]
  rfl

theorem neq_self29 (f : Nat → Int) (w : World) : (binOp .neq 29 (fileV f) (fileV f)).run Try.prog w = .ok (.bool false) w := by
  have h : (Op.equalIn (9999 + 1) 29 (fileV f) (fileV f)).run Try.prog w = .ok true w := by
    rw [run_equalIn_struct w 9999 29 _ _ (by kernel_rfl) (by kernel_rfl)]
    simp [go_sem, Program.fieldsOf, Try.underlying29, Try.underlying22, Try.underlying23]
  show ((Op.equal 29 (fileV f) (fileV f)) >>= _).run Try.prog w = _
  rw [Sem.run_bind, show (Op.equal 29 (fileV f) (fileV f)).run Try.prog w = .ok true w from h]
  rfl

theorem below_growg {W w1 : World} {e : Array Obj} {d : Nat} (h : Below (W.grow e d).heap.size (W.grow e d) w1) : ∃ e' d', w1 = W.grow e' d' := by
  obtain ⟨e', d', rfl⟩ := below_grow h
  exact ⟨_, _, World.grow_grow W e d e' d'⟩

/-! Where a row lies: it was the last block, and then others came. -/
theorem heapAt (X : World) (F : Obj) (n : Nat) (hn : n = X.heap.size) : (X.alloc F).heap[n]? = some F := World.heap_alloc_at X F n hn
theorem heapAtG (X : World) (F : Obj) (e : Array Obj) (d n : Nat) (hn : n = X.heap.size) : ((X.alloc F).grow e d).heap[n]? = some F := by
  rw [World.heap_grow_old _ _ _ _ (by simp; omega)]; exact heapAt X F n hn
theorem heapAtP (X : World) (F G : Obj) (n : Nat) (hn : n = X.heap.size) : ((X.alloc F).alloc G).heap[n]? = some F := by
  rw [World.heap_alloc_past _ _ _ (by simp; omega)]; exact heapAt X F n hn
theorem heapAtGP (X : World) (F G : Obj) (e : Array Obj) (d n : Nat) (hn : n = X.heap.size) : (((X.alloc F).grow e d).alloc G).heap[n]? = some F := by
  rw [World.heap_alloc_past _ _ _ (by simp; omega)]; exact heapAtG X F e d n hn
theorem heapAtPG (X : World) (F G : Obj) (e : Array Obj) (d n : Nat) (hn : n = X.heap.size) : (((X.alloc F).grow e d).alloc G).heap[n]? = some F := heapAtGP X F G e d n hn

def f0 : Nat → Int := fun _ => 0
theorem fits0 : Fits f0 := ⟨fun _ _ => ⟨Int.le_refl 0, by show (0 : Int) < 4294967296; decide⟩, Int.le_refl 0, by show (0 : Int) < 18446744073709551616; decide⟩
def f1 : Nat → Int := upd f0 6 7
theorem fits1 : Fits f1 := ⟨fun i _ => by unfold f1 upd f0; split <;> decide, by unfold f1 upd f0; decide, by unfold f1 upd f0; decide⟩

theorem alive_read1 (w : World) : Calls Try.prog 9 #[fileV f0, .int .i64 769, .int .i64 3] w fun e w' => e = .returned (.tuple #[.int .u32 1075056897, .bool true]) ∧ Below w.heap.size w w' := by
  have h := read_calls f0 769 3 w fits0
  rwa [show rrV f0 769 3 = 1075056897 by kernel_rfl, show rrB f0 769 3 = true by kernel_rfl] at h
theorem alive_read2 (w : World) : Calls Try.prog 9 #[fileV f0, .int .i64 768, .int .i64 1] w fun e w' => e = .returned (.tuple #[.int .u32 0, .bool false]) ∧ Below w.heap.size w w' := by
  have h := read_calls f0 768 1 w fits0
  rwa [show rrV f0 768 1 = 0 by kernel_rfl, show rrB f0 768 1 = false by kernel_rfl] at h
theorem alive_write1 (w : World) : Calls Try.prog 11 #[fileV f0, .int .i64 832, .int .i64 3, .int .u32 7] w fun e w' => e = .returned (.tuple #[fileV f1, .bool true]) ∧ Below w.heap.size w w' := by
  have h := write_calls f0 832 3 7 w fits0 ⟨by decide, by decide⟩
  rwa [show wr f0 832 3 7 = f1 by kernel_rfl, show wB f0 832 3 = true by kernel_rfl] at h
theorem alive_read3 (w : World) : Calls Try.prog 9 #[fileV f1, .int .i64 832, .int .i64 3] w fun e w' => e = .returned (.tuple #[.int .u32 7, .bool true]) ∧ Below w.heap.size w w' := by
  have h := read_calls f1 832 3 w fits1
  rwa [show rrV f1 832 3 = 7 by kernel_rfl, show rrB f1 832 3 = true by kernel_rfl] at h
theorem alive_write2 (w : World) : Calls Try.prog 11 #[fileV f0, .int .i64 3072, .int .i64 3, .int .u32 7] w fun e w' => e = .returned (.tuple #[fileV f0, .bool false]) ∧ Below w.heap.size w w' := by
  have h := write_calls f0 3072 3 7 w fits0 ⟨by decide, by decide⟩
  rwa [show wr f0 3072 3 7 = f0 by kernel_rfl, show wB f0 3072 3 = false by kernel_rfl] at h
theorem alive_lines (w : World) : Calls Try.prog 13 #[fileV f1, .int .u32 4095] w fun e w' => e = .returned (fileV (upd f1 4 2184)) ∧ Below w.heap.size w w' := by
  have h := lines_any f1 4095 w
  rwa [show bits .or .u32 (bits .andNot .u32 (f1 4) 2184) (bits .and .u32 4095 2184) = 2184 by kernel_rfl] at h

/-- The zero file. -/
theorem built29 : Try.prog.built 29 [] = some #[.int .u32 0, .int .u32 0, .int .u32 0, .int .u32 0, .int .u32 0, .int .u32 0, .int .u32 0, .int .u32 0, .int .u32 0, .int .u32 0, .int .u32 0, .int .u32 0, .int .u32 0, .int .u32 0, .int .u32 0, .int .u32 0, .int .u64 0] := by kernel_rfl
theorem build29 (w : World) : (Instr.build 29 #[]).run Try.prog w = .ok (fileV f0) w := run_build w 29 #[] _ built29

theorem wpList_build29 {ops : Array Oper} {rest : List Oper} {a : Act} {w : World} {Q : Exit → Act → World → Prop} {dst : Option Tmp} {t' : TypeId} {ps : String} {af : Array Edge}
    (h : wpList Try.prog ops Q rest (a.put dst (fileV f0)) w) : wpList Try.prog ops Q ({ dst := dst, op := .build 29 #[], type := t', pos := ps, after := af, guard := none } :: rest) a w := by
  refine wpList_plain rfl fun K hK => ?_
  unfold Oper.wp execOp
  have hrun : (Instr.build 29 ((#[] : Array (Nat × Operand)).map fun (i, x) => (i, a.eval x))).run Try.prog w = .ok (fileV f0) w := by
    simpa using build29 w
  simp only [Sem.run_bind, hrun, Result.andThen_ok]
  exact hK _ _ h

/-- A guarded load of a whole row, the guard saying yes. -/
theorem wpList_load_if {P : Program} {ops : Array Oper} {rest : List Oper} {a : Act} {w : World} {Q : Exit → Act → World → Prop} (ty : TypeId) {x : Operand} {dst : Option Tmp} {t' : TypeId} {ps : String} {af : Array Edge} {gd : Nat × Bool} {g : Nat} {t : TypeId} {cs : Array Value} {fr : Nat × Nat} {d : TypeDesc}
    (hu : P.underlying ty = some d) (hw : Region.wanted { dst := dst, op := .load ty x, type := t', pos := ps, after := af, guard := some gd } (yielded ops a.tmps) = true) (hx : a.eval x = .pointer (some ⟨g, 0, none⟩)) (hg : w.heap[g]? = some (.cells cs t fr))
    (hd : (match d with | .struct _ | .array _ _ => true | _ => false) = true) (hi : (P.info? ty).map (·.size) = some cs.size)
    (h : wpList P ops Q rest (a.put dst (.agg cs)) w) : wpList P ops Q ({ dst := dst, op := .load ty x, type := t', pos := ps, after := af, guard := some gd } :: rest) a w :=
  BigFrame.wpList_want hw fun _ hK => wp_load_row (o := { dst := dst, op := .load ty x, type := t', pos := ps, after := af, guard := some gd }) ty x rfl g hx t cs fr d hg hu hd hi (hK _ _ h)

theorem field4 (g : Nat → Int) (w : World) : (Instr.field 29 (fileV g) 4).run Try.prog w = .ok (.int .u32 (g 4)) w := by
  simp [Instr.field, run_underlying Try.underlying29, part, isAgg, run_underlying Try.underlying22, asAgg, Result.andThen]

theorem alive_calls (w : World) : Calls Try.prog 8 #[] w fun e w' => e = .returned (.bool true) ∧ Below w.heap.size w w' := by
  have hfl : ∀ w, (Instr.field 29 (fileV (upd f1 4 2184)) 4).run Try.prog w = .ok (.int .u32 2184) w := fun w => field4 (upd f1 4 2184) w
  go_enter Try.func8, Try.ntmps8
  go_wp2_with (first | (with_reducible apply wpList_build29) | ((with_reducible apply wpList_load_at 29 Try.underlying29); rfl; (first | (with_reducible exact heap_alloc_new _ _) | ((with_reducible refine heapAt _ _ _ ?_); focus (simp; done)) | ((with_reducible refine heapAtG _ _ _ _ _ ?_); focus (simp; done)) | ((with_reducible refine heapAtP _ _ _ _ ?_); focus (simp; done)) | ((with_reducible refine heapAtGP _ _ _ _ _ _ ?_); focus (simp; done))); rfl; exact size29) | ((with_reducible apply wpList_load_if 29 Try.underlying29); rfl; rfl; (first | (with_reducible exact heap_alloc_new _ _) | ((with_reducible refine heapAt _ _ _ ?_); focus (simp; done)) | ((with_reducible refine heapAtG _ _ _ _ _ ?_); focus (simp; done)) | ((with_reducible refine heapAtP _ _ _ _ ?_); focus (simp; done)) | ((with_reducible refine heapAtGP _ _ _ _ _ _ ?_); focus (simp; done))); rfl; exact size29) | ((with_reducible apply wpList_store_at 29); rfl; rfl; (first | (with_reducible exact heap_alloc_new _ _) | ((with_reducible refine heapAt _ _ _ ?_); focus (simp; done)) | ((with_reducible refine heapAtG _ _ _ _ _ ?_); focus (simp; done)) | ((with_reducible refine heapAtP _ _ _ _ ?_); focus (simp; done)) | ((with_reducible refine heapAtGP _ _ _ _ _ _ ?_); focus (simp; done))); exact size29; rfl; rfl; (simp only [World.setRow_alloc_past, World.setRow_alloc_at, World.setRow_grow, World.size_alloc, World.size_grow, lt_add_ext, Nat.lt_add_one]; rfl)))
  refine (alive_read1 _).mono ?_
  rintro e w1 ⟨rfl, hb1⟩
  (first | obtain ⟨ext, d, rfl⟩ := below_growg hb1 | obtain ⟨ext, d, rfl⟩ := below_grow hb1)
  clear hb1
  go_wp2_with (first | (with_reducible apply wpList_build29) | ((with_reducible apply wpList_load_at 29 Try.underlying29); rfl; (first | (with_reducible exact heap_alloc_new _ _) | ((with_reducible refine heapAt _ _ _ ?_); focus (simp; done)) | ((with_reducible refine heapAtG _ _ _ _ _ ?_); focus (simp; done)) | ((with_reducible refine heapAtP _ _ _ _ ?_); focus (simp; done)) | ((with_reducible refine heapAtGP _ _ _ _ _ _ ?_); focus (simp; done))); rfl; exact size29) | ((with_reducible apply wpList_load_if 29 Try.underlying29); rfl; rfl; (first | (with_reducible exact heap_alloc_new _ _) | ((with_reducible refine heapAt _ _ _ ?_); focus (simp; done)) | ((with_reducible refine heapAtG _ _ _ _ _ ?_); focus (simp; done)) | ((with_reducible refine heapAtP _ _ _ _ ?_); focus (simp; done)) | ((with_reducible refine heapAtGP _ _ _ _ _ _ ?_); focus (simp; done))); rfl; exact size29) | ((with_reducible apply wpList_store_at 29); rfl; rfl; (first | (with_reducible exact heap_alloc_new _ _) | ((with_reducible refine heapAt _ _ _ ?_); focus (simp; done)) | ((with_reducible refine heapAtG _ _ _ _ _ ?_); focus (simp; done)) | ((with_reducible refine heapAtP _ _ _ _ ?_); focus (simp; done)) | ((with_reducible refine heapAtGP _ _ _ _ _ _ ?_); focus (simp; done))); exact size29; rfl; rfl; (simp only [World.setRow_alloc_past, World.setRow_alloc_at, World.setRow_grow, World.size_alloc, World.size_grow, lt_add_ext, Nat.lt_add_one]; rfl)))
  refine (alive_read2 _).mono ?_
  rintro e w1 ⟨rfl, hb1⟩
  (first | obtain ⟨ext, d, rfl⟩ := below_growg hb1 | obtain ⟨ext, d, rfl⟩ := below_grow hb1)
  clear hb1
  go_wp2_with (first | (with_reducible apply wpList_build29) | ((with_reducible apply wpList_load_at 29 Try.underlying29); rfl; (first | (with_reducible exact heap_alloc_new _ _) | ((with_reducible refine heapAt _ _ _ ?_); focus (simp; done)) | ((with_reducible refine heapAtG _ _ _ _ _ ?_); focus (simp; done)) | ((with_reducible refine heapAtP _ _ _ _ ?_); focus (simp; done)) | ((with_reducible refine heapAtGP _ _ _ _ _ _ ?_); focus (simp; done))); rfl; exact size29) | ((with_reducible apply wpList_load_if 29 Try.underlying29); rfl; rfl; (first | (with_reducible exact heap_alloc_new _ _) | ((with_reducible refine heapAt _ _ _ ?_); focus (simp; done)) | ((with_reducible refine heapAtG _ _ _ _ _ ?_); focus (simp; done)) | ((with_reducible refine heapAtP _ _ _ _ ?_); focus (simp; done)) | ((with_reducible refine heapAtGP _ _ _ _ _ _ ?_); focus (simp; done))); rfl; exact size29) | ((with_reducible apply wpList_store_at 29); rfl; rfl; (first | (with_reducible exact heap_alloc_new _ _) | ((with_reducible refine heapAt _ _ _ ?_); focus (simp; done)) | ((with_reducible refine heapAtG _ _ _ _ _ ?_); focus (simp; done)) | ((with_reducible refine heapAtP _ _ _ _ ?_); focus (simp; done)) | ((with_reducible refine heapAtGP _ _ _ _ _ _ ?_); focus (simp; done))); exact size29; rfl; rfl; (simp only [World.setRow_alloc_past, World.setRow_alloc_at, World.setRow_grow, World.size_alloc, World.size_grow, lt_add_ext, Nat.lt_add_one]; rfl)))
  refine (alive_write1 _).mono ?_
  rintro e w1 ⟨rfl, hb1⟩
  (first | obtain ⟨ext, d, rfl⟩ := below_growg hb1 | obtain ⟨ext, d, rfl⟩ := below_grow hb1)
  clear hb1
  go_wp2_with (first | (with_reducible apply wpList_build29) | ((with_reducible apply wpList_load_at 29 Try.underlying29); rfl; (first | (with_reducible exact heap_alloc_new _ _) | ((with_reducible refine heapAt _ _ _ ?_); focus (simp; done)) | ((with_reducible refine heapAtG _ _ _ _ _ ?_); focus (simp; done)) | ((with_reducible refine heapAtP _ _ _ _ ?_); focus (simp; done)) | ((with_reducible refine heapAtGP _ _ _ _ _ _ ?_); focus (simp; done))); rfl; exact size29) | ((with_reducible apply wpList_load_if 29 Try.underlying29); rfl; rfl; (first | (with_reducible exact heap_alloc_new _ _) | ((with_reducible refine heapAt _ _ _ ?_); focus (simp; done)) | ((with_reducible refine heapAtG _ _ _ _ _ ?_); focus (simp; done)) | ((with_reducible refine heapAtP _ _ _ _ ?_); focus (simp; done)) | ((with_reducible refine heapAtGP _ _ _ _ _ _ ?_); focus (simp; done))); rfl; exact size29) | ((with_reducible apply wpList_store_at 29); rfl; rfl; (first | (with_reducible exact heap_alloc_new _ _) | ((with_reducible refine heapAt _ _ _ ?_); focus (simp; done)) | ((with_reducible refine heapAtG _ _ _ _ _ ?_); focus (simp; done)) | ((with_reducible refine heapAtP _ _ _ _ ?_); focus (simp; done)) | ((with_reducible refine heapAtGP _ _ _ _ _ _ ?_); focus (simp; done))); exact size29; rfl; rfl; (simp only [World.setRow_alloc_past, World.setRow_alloc_at, World.setRow_grow, World.size_alloc, World.size_grow, lt_add_ext, Nat.lt_add_one]; rfl)))
  refine (alive_read3 _).mono ?_
  rintro e w1 ⟨rfl, hb1⟩
  (first | obtain ⟨ext, d, rfl⟩ := below_growg hb1 | obtain ⟨ext, d, rfl⟩ := below_grow hb1)
  clear hb1
  go_wp2_with (first | (with_reducible apply wpList_build29) | ((with_reducible apply wpList_load_at 29 Try.underlying29); rfl; (first | (with_reducible exact heap_alloc_new _ _) | ((with_reducible refine heapAt _ _ _ ?_); focus (simp; done)) | ((with_reducible refine heapAtG _ _ _ _ _ ?_); focus (simp; done)) | ((with_reducible refine heapAtP _ _ _ _ ?_); focus (simp; done)) | ((with_reducible refine heapAtGP _ _ _ _ _ _ ?_); focus (simp; done))); rfl; exact size29) | ((with_reducible apply wpList_load_if 29 Try.underlying29); rfl; rfl; (first | (with_reducible exact heap_alloc_new _ _) | ((with_reducible refine heapAt _ _ _ ?_); focus (simp; done)) | ((with_reducible refine heapAtG _ _ _ _ _ ?_); focus (simp; done)) | ((with_reducible refine heapAtP _ _ _ _ ?_); focus (simp; done)) | ((with_reducible refine heapAtGP _ _ _ _ _ _ ?_); focus (simp; done))); rfl; exact size29) | ((with_reducible apply wpList_store_at 29); rfl; rfl; (first | (with_reducible exact heap_alloc_new _ _) | ((with_reducible refine heapAt _ _ _ ?_); focus (simp; done)) | ((with_reducible refine heapAtG _ _ _ _ _ ?_); focus (simp; done)) | ((with_reducible refine heapAtP _ _ _ _ ?_); focus (simp; done)) | ((with_reducible refine heapAtGP _ _ _ _ _ _ ?_); focus (simp; done))); exact size29; rfl; rfl; (simp only [World.setRow_alloc_past, World.setRow_alloc_at, World.setRow_grow, World.size_alloc, World.size_grow, lt_add_ext, Nat.lt_add_one]; rfl)))
  refine (alive_write2 _).mono ?_
  rintro e w1 ⟨rfl, hb1⟩
  (first | obtain ⟨ext, d, rfl⟩ := below_growg hb1 | obtain ⟨ext, d, rfl⟩ := below_grow hb1)
  clear hb1
  go_wp2_with (first | (with_reducible apply wpList_build29) | ((with_reducible apply wpList_load_at 29 Try.underlying29); rfl; (first | (with_reducible exact heap_alloc_new _ _) | ((with_reducible refine heapAt _ _ _ ?_); focus (simp; done)) | ((with_reducible refine heapAtG _ _ _ _ _ ?_); focus (simp; done)) | ((with_reducible refine heapAtP _ _ _ _ ?_); focus (simp; done)) | ((with_reducible refine heapAtGP _ _ _ _ _ _ ?_); focus (simp; done))); rfl; exact size29) | ((with_reducible apply wpList_load_if 29 Try.underlying29); rfl; rfl; (first | (with_reducible exact heap_alloc_new _ _) | ((with_reducible refine heapAt _ _ _ ?_); focus (simp; done)) | ((with_reducible refine heapAtG _ _ _ _ _ ?_); focus (simp; done)) | ((with_reducible refine heapAtP _ _ _ _ ?_); focus (simp; done)) | ((with_reducible refine heapAtGP _ _ _ _ _ _ ?_); focus (simp; done))); rfl; exact size29) | ((with_reducible apply wpList_store_at 29); rfl; rfl; (first | (with_reducible exact heap_alloc_new _ _) | ((with_reducible refine heapAt _ _ _ ?_); focus (simp; done)) | ((with_reducible refine heapAtG _ _ _ _ _ ?_); focus (simp; done)) | ((with_reducible refine heapAtP _ _ _ _ ?_); focus (simp; done)) | ((with_reducible refine heapAtGP _ _ _ _ _ _ ?_); focus (simp; done))); exact size29; rfl; rfl; (simp only [World.setRow_alloc_past, World.setRow_alloc_at, World.setRow_grow, World.size_alloc, World.size_grow, lt_add_ext, Nat.lt_add_one]; rfl)))
  refine (alive_lines _).mono ?_
  rintro e w1 ⟨rfl, hb1⟩
  (first | obtain ⟨ext, d, rfl⟩ := below_growg hb1 | obtain ⟨ext, d, rfl⟩ := below_grow hb1)
  clear hb1
  go_wp2_with (first | (with_reducible apply wpList_build29) | ((with_reducible apply wpList_load_at 29 Try.underlying29); rfl; (first | (with_reducible exact heap_alloc_new _ _) | ((with_reducible refine heapAt _ _ _ ?_); focus (simp; done)) | ((with_reducible refine heapAtG _ _ _ _ _ ?_); focus (simp; done)) | ((with_reducible refine heapAtP _ _ _ _ ?_); focus (simp; done)) | ((with_reducible refine heapAtGP _ _ _ _ _ _ ?_); focus (simp; done))); rfl; exact size29) | ((with_reducible apply wpList_load_if 29 Try.underlying29); rfl; rfl; (first | (with_reducible exact heap_alloc_new _ _) | ((with_reducible refine heapAt _ _ _ ?_); focus (simp; done)) | ((with_reducible refine heapAtG _ _ _ _ _ ?_); focus (simp; done)) | ((with_reducible refine heapAtP _ _ _ _ ?_); focus (simp; done)) | ((with_reducible refine heapAtGP _ _ _ _ _ _ ?_); focus (simp; done))); rfl; exact size29) | ((with_reducible apply wpList_store_at 29); rfl; rfl; (first | (with_reducible exact heap_alloc_new _ _) | ((with_reducible refine heapAt _ _ _ ?_); focus (simp; done)) | ((with_reducible refine heapAtG _ _ _ _ _ ?_); focus (simp; done)) | ((with_reducible refine heapAtP _ _ _ _ ?_); focus (simp; done)) | ((with_reducible refine heapAtGP _ _ _ _ _ _ ?_); focus (simp; done))); exact size29; rfl; rfl; (simp only [World.setRow_alloc_past, World.setRow_alloc_at, World.setRow_grow, World.size_alloc, World.size_grow, lt_add_ext, Nat.lt_add_one]; rfl)))
  go_ret
  exact ⟨rfl, by repeat (first | exact Below.refl _ _ | (refine Below.setCell ?_ (by simp) _) | (refine below_drewN ?_ _) | (refine Below.drew ?_) | (refine Below.alloc ?_ (by simp; try omega) _) | (refine Below.grow ?_ (by simp; try omega) _ _))⟩

end Go.Proofs.Ytpmgdidigfincaa
