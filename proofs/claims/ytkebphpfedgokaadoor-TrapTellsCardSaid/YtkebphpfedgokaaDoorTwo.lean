/-
  The region of TrapHigher that makes two variables in one statement, in whatever order.
-/
import Derived.Test.YtkebphpfedgokaaDoorInv
import Derived.Test.YtkebphpfedgokaaDoorAlive
set_option linter.unusedVariables false
set_option linter.unusedSimpArgs false
namespace Go.Proofs.YtkebphpfedgokaaDoor
open Go.RowKit Go.Lib Go.Val

def findRegion (id : Nat) : Code → Option (Array Oper)
  | .region k ops _ => if k = id then some ops else none
  | .seq a b => (findRegion id a).orElse fun _ => findRegion id b
  | .cond _ a b => (findRegion id a).orElse fun _ => findRegion id b
  | .block _ b => findRegion id b
  | .loop b => findRegion id b
  | .scope b => findRegion id b
  | _ => none
noncomputable def ops8 : Array Oper := (Tryd.f5.body.bind (findRegion 8)).getD #[]
theorem size8 : ops8.size = 8 := by kernel_rfl
theorem ord8 : orderedB3 ops8 = true := by kernel_rfl
theorem ex_fa27 {ρ : Operand → Value} {o : Oper} {w : World} {bx : Nat} (h : o.op = .fieldAddr 27 (.tmp 3) 0) (hx : ρ (.tmp 3) = .pointer (some ⟨bx, 0, none⟩)) : (execOp ρ o).run Tryd.prog w = .ok (.value (.pointer (some ⟨bx, 0, none⟩))) w := by
  cases o; simp only at h; subst h; simp only [execOp, hx]; kernel_rfl
theorem ex_fa32 {ρ : Operand → Value} {o : Oper} {w : World} {bx : Nat} (h : o.op = .fieldAddr 32 (.tmp 7) 0) (hx : ρ (.tmp 7) = .pointer (some ⟨bx, 0, none⟩)) : (execOp ρ o).run Tryd.prog w = .ok (.value (.pointer (some ⟨bx, 0, none⟩))) w := by
  cases o; simp only at h; subst h; simp only [execOp, hx]; kernel_rfl
theorem ex_alloc30 {ρ : Operand → Value} {o : Oper} {w : World} (h : o.op = .alloc 30) : (execOp ρ o).run Tryd.prog w = .ok (.value (.pointer (some ⟨w.heap.size, 0, none⟩))) (w.alloc fileZ) := by
  cases o; simp only at h; subst h; kernel_rfl
theorem run_store30 {w : World} {b : Nat} {old vs : Array Value} (hs : vs.size = 17) (ho : old.size = 17) (h : w.heap[b]? = some (.cells old 30)) (hone : vs.toList.all Value.oneCell' = true) : (Instr.storeAt 30 (.pointer (some ⟨b, 0, none⟩)) (.agg vs)).run Tryd.prog w = .ok () (w.setRow b vs) :=
  Go.Mem.run_storeAt_part h (by rw [size30, hs]) (by omega) hone (by
    apply Array.ext'
    simp [hs, ho]) rfl
/-- What is done, the slots, and the world. -/
structure J8 (a0 : Act) (W : World) (bx g : Nat) (F0 F1 : Array Value) (d : Nat → Bool) (b8 b9 : Nat) (a : Act) (w : World) : Prop where
  size : a.tmps.size = a0.tmps.size
  defers : a.defers = a0.defers
  frame : ∀ t, t ∉ [31, 32, 33, 34, 8, 9] → a.tmps[t]? = a0.tmps[t]?
  t31 : d 0 = true → a.tmps[31]? = some (.pointer (some ⟨bx, 0, none⟩))
  t32 : d 1 = true → a.tmps[32]? = some (.agg F0)
  t33 : d 2 = true → a.tmps[33]? = some (.pointer (some ⟨g, 0, none⟩))
  t34 : d 3 = true → a.tmps[34]? = some (.agg F1)
  bel : Below W.heap.size W w
  h8 : d 4 = true → a.tmps[8]? = some (.pointer (some ⟨b8, 0, none⟩)) ∧ W.heap.size ≤ b8 ∧ ∃ c : Array Value, c.size = 17 ∧ w.heap[b8]? = some (.cells c 30) ∧ (d 6 = true → c = F0)
  h9 : d 5 = true → a.tmps[9]? = some (.pointer (some ⟨b9, 0, none⟩)) ∧ W.heap.size ≤ b9 ∧ ∃ c : Array Value, c.size = 17 ∧ w.heap[b9]? = some (.cells c 30) ∧ (d 7 = true → c = F1)
  ne : d 4 = true → d 5 = true → b8 ≠ b9
  c6 : d 6 = true → d 4 = true
  c7 : d 7 = true → d 5 = true
abbrev zeros17 : Array Value := #[.int .u32 0, .int .u32 0, .int .u32 0, .int .u32 0, .int .u32 0, .int .u32 0, .int .u32 0, .int .u32 0, .int .u32 0, .int .u32 0, .int .u32 0, .int .u32 0, .int .u32 0, .int .u32 0, .int .u32 0, .int .u32 0, .int .u64 0]
abbrev fileR (s : St) : Array Value := #[.int .u32 s.x0, .int .u32 s.x1, .int .u32 s.x2, .int .u32 s.x3, .int .u32 s.x4, .int .u32 s.x5, .int .u32 s.x6, .int .u32 s.x7, .int .u32 s.x8, .int .u32 s.x9, .int .u32 s.x10, .int .u32 s.x11, .int .u32 s.x12, .int .u32 s.x13, .int .u32 s.x14, .int .u32 s.x15, .int .u64 s.x16]
theorem setRow_bel {W w : World} {b : Nat} {vs : Array Value} (h : Below W.heap.size W w) (hb : W.heap.size ≤ b) : Below W.heap.size W (w.setRow b vs) :=
  h.trans ⟨rfl, rfl, rfl, by simp [World.setRow], fun k hk => setRow_other w b k vs (by omega)⟩
theorem region8 {Q : Exit → Act → World → Prop} {id : Nat} (a0 : Act) (W : World) (bx g : Nat) (X T : St)
    (hsz : a0.tmps.size = 129) (h3 : a0.tmps[3]? = some (.pointer (some ⟨bx, 0, none⟩))) (h7 : a0.tmps[7]? = some (.pointer (some ⟨g, 0, none⟩)))
    (hX : W.heap[bx]? = some (St.q X)) (hT : W.heap[g]? = some (St.o T))
    (hQ : ∀ (b8 b9 : Nat) (w : World), Below W.heap.size W w → W.heap.size ≤ b8 → W.heap.size ≤ b9 → w.heap[b8]? = some (.cells (fileR X) 30) → w.heap[b9]? = some (.cells (fileR T) 30) →
      Q .normal ((((((a0.put (some 31) (.pointer (some ⟨bx, 0, none⟩))).put (some 32) (.agg (fileR X))).put (some 33) (.pointer (some ⟨g, 0, none⟩))).put (some 34) (.agg (fileR T))).put (some 8) (.pointer (some ⟨b8, 0, none⟩))).put (some 9) (.pointer (some ⟨b9, 0, none⟩))) w) :
    (Code.region id ops8 true).wp Tryd.prog Q a0 W := by
  have lx := lt_of_heap hX
  have lg := lt_of_heap hT
  refine wp_region_inv (by kernel_rfl) (fun d a w => ∃ b8 b9, J8 a0 W bx g (fileR X) (fileR T) d b8 b9 a w) ord8 ?_ ?_ ?_
  · exact ⟨0, 0, rfl, rfl, fun _ _ => rfl, fun h => (by cases h), fun h => (by cases h), fun h => (by cases h), fun h => (by cases h), (Below.refl _ _).drew, fun h => (by cases h), fun h => (by cases h), fun h => (by cases h), fun h => (by cases h), fun h => (by cases h)⟩
  · intro i o d a w ho hgi hdep hJ
    obtain ⟨b8, b9, hJ⟩ := hJ
    have hlt : i < 8 := by rw [← size8]; exact (Array.getElem?_eq_some_iff.1 ho).1
    have e3 : a.eval (.tmp 3) = .pointer (some ⟨bx, 0, none⟩) := eval_of ((hJ.frame 3 (by decide)).trans h3)
    have e7 : a.eval (.tmp 7) = .pointer (some ⟨g, 0, none⟩) := eval_of ((hJ.frame 7 (by decide)).trans h7)
    have hx : w.heap[bx]? = some (St.q X) := by rw [hJ.bel.block bx lx]; exact hX
    have ht : w.heap[g]? = some (St.o T) := by rw [hJ.bel.block g lg]; exact hT
    match i with
    | 0 =>
      refine ⟨wanted_free (guard_in ho (by kernel_rfl)), fun K hK => ?_⟩
      have hd := dst_in (x := some 31) ho (by kernel_rfl)
      refine wp_value (ex_fa27 (op_in (x := Op.fieldAddr 27 (Operand.tmp 3) 0) ho (by kernel_rfl)) e3) ?_
      rw [hd]
      refine hK _ _ fun d' hs ho2 => ⟨b8, b9, by rw [put_size]; exact hJ.size,
        hJ.defers,
        fun u hu => (put_other (fun e => hu (by subst e; decide))).trans (hJ.frame u hu),
        fun _ => put_at (by rw [hJ.size, hsz]; decide),
        fun h => (put_other (by decide)).trans (hJ.t32 (by rw [← ho2 1 (by decide)]; exact h)),
        fun h => (put_other (by decide)).trans (hJ.t33 (by rw [← ho2 2 (by decide)]; exact h)),
        fun h => (put_other (by decide)).trans (hJ.t34 (by rw [← ho2 3 (by decide)]; exact h)),
        hJ.bel,
        fun h => by
        obtain ⟨p, q, c, h1, h2, h3⟩ := hJ.h8 (by rw [← ho2 4 (by decide)]; exact h)
        exact ⟨(put_other (by decide)).trans p, q, c, h1, h2, fun h => h3 (by rw [← ho2 6 (by decide)]; exact h)⟩,
        fun h => by
        obtain ⟨p, q, c, h1, h2, h3⟩ := hJ.h9 (by rw [← ho2 5 (by decide)]; exact h)
        exact ⟨(put_other (by decide)).trans p, q, c, h1, h2, fun h => h3 (by rw [← ho2 7 (by decide)]; exact h)⟩,
        fun h h2 => hJ.ne (by rw [← ho2 4 (by decide)]; exact h) (by rw [← ho2 5 (by decide)]; exact h2),
        fun h => (ho2 4 (by decide)).trans (hJ.c6 (by rw [← ho2 6 (by decide)]; exact h)),
        fun h => (ho2 5 (by decide)).trans (hJ.c7 (by rw [← ho2 7 (by decide)]; exact h))⟩
    | 1 =>
      refine ⟨wanted_free (guard_in ho (by kernel_rfl)), fun K hK => ?_⟩
      have hd := dst_in (x := some 32) ho (by kernel_rfl)
      refine wp_value (Go.Mem.ex_load (op_in (x := Op.load 25 (Operand.tmp 31)) ho (by kernel_rfl)) (eval_of (hJ.t31 (dep_in (j := 0) ho (by kernel_rfl) hdep))) (Go.Mem.run_loadAt_part (vs := fileR X) rfl Tryd.underlying25 hx size25 rfl)) ?_
      rw [hd]
      refine hK _ _ fun d' hs ho2 => ⟨b8, b9, by rw [put_size]; exact hJ.size,
        hJ.defers,
        fun u hu => (put_other (fun e => hu (by subst e; decide))).trans (hJ.frame u hu),
        fun h => (put_other (by decide)).trans (hJ.t31 (by rw [← ho2 0 (by decide)]; exact h)),
        fun _ => put_at (by rw [hJ.size, hsz]; decide),
        fun h => (put_other (by decide)).trans (hJ.t33 (by rw [← ho2 2 (by decide)]; exact h)),
        fun h => (put_other (by decide)).trans (hJ.t34 (by rw [← ho2 3 (by decide)]; exact h)),
        hJ.bel,
        fun h => by
        obtain ⟨p, q, c, h1, h2, h3⟩ := hJ.h8 (by rw [← ho2 4 (by decide)]; exact h)
        exact ⟨(put_other (by decide)).trans p, q, c, h1, h2, fun h => h3 (by rw [← ho2 6 (by decide)]; exact h)⟩,
        fun h => by
        obtain ⟨p, q, c, h1, h2, h3⟩ := hJ.h9 (by rw [← ho2 5 (by decide)]; exact h)
        exact ⟨(put_other (by decide)).trans p, q, c, h1, h2, fun h => h3 (by rw [← ho2 7 (by decide)]; exact h)⟩,
        fun h h2 => hJ.ne (by rw [← ho2 4 (by decide)]; exact h) (by rw [← ho2 5 (by decide)]; exact h2),
        fun h => (ho2 4 (by decide)).trans (hJ.c6 (by rw [← ho2 6 (by decide)]; exact h)),
        fun h => (ho2 5 (by decide)).trans (hJ.c7 (by rw [← ho2 7 (by decide)]; exact h))⟩
    | 2 =>
      refine ⟨wanted_free (guard_in ho (by kernel_rfl)), fun K hK => ?_⟩
      have hd := dst_in (x := some 33) ho (by kernel_rfl)
      refine wp_value (ex_fa32 (op_in (x := Op.fieldAddr 32 (Operand.tmp 7) 0) ho (by kernel_rfl)) e7) ?_
      rw [hd]
      refine hK _ _ fun d' hs ho2 => ⟨b8, b9, by rw [put_size]; exact hJ.size,
        hJ.defers,
        fun u hu => (put_other (fun e => hu (by subst e; decide))).trans (hJ.frame u hu),
        fun h => (put_other (by decide)).trans (hJ.t31 (by rw [← ho2 0 (by decide)]; exact h)),
        fun h => (put_other (by decide)).trans (hJ.t32 (by rw [← ho2 1 (by decide)]; exact h)),
        fun _ => put_at (by rw [hJ.size, hsz]; decide),
        fun h => (put_other (by decide)).trans (hJ.t34 (by rw [← ho2 3 (by decide)]; exact h)),
        hJ.bel,
        fun h => by
        obtain ⟨p, q, c, h1, h2, h3⟩ := hJ.h8 (by rw [← ho2 4 (by decide)]; exact h)
        exact ⟨(put_other (by decide)).trans p, q, c, h1, h2, fun h => h3 (by rw [← ho2 6 (by decide)]; exact h)⟩,
        fun h => by
        obtain ⟨p, q, c, h1, h2, h3⟩ := hJ.h9 (by rw [← ho2 5 (by decide)]; exact h)
        exact ⟨(put_other (by decide)).trans p, q, c, h1, h2, fun h => h3 (by rw [← ho2 7 (by decide)]; exact h)⟩,
        fun h h2 => hJ.ne (by rw [← ho2 4 (by decide)]; exact h) (by rw [← ho2 5 (by decide)]; exact h2),
        fun h => (ho2 4 (by decide)).trans (hJ.c6 (by rw [← ho2 6 (by decide)]; exact h)),
        fun h => (ho2 5 (by decide)).trans (hJ.c7 (by rw [← ho2 7 (by decide)]; exact h))⟩
    | 3 =>
      refine ⟨wanted_free (guard_in ho (by kernel_rfl)), fun K hK => ?_⟩
      have hd := dst_in (x := some 34) ho (by kernel_rfl)
      refine wp_value (Go.Mem.ex_load (op_in (x := Op.load 30 (Operand.tmp 33)) ho (by kernel_rfl)) (eval_of (hJ.t33 (dep_in (j := 2) ho (by kernel_rfl) hdep))) (Go.Mem.run_loadAt_part (vs := fileR T) rfl Tryd.underlying30 ht size30 rfl)) ?_
      rw [hd]
      refine hK _ _ fun d' hs ho2 => ⟨b8, b9, by rw [put_size]; exact hJ.size,
        hJ.defers,
        fun u hu => (put_other (fun e => hu (by subst e; decide))).trans (hJ.frame u hu),
        fun h => (put_other (by decide)).trans (hJ.t31 (by rw [← ho2 0 (by decide)]; exact h)),
        fun h => (put_other (by decide)).trans (hJ.t32 (by rw [← ho2 1 (by decide)]; exact h)),
        fun h => (put_other (by decide)).trans (hJ.t33 (by rw [← ho2 2 (by decide)]; exact h)),
        fun _ => put_at (by rw [hJ.size, hsz]; decide),
        hJ.bel,
        fun h => by
        obtain ⟨p, q, c, h1, h2, h3⟩ := hJ.h8 (by rw [← ho2 4 (by decide)]; exact h)
        exact ⟨(put_other (by decide)).trans p, q, c, h1, h2, fun h => h3 (by rw [← ho2 6 (by decide)]; exact h)⟩,
        fun h => by
        obtain ⟨p, q, c, h1, h2, h3⟩ := hJ.h9 (by rw [← ho2 5 (by decide)]; exact h)
        exact ⟨(put_other (by decide)).trans p, q, c, h1, h2, fun h => h3 (by rw [← ho2 7 (by decide)]; exact h)⟩,
        fun h h2 => hJ.ne (by rw [← ho2 4 (by decide)]; exact h) (by rw [← ho2 5 (by decide)]; exact h2),
        fun h => (ho2 4 (by decide)).trans (hJ.c6 (by rw [← ho2 6 (by decide)]; exact h)),
        fun h => (ho2 5 (by decide)).trans (hJ.c7 (by rw [← ho2 7 (by decide)]; exact h))⟩
    | 4 =>
      refine ⟨wanted_free (guard_in ho (by kernel_rfl)), fun K hK => ?_⟩
      have hd := dst_in (x := some 8) ho (by kernel_rfl)
      refine wp_value (ex_alloc30 (op_in (x := Op.alloc 30) ho (by kernel_rfl))) ?_
      rw [hd]
      refine hK _ _ fun d' hs ho2 => ⟨w.heap.size, b9, by rw [put_size]; exact hJ.size,
        hJ.defers,
        fun u hu => (put_other (fun e => hu (by subst e; decide))).trans (hJ.frame u hu),
        fun h => (put_other (by decide)).trans (hJ.t31 (by rw [← ho2 0 (by decide)]; exact h)),
        fun h => (put_other (by decide)).trans (hJ.t32 (by rw [← ho2 1 (by decide)]; exact h)),
        fun h => (put_other (by decide)).trans (hJ.t33 (by rw [← ho2 2 (by decide)]; exact h)),
        fun h => (put_other (by decide)).trans (hJ.t34 (by rw [← ho2 3 (by decide)]; exact h)),
        hJ.bel.alloc hJ.bel.size _,
        fun _ => ⟨put_at (by rw [hJ.size, hsz]; decide), hJ.bel.size, zeros17, rfl, heap_alloc_new w _, fun h => by
        have := hJ.c6 (by rw [← ho2 6 (by decide)]; exact h)
        rw [hgi] at this
        cases this⟩,
        fun h => by
        obtain ⟨p, q, c, h1, h2, h3⟩ := hJ.h9 (by rw [← ho2 5 (by decide)]; exact h)
        exact ⟨(put_other (by decide)).trans p, q, c, h1, by rw [Below.heap_alloc w _ _ (lt_of_heap h2)]; exact h2, fun h => h3 (by rw [← ho2 7 (by decide)]; exact h)⟩,
        fun h h2 => by
        obtain ⟨p, q, c, h1, h3, _⟩ := hJ.h9 (by rw [← ho2 5 (by decide)]; exact h2)
        have := lt_of_heap h3
        omega,
        fun _ => hs,
        fun h => (ho2 5 (by decide)).trans (hJ.c7 (by rw [← ho2 7 (by decide)]; exact h))⟩
    | 5 =>
      refine ⟨wanted_free (guard_in ho (by kernel_rfl)), fun K hK => ?_⟩
      have hd := dst_in (x := some 9) ho (by kernel_rfl)
      refine wp_value (ex_alloc30 (op_in (x := Op.alloc 30) ho (by kernel_rfl))) ?_
      rw [hd]
      refine hK _ _ fun d' hs ho2 => ⟨b8, w.heap.size, by rw [put_size]; exact hJ.size,
        hJ.defers,
        fun u hu => (put_other (fun e => hu (by subst e; decide))).trans (hJ.frame u hu),
        fun h => (put_other (by decide)).trans (hJ.t31 (by rw [← ho2 0 (by decide)]; exact h)),
        fun h => (put_other (by decide)).trans (hJ.t32 (by rw [← ho2 1 (by decide)]; exact h)),
        fun h => (put_other (by decide)).trans (hJ.t33 (by rw [← ho2 2 (by decide)]; exact h)),
        fun h => (put_other (by decide)).trans (hJ.t34 (by rw [← ho2 3 (by decide)]; exact h)),
        hJ.bel.alloc hJ.bel.size _,
        fun h => by
        obtain ⟨p, q, c, h1, h2, h3⟩ := hJ.h8 (by rw [← ho2 4 (by decide)]; exact h)
        exact ⟨(put_other (by decide)).trans p, q, c, h1, by rw [Below.heap_alloc w _ _ (lt_of_heap h2)]; exact h2, fun h => h3 (by rw [← ho2 6 (by decide)]; exact h)⟩,
        fun _ => ⟨put_at (by rw [hJ.size, hsz]; decide), hJ.bel.size, zeros17, rfl, heap_alloc_new w _, fun h => by
        have := hJ.c7 (by rw [← ho2 7 (by decide)]; exact h)
        rw [hgi] at this
        cases this⟩,
        fun h h2 => by
        obtain ⟨p, q, c, h1, h3, _⟩ := hJ.h8 (by rw [← ho2 4 (by decide)]; exact h)
        have := lt_of_heap h3
        omega,
        fun h => (ho2 4 (by decide)).trans (hJ.c6 (by rw [← ho2 6 (by decide)]; exact h)),
        fun _ => hs⟩
    | 6 =>
      refine ⟨wanted_free (guard_in ho (by kernel_rfl)), fun K hK => ?_⟩
      have hd := dst_in (x := none) ho (by kernel_rfl)
      have d4 : d 4 = true := dep_in (j := 4) ho (by kernel_rfl) hdep
      have d5 : d 5 = true := dep_in (j := 5) ho (by kernel_rfl) hdep
      obtain ⟨hp, hq, c0, hc0, hc, _⟩ := hJ.h8 d4
      refine wp_skip' (Go.Mem.ex_store (op_in (x := Op.store 30 (Operand.tmp 8) (Operand.tmp 32)) ho (by kernel_rfl)) (eval_of hp) (eval_of (hJ.t32 (dep_in (j := 1) ho (by kernel_rfl) hdep))) (run_store30 rfl hc0 hc rfl)) ?_
      rw [hd]
      refine hK _ _ fun d' hs ho2 => ⟨b8, b9, hJ.size,
        hJ.defers,
        hJ.frame,
        fun h => hJ.t31 (by rw [← ho2 0 (by decide)]; exact h),
        fun h => hJ.t32 (by rw [← ho2 1 (by decide)]; exact h),
        fun h => hJ.t33 (by rw [← ho2 2 (by decide)]; exact h),
        fun h => hJ.t34 (by rw [← ho2 3 (by decide)]; exact h),
        setRow_bel hJ.bel hq,
        fun _ => ⟨hp, hq, fileR X, rfl, setRow_heap w _ _ _ 30 (0, 0) hc, fun _ => rfl⟩,
        fun h => by
        obtain ⟨p, q, c, h1, h2, h3⟩ := hJ.h9 (by rw [← ho2 5 (by decide)]; exact h)
        exact ⟨p, q, c, h1, by rw [setRow_other w _ _ _ (Ne.symm (hJ.ne d4 d5))]; exact h2, fun h => h3 (by rw [← ho2 7 (by decide)]; exact h)⟩,
        fun h h2 => hJ.ne d4 d5,
        fun h => (ho2 4 (by decide)).trans (dep_in (j := 4) ho (by kernel_rfl) hdep),
        fun h => (ho2 5 (by decide)).trans (hJ.c7 (by rw [← ho2 7 (by decide)]; exact h))⟩
    | 7 =>
      refine ⟨wanted_free (guard_in ho (by kernel_rfl)), fun K hK => ?_⟩
      have hd := dst_in (x := none) ho (by kernel_rfl)
      have d4 : d 4 = true := dep_in (j := 4) ho (by kernel_rfl) hdep
      have d5 : d 5 = true := dep_in (j := 5) ho (by kernel_rfl) hdep
      obtain ⟨hp, hq, c0, hc0, hc, _⟩ := hJ.h9 d5
      refine wp_skip' (Go.Mem.ex_store (op_in (x := Op.store 30 (Operand.tmp 9) (Operand.tmp 34)) ho (by kernel_rfl)) (eval_of hp) (eval_of (hJ.t34 (dep_in (j := 3) ho (by kernel_rfl) hdep))) (run_store30 rfl hc0 hc rfl)) ?_
      rw [hd]
      refine hK _ _ fun d' hs ho2 => ⟨b8, b9, hJ.size,
        hJ.defers,
        hJ.frame,
        fun h => hJ.t31 (by rw [← ho2 0 (by decide)]; exact h),
        fun h => hJ.t32 (by rw [← ho2 1 (by decide)]; exact h),
        fun h => hJ.t33 (by rw [← ho2 2 (by decide)]; exact h),
        fun h => hJ.t34 (by rw [← ho2 3 (by decide)]; exact h),
        setRow_bel hJ.bel hq,
        fun h => by
        obtain ⟨p, q, c, h1, h2, h3⟩ := hJ.h8 (by rw [← ho2 4 (by decide)]; exact h)
        exact ⟨p, q, c, h1, by rw [setRow_other w _ _ _ (hJ.ne d4 d5)]; exact h2, fun h => h3 (by rw [← ho2 6 (by decide)]; exact h)⟩,
        fun _ => ⟨hp, hq, fileR T, rfl, setRow_heap w _ _ _ 30 (0, 0) hc, fun _ => rfl⟩,
        fun h h2 => hJ.ne d4 d5,
        fun h => (ho2 4 (by decide)).trans (hJ.c6 (by rw [← ho2 6 (by decide)]; exact h)),
        fun h => (ho2 5 (by decide)).trans (dep_in (j := 5) ho (by kernel_rfl) hdep)⟩
    | k + 8 => exact absurd hlt (by omega)
  · rintro d a w hd ⟨b8, b9, hJ⟩
    rw [size8] at hd
    obtain ⟨p8, q8, c8, _, k8, e8⟩ := hJ.h8 (hd 4 (by decide))
    obtain ⟨p9, q9, c9, _, k9, e9⟩ := hJ.h9 (hd 5 (by decide))
    rw [e8 (hd 6 (by decide))] at k8
    rw [e9 (hd 7 (by decide))] at k9
    have e := act_chain a a0 hJ.size hJ.defers [(31, .pointer (some ⟨bx, 0, none⟩)), (32, .agg (fileR X)), (33, .pointer (some ⟨g, 0, none⟩)), (34, .agg (fileR T)), (8, .pointer (some ⟨b8, 0, none⟩)), (9, .pointer (some ⟨b9, 0, none⟩))]
      (fun p hp => by
        simp only [List.mem_cons, List.not_mem_nil, or_false] at hp
        rcases hp with rfl | rfl | rfl | rfl | rfl | rfl
        · exact hJ.t31 (hd 0 (by decide))
        · exact hJ.t32 (hd 1 (by decide))
        · exact hJ.t33 (hd 2 (by decide))
        · exact hJ.t34 (hd 3 (by decide))
        · exact p8
        · exact p9) hJ.frame
    rw [e]
    exact hQ b8 b9 w hJ.bel q8 q9 k8 k9
end Go.Proofs.YtkebphpfedgokaaDoor
