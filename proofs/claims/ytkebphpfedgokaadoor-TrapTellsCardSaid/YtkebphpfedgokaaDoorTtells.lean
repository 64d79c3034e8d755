/-
  TrapTells: traps, returns and pending interrupts are the document's.
-/
import Derived.Test.YtkebphpfedgokaaDoorRefl
import Derived.Test.YtkebphpfedgokaaDoorRefr
set_option linter.unusedVariables false
set_option linter.unusedSimpArgs false
namespace Go.Proofs.YtkebphpfedgokaaDoor
open Go.RowKit Go.Lib Go.Val

theorem eql_self27 (s : St) (w : World) : (binOp .eql 27 (.agg s.r) (.agg s.r)).run Tryd.prog w = .ok (.bool true) w := by
  have h : (Op.equalIn (9999 + 1) 27 (.agg s.r) (.agg s.r)).run Tryd.prog w = .ok true w := by
    rw [run_equalIn_struct w 9999 27 _ _ (by kernel_rfl) (by kernel_rfl)]
    simp [go_sem, Program.fieldsOf, Tryd.underlying27, Tryd.underlying22, Tryd.underlying3]
  show ((Op.equal 27 (.agg s.r) (.agg s.r)) >>= _).run Tryd.prog w = _
  rw [Sem.run_bind, show (Op.equal 27 (.agg s.r) (.agg s.r)).run Tryd.prog w = .ok true w from h]
  rfl
theorem eql_u32 (x : Int) (w : World) : (binOp .eql 22 (.int .u32 x) (.int .u32 x)).run Tryd.prog w = .ok (.bool true) w := by simp [go_sem, binOp]
theorem eql_bool (b : Bool) (w : World) : (binOp .eql 4 (.bool b) (.bool b)).run Tryd.prog w = .ok (.bool true) w := by cases b <;> kernel_rfl

noncomputable def ops_t8 : Array Oper := (Tryd.f3.body.bind (findRegion 8)).getD #[]
theorem dist_t8 : distinctB ops_t8 = true := by kernel_rfl
theorem ord_t8 : orderedB2 ops_t8 = true := by kernel_rfl
theorem size_t8 : ops_t8.size = 37 := by kernel_rfl
noncomputable def val_t8 (s : St) (c v x : Int) (y : Bool) (bx g : Nat) (W : World) (i : Nat) : Value :=
  [(.agg (St.r s)), (.int .u32 c), (.int .u32 v), (.agg (St.r (sTake s c v))), (.agg (St.r (sTake s c v))), (.agg (St.r s)), (.int .u32 c), (.int .u32 v), (.agg (St.r (sTake s c v))), (.bool true), (.bool true), (.agg (St.r s)), (.agg (St.r (sBack s true))), (.agg (St.r (sBack s true))), (.agg (St.r s)), (.agg (St.r (sBack s true))), (.bool true), (.bool true), (.bool true), (.agg (St.r s)), (.agg (St.r (sBack s false))), (.agg (St.r (sBack s false))), (.agg (St.r s)), (.agg (St.r (sBack s false))), (.bool true), (.bool true), (.bool true), (.int .u32 x), (.int .u32 x), (.bool true), (.bool true), (.bool true), (.bool y), (.bool y), (.bool true), (.bool true), (.bool true)].getD i undef
theorem reg_t8 {Q : Exit → Act → World → Prop} {id : Nat} {ops : Array Oper} (hops : ops = ops_t8) (s : St) (c v x : Int) (y : Bool) (bx g : Nat) (W : World) (a0 : Act) (hsz : a0.tmps.size = 65) (e1 : a0.eval (.tmp 1) = (.int .u32 c)) (e2 : a0.eval (.tmp 2) = (.int .u32 v)) (e3 : a0.eval (.tmp 3) = (.pointer (some ⟨bx, 0, none⟩))) (e7 : a0.eval (.tmp 7) = (.pointer (some ⟨g, 0, none⟩))) (e8 : a0.eval (.tmp 8) = (.int .u32 x)) (e9 : a0.eval (.tmp 9) = (.bool y)) (e10 : a0.eval (.tmp 10) = (.int .u32 x)) (e11 : a0.eval (.tmp 11) = (.bool y)) (hr : Right s) (hF : Wf s) (hc : W32 c) (hbx : W.heap[bx]? = some (St.q s)) (hg : W.heap[g]? = some (St.o s))
    (hQ : ∀ (a : Act) (w : World), a.tmps.size = 65 → a.defers = a0.defers → a.eval (.tmp 6) = (.bool true) → (fun (_ : Nat → Bool) (w : World) => Below W.heap.size W w) (fun _ => true) w → Q .normal a w) : (Code.region id ops true).wp Tryd.prog Q a0 W := by
  subst hops
  refine wp_region_val2 (by kernel_rfl) (val_t8 s c v x y bx g W) (fun (_ : Nat → Bool) (w : World) => Below W.heap.size W w) dist_t8 ord_t8 (Below.refl _ _).drew ?_ (fun w hw => hQ _ w (by rw [fillA_size]; exact hsz) (fillA_defers a0) (eval_at (distinct_of dist_t8) (j := 36) (t := 6) (by kernel_rfl) rfl _ (by rw [hsz]; decide)) hw) (fun _ _ _ h => h)
  intro i o gg w ho hgi hdep hcl hI
  have hlt : i < 37 := by rw [← size_t8]; exact (Array.getElem?_eq_some_iff.1 ho).1
  match i with
  | 0 =>
    refine .inl ⟨wanted_free (guard_in ho (by kernel_rfl)), fun K hK => ?_⟩
    exact wp_value (ex_loadAt (op_in (x := Op.load 32 (Operand.tmp 7)) ho (by kernel_rfl)) ((eval_other (noDst_in size_t8 (by kernel_rfl)) a0).trans e7) (Go.Mem.run_loadAt_part (vs := St.r s) rfl Tryd.underlying32 (show w.heap[g]? = some (St.o s) by rw [hI.block g (lt_of_heap hg)]; exact hg) size32 rfl)) (hK _ fun _ _ _ => hI)
  | 1 =>
    refine .inl ⟨wanted_free (guard_in ho (by kernel_rfl)), fun K hK => ?_⟩
    exact wp_value (ex_move (op_in (x := Op.move (Operand.tmp 1)) ho (by kernel_rfl)) ((eval_other (noDst_in size_t8 (by kernel_rfl)) a0).trans e1)) (hK _ fun _ _ _ => hI)
  | 2 =>
    refine .inl ⟨wanted_free (guard_in ho (by kernel_rfl)), fun K hK => ?_⟩
    exact wp_value (ex_move (op_in (x := Op.move (Operand.tmp 2)) ho (by kernel_rfl)) ((eval_other (noDst_in size_t8 (by kernel_rfl)) a0).trans e2)) (hK _ fun _ _ _ => hI)
  | 3 =>
    refine .inl ⟨wanted_free (guard_in ho (by kernel_rfl)), fun K hK => ?_⟩
    refine wp_enter (ex_call (args := #[Operand.tmp 29, Operand.tmp 30, Operand.tmp 31]) (ts := #[32, 22, 22]) (fn := Tryd.f15) (op_in (x := Op.call { callee := Callee.value (Operand.func 15), args := #[Operand.tmp 29, Operand.tmp 30, Operand.tmp 31], argTypes := #[32, 22, 22] }) ho (by kernel_rfl)) (by simp only [List.map_toArray, List.map_cons, List.map_nil, Array.empty_append, Array.append_empty, (eval_at (distinct_of dist_t8) (j := 0) (t := 29) (by kernel_rfl) (dep_in (j := 0) ho (by kernel_rfl) hdep) _ (by rw [hsz]; decide)), (eval_at (distinct_of dist_t8) (j := 1) (t := 30) (by kernel_rfl) (dep_in (j := 1) ho (by kernel_rfl) hdep) _ (by rw [hsz]; decide)), (eval_at (distinct_of dist_t8) (j := 2) (t := 31) (by kernel_rfl) (dep_in (j := 2) ho (by kernel_rfl) hdep) _ (by rw [hsz]; decide))]; rfl) Tryd.func15 (by kernel_rfl) (by kernel_rfl)) (take_calls s c v _) fun e w1 he => ?_
    obtain ⟨rfl, hb⟩ := he
    exact ⟨_, rfl, hK _ fun _ _ _ => hI.trans (hb.mono hI.size)⟩
  | 4 =>
    refine .inl ⟨wanted_free (guard_in ho (by kernel_rfl)), fun K hK => ?_⟩
    refine wp_enter (ex_call (args := #[Operand.tmp 32]) (ts := #[32]) (fn := Tryd.f14) (op_in (x := Op.call { callee := Callee.value (Operand.func 14), args := #[Operand.tmp 32], argTypes := #[32] }) ho (by kernel_rfl)) (by simp only [List.map_toArray, List.map_cons, List.map_nil, Array.empty_append, Array.append_empty, (eval_at (distinct_of dist_t8) (j := 3) (t := 32) (by kernel_rfl) (dep_in (j := 3) ho (by kernel_rfl) hdep) _ (by rw [hsz]; decide))]; rfl) Tryd.func14 (by kernel_rfl) (by kernel_rfl)) (ours_calls (sTake s c v) _) fun e w1 he => ?_
    obtain ⟨rfl, hb⟩ := he
    exact ⟨_, rfl, hK _ fun _ _ _ => hI.trans (hb.mono hI.size)⟩
  | 5 =>
    refine .inl ⟨wanted_free (guard_in ho (by kernel_rfl)), fun K hK => ?_⟩
    exact wp_value (ex_loadAt (op_in (x := Op.load 27 (Operand.tmp 3)) ho (by kernel_rfl)) ((eval_other (noDst_in size_t8 (by kernel_rfl)) a0).trans e3) (Go.Mem.run_loadAt_part (vs := St.r s) rfl Tryd.underlying27 (show w.heap[bx]? = some (St.q s) by rw [hI.block bx (lt_of_heap hbx)]; exact hbx) size27 rfl)) (hK _ fun _ _ _ => hI)
  | 6 =>
    refine .inl ⟨wanted_free (guard_in ho (by kernel_rfl)), fun K hK => ?_⟩
    exact wp_value (ex_move (op_in (x := Op.move (Operand.tmp 1)) ho (by kernel_rfl)) ((eval_other (noDst_in size_t8 (by kernel_rfl)) a0).trans e1)) (hK _ fun _ _ _ => hI)
  | 7 =>
    refine .inl ⟨wanted_free (guard_in ho (by kernel_rfl)), fun K hK => ?_⟩
    exact wp_value (ex_move (op_in (x := Op.move (Operand.tmp 2)) ho (by kernel_rfl)) ((eval_other (noDst_in size_t8 (by kernel_rfl)) a0).trans e2)) (hK _ fun _ _ _ => hI)
  | 8 =>
    refine .inl ⟨wanted_free (guard_in ho (by kernel_rfl)), fun K hK => ?_⟩
    refine wp_enter (ex_call (args := #[Operand.tmp 34, Operand.tmp 35, Operand.tmp 36]) (ts := #[27, 22, 22]) (fn := Tryd.f16) (op_in (x := Op.call { callee := Callee.value (Operand.func 16), args := #[Operand.tmp 34, Operand.tmp 35, Operand.tmp 36], argTypes := #[27, 22, 22] }) ho (by kernel_rfl)) (by simp only [List.map_toArray, List.map_cons, List.map_nil, Array.empty_append, Array.append_empty, (eval_at (distinct_of dist_t8) (j := 5) (t := 34) (by kernel_rfl) (dep_in (j := 5) ho (by kernel_rfl) hdep) _ (by rw [hsz]; decide)), (eval_at (distinct_of dist_t8) (j := 6) (t := 35) (by kernel_rfl) (dep_in (j := 6) ho (by kernel_rfl) hdep) _ (by rw [hsz]; decide)), (eval_at (distinct_of dist_t8) (j := 7) (t := 36) (by kernel_rfl) (dep_in (j := 7) ho (by kernel_rfl) hdep) _ (by rw [hsz]; decide))]; rfl) Tryd.func16 (by kernel_rfl) (by kernel_rfl)) (rtake_calls s c v hr hF hc _) fun e w1 he => ?_
    obtain ⟨rfl, hb⟩ := he
    exact ⟨_, rfl, hK _ fun _ _ _ => hI.trans (hb.mono hI.size)⟩
  | 9 =>
    refine .inl ⟨wanted_free (guard_in ho (by kernel_rfl)), fun K hK => ?_⟩
    exact wp_value (ex_eql_agg (op_in (x := Op.binOp BinOp.eql 27 (Operand.tmp 33) (Operand.tmp 37) 27) ho (by kernel_rfl)) (eval_at (distinct_of dist_t8) (j := 4) (t := 33) (by kernel_rfl) (dep_in (j := 4) ho (by kernel_rfl) hdep) _ (by rw [hsz]; decide)) (eval_at (distinct_of dist_t8) (j := 8) (t := 37) (by kernel_rfl) (dep_in (j := 8) ho (by kernel_rfl) hdep) _ (by rw [hsz]; decide)) (by kernel_rfl) (eql_self27 (sTake s c v) _)) (hK _ fun _ _ _ => hI)
  | 10 =>
    refine .inl ⟨wanted_free (guard_in ho (by kernel_rfl)), fun K hK => ?_⟩
    exact wp_value (ex_move (op_in (x := Op.move (Operand.tmp 38)) ho (by kernel_rfl)) (eval_at (distinct_of dist_t8) (j := 9) (t := 38) (by kernel_rfl) (dep_in (j := 9) ho (by kernel_rfl) hdep) _ (by rw [hsz]; decide))) (hK _ fun _ _ _ => hI)
  | 11 =>
    refine .inl ⟨wanted_at (guard_in ho (by kernel_rfl)) (show dstOf ops_t8 10 = some 39 by kernel_rfl) (tmps_at (distinct_of dist_t8) (j := 10) (by kernel_rfl) (dep_in (j := 10) ho (by kernel_rfl) hdep) _ (by rw [hsz]; decide)), fun K hK => ?_⟩
    exact wp_value (ex_loadAt (op_in (x := Op.load 32 (Operand.tmp 7)) ho (by kernel_rfl)) ((eval_other (noDst_in size_t8 (by kernel_rfl)) a0).trans e7) (Go.Mem.run_loadAt_part (vs := St.r s) rfl Tryd.underlying32 (show w.heap[g]? = some (St.o s) by rw [hI.block g (lt_of_heap hg)]; exact hg) size32 rfl)) (hK _ fun _ _ _ => hI)
  | 12 =>
    refine .inl ⟨wanted_at (guard_in ho (by kernel_rfl)) (show dstOf ops_t8 10 = some 39 by kernel_rfl) (tmps_at (distinct_of dist_t8) (j := 10) (by kernel_rfl) (dep_in (j := 10) ho (by kernel_rfl) hdep) _ (by rw [hsz]; decide)), fun K hK => ?_⟩
    refine wp_enter (ex_call (args := #[Operand.tmp 40, Operand.const (Value.bool true)]) (ts := #[32, 4]) (fn := Tryd.f17) (op_in (x := Op.call { callee := Callee.value (Operand.func 17), args := #[Operand.tmp 40, Operand.const (Value.bool true)], argTypes := #[32, 4] }) ho (by kernel_rfl)) (by simp only [List.map_toArray, List.map_cons, List.map_nil, Array.empty_append, Array.append_empty, (eval_at (distinct_of dist_t8) (j := 11) (t := 40) (by kernel_rfl) (dep_in (j := 11) ho (by kernel_rfl) hdep) _ (by rw [hsz]; decide))]; rfl) Tryd.func17 (by kernel_rfl) (by kernel_rfl)) (back_calls s true _) fun e w1 he => ?_
    obtain ⟨rfl, hb⟩ := he
    exact ⟨_, rfl, hK _ fun _ _ _ => hI.trans (hb.mono hI.size)⟩
  | 13 =>
    refine .inl ⟨wanted_at (guard_in ho (by kernel_rfl)) (show dstOf ops_t8 10 = some 39 by kernel_rfl) (tmps_at (distinct_of dist_t8) (j := 10) (by kernel_rfl) (dep_in (j := 10) ho (by kernel_rfl) hdep) _ (by rw [hsz]; decide)), fun K hK => ?_⟩
    refine wp_enter (ex_call (args := #[Operand.tmp 41]) (ts := #[32]) (fn := Tryd.f14) (op_in (x := Op.call { callee := Callee.value (Operand.func 14), args := #[Operand.tmp 41], argTypes := #[32] }) ho (by kernel_rfl)) (by simp only [List.map_toArray, List.map_cons, List.map_nil, Array.empty_append, Array.append_empty, (eval_at (distinct_of dist_t8) (j := 12) (t := 41) (by kernel_rfl) (dep_in (j := 12) ho (by kernel_rfl) hdep) _ (by rw [hsz]; decide))]; rfl) Tryd.func14 (by kernel_rfl) (by kernel_rfl)) (ours_calls (sBack s true) _) fun e w1 he => ?_
    obtain ⟨rfl, hb⟩ := he
    exact ⟨_, rfl, hK _ fun _ _ _ => hI.trans (hb.mono hI.size)⟩
  | 14 =>
    refine .inl ⟨wanted_at (guard_in ho (by kernel_rfl)) (show dstOf ops_t8 10 = some 39 by kernel_rfl) (tmps_at (distinct_of dist_t8) (j := 10) (by kernel_rfl) (dep_in (j := 10) ho (by kernel_rfl) hdep) _ (by rw [hsz]; decide)), fun K hK => ?_⟩
    exact wp_value (ex_loadAt (op_in (x := Op.load 27 (Operand.tmp 3)) ho (by kernel_rfl)) ((eval_other (noDst_in size_t8 (by kernel_rfl)) a0).trans e3) (Go.Mem.run_loadAt_part (vs := St.r s) rfl Tryd.underlying27 (show w.heap[bx]? = some (St.q s) by rw [hI.block bx (lt_of_heap hbx)]; exact hbx) size27 rfl)) (hK _ fun _ _ _ => hI)
  | 15 =>
    refine .inl ⟨wanted_at (guard_in ho (by kernel_rfl)) (show dstOf ops_t8 10 = some 39 by kernel_rfl) (tmps_at (distinct_of dist_t8) (j := 10) (by kernel_rfl) (dep_in (j := 10) ho (by kernel_rfl) hdep) _ (by rw [hsz]; decide)), fun K hK => ?_⟩
    refine wp_enter (ex_call (args := #[Operand.tmp 43, Operand.const (Value.bool true)]) (ts := #[27, 4]) (fn := Tryd.f18) (op_in (x := Op.call { callee := Callee.value (Operand.func 18), args := #[Operand.tmp 43, Operand.const (Value.bool true)], argTypes := #[27, 4] }) ho (by kernel_rfl)) (by simp only [List.map_toArray, List.map_cons, List.map_nil, Array.empty_append, Array.append_empty, (eval_at (distinct_of dist_t8) (j := 14) (t := 43) (by kernel_rfl) (dep_in (j := 14) ho (by kernel_rfl) hdep) _ (by rw [hsz]; decide))]; rfl) Tryd.func18 (by kernel_rfl) (by kernel_rfl)) (rback_calls s hF true _) fun e w1 he => ?_
    obtain ⟨rfl, hb⟩ := he
    exact ⟨_, rfl, hK _ fun _ _ _ => hI.trans (hb.mono hI.size)⟩
  | 16 =>
    refine .inl ⟨wanted_at (guard_in ho (by kernel_rfl)) (show dstOf ops_t8 10 = some 39 by kernel_rfl) (tmps_at (distinct_of dist_t8) (j := 10) (by kernel_rfl) (dep_in (j := 10) ho (by kernel_rfl) hdep) _ (by rw [hsz]; decide)), fun K hK => ?_⟩
    exact wp_value (ex_eql_agg (op_in (x := Op.binOp BinOp.eql 27 (Operand.tmp 42) (Operand.tmp 44) 27) ho (by kernel_rfl)) (eval_at (distinct_of dist_t8) (j := 13) (t := 42) (by kernel_rfl) (dep_in (j := 13) ho (by kernel_rfl) hdep) _ (by rw [hsz]; decide)) (eval_at (distinct_of dist_t8) (j := 15) (t := 44) (by kernel_rfl) (dep_in (j := 15) ho (by kernel_rfl) hdep) _ (by rw [hsz]; decide)) (by kernel_rfl) (eql_self27 (sBack s true) _)) (hK _ fun _ _ _ => hI)
  | 17 =>
    refine .inl ⟨wanted_free (guard_in ho (by kernel_rfl)), fun K hK => ?_⟩
    exact wp_value (ex_pick (op_in (x := Op.pick (Operand.tmp 39) (Operand.tmp 45) (Operand.const (Value.bool false))) ho (by kernel_rfl)) (eval_at (distinct_of dist_t8) (j := 10) (t := 39) (by kernel_rfl) (dep_in (j := 10) ho (by kernel_rfl) hdep) _ (by rw [hsz]; decide)) (eval_at (distinct_of dist_t8) (j := 16) (t := 45) (by kernel_rfl) (dep_in (j := 16) ho (by kernel_rfl) hdep) _ (by rw [hsz]; decide)) rfl) (hK _ fun _ _ _ => hI)
  | 18 =>
    refine .inl ⟨wanted_free (guard_in ho (by kernel_rfl)), fun K hK => ?_⟩
    exact wp_value (ex_move (op_in (x := Op.move (Operand.tmp 46)) ho (by kernel_rfl)) (eval_at (distinct_of dist_t8) (j := 17) (t := 46) (by kernel_rfl) (dep_in (j := 17) ho (by kernel_rfl) hdep) _ (by rw [hsz]; decide))) (hK _ fun _ _ _ => hI)
  | 19 =>
    refine .inl ⟨wanted_at (guard_in ho (by kernel_rfl)) (show dstOf ops_t8 18 = some 47 by kernel_rfl) (tmps_at (distinct_of dist_t8) (j := 18) (by kernel_rfl) (dep_in (j := 18) ho (by kernel_rfl) hdep) _ (by rw [hsz]; decide)), fun K hK => ?_⟩
    exact wp_value (ex_loadAt (op_in (x := Op.load 32 (Operand.tmp 7)) ho (by kernel_rfl)) ((eval_other (noDst_in size_t8 (by kernel_rfl)) a0).trans e7) (Go.Mem.run_loadAt_part (vs := St.r s) rfl Tryd.underlying32 (show w.heap[g]? = some (St.o s) by rw [hI.block g (lt_of_heap hg)]; exact hg) size32 rfl)) (hK _ fun _ _ _ => hI)
  | 20 =>
    refine .inl ⟨wanted_at (guard_in ho (by kernel_rfl)) (show dstOf ops_t8 18 = some 47 by kernel_rfl) (tmps_at (distinct_of dist_t8) (j := 18) (by kernel_rfl) (dep_in (j := 18) ho (by kernel_rfl) hdep) _ (by rw [hsz]; decide)), fun K hK => ?_⟩
    refine wp_enter (ex_call (args := #[Operand.tmp 48, Operand.const (Value.bool false)]) (ts := #[32, 4]) (fn := Tryd.f17) (op_in (x := Op.call { callee := Callee.value (Operand.func 17), args := #[Operand.tmp 48, Operand.const (Value.bool false)], argTypes := #[32, 4] }) ho (by kernel_rfl)) (by simp only [List.map_toArray, List.map_cons, List.map_nil, Array.empty_append, Array.append_empty, (eval_at (distinct_of dist_t8) (j := 19) (t := 48) (by kernel_rfl) (dep_in (j := 19) ho (by kernel_rfl) hdep) _ (by rw [hsz]; decide))]; rfl) Tryd.func17 (by kernel_rfl) (by kernel_rfl)) (back_calls s false _) fun e w1 he => ?_
    obtain ⟨rfl, hb⟩ := he
    exact ⟨_, rfl, hK _ fun _ _ _ => hI.trans (hb.mono hI.size)⟩
  | 21 =>
    refine .inl ⟨wanted_at (guard_in ho (by kernel_rfl)) (show dstOf ops_t8 18 = some 47 by kernel_rfl) (tmps_at (distinct_of dist_t8) (j := 18) (by kernel_rfl) (dep_in (j := 18) ho (by kernel_rfl) hdep) _ (by rw [hsz]; decide)), fun K hK => ?_⟩
    refine wp_enter (ex_call (args := #[Operand.tmp 49]) (ts := #[32]) (fn := Tryd.f14) (op_in (x := Op.call { callee := Callee.value (Operand.func 14), args := #[Operand.tmp 49], argTypes := #[32] }) ho (by kernel_rfl)) (by simp only [List.map_toArray, List.map_cons, List.map_nil, Array.empty_append, Array.append_empty, (eval_at (distinct_of dist_t8) (j := 20) (t := 49) (by kernel_rfl) (dep_in (j := 20) ho (by kernel_rfl) hdep) _ (by rw [hsz]; decide))]; rfl) Tryd.func14 (by kernel_rfl) (by kernel_rfl)) (ours_calls (sBack s false) _) fun e w1 he => ?_
    obtain ⟨rfl, hb⟩ := he
    exact ⟨_, rfl, hK _ fun _ _ _ => hI.trans (hb.mono hI.size)⟩
  | 22 =>
    refine .inl ⟨wanted_at (guard_in ho (by kernel_rfl)) (show dstOf ops_t8 18 = some 47 by kernel_rfl) (tmps_at (distinct_of dist_t8) (j := 18) (by kernel_rfl) (dep_in (j := 18) ho (by kernel_rfl) hdep) _ (by rw [hsz]; decide)), fun K hK => ?_⟩
    exact wp_value (ex_loadAt (op_in (x := Op.load 27 (Operand.tmp 3)) ho (by kernel_rfl)) ((eval_other (noDst_in size_t8 (by kernel_rfl)) a0).trans e3) (Go.Mem.run_loadAt_part (vs := St.r s) rfl Tryd.underlying27 (show w.heap[bx]? = some (St.q s) by rw [hI.block bx (lt_of_heap hbx)]; exact hbx) size27 rfl)) (hK _ fun _ _ _ => hI)
  | 23 =>
    refine .inl ⟨wanted_at (guard_in ho (by kernel_rfl)) (show dstOf ops_t8 18 = some 47 by kernel_rfl) (tmps_at (distinct_of dist_t8) (j := 18) (by kernel_rfl) (dep_in (j := 18) ho (by kernel_rfl) hdep) _ (by rw [hsz]; decide)), fun K hK => ?_⟩
    refine wp_enter (ex_call (args := #[Operand.tmp 51, Operand.const (Value.bool false)]) (ts := #[27, 4]) (fn := Tryd.f18) (op_in (x := Op.call { callee := Callee.value (Operand.func 18), args := #[Operand.tmp 51, Operand.const (Value.bool false)], argTypes := #[27, 4] }) ho (by kernel_rfl)) (by simp only [List.map_toArray, List.map_cons, List.map_nil, Array.empty_append, Array.append_empty, (eval_at (distinct_of dist_t8) (j := 22) (t := 51) (by kernel_rfl) (dep_in (j := 22) ho (by kernel_rfl) hdep) _ (by rw [hsz]; decide))]; rfl) Tryd.func18 (by kernel_rfl) (by kernel_rfl)) (rback_calls s hF false _) fun e w1 he => ?_
    obtain ⟨rfl, hb⟩ := he
    exact ⟨_, rfl, hK _ fun _ _ _ => hI.trans (hb.mono hI.size)⟩
  | 24 =>
    refine .inl ⟨wanted_at (guard_in ho (by kernel_rfl)) (show dstOf ops_t8 18 = some 47 by kernel_rfl) (tmps_at (distinct_of dist_t8) (j := 18) (by kernel_rfl) (dep_in (j := 18) ho (by kernel_rfl) hdep) _ (by rw [hsz]; decide)), fun K hK => ?_⟩
    exact wp_value (ex_eql_agg (op_in (x := Op.binOp BinOp.eql 27 (Operand.tmp 50) (Operand.tmp 52) 27) ho (by kernel_rfl)) (eval_at (distinct_of dist_t8) (j := 21) (t := 50) (by kernel_rfl) (dep_in (j := 21) ho (by kernel_rfl) hdep) _ (by rw [hsz]; decide)) (eval_at (distinct_of dist_t8) (j := 23) (t := 52) (by kernel_rfl) (dep_in (j := 23) ho (by kernel_rfl) hdep) _ (by rw [hsz]; decide)) (by kernel_rfl) (eql_self27 (sBack s false) _)) (hK _ fun _ _ _ => hI)
  | 25 =>
    refine .inl ⟨wanted_free (guard_in ho (by kernel_rfl)), fun K hK => ?_⟩
    exact wp_value (ex_pick (op_in (x := Op.pick (Operand.tmp 47) (Operand.tmp 53) (Operand.const (Value.bool false))) ho (by kernel_rfl)) (eval_at (distinct_of dist_t8) (j := 18) (t := 47) (by kernel_rfl) (dep_in (j := 18) ho (by kernel_rfl) hdep) _ (by rw [hsz]; decide)) (eval_at (distinct_of dist_t8) (j := 24) (t := 53) (by kernel_rfl) (dep_in (j := 24) ho (by kernel_rfl) hdep) _ (by rw [hsz]; decide)) rfl) (hK _ fun _ _ _ => hI)
  | 26 =>
    refine .inl ⟨wanted_free (guard_in ho (by kernel_rfl)), fun K hK => ?_⟩
    exact wp_value (ex_move (op_in (x := Op.move (Operand.tmp 54)) ho (by kernel_rfl)) (eval_at (distinct_of dist_t8) (j := 25) (t := 54) (by kernel_rfl) (dep_in (j := 25) ho (by kernel_rfl) hdep) _ (by rw [hsz]; decide))) (hK _ fun _ _ _ => hI)
  | 27 =>
    refine .inl ⟨wanted_at (guard_in ho (by kernel_rfl)) (show dstOf ops_t8 26 = some 55 by kernel_rfl) (tmps_at (distinct_of dist_t8) (j := 26) (by kernel_rfl) (dep_in (j := 26) ho (by kernel_rfl) hdep) _ (by rw [hsz]; decide)), fun K hK => ?_⟩
    exact wp_value (ex_move (op_in (x := Op.move (Operand.tmp 8)) ho (by kernel_rfl)) ((eval_other (noDst_in size_t8 (by kernel_rfl)) a0).trans e8)) (hK _ fun _ _ _ => hI)
  | 28 =>
    refine .inl ⟨wanted_at (guard_in ho (by kernel_rfl)) (show dstOf ops_t8 26 = some 55 by kernel_rfl) (tmps_at (distinct_of dist_t8) (j := 26) (by kernel_rfl) (dep_in (j := 26) ho (by kernel_rfl) hdep) _ (by rw [hsz]; decide)), fun K hK => ?_⟩
    exact wp_value (ex_move (op_in (x := Op.move (Operand.tmp 10)) ho (by kernel_rfl)) ((eval_other (noDst_in size_t8 (by kernel_rfl)) a0).trans e10)) (hK _ fun _ _ _ => hI)
  | 29 =>
    refine .inl ⟨wanted_at (guard_in ho (by kernel_rfl)) (show dstOf ops_t8 26 = some 55 by kernel_rfl) (tmps_at (distinct_of dist_t8) (j := 26) (by kernel_rfl) (dep_in (j := 26) ho (by kernel_rfl) hdep) _ (by rw [hsz]; decide)), fun K hK => ?_⟩
    exact wp_value (ex_binOp (op_in (x := Op.binOp BinOp.eql 22 (Operand.tmp 56) (Operand.tmp 57) 22) ho (by kernel_rfl)) (eval_at (distinct_of dist_t8) (j := 27) (t := 56) (by kernel_rfl) (dep_in (j := 27) ho (by kernel_rfl) hdep) _ (by rw [hsz]; decide)) (eval_at (distinct_of dist_t8) (j := 28) (t := 57) (by kernel_rfl) (dep_in (j := 28) ho (by kernel_rfl) hdep) _ (by rw [hsz]; decide)) rfl (eql_u32 x _)) (hK _ fun _ _ _ => hI)
  | 30 =>
    refine .inl ⟨wanted_free (guard_in ho (by kernel_rfl)), fun K hK => ?_⟩
    exact wp_value (ex_pick (op_in (x := Op.pick (Operand.tmp 55) (Operand.tmp 58) (Operand.const (Value.bool false))) ho (by kernel_rfl)) (eval_at (distinct_of dist_t8) (j := 26) (t := 55) (by kernel_rfl) (dep_in (j := 26) ho (by kernel_rfl) hdep) _ (by rw [hsz]; decide)) (eval_at (distinct_of dist_t8) (j := 29) (t := 58) (by kernel_rfl) (dep_in (j := 29) ho (by kernel_rfl) hdep) _ (by rw [hsz]; decide)) rfl) (hK _ fun _ _ _ => hI)
  | 31 =>
    refine .inl ⟨wanted_free (guard_in ho (by kernel_rfl)), fun K hK => ?_⟩
    exact wp_value (ex_move (op_in (x := Op.move (Operand.tmp 59)) ho (by kernel_rfl)) (eval_at (distinct_of dist_t8) (j := 30) (t := 59) (by kernel_rfl) (dep_in (j := 30) ho (by kernel_rfl) hdep) _ (by rw [hsz]; decide))) (hK _ fun _ _ _ => hI)
  | 32 =>
    refine .inl ⟨wanted_at (guard_in ho (by kernel_rfl)) (show dstOf ops_t8 31 = some 60 by kernel_rfl) (tmps_at (distinct_of dist_t8) (j := 31) (by kernel_rfl) (dep_in (j := 31) ho (by kernel_rfl) hdep) _ (by rw [hsz]; decide)), fun K hK => ?_⟩
    exact wp_value (ex_move (op_in (x := Op.move (Operand.tmp 9)) ho (by kernel_rfl)) ((eval_other (noDst_in size_t8 (by kernel_rfl)) a0).trans e9)) (hK _ fun _ _ _ => hI)
  | 33 =>
    refine .inl ⟨wanted_at (guard_in ho (by kernel_rfl)) (show dstOf ops_t8 31 = some 60 by kernel_rfl) (tmps_at (distinct_of dist_t8) (j := 31) (by kernel_rfl) (dep_in (j := 31) ho (by kernel_rfl) hdep) _ (by rw [hsz]; decide)), fun K hK => ?_⟩
    exact wp_value (ex_move (op_in (x := Op.move (Operand.tmp 11)) ho (by kernel_rfl)) ((eval_other (noDst_in size_t8 (by kernel_rfl)) a0).trans e11)) (hK _ fun _ _ _ => hI)
  | 34 =>
    refine .inl ⟨wanted_at (guard_in ho (by kernel_rfl)) (show dstOf ops_t8 31 = some 60 by kernel_rfl) (tmps_at (distinct_of dist_t8) (j := 31) (by kernel_rfl) (dep_in (j := 31) ho (by kernel_rfl) hdep) _ (by rw [hsz]; decide)), fun K hK => ?_⟩
    exact wp_value (ex_binOp (op_in (x := Op.binOp BinOp.eql 4 (Operand.tmp 61) (Operand.tmp 62) 4) ho (by kernel_rfl)) (eval_at (distinct_of dist_t8) (j := 32) (t := 61) (by kernel_rfl) (dep_in (j := 32) ho (by kernel_rfl) hdep) _ (by rw [hsz]; decide)) (eval_at (distinct_of dist_t8) (j := 33) (t := 62) (by kernel_rfl) (dep_in (j := 33) ho (by kernel_rfl) hdep) _ (by rw [hsz]; decide)) rfl (eql_bool y _)) (hK _ fun _ _ _ => hI)
  | 35 =>
    refine .inl ⟨wanted_free (guard_in ho (by kernel_rfl)), fun K hK => ?_⟩
    exact wp_value (ex_pick (op_in (x := Op.pick (Operand.tmp 60) (Operand.tmp 63) (Operand.const (Value.bool false))) ho (by kernel_rfl)) (eval_at (distinct_of dist_t8) (j := 31) (t := 60) (by kernel_rfl) (dep_in (j := 31) ho (by kernel_rfl) hdep) _ (by rw [hsz]; decide)) (eval_at (distinct_of dist_t8) (j := 34) (t := 63) (by kernel_rfl) (dep_in (j := 34) ho (by kernel_rfl) hdep) _ (by rw [hsz]; decide)) rfl) (hK _ fun _ _ _ => hI)
  | 36 =>
    refine .inl ⟨wanted_free (guard_in ho (by kernel_rfl)), fun K hK => ?_⟩
    exact wp_value (ex_assign (op_in (x := Op.assign (Operand.tmp 64)) ho (by kernel_rfl)) (eval_at (distinct_of dist_t8) (j := 35) (t := 64) (by kernel_rfl) (dep_in (j := 35) ho (by kernel_rfl) hdep) _ (by rw [hsz]; decide))) (hK _ fun _ _ _ => hI)
  | k + 37 => exact absurd hlt (by omega)

set_option maxRecDepth 100000 in
set_option maxHeartbeats 1600000 in
theorem ttells_wrong (s : St) (c v : Int) (hr : ¬ Right s) (w : World) (hT : Tab w) : Calls Tryd.prog 3 #[.agg s.r, .int .u32 c, .int .u32 v] w fun e w' => e = .returned (.bool true) ∧ Below w.heap.size w w' := by
  obtain ⟨x0, x1, x2, x3, x4, x5, x6, x7, x8, x9, x10, x11, x12, x13, x14, x15, x16, p, pc⟩ := s
  have HT := _root_.Go.Lib.hid hT
  clear hT
  have k0 := (KW.start (Below.refl w.heap.size w) (Nat.le_refl _)).push (St.q ⟨x0, x1, x2, x3, x4, x5, x6, x7, x8, x9, x10, x11, x12, x13, x14, x15, x16, p, pc⟩)
  have H0 := _root_.Go.Lib.hid k0
  clear k0
  have HR := _root_.Go.Lib.hid hr
  clear hr
  go_enter Tryd.func3, Tryd.ntmps3
  go_wp2_with fail
  refine (alive_calls _ (HT.out.below H0.out.bel HT.out.pos)).mono ?_
  rintro e w1 ⟨rfl, hb⟩
  have k := H0.out.grown hb
  clear hb H0
  have H1 := _root_.Go.Lib.hid k
  clear k
  go_wp2_with ((with_reducible apply wpList_load_at 27 Tryd.underlying27); rfl; exact H1.out.get (g := w.heap.size) (o := St.q ⟨x0, x1, x2, x3, x4, x5, x6, x7, x8, x9, x10, x11, x12, x13, x14, x15, x16, p, pc⟩) (by simp); rfl; exact size27)
  refine (wrong_calls ⟨x0, x1, x2, x3, x4, x5, x6, x7, x8, x9, x10, x11, x12, x13, x14, x15, x16, p, pc⟩ HR.out _).mono ?_
  rintro e w2 ⟨rfl, hb⟩
  have k := H1.out.grown hb
  clear hb H1
  have H2 := _root_.Go.Lib.hid k
  clear k
  go_wp2
  go_ret
  exact ⟨rfl, H2.out.bel⟩
set_option maxRecDepth 100000 in
set_option maxHeartbeats 1600000 in
theorem ttells_right (s : St) (c v : Int) (hr : Right s) (hF : Wf s) (hc : W32 c) (w : World) (hT : Tab w) : Calls Tryd.prog 3 #[.agg s.r, .int .u32 c, .int .u32 v] w fun e w' => e = .returned (.bool true) ∧ Below w.heap.size w w' := by
  obtain ⟨x, i, hxi⟩ : ∃ x i, sPend s = (x, i) := ⟨_, _, rfl⟩
  have p1 : ∀ w, Tab w → Calls Tryd.prog 12 #[.agg s.r] w fun e w' => e = .returned (.tuple #[.int .u32 x, .bool i]) ∧ Below w.heap.size w w' := by
    intro w h
    have := pending_calls s hr w h
    rw [hxi] at this
    exact this
  have p2 : ∀ w, Calls Tryd.prog 13 #[.agg s.r] w fun e w' => e = .returned (.tuple #[.int .u32 x, .bool i]) ∧ Below w.heap.size w w' := by
    intro w
    have := rpend_calls s hr hF w
    rw [hxi] at this
    exact this
  have P1 := _root_.Go.Lib.hid p1
  have P2 := _root_.Go.Lib.hid p2
  have HF := _root_.Go.Lib.hid (And.intro hF hc)
  clear p1 p2 hxi hF hc
  obtain ⟨x0, x1, x2, x3, x4, x5, x6, x7, x8, x9, x10, x11, x12, x13, x14, x15, x16, p, pc⟩ := s
  have HT := _root_.Go.Lib.hid hT
  clear hT
  have k0 := (KW.start (Below.refl w.heap.size w) (Nat.le_refl _)).push (St.q ⟨x0, x1, x2, x3, x4, x5, x6, x7, x8, x9, x10, x11, x12, x13, x14, x15, x16, p, pc⟩)
  have H0 := _root_.Go.Lib.hid k0
  clear k0
  have HR := _root_.Go.Lib.hid hr
  clear hr
  go_enter Tryd.func3, Tryd.ntmps3
  go_wp2_with fail
  refine (alive_calls _ (HT.out.below H0.out.bel HT.out.pos)).mono ?_
  rintro e w1 ⟨rfl, hb⟩
  have k := H0.out.grown hb
  clear hb H0
  have H1 := _root_.Go.Lib.hid k
  clear k
  go_wp2_with ((with_reducible apply wpList_load_at 27 Tryd.underlying27); rfl; exact H1.out.get (g := w.heap.size) (o := St.q ⟨x0, x1, x2, x3, x4, x5, x6, x7, x8, x9, x10, x11, x12, x13, x14, x15, x16, p, pc⟩) (by simp); rfl; exact size27)
  refine (right_calls ⟨x0, x1, x2, x3, x4, x5, x6, x7, x8, x9, x10, x11, x12, x13, x14, x15, x16, p, pc⟩ HR.out _).mono ?_
  rintro e w2 ⟨rfl, hb⟩
  have k := H1.out.grown hb
  clear hb H1
  have H2 := _root_.Go.Lib.hid k
  clear k
  go_wp2_with ((with_reducible apply wpList_load_at 27 Tryd.underlying27); rfl; exact H2.out.get (g := w.heap.size) (o := St.q ⟨x0, x1, x2, x3, x4, x5, x6, x7, x8, x9, x10, x11, x12, x13, x14, x15, x16, p, pc⟩) (by simp); rfl; exact size27)
  refine (theirs_calls ⟨x0, x1, x2, x3, x4, x5, x6, x7, x8, x9, x10, x11, x12, x13, x14, x15, x16, p, pc⟩ _).mono ?_
  rintro e w3 ⟨rfl, hb⟩
  have k := H2.out.grown hb
  clear hb H2
  have H3 := _root_.Go.Lib.hid k
  clear k
  have k := H3.out.push resO
  have P := _root_.Go.Lib.hid k
  clear k
  go_upto_region 6 with ((with_reducible apply wpList_store_at 32); rfl; rfl; (exact P.out.get (g := w3.heap.size) (o := resO) (by simp)); exact size32; rfl; rfl; rfl; (have h := KW.row (vs := St.r ⟨x0, x1, x2, x3, x4, x5, x6, x7, x8, x9, x10, x11, x12, x13, x14, x15, x16, p, pc⟩) P.out); (generalize World.setRow _ (World.heap w3).size _ = w4 at h ⊢))
  generalize (World.heap w3).size = g1 at h ⊢
  clear P H3 w3
  have H4 := _root_.Go.Lib.hid h
  clear h
  go_wp2_with ((with_reducible apply wpList_load_at 32 Tryd.underlying32); rfl; exact H4.out.get (g := g1) (o := St.o ⟨x0, x1, x2, x3, x4, x5, x6, x7, x8, x9, x10, x11, x12, x13, x14, x15, x16, p, pc⟩) (by simp); rfl; exact size32)
  refine (P1.out _ (HT.out.below H4.out.bel HT.out.pos)).mono ?_
  rintro e w5 ⟨rfl, hb⟩
  have k := H4.out.grown hb
  clear hb H4
  have H5 := _root_.Go.Lib.hid k
  clear k
  go_wp2_with ((with_reducible apply wpList_load_at 27 Tryd.underlying27); rfl; exact H5.out.get (g := w.heap.size) (o := St.q ⟨x0, x1, x2, x3, x4, x5, x6, x7, x8, x9, x10, x11, x12, x13, x14, x15, x16, p, pc⟩) (by simp); rfl; exact size27)
  refine (P2.out _).mono ?_
  rintro e w6 ⟨rfl, hb⟩
  have k := H5.out.grown hb
  clear hb H5
  have H6 := _root_.Go.Lib.hid k
  clear k
  go_upto_region 8 with fail
  refine reg_t8 (by kernel_rfl) ⟨x0, x1, x2, x3, x4, x5, x6, x7, x8, x9, x10, x11, x12, x13, x14, x15, x16, p, pc⟩ c v x i w.heap.size g1 _ _ ?k0 ?k1 ?k2 ?k3 ?k7 ?k8 ?k9 ?k10 ?k11 HR.out HF.out.1 HF.out.2 ?ka ?kb ?kc
  case k0 => rfl
  case k1 => rfl
  case k2 => rfl
  case k3 => rfl
  case k7 => rfl
  case k8 => rfl
  case k9 => rfl
  case k10 => rfl
  case k11 => rfl
  case ka => exact H6.out.get (g := w.heap.size) (o := St.q ⟨x0, x1, x2, x3, x4, x5, x6, x7, x8, x9, x10, x11, x12, x13, x14, x15, x16, p, pc⟩) (by simp)
  case kb => exact H6.out.get (g := g1) (o := St.o ⟨x0, x1, x2, x3, x4, x5, x6, x7, x8, x9, x10, x11, x12, x13, x14, x15, x16, p, pc⟩) (by simp)
  rintro a1 w1 ha1 hd1 h6 hb1
  have k := H6.out.grown hb1
  go_wp2
  refine bodyPost_ret (results_tmp rfl _ _ _) hd1 ?_
  exact ⟨congrArg Ending.returned h6, k.bel⟩
theorem ttells_calls (s : St) (c v : Int) (w : World) (hT : Tab w) (hF : Wf s) (hc : W32 c) (hv : W32 v) : Calls Tryd.prog 3 #[.agg s.r, .int .u32 c, .int .u32 v] w fun e w' => e = .returned (.bool true) ∧ Below w.heap.size w w' := by
  by_cases hr : Right s
  · exact ttells_right s c v hr hF hc w hT
  · exact ttells_wrong s c v hr w hT
end Go.Proofs.YtkebphpfedgokaaDoor
