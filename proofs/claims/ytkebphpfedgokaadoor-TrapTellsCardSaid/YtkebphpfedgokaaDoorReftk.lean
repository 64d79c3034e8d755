/-
  The last regions of the reference's Take.
-/
import Derived.Test.YtkebphpfedgokaaDoorRefp
import Derived.Test.YtkebphpfedgokaaDoorTwo
set_option linter.unusedVariables false
set_option linter.unusedSimpArgs false
namespace Go.Proofs.YtkebphpfedgokaaDoor
open Go.RowKit Go.Lib Go.Val

theorem run_store27 {w : World} {b : Nat} {old vs : Array Value} (hs : vs.size = 19) (ho : old.size = 19) (h : w.heap[b]? = some (.cells old 27)) (hone : vs.toList.all Value.oneCell' = true) : (Instr.storeAt 27 (.pointer (some ⟨b, 0, none⟩)) (.agg vs)).run Tryd.prog w = .ok () (w.setRow b vs) :=
  Go.Mem.run_storeAt_part h (by rw [size27, hs]) (by omega) hone (by
    apply Array.ext'
    simp [hs, ho]) rfl

theorem ex_fa25_10 {ρ : Operand → Value} {o : Oper} {w : World} {bx : Nat} (h : o.op = .fieldAddr 25 (.tmp 7) 10) (hx : ρ (.tmp 7) = .pointer (some ⟨bx, 0, none⟩)) : (execOp ρ o).run Tryd.prog w = .ok (.value (.pointer (some ⟨bx, 10, none⟩))) w := by
  cases o; simp only at h; subst h; simp only [execOp, hx]; kernel_rfl
theorem ex_fa25_5 {ρ : Operand → Value} {o : Oper} {w : World} {bx : Nat} (h : o.op = .fieldAddr 25 (.tmp 7) 5) (hx : ρ (.tmp 7) = .pointer (some ⟨bx, 0, none⟩)) : (execOp ρ o).run Tryd.prog w = .ok (.value (.pointer (some ⟨bx, 5, none⟩))) w := by
  cases o; simp only at h; subst h; simp only [execOp, hx]; kernel_rfl
theorem ex_build_tk11 {ρ : Operand → Value} {o : Oper} {w : World} {X : St} {z : Int} (h : o.op = .build 27 #[(0, .tmp 50), (1, .const (.int .i64 1)), (2, .tmp 54)]) (hx : ρ (.tmp 50) = .agg (fileR X)) (hy : ρ (.tmp 54) = .int .u32 z) (hz : ρ (.const (.int .i64 1)) = .int .i64 1) : (execOp ρ o).run Tryd.prog w = .ok (.value (.agg (St.r { X with p := 1, pc := z }))) w := by
  cases o; simp only at h; subst h; simp [execOp, hx, hy, hz, go_sem]
theorem ex_build_tk17 {ρ : Operand → Value} {o : Oper} {w : World} {X : St} {z : Int} (h : o.op = .build 27 #[(0, .tmp 78), (1, .const (.int .i64 3)), (2, .tmp 82)]) (hx : ρ (.tmp 78) = .agg (fileR X)) (hy : ρ (.tmp 82) = .int .u32 z) (hz : ρ (.const (.int .i64 3)) = .int .i64 3) : (execOp ρ o).run Tryd.prog w = .ok (.value (.agg (St.r { X with p := 3, pc := z }))) w := by
  cases o; simp only at h; subst h; simp [execOp, hx, hy, hz, go_sem]
noncomputable def ops_tk11 : Array Oper := (Tryd.f16.body.bind (findRegion 11)).getD #[]
theorem dist_tk11 : distinctB ops_tk11 = true := by kernel_rfl
theorem ord_tk11 : orderedB2 ops_tk11 = true := by kernel_rfl
theorem size_tk11 : ops_tk11.size = 7 := by kernel_rfl
noncomputable def val_tk11 (X : St) (fb rb : Nat) (c : Int) (i : Nat) : Value :=
  [(.agg (fileR X)), (.pointer (some ⟨fb, 10, none⟩)), (.int .u32 X.x10), (.int .u32 c), (.int .u32 (tTarget X.x10 c)), (.agg (St.r { X with p := 1, pc := tTarget X.x10 c })), undef].getD i undef
theorem fill_tk11 (X : St) (fb rb : Nat) (c : Int) (a0 : Act) : fillA ops_tk11 (val_tk11 X fb rb c) (fun _ => true) a0 = (((((((a0).put (some 50) (.agg (fileR X))).put (some 51) (.pointer (some ⟨fb, 10, none⟩))).put (some 52) (.int .u32 X.x10)).put (some 53) (.int .u32 c)).put (some 54) (.int .u32 (tTarget X.x10 c))).put (some 55) (.agg (St.r { X with p := 1, pc := tTarget X.x10 c }))).put none undef := by kernel_rfl
theorem reg_tk11 {Q : Exit → Act → World → Prop} {id : Nat} {ops : Array Oper} (hops : ops = ops_tk11) (X : St) (fb rb : Nat) (c : Int) (W : World) (a0 : Act) (hsz : a0.tmps.size = 84) (e1 : a0.eval (.tmp 1) = (.int .u32 c)) (e6 : a0.eval (.tmp 6) = (.pointer (some ⟨rb, 0, none⟩))) (e7 : a0.eval (.tmp 7) = (.pointer (some ⟨fb, 0, none⟩))) (hv : W32 X.x10) (hc : W32 c) (hfb : W.heap[fb]? = some (.cells (fileR X) 25)) (hrb : W.heap[rb]? = some resR)
    (hQ : Q .normal ((((((((a0).put (some 50) (.agg (fileR X))).put (some 51) (.pointer (some ⟨fb, 10, none⟩))).put (some 52) (.int .u32 X.x10)).put (some 53) (.int .u32 c)).put (some 54) (.int .u32 (tTarget X.x10 c))).put (some 55) (.agg (St.r { X with p := 1, pc := tTarget X.x10 c }))).put none undef) (W.drew.setRow rb (St.r { X with p := 1, pc := tTarget X.x10 c }))) : (Code.region id ops true).wp Tryd.prog Q a0 W := by
  subst hops
  refine wp_region_val2 (by kernel_rfl) (val_tk11 X fb rb c) (fun g w => w = if g 6 then W.drew.setRow rb (St.r { X with p := 1, pc := tTarget X.x10 c }) else W.drew) dist_tk11 ord_tk11 rfl ?_ (fun w hw => by rw [fill_tk11]; have h : w = W.drew.setRow rb (St.r { X with p := 1, pc := tTarget X.x10 c }) := hw; rw [h]; exact hQ) (fun g w hg h => by have h2 := hg 6 (by rw [size_tk11]; decide); simp only [h2] at h; exact h)
  intro i o gg w ho hgi hdep hcl hI
  have hlt : i < 7 := by rw [← size_tk11]; exact (Array.getElem?_eq_some_iff.1 ho).1
  match i with
  | 0 =>
    refine .inl ⟨wanted_free (guard_in ho (by kernel_rfl)), fun K hK => ?_⟩
    have hst : gg 6 = false := by
      cases h : gg 6 with
      | false => rfl
      | true => exact absurd ((dep_via (i := 6) (j := 0) hcl h (by kernel_rfl)).symm.trans hgi) (by decide)
    have hw : w = W.drew := by have h := hI; simp only [hst] at h; exact h
    subst hw
    exact wp_value (Go.Mem.ex_load (op_in (x := Op.load 25 (Operand.tmp 7)) ho (by kernel_rfl)) ((eval_other (noDst_in size_tk11 (by kernel_rfl)) a0).trans e7) (Go.Mem.run_loadAt_part (vs := fileR X) rfl Tryd.underlying25 (show W.drew.heap[fb]? = _ from hfb) size25 rfl)) (hK _ (fun g2 hs2 ho2 => by show _ = if g2 6 then _ else _; rw [ho2 6 (by decide)]; exact hI))
  | 1 =>
    refine .inl ⟨wanted_free (guard_in ho (by kernel_rfl)), fun K hK => ?_⟩
    have hst : gg 6 = false := by
      cases h : gg 6 with
      | false => rfl
      | true => exact absurd ((dep_via (i := 6) (j := 1) hcl h (by kernel_rfl)).symm.trans hgi) (by decide)
    have hw : w = W.drew := by have h := hI; simp only [hst] at h; exact h
    subst hw
    exact wp_value (ex_fa25_10 (op_in (x := Op.fieldAddr 25 (Operand.tmp 7) 10) ho (by kernel_rfl)) ((eval_other (noDst_in size_tk11 (by kernel_rfl)) a0).trans e7)) (hK _ (fun g2 hs2 ho2 => by show _ = if g2 6 then _ else _; rw [ho2 6 (by decide)]; exact hI))
  | 2 =>
    refine .inl ⟨wanted_free (guard_in ho (by kernel_rfl)), fun K hK => ?_⟩
    have hst : gg 6 = false := by
      cases h : gg 6 with
      | false => rfl
      | true => exact absurd ((dep_via (i := 6) (j := 2) hcl h (by kernel_rfl)).symm.trans hgi) (by decide)
    have hw : w = W.drew := by have h := hI; simp only [hst] at h; exact h
    subst hw
    exact wp_value (Go.Mem.ex_load (op_in (x := Op.load 22 (Operand.tmp 51)) ho (by kernel_rfl)) (eval_at (distinct_of dist_tk11) (j := 1) (t := 51) (by kernel_rfl) (dep_in (j := 1) ho (by kernel_rfl) hdep) _ (by rw [hsz]; decide)) (Go.Mem.run_loadAt_cell rfl Tryd.underlying22 (show W.drew.heap[fb]? = _ from hfb) rfl)) (hK _ (fun g2 hs2 ho2 => by show _ = if g2 6 then _ else _; rw [ho2 6 (by decide)]; exact hI))
  | 3 =>
    refine .inl ⟨wanted_free (guard_in ho (by kernel_rfl)), fun K hK => ?_⟩
    have hst : gg 6 = false := by
      cases h : gg 6 with
      | false => rfl
      | true => exact absurd ((dep_via (i := 6) (j := 3) hcl h (by kernel_rfl)).symm.trans hgi) (by decide)
    have hw : w = W.drew := by have h := hI; simp only [hst] at h; exact h
    subst hw
    exact wp_value (ex_move (op_in (x := Op.move (Operand.tmp 1)) ho (by kernel_rfl)) ((eval_other (noDst_in size_tk11 (by kernel_rfl)) a0).trans e1)) (hK _ (fun g2 hs2 ho2 => by show _ = if g2 6 then _ else _; rw [ho2 6 (by decide)]; exact hI))
  | 4 =>
    refine .inl ⟨wanted_free (guard_in ho (by kernel_rfl)), fun K hK => ?_⟩
    have hst : gg 6 = false := by
      cases h : gg 6 with
      | false => rfl
      | true => exact absurd ((dep_via (i := 6) (j := 4) hcl h (by kernel_rfl)).symm.trans hgi) (by decide)
    have hw : w = W.drew := by have h := hI; simp only [hst] at h; exact h
    subst hw
    refine wp_enter (ex_call (args := #[Operand.tmp 52, Operand.tmp 53]) (ts := #[22, 22]) (fn := Tryd.f26) (op_in (x := Op.call { callee := Callee.value (Operand.func 26), args := #[Operand.tmp 52, Operand.tmp 53], argTypes := #[22, 22] }) ho (by kernel_rfl)) (by simp only [List.map_toArray, List.map_cons, List.map_nil, Array.empty_append, Array.append_empty, (eval_at (distinct_of dist_tk11) (j := 2) (t := 52) (by kernel_rfl) (dep_in (j := 2) ho (by kernel_rfl) hdep) _ (by rw [hsz]; decide)), (eval_at (distinct_of dist_tk11) (j := 3) (t := 53) (by kernel_rfl) (dep_in (j := 3) ho (by kernel_rfl) hdep) _ (by rw [hsz]; decide))]; rfl) Tryd.func26 (by kernel_rfl) (by kernel_rfl)) (rtarget_calls X.x10 c hv hc _) fun e w1 he => ?_
    obtain ⟨rfl, rfl⟩ := he
    exact ⟨_, rfl, hK _ (fun g2 hs2 ho2 => by show _ = if g2 6 then _ else _; rw [ho2 6 (by decide)]; exact hI)⟩
  | 5 =>
    refine .inl ⟨wanted_free (guard_in ho (by kernel_rfl)), fun K hK => ?_⟩
    have hst : gg 6 = false := by
      cases h : gg 6 with
      | false => rfl
      | true => exact absurd ((dep_via (i := 6) (j := 5) hcl h (by kernel_rfl)).symm.trans hgi) (by decide)
    have hw : w = W.drew := by have h := hI; simp only [hst] at h; exact h
    subst hw
    exact wp_value (ex_build_tk11 (op_in (x := Op.build 27 #[(0, Operand.tmp 50), (1, Operand.const (Value.int IntKind.i64 1)), (2, Operand.tmp 54)]) ho (by kernel_rfl)) (eval_at (distinct_of dist_tk11) (j := 0) (t := 50) (by kernel_rfl) (dep_in (j := 0) ho (by kernel_rfl) hdep) _ (by rw [hsz]; decide)) (eval_at (distinct_of dist_tk11) (j := 4) (t := 54) (by kernel_rfl) (dep_in (j := 4) ho (by kernel_rfl) hdep) _ (by rw [hsz]; decide)) rfl) (hK _ (fun g2 hs2 ho2 => by show _ = if g2 6 then _ else _; rw [ho2 6 (by decide)]; exact hI))
  | 6 =>
    refine .inl ⟨wanted_free (guard_in ho (by kernel_rfl)), fun K hK => ?_⟩
    have hw : w = W.drew := by have h := hI; simp only [hgi] at h; exact h
    subst hw
    refine wp_skip' (Go.Mem.ex_store (op_in (x := Op.store 27 (Operand.tmp 6) (Operand.tmp 55)) ho (by kernel_rfl)) ((eval_other (noDst_in size_tk11 (by kernel_rfl)) a0).trans e6) (eval_at (distinct_of dist_tk11) (j := 5) (t := 55) (by kernel_rfl) (dep_in (j := 5) ho (by kernel_rfl) hdep) _ (by rw [hsz]; decide)) (run_store27 rfl rfl (show W.drew.heap[rb]? = _ from hrb) rfl)) ?_
    have hd := dst_in (x := none) ho (by kernel_rfl)
    rw [hd]
    have := hK (W.drew.setRow rb (St.r { X with p := 1, pc := tTarget X.x10 c })) fun g2 hs2 ho2 => by show _ = if g2 6 then _ else _; rw [hs2]; rfl
    rw [hd] at this
    exact this
  | k + 7 => exact absurd hlt (by omega)

noncomputable def ops_tk17 : Array Oper := (Tryd.f16.body.bind (findRegion 17)).getD #[]
theorem dist_tk17 : distinctB ops_tk17 = true := by kernel_rfl
theorem ord_tk17 : orderedB2 ops_tk17 = true := by kernel_rfl
theorem size_tk17 : ops_tk17.size = 7 := by kernel_rfl
noncomputable def val_tk17 (X : St) (fb rb : Nat) (c : Int) (i : Nat) : Value :=
  [(.agg (fileR X)), (.pointer (some ⟨fb, 5, none⟩)), (.int .u32 X.x5), (.int .u32 c), (.int .u32 (tTarget X.x5 c)), (.agg (St.r { X with p := 3, pc := tTarget X.x5 c })), undef].getD i undef
theorem fill_tk17 (X : St) (fb rb : Nat) (c : Int) (a0 : Act) : fillA ops_tk17 (val_tk17 X fb rb c) (fun _ => true) a0 = (((((((a0).put (some 78) (.agg (fileR X))).put (some 79) (.pointer (some ⟨fb, 5, none⟩))).put (some 80) (.int .u32 X.x5)).put (some 81) (.int .u32 c)).put (some 82) (.int .u32 (tTarget X.x5 c))).put (some 83) (.agg (St.r { X with p := 3, pc := tTarget X.x5 c }))).put none undef := by kernel_rfl
theorem reg_tk17 {Q : Exit → Act → World → Prop} {id : Nat} {ops : Array Oper} (hops : ops = ops_tk17) (X : St) (fb rb : Nat) (c : Int) (W : World) (a0 : Act) (hsz : a0.tmps.size = 84) (e1 : a0.eval (.tmp 1) = (.int .u32 c)) (e6 : a0.eval (.tmp 6) = (.pointer (some ⟨rb, 0, none⟩))) (e7 : a0.eval (.tmp 7) = (.pointer (some ⟨fb, 0, none⟩))) (hv : W32 X.x5) (hc : W32 c) (hfb : W.heap[fb]? = some (.cells (fileR X) 25)) (hrb : W.heap[rb]? = some resR)
    (hQ : Q .normal ((((((((a0).put (some 78) (.agg (fileR X))).put (some 79) (.pointer (some ⟨fb, 5, none⟩))).put (some 80) (.int .u32 X.x5)).put (some 81) (.int .u32 c)).put (some 82) (.int .u32 (tTarget X.x5 c))).put (some 83) (.agg (St.r { X with p := 3, pc := tTarget X.x5 c }))).put none undef) (W.drew.setRow rb (St.r { X with p := 3, pc := tTarget X.x5 c }))) : (Code.region id ops true).wp Tryd.prog Q a0 W := by
  subst hops
  refine wp_region_val2 (by kernel_rfl) (val_tk17 X fb rb c) (fun g w => w = if g 6 then W.drew.setRow rb (St.r { X with p := 3, pc := tTarget X.x5 c }) else W.drew) dist_tk17 ord_tk17 rfl ?_ (fun w hw => by rw [fill_tk17]; have h : w = W.drew.setRow rb (St.r { X with p := 3, pc := tTarget X.x5 c }) := hw; rw [h]; exact hQ) (fun g w hg h => by have h2 := hg 6 (by rw [size_tk17]; decide); simp only [h2] at h; exact h)
  intro i o gg w ho hgi hdep hcl hI
  have hlt : i < 7 := by rw [← size_tk17]; exact (Array.getElem?_eq_some_iff.1 ho).1
  match i with
  | 0 =>
    refine .inl ⟨wanted_free (guard_in ho (by kernel_rfl)), fun K hK => ?_⟩
    have hst : gg 6 = false := by
      cases h : gg 6 with
      | false => rfl
      | true => exact absurd ((dep_via (i := 6) (j := 0) hcl h (by kernel_rfl)).symm.trans hgi) (by decide)
    have hw : w = W.drew := by have h := hI; simp only [hst] at h; exact h
    subst hw
    exact wp_value (Go.Mem.ex_load (op_in (x := Op.load 25 (Operand.tmp 7)) ho (by kernel_rfl)) ((eval_other (noDst_in size_tk17 (by kernel_rfl)) a0).trans e7) (Go.Mem.run_loadAt_part (vs := fileR X) rfl Tryd.underlying25 (show W.drew.heap[fb]? = _ from hfb) size25 rfl)) (hK _ (fun g2 hs2 ho2 => by show _ = if g2 6 then _ else _; rw [ho2 6 (by decide)]; exact hI))
  | 1 =>
    refine .inl ⟨wanted_free (guard_in ho (by kernel_rfl)), fun K hK => ?_⟩
    have hst : gg 6 = false := by
      cases h : gg 6 with
      | false => rfl
      | true => exact absurd ((dep_via (i := 6) (j := 1) hcl h (by kernel_rfl)).symm.trans hgi) (by decide)
    have hw : w = W.drew := by have h := hI; simp only [hst] at h; exact h
    subst hw
    exact wp_value (ex_fa25_5 (op_in (x := Op.fieldAddr 25 (Operand.tmp 7) 5) ho (by kernel_rfl)) ((eval_other (noDst_in size_tk17 (by kernel_rfl)) a0).trans e7)) (hK _ (fun g2 hs2 ho2 => by show _ = if g2 6 then _ else _; rw [ho2 6 (by decide)]; exact hI))
  | 2 =>
    refine .inl ⟨wanted_free (guard_in ho (by kernel_rfl)), fun K hK => ?_⟩
    have hst : gg 6 = false := by
      cases h : gg 6 with
      | false => rfl
      | true => exact absurd ((dep_via (i := 6) (j := 2) hcl h (by kernel_rfl)).symm.trans hgi) (by decide)
    have hw : w = W.drew := by have h := hI; simp only [hst] at h; exact h
    subst hw
    exact wp_value (Go.Mem.ex_load (op_in (x := Op.load 22 (Operand.tmp 79)) ho (by kernel_rfl)) (eval_at (distinct_of dist_tk17) (j := 1) (t := 79) (by kernel_rfl) (dep_in (j := 1) ho (by kernel_rfl) hdep) _ (by rw [hsz]; decide)) (Go.Mem.run_loadAt_cell rfl Tryd.underlying22 (show W.drew.heap[fb]? = _ from hfb) rfl)) (hK _ (fun g2 hs2 ho2 => by show _ = if g2 6 then _ else _; rw [ho2 6 (by decide)]; exact hI))
  | 3 =>
    refine .inl ⟨wanted_free (guard_in ho (by kernel_rfl)), fun K hK => ?_⟩
    have hst : gg 6 = false := by
      cases h : gg 6 with
      | false => rfl
      | true => exact absurd ((dep_via (i := 6) (j := 3) hcl h (by kernel_rfl)).symm.trans hgi) (by decide)
    have hw : w = W.drew := by have h := hI; simp only [hst] at h; exact h
    subst hw
    exact wp_value (ex_move (op_in (x := Op.move (Operand.tmp 1)) ho (by kernel_rfl)) ((eval_other (noDst_in size_tk17 (by kernel_rfl)) a0).trans e1)) (hK _ (fun g2 hs2 ho2 => by show _ = if g2 6 then _ else _; rw [ho2 6 (by decide)]; exact hI))
  | 4 =>
    refine .inl ⟨wanted_free (guard_in ho (by kernel_rfl)), fun K hK => ?_⟩
    have hst : gg 6 = false := by
      cases h : gg 6 with
      | false => rfl
      | true => exact absurd ((dep_via (i := 6) (j := 4) hcl h (by kernel_rfl)).symm.trans hgi) (by decide)
    have hw : w = W.drew := by have h := hI; simp only [hst] at h; exact h
    subst hw
    refine wp_enter (ex_call (args := #[Operand.tmp 80, Operand.tmp 81]) (ts := #[22, 22]) (fn := Tryd.f26) (op_in (x := Op.call { callee := Callee.value (Operand.func 26), args := #[Operand.tmp 80, Operand.tmp 81], argTypes := #[22, 22] }) ho (by kernel_rfl)) (by simp only [List.map_toArray, List.map_cons, List.map_nil, Array.empty_append, Array.append_empty, (eval_at (distinct_of dist_tk17) (j := 2) (t := 80) (by kernel_rfl) (dep_in (j := 2) ho (by kernel_rfl) hdep) _ (by rw [hsz]; decide)), (eval_at (distinct_of dist_tk17) (j := 3) (t := 81) (by kernel_rfl) (dep_in (j := 3) ho (by kernel_rfl) hdep) _ (by rw [hsz]; decide))]; rfl) Tryd.func26 (by kernel_rfl) (by kernel_rfl)) (rtarget_calls X.x5 c hv hc _) fun e w1 he => ?_
    obtain ⟨rfl, rfl⟩ := he
    exact ⟨_, rfl, hK _ (fun g2 hs2 ho2 => by show _ = if g2 6 then _ else _; rw [ho2 6 (by decide)]; exact hI)⟩
  | 5 =>
    refine .inl ⟨wanted_free (guard_in ho (by kernel_rfl)), fun K hK => ?_⟩
    have hst : gg 6 = false := by
      cases h : gg 6 with
      | false => rfl
      | true => exact absurd ((dep_via (i := 6) (j := 5) hcl h (by kernel_rfl)).symm.trans hgi) (by decide)
    have hw : w = W.drew := by have h := hI; simp only [hst] at h; exact h
    subst hw
    exact wp_value (ex_build_tk17 (op_in (x := Op.build 27 #[(0, Operand.tmp 78), (1, Operand.const (Value.int IntKind.i64 3)), (2, Operand.tmp 82)]) ho (by kernel_rfl)) (eval_at (distinct_of dist_tk17) (j := 0) (t := 78) (by kernel_rfl) (dep_in (j := 0) ho (by kernel_rfl) hdep) _ (by rw [hsz]; decide)) (eval_at (distinct_of dist_tk17) (j := 4) (t := 82) (by kernel_rfl) (dep_in (j := 4) ho (by kernel_rfl) hdep) _ (by rw [hsz]; decide)) rfl) (hK _ (fun g2 hs2 ho2 => by show _ = if g2 6 then _ else _; rw [ho2 6 (by decide)]; exact hI))
  | 6 =>
    refine .inl ⟨wanted_free (guard_in ho (by kernel_rfl)), fun K hK => ?_⟩
    have hw : w = W.drew := by have h := hI; simp only [hgi] at h; exact h
    subst hw
    refine wp_skip' (Go.Mem.ex_store (op_in (x := Op.store 27 (Operand.tmp 6) (Operand.tmp 83)) ho (by kernel_rfl)) ((eval_other (noDst_in size_tk17 (by kernel_rfl)) a0).trans e6) (eval_at (distinct_of dist_tk17) (j := 5) (t := 83) (by kernel_rfl) (dep_in (j := 5) ho (by kernel_rfl) hdep) _ (by rw [hsz]; decide)) (run_store27 rfl rfl (show W.drew.heap[rb]? = _ from hrb) rfl)) ?_
    have hd := dst_in (x := none) ho (by kernel_rfl)
    rw [hd]
    have := hK (W.drew.setRow rb (St.r { X with p := 3, pc := tTarget X.x5 c })) fun g2 hs2 ho2 => by show _ = if g2 6 then _ else _; rw [hs2]; rfl
    rw [hd] at this
    exact this
  | k + 7 => exact absurd hlt (by omega)

end Go.Proofs.YtkebphpfedgokaaDoor
