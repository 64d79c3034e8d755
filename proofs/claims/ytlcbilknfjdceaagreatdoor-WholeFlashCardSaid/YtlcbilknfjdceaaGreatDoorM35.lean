/-
  WholeFlash, part 35 of 44: Steph, Decw, Stepi, Stepj, Stepk, Stepl, Stepm.
-/
import Derived.Maps.RangeWalk
import Derived.Defers
import Derived.Recover
import Derived.Test.YtlcbilknfjdceaaGreatDoorM34
section
/-
  A word is told apart: its fields.
-/
set_option linter.unusedVariables false
set_option linter.unusedSimpArgs false
set_option maxRecDepth 100000
namespace Go.Proofs.YtlcbilknfjdceaaGreatDoor
open Go.RowKit Go.Lib Go.Sort Go.Maps
theorem wpList_insert_own {H : Type} {P : Program} (w : World) {ops : Array Oper} {rest : List Oper} {o : Oper} {a : Act} {Q : Exit → Act → World → Prop}
    (hg : o.guard = none) (m x v : Operand) (t : TypeId) (hop : o.op = Op.insert t m x v)
    (k e : TypeId) (K : Keyed P k) (ht : P.underlying t = some (.map k e)) (R : Value → Option (DataW H × List MemPlace)) (b n : Nat) (D : DataW H)
    (hm : a.eval m = .map (some b)) (hown : w.ownsMap P k R b n D) (hn : n < maxLen) (key val : Value) (kl : Lit) (hx : a.eval x = key) (hv : a.eval v = val) (hkey : keyOf P k key = some kl)
    (d : DataW H) (ps : List MemPlace) (hval : R val = some (d, ps))
    (hK : ∀ w', w'.ownsMap P k R b (n + 1) (D.put kl d) → w.grownBy w' (some b) → wpList P ops Q rest (a.put o.dst undef) w') :
    wpList P ops Q (o :: rest) a w := by
  refine wpList_plain hg fun K' hK' => ?_
  obtain ⟨w', hrun, r1, r2⟩ := hown.update K ht hn hkey hval
  unfold Oper.wp
  simp [execOp, hop, hm, hx, hv, hrun, Result.andThen]
  exact hK' _ _ (hK w' r1 r2)
theorem wpList_lookup_own {H : Type} {P : Program} (w : World) {ops : Array Oper} {rest : List Oper} {o : Oper} {a : Act} {Q : Exit → Act → World → Prop}
    (hg : o.guard = none) (m x : Operand) (t : TypeId) (hop : o.op = Op.lookup t m x false) {v : Value} {mv key : Value} (hm : a.eval m = mv) (hx : a.eval x = key)
    (hrun : (Instr.lookup t mv key false).run P w = .ok v w)
    (hK : wpList P ops Q rest (a.put o.dst v) w) :
    wpList P ops Q (o :: rest) a w := by
  refine wpList_plain hg fun K' hK' => ?_
  unfold Oper.wp
  simp [execOp, hop, hm, hx, hrun, Result.andThen]
  exact hK' _ _ hK
/-- A pointer to a cell of block p, read as the cell's number. -/
def RP (p : Nat) : Value → Option (DataW Unit × List MemPlace)
  | .pointer (some ⟨b, off, none⟩) => if b = p then some (.lit (.int .i64 (off : Int)), []) else none
  | _ => none
theorem RP_at (p off : Nat) : RP p (.pointer (some ⟨p, off, none⟩)) = some (.lit (.int .i64 (off : Int)), []) := by simp [RP]
theorem RP_inv {p : Nat} {v : Value} {y : DataW Unit × List MemPlace} (h : RP p v = some y) : ∃ off : Nat, v = .pointer (some ⟨p, off, none⟩) ∧ y = (.lit (.int .i64 (off : Int)), []) := by
  unfold RP at h
  split at h
  · split at h
    · rename_i b off hb
      subst hb
      exact ⟨off, rfl, by cases h; rfl⟩
    · cases h
  · cases h
abbrev kD : Lit := .string [100]
abbrev k1 : Lit := .string [49]
abbrev k2 : Lit := .string [50]
theorem K9 : Keyed Tryz.prog 9 := string_keyed Tryz.underlying9
theorem kd9 : keyOf Tryz.prog 9 (.string { data := #[100] }) = some kD := by kernel_rfl
theorem k19 : keyOf Tryz.prog 9 (.string { data := #[49] }) = some k1 := by kernel_rfl
theorem k29 : keyOf Tryz.prog 9 (.string { data := #[50] }) = some k2 := by kernel_rfl
abbrev formI (g : Nat) : Array Value := #[.int .u32 28799, sD1, .int .i64 12, .slice (some ⟨g, 0, none⟩) 1 1]
theorem has207d (g : Nat) (w : World) : Calls Tryz.prog 207 #[.agg (formI g), .string { data := #[100] }] w fun e w' => e = .returned (.bool true) ∧ Below w.heap.size w w' := by
  have hk := (KW.start (Below.refl w.heap.size w) (Nat.le_refl _)).alloc (.cells (formI g) 287)
  go_enter Tryz.func207, Tryz.ntmps207
  go_wp2_with (go_at_call 241; refine (contains241d _).mono ?_; rintro e w1 ⟨rfl, rfl⟩)
  go_ret
  exact ⟨rfl, hk.bel⟩
theorem has207a (g : Nat) (w : World) : Calls Tryz.prog 207 #[.agg (formI g), .string { data := #[49] }] w fun e w' => e = .returned (.bool true) ∧ Below w.heap.size w w' := by
  have hk := (KW.start (Below.refl w.heap.size w) (Nat.le_refl _)).alloc (.cells (formI g) 287)
  go_enter Tryz.func207, Tryz.ntmps207
  go_wp2_with (go_at_call 241; refine (contains241a _).mono ?_; rintro e w1 ⟨rfl, rfl⟩)
  go_ret
  exact ⟨rfl, hk.bel⟩
theorem has207e (g : Nat) (w : World) : Calls Tryz.prog 207 #[.agg (formI g), .string { data := #[50] }] w fun e w' => e = .returned (.bool false) ∧ Below w.heap.size w w' := by
  have hk := (KW.start (Below.refl w.heap.size w) (Nat.le_refl _)).alloc (.cells (formI g) 287)
  go_enter Tryz.func207, Tryz.ntmps207
  go_wp2_with (go_at_call 241; refine (contains241e _).mono ?_; rintro e w1 ⟨rfl, rfl⟩)
  go_ret
  exact ⟨rfl, hk.bel⟩
theorem reg208d (w : World) : Calls Tryz.prog 208 #[.int .u32 5243027, .int .i64 7] w fun e w' => e = .returned (.int .i64 1) ∧ w' = w := by
  go_enter Tryz.func208, Tryz.ntmps208
  go_wp2_with (go_at_call 204; refine (field204d _).mono ?_; rintro e w1 ⟨rfl, rfl⟩)
  go_ret
  exact ⟨rfl, rfl⟩
theorem reg208a (w : World) : Calls Tryz.prog 208 #[.int .u32 5243027, .int .i64 15] w fun e w' => e = .returned (.int .i64 0) ∧ w' = w := by
  go_enter Tryz.func208, Tryz.ntmps208
  go_wp2_with (go_at_call 204; refine (field204a _).mono ?_; rintro e w1 ⟨rfl, rfl⟩)
  go_ret
  exact ⟨rfl, rfl⟩
abbrev D3 : DataW Unit := ((DataW.map []).put kD (.lit (.int .i64 1)) |>.put k1 (.lit (.int .i64 2))).put k2 (.lit (.int .i64 3))
theorem D3_eq : D3 = .map [(k1, .lit (.int .i64 2)), (k2, .lit (.int .i64 3)), (kD, .lit (.int .i64 1))] := by kernel_rfl
theorem keys3 {s : ByteArray} {kl : Lit} {off : Nat} (hk : keyOf Tryz.prog 9 (.string s) = some kl) (hat : ∀ zd, D3.atKey kl zd = .lit (.int .i64 (off : Int))) : (s = { data := #[100] } ∧ kl = kD ∧ off = 1) ∨ (s = { data := #[49] } ∧ kl = k1 ∧ off = 2) ∨ (s = { data := #[50] } ∧ kl = k2 ∧ off = 3) := by
  have hkl : kl = .string s.data.toList := by
    simp [keyOf, mapKey, Tryz.underlying9] at hk
    exact hk.2.symm
  subst hkl
  have hs : ∀ l : Array UInt8, s.data.toList = l.toList → s = { data := l } := fun l h => by
    cases s; simp only at h; rw [Array.toList_inj.1 h]
  rw [D3_eq] at hat
  by_cases e1 : s.data.toList = [49]
  · right; left
    have h := hat .nil
    rw [e1] at h
    simp [DataW.atKey, Lit.sameKey] at h
    exact ⟨hs #[49] e1, by rw [e1], by omega⟩
  · by_cases e2 : s.data.toList = [50]
    · right; right
      have h := hat .nil
      rw [e2] at h
      simp [DataW.atKey, Lit.sameKey] at h
      exact ⟨hs #[50] e2, by rw [e2], by omega⟩
    · by_cases e3 : s.data.toList = [100]
      · left
        have h := hat .nil
        rw [e3] at h
        simp [DataW.atKey, Lit.sameKey] at h
        exact ⟨hs #[100] e3, by rw [e3], by omega⟩
      · have h := hat .nil
        have f1 : ([49] == s.data.toList) = false := by simpa using fun h => e1 h.symm
        have f2 : ([50] == s.data.toList) = false := by simpa using fun h => e2 h.symm
        have f3 : ([100] == s.data.toList) = false := by simpa using fun h => e3 h.symm
        simp [DataW.atKey, Lit.sameKey, f1, f2, f3] at h
theorem grown_setCell (w : World) (a : Addr) (u : Value) : w.grownBy (w.setCell a u) (some a.block) := ⟨rfl, rfl, rfl, by simp [World.setCell], fun i _ hi => Below.heap_setCell w a u i (fun e => hi (by rw [e]))⟩
theorem grown_below {w w' : World} (hb : Below w.heap.size w w') (row : Option Nat) : w.grownBy w' row := ⟨hb.os, hb.tape, hb.output, hb.size, fun i hi _ => hb.block i hi⟩
theorem size219 : (Tryz.prog.info? 219).map (·.size) = some 5 := by kernel_rfl
theorem results177 {tmps : Array Value} {w : World} {rb : Nat} {a b c d e : Value} {t : TypeId} (h6 : tmps.getD 6 undef = .pointer (some ⟨rb, 0, none⟩)) (hg : w.heap[rb]? = some (.cells #[a, b, c, d, e] t)) :
    (results Tryz.f177 tmps).run Tryz.prog w = .ok (.agg #[a, b, c, d, e]) w := by
  have hl : (Instr.loadAt 219 (.pointer (some ⟨rb, 0, none⟩))).run Tryz.prog w = .ok (.agg #[a, b, c, d, e]) w := Mem.run_loadAt_part (by rfl) Tryz.underlying219 hg (by rw [size219]; rfl) rfl
  rw [Array.getD_eq_getD_getElem?] at h6
  simp only [Instr.loadAt, Instr.sureAddr, pure_bind] at hl
  simp [results, h6, Result.andThen, asAddr, hl]
theorem set5 {B : Nat} {W w : World} (L R : Blocks) {g : Nat} {t : TypeId} {a b c d e x0 x1 x2 x3 x4 : Value} (h : KW B W (L ++ (g, .cells #[a, b, c, d, e] t) :: R) w) : KW B W (L ++ (g, .cells #[x0, x1, x2, x3, x4] t) :: R) (((((w.setCell ⟨g, 0, none⟩ x0).setCell ⟨g, 1, none⟩ x1).setCell ⟨g, 2, none⟩ x2).setCell ⟨g, 3, none⟩ x3).setCell ⟨g, 4, none⟩ x4) :=
  KW.cellAt L R (KW.cellAt L R (KW.cellAt L R (KW.cellAt L R (KW.cellAt L R (vs := #[x0, b, c, d, e]) h rfl) (vs := #[x0, x1, c, d, e]) rfl) (vs := #[x0, x1, x2, d, e]) rfl) (vs := #[x0, x1, x2, x3, e]) rfl) rfl
abbrev KL (B p7 p0 g : Nat) (d : Int) : Blocks := [(p7, .cells #[.int .i64 19, .int .i64 d, .int .i64 0, .int .i64 0, .int .u32 5] 219), (p0, .cells #[.int .i64 0, .int .i64 0, .int .i64 0, .int .i64 0, .int .u32 0] 219), (B, .cells (formI g) 287)]
abbrev E3 : DataW Unit := ((DataW.map []).put kD (.lit (.int .i64 7)) |>.put k1 (.lit (.int .i64 15))).put k2 (.lit (.int .i64 20))
theorem pe3 (n : Int) (h : (Lit.int .i64 n).wf = true) : plainElem (H := Unit) Tryz.prog 3 (.int .i64 n) = some (.lit (.int .i64 n), []) := plainElem_int Tryz.underlying3 h
theorem op177 {g : Nat} {w : World} (hg : w.heap[g]? = some (.cells #[.int .i64 20, .int .i64 12, .int .i64 0] 305)) : Calls Tryz.prog 177 #[.agg (formI g), .int .i64 19, .int .u32 5243027] w fun e w' => e = .returned (.agg #[.int .i64 19, .int .i64 1, .int .i64 0, .int .i64 0, .int .u32 5]) ∧ Below w.heap.size w w' := by
  have hmm := @run_makeMap Tryz.prog
  obtain ⟨p0, hp0⟩ : ∃ p, p = w.heap.size + 1 := ⟨_, rfl⟩
  have h2 := ((KW.start (Below.refl w.heap.size w) (Nat.le_refl _)).push (.cells (formI g) 287)).push (.cells #[.int .i64 0, .int .i64 0, .int .i64 0, .int .i64 0, .int .u32 0] 219)
  rw [size_al, ← hp0] at h2
  have hg2 : ((w.alloc (.cells (formI g) 287)).alloc (.cells #[.int .i64 0, .int .i64 0, .int .i64 0, .int .i64 0, .int .u32 0] 219)).heap[g]? = some (.cells #[.int .i64 20, .int .i64 12, .int .i64 0] 305) := by
    rw [Below.heap_alloc _ _ g (by rw [size_al]; have := lt_of_heap hg; omega), Below.heap_alloc w _ g (lt_of_heap hg)]; exact hg
  have hn := number206 hg2
  have H := _root_.Go.Lib.hid (And.intro h2 (And.intro hn hp0))
  clear h2 hn hg2 hg hp0
  go_enter Tryz.func177, Tryz.ntmps177
  go_upto_region 2 with (go_at_call 206; refine H.out.2.1.mono ?_; rintro e w1 ⟨rfl, hb1⟩)
  obtain ⟨h2, -, hp0⟩ := H.out
  clear H
  rw [← hp0]
  have HP := _root_.Go.Lib.hid hp0
  clear hp0
  have h3 := (h2.grown hb1).push (.cells #[.int .i64 19, .int .i64 0, .int .i64 0, .int .i64 0, .int .u32 5] 219)
  generalize hp7 : w1.heap.size = p7 at h3 ⊢
  generalize World.alloc w1 _ = w2 at h3 ⊢
  have hown := World.ownsMap_made w2 Tryz.prog 9 (RP p7)
  have hk0 := h3.alloc (.map #[] 0)
  have hgm : ∀ p ∈ [(p7, Obj.cells #[.int .i64 19, .int .i64 0, .int .i64 0, .int .i64 0, .int .u32 5] 219), (p0, Obj.cells #[.int .i64 0, .int .i64 0, .int .i64 0, .int .i64 0, .int .u32 0] 219), (w.heap.size, Obj.cells (formI g) 287)], some p.1 ≠ some w2.heap.size := by
    intro p hp e
    have h1 := lt_of_heap (h3.kept p hp).2
    have h2 : p.1 = w2.heap.size := by injection e
    omega
  have hB : w.heap.size ≤ w2.heap.size := h3.size
  have HO := _root_.Go.Lib.hid (And.intro hown (And.intro hk0 (And.intro hgm hB)))
  clear h2 hb1 h3 hown hk0 hgm hB hp7
  go_wp2_with (first
    | (refine wpList_insert_own _ rfl _ _ _ 308 rfl 9 307 K9 Tryz.underlying308 (RP p7) w2.heap.size 0 _ rfl HO.out.1 (by decide) _ _ kD rfl rfl kd9 _ [] (RP_at p7 1) ?_; intro w3 ho3 hg3; have HO3 := _root_.Go.Lib.hid (And.intro ho3 hg3); clear ho3 hg3)
    | (refine wpList_insert_own _ rfl _ _ _ 308 rfl 9 307 K9 Tryz.underlying308 (RP p7) w2.heap.size 1 _ rfl HO3.out.1 (by decide) _ _ k1 rfl rfl k19 _ [] (RP_at p7 2) ?_; intro w4 ho4 hg4; have HO4 := _root_.Go.Lib.hid (And.intro ho4 hg4); clear ho4 hg4)
    | (refine wpList_insert_own _ rfl _ _ _ 308 rfl 9 307 K9 Tryz.underlying308 (RP p7) w2.heap.size 2 _ rfl HO4.out.1 (by decide) _ _ k2 rfl rfl k29 _ [] (RP_at p7 3) ?_; intro w5 ho5 hg5; have HO5 := _root_.Go.Lib.hid (And.intro ho5 hg5); clear ho5 hg5)
    | (at_range; refine wpList_range_own _ rfl _ 308 rfl 9 307 K9 Tryz.underlying308 (RP p7) w2.heap.size 3 D3 rfl HO5.out.1 ?_; intro w6 hrg0 hg0 hs0; have HR := _root_.Go.Lib.hid (And.intro hrg0 (And.intro hg0 hs0)); clear hrg0 hg0 hs0))
  go_frame
  have hr : ∀ k, some w2.heap.size = some k → w.heap.size ≤ k := fun k e => (Option.some.inj e) ▸ HO.out.2.2.2
  have hk6 := ((((HO.out.2.1).grew HO3.out.2 hr HO.out.2.2.1).grew HO4.out.2 hr HO.out.2.2.1).grew HO5.out.2 hr HO.out.2.2.1).grew HR.out.2.1 (fun k e => by cases e) (fun p _ e => by cases e)
  have hk5 := (((HO.out.2.1).grew HO3.out.2 hr HO.out.2.2.1).grew HO4.out.2 hr HO.out.2.2.1).grew HO5.out.2 hr HO.out.2.2.1
  have hrs : ∀ p ∈ KL w.heap.size p7 p0 g 0, some p.1 ≠ some w5.heap.size := by
    intro p hp e
    have h1 := lt_of_heap (hk5.kept p hp).2
    have h2 : p.1 = w5.heap.size := by injection e
    omega
  have hB5 := hk5.size
  have hrg0 := HR.out.1
  have hp7m : p7 ≠ w2.heap.size := fun e => HO.out.2.2.1 _ List.mem_cons_self (congrArg some e)
  have hp7r : p7 ≠ w5.heap.size := fun e => hrs _ List.mem_cons_self (congrArg some e)
  generalize hgr : w5.heap.size = r at hrg0 hrs hB5 hp7r ⊢
  generalize hgg : w2.heap.size = gm at hrg0 hp7m ⊢
  have HQ0 := _root_.Go.Lib.hid (And.intro hrg0 (And.intro hk6 (And.intro hrs (And.intro hB5 (And.intro hp7m hp7r)))))
  clear HO HO3 HO4 HO5 HR hr hk6 hk5 hrs hB5 hrg0 hp7m hp7r
  go_loopw [21] (fun _ wr => ∃ left cnt d, wr.ranges Tryz.prog 9 (RP p7) gm r 3 D3 left cnt ∧ (left kD = false → d = (1 : Int)) ∧ KW w.heap.size w (KL w.heap.size p7 p0 g d) wr) (fun _ wr => wr.rangeLeft gm r)
  case atStart => exact ⟨_, _, 0, HQ0.out.1, fun h => (by revert h; rw [D3_eq]; decide), HQ0.out.2.1⟩
  case round =>
    obtain ⟨left, cnt, d, hrg, hd, hk⟩ := hrel
    have HQ := _root_.Go.Lib.hid (And.intro hrg (And.intro hd hk))
    clear hrg hd hk
    go_wp2_with (first
      | (at_next; refine wpList_next_ranges _ rfl _ rfl 9 K9 (RP p7) (fun s : ByteArray => Value.string s) (fun off : Nat => Value.pointer (some ⟨p7, off, none⟩)) (by intro key kl h; cases key <;> simp [keyOf, mapKey, Tryz.underlying9] at h; exact ⟨_, rfl⟩) (fun v y h => by obtain ⟨off, rfl, _⟩ := RP_inv h; exact ⟨off, rfl⟩) gm r 3 D3 left cnt rfl HQ.out.1 ?_ ?_)
      | go_in)
    · intro hc0 hl0
      have hd1 := HQ.out.2.1 (hl0 kD)
      have hk := HQ.out.2.2
      rw [hd1] at hk
      have z0 : wr.cell? ⟨p7, 0, none⟩ = some (.int .i64 19) := cell_at (hk.get List.mem_cons_self) 0
      have z1 : wr.cell? ⟨p7, 1, none⟩ = some (.int .i64 1) := cell_at (hk.get List.mem_cons_self) 1
      have z2 : wr.cell? ⟨p7, 2, none⟩ = some (.int .i64 0) := cell_at (hk.get List.mem_cons_self) 2
      have z3 : wr.cell? ⟨p7, 3, none⟩ = some (.int .i64 0) := cell_at (hk.get List.mem_cons_self) 3
      have z4 : wr.cell? ⟨p7, 4, none⟩ = some (.int .u32 5) := cell_at (hk.get List.mem_cons_self) 4
      have hrb := hk.get (g := p0) (o := .cells #[.int .i64 0, .int .i64 0, .int .i64 0, .int .i64 0, .int .u32 0] 219) (by simp)
      have r0 : wr.cell? ⟨p0, 0, none⟩ = some (.int .i64 0) := cell_at hrb 0
      have q0 : wr.frozen? ⟨p0, 0, none⟩ = false := free_at hrb 0
      have r1 : wr.cell? ⟨p0, 1, none⟩ = some (.int .i64 0) := cell_at hrb 1
      have q1 : wr.frozen? ⟨p0, 1, none⟩ = false := free_at hrb 1
      have r2 : wr.cell? ⟨p0, 2, none⟩ = some (.int .i64 0) := cell_at hrb 2
      have q2 : wr.frozen? ⟨p0, 2, none⟩ = false := free_at hrb 2
      have r3 : wr.cell? ⟨p0, 3, none⟩ = some (.int .i64 0) := cell_at hrb 3
      have q3 : wr.frozen? ⟨p0, 3, none⟩ = false := free_at hrb 3
      have r4 : wr.cell? ⟨p0, 4, none⟩ = some (.int .u32 0) := cell_at hrb 4
      have q4 : wr.frozen? ⟨p0, 4, none⟩ = false := free_at hrb 4
      have HK := _root_.Go.Lib.hid hk
      clear hk hrb hd1
      go_wp2_with fail
      have h9 := set5 [(p7, .cells #[.int .i64 19, .int .i64 1, .int .i64 0, .int .i64 0, .int .u32 5] 219)] [(w.heap.size, .cells (formI g) 287)] (x0 := .int .i64 19) (x1 := .int .i64 1) (x2 := .int .i64 0) (x3 := .int .i64 0) (x4 := .int .u32 5) HK.out
      generalize World.setCell _ _ _ = w9 at h9 ⊢
      refine bodyPost_ret (v := .agg #[.int .i64 19, .int .i64 1, .int .i64 0, .int .i64 0, .int .u32 5]) (results177 (rb := p0) rfl (h9.get (g := p0) (o := .cells #[.int .i64 19, .int .i64 1, .int .i64 0, .int .i64 0, .int .u32 5] 219) (by simp))) rfl ?_
      exact ⟨rfl, h9.bel⟩
    · intro s off kl ya yb w7 cnt1 hkey hlk hR hat hrg1 hlt hg1 hs1 hen
      rw [RP_at] at hR
      simp only [Option.some.injEq, Prod.mk.injEq] at hR
      obtain ⟨rfl, rfl⟩ := hR
      have hk7 := HQ.out.2.2.grew hg1 (fun k e => (Option.some.inj e) ▸ HQ0.out.2.2.2.1) (fun p hp => by
        rcases List.mem_cons.1 hp with rfl | hp
        · exact HQ0.out.2.2.1 (p7, .cells #[.int .i64 19, .int .i64 0, .int .i64 0, .int .i64 0, .int .u32 5] 219) List.mem_cons_self
        · exact HQ0.out.2.2.1 _ (List.mem_cons_of_mem _ hp))
      have hg7 := hk7.get (g := w.heap.size) (o := .cells (formI g) 287) (by simp)
      have y0 : w7.cell? ⟨w.heap.size, 0, none⟩ = some (.int .u32 28799) := cell_at hg7 0
      have y1 : w7.cell? ⟨w.heap.size, 1, none⟩ = some sD1 := cell_at hg7 1
      have y2 : w7.cell? ⟨w.heap.size, 2, none⟩ = some (.int .i64 12) := cell_at hg7 2
      have y3 : w7.cell? ⟨w.heap.size, 3, none⟩ = some (.slice (some ⟨g, 0, none⟩) 1 1) := cell_at hg7 3
      rcases keys3 hkey hat with ⟨rfl, rfl, rfl⟩ | ⟨rfl, rfl, rfl⟩ | ⟨rfl, rfl, rfl⟩
      · have HC := _root_.Go.Lib.hid (has207d g w7)
        have HS := _root_.Go.Lib.hid (And.intro hk7 (And.intro hrg1 hlt))
        clear hk7 hrg1 hg7 hkey hlk hat hlt hg1 hs1
        go_upto_region 6 with (go_at_call 207; refine HC.out.mono ?_; rintro e w8 ⟨rfl, hb8⟩)
        have hk8 := HS.out.1.grown hb8
        have hr8 := HS.out.2.1.kept (grown_below hb8 none) (by simp) (by simp)
        have hne8 : ∀ p ∈ KL w.heap.size p7 p0 g d, some p.1 ≠ some w8.heap.size := by
          intro p hp e
          have h1 := lt_of_heap (hk8.kept p hp).2
          have h2 : p.1 = w8.heap.size := by injection e
          omega
        have hrl := hr8.lt
        have hbl := hr8.owns.lt
        have hgn : some gm ≠ some w8.heap.size := fun e => by have := Option.some.inj e; omega
        have hrn : some r ≠ some w8.heap.size := fun e => by have := Option.some.inj e; omega
        have hB8 : ∀ k, some w8.heap.size = some k → w.heap.size ≤ k := fun k e => (Option.some.inj e) ▸ hk8.size
        have HM := _root_.Go.Lib.hid (And.intro (World.ownsMap_made w8 Tryz.prog 9 (plainElem (H := Unit) Tryz.prog 3)) (And.intro (hk8.alloc (.map #[] 0)) (And.intro (hr8.alloc (.map #[] 0)) (And.intro hne8 (And.intro hB8 (And.intro hgn hrn))))))
        clear hk8 hr8 hne8 hB8 hrl hbl hgn hrn hb8 HC y0 y1 y2 y3 hen
        go_wp2_with (first
          | (refine wpList_insert_own _ rfl _ _ _ 310 rfl 9 3 K9 Tryz.underlying310 (plainElem Tryz.prog 3) w8.heap.size 0 _ rfl HM.out.1 (by decide) _ _ kD rfl rfl kd9 _ [] (pe3 7 rfl) ?_; intro w9 ho9 hg9; have HM9 := _root_.Go.Lib.hid (And.intro ho9 hg9); clear ho9 hg9)
          | (refine wpList_insert_own _ rfl _ _ _ 310 rfl 9 3 K9 Tryz.underlying310 (plainElem Tryz.prog 3) w8.heap.size 1 _ rfl HM9.out.1 (by decide) _ _ k1 rfl rfl k19 _ [] (pe3 15 rfl) ?_; intro wa hoa hga; have HMa := _root_.Go.Lib.hid (And.intro hoa hga); clear hoa hga)
          | (refine wpList_insert_own _ rfl _ _ _ 310 rfl 9 3 K9 Tryz.underlying310 (plainElem Tryz.prog 3) w8.heap.size 2 _ rfl HMa.out.1 (by decide) _ _ k2 rfl rfl k29 _ [] (pe3 20 rfl) ?_
             intro wb hob hgb
             obtain ⟨cv, hrun, hat2, hwc⟩ := hob.lookup_int K9 Tryz.underlying310 Tryz.underlying3 (by kernel_rfl) kd9
             have he3 : E3.atKey kD (.lit (.int .i64 0)) = .lit (.int .i64 7) := by kernel_rfl
             have hcv : cv = 7 := by
               have h2 : DataW.lit (.int .i64 7) = (DataW.lit (.int .i64 cv) : DataW Unit) := he3.symm.trans hat2
               simp only [DataW.lit.injEq, Lit.int.injEq, true_and] at h2
               exact h2.symm
             subst hcv
             have hkb := ((HM.out.2.1.grew HM9.out.2 HM.out.2.2.2.2.1 HM.out.2.2.2.1).grew HMa.out.2 HM.out.2.2.2.2.1 HM.out.2.2.2.1).grew hgb HM.out.2.2.2.2.1 HM.out.2.2.2.1
             have hrb := ((HM.out.2.2.1.kept HM9.out.2 HM.out.2.2.2.2.2.1 HM.out.2.2.2.2.2.2).kept HMa.out.2 HM.out.2.2.2.2.2.1 HM.out.2.2.2.2.2.2).kept hgb HM.out.2.2.2.2.2.1 HM.out.2.2.2.2.2.2
             have cc : wb.cell? ⟨p7, 1, none⟩ = some (.int .i64 d) := cell_at (hkb.get List.mem_cons_self) 1
             have qq : wb.frozen? ⟨p7, 1, none⟩ = false := free_at (hkb.get List.mem_cons_self) 1
             have HB := _root_.Go.Lib.hid (And.intro hrun (And.intro hkb hrb))
             clear hob hgb hat2 hwc he3 hkb hrb)
          | (go_at_call 208; refine (reg208d _).mono ?_; rintro e wc ⟨rfl, rfl⟩)
          | go_in)
        go_roundw
        case rel =>
          refine ⟨_, _, 1, HB.out.2.2.kept (grown_setCell _ _ _) (fun e => HQ0.out.2.2.2.2.1 (Option.some.inj e).symm) (fun e => HQ0.out.2.2.2.2.2 (Option.some.inj e).symm), fun _ => rfl, ?_⟩
          exact KW.cellAt [] [(p0, .cells #[.int .i64 0, .int .i64 0, .int .i64 0, .int .i64 0, .int .u32 0] 219), (w.heap.size, .cells (formI g) 287)] HB.out.2.1 rfl
        case measure =>
          rw [(HB.out.2.2.kept (grown_setCell _ _ _) (fun e => HQ0.out.2.2.2.2.1 (Option.some.inj e).symm) (fun e => HQ0.out.2.2.2.2.2 (Option.some.inj e).symm)).left_eq, HQ.out.1.left_eq]
          exact HS.out.2.2
      · have HC := _root_.Go.Lib.hid (has207a g w7)
        have HS := _root_.Go.Lib.hid (And.intro hk7 (And.intro hrg1 hlt))
        clear hk7 hrg1 hg7 hkey hlk hat hlt hg1 hs1
        go_upto_region 6 with (go_at_call 207; refine HC.out.mono ?_; rintro e w8 ⟨rfl, hb8⟩)
        have hk8 := HS.out.1.grown hb8
        have hr8 := HS.out.2.1.kept (grown_below hb8 none) (by simp) (by simp)
        have hne8 : ∀ p ∈ KL w.heap.size p7 p0 g d, some p.1 ≠ some w8.heap.size := by
          intro p hp e
          have h1 := lt_of_heap (hk8.kept p hp).2
          have h2 : p.1 = w8.heap.size := by injection e
          omega
        have hrl := hr8.lt
        have hbl := hr8.owns.lt
        have hgn : some gm ≠ some w8.heap.size := fun e => by have := Option.some.inj e; omega
        have hrn : some r ≠ some w8.heap.size := fun e => by have := Option.some.inj e; omega
        have hB8 : ∀ k, some w8.heap.size = some k → w.heap.size ≤ k := fun k e => (Option.some.inj e) ▸ hk8.size
        have HM := _root_.Go.Lib.hid (And.intro (World.ownsMap_made w8 Tryz.prog 9 (plainElem (H := Unit) Tryz.prog 3)) (And.intro (hk8.alloc (.map #[] 0)) (And.intro (hr8.alloc (.map #[] 0)) (And.intro hne8 (And.intro hB8 (And.intro hgn hrn))))))
        clear hk8 hr8 hne8 hB8 hrl hbl hgn hrn hb8 HC y0 y1 y2 y3 hen
        go_wp2_with (first
          | (refine wpList_insert_own _ rfl _ _ _ 310 rfl 9 3 K9 Tryz.underlying310 (plainElem Tryz.prog 3) w8.heap.size 0 _ rfl HM.out.1 (by decide) _ _ kD rfl rfl kd9 _ [] (pe3 7 rfl) ?_; intro w9 ho9 hg9; have HM9 := _root_.Go.Lib.hid (And.intro ho9 hg9); clear ho9 hg9)
          | (refine wpList_insert_own _ rfl _ _ _ 310 rfl 9 3 K9 Tryz.underlying310 (plainElem Tryz.prog 3) w8.heap.size 1 _ rfl HM9.out.1 (by decide) _ _ k1 rfl rfl k19 _ [] (pe3 15 rfl) ?_; intro wa hoa hga; have HMa := _root_.Go.Lib.hid (And.intro hoa hga); clear hoa hga)
          | (refine wpList_insert_own _ rfl _ _ _ 310 rfl 9 3 K9 Tryz.underlying310 (plainElem Tryz.prog 3) w8.heap.size 2 _ rfl HMa.out.1 (by decide) _ _ k2 rfl rfl k29 _ [] (pe3 20 rfl) ?_
             intro wb hob hgb
             obtain ⟨cv, hrun, hat2, hwc⟩ := hob.lookup_int K9 Tryz.underlying310 Tryz.underlying3 (by kernel_rfl) k19
             have he3 : E3.atKey k1 (.lit (.int .i64 0)) = .lit (.int .i64 15) := by kernel_rfl
             have hcv : cv = 15 := by
               have h2 : DataW.lit (.int .i64 15) = (DataW.lit (.int .i64 cv) : DataW Unit) := he3.symm.trans hat2
               simp only [DataW.lit.injEq, Lit.int.injEq, true_and] at h2
               exact h2.symm
             subst hcv
             have hkb := ((HM.out.2.1.grew HM9.out.2 HM.out.2.2.2.2.1 HM.out.2.2.2.1).grew HMa.out.2 HM.out.2.2.2.2.1 HM.out.2.2.2.1).grew hgb HM.out.2.2.2.2.1 HM.out.2.2.2.1
             have hrb := ((HM.out.2.2.1.kept HM9.out.2 HM.out.2.2.2.2.2.1 HM.out.2.2.2.2.2.2).kept HMa.out.2 HM.out.2.2.2.2.2.1 HM.out.2.2.2.2.2.2).kept hgb HM.out.2.2.2.2.2.1 HM.out.2.2.2.2.2.2
             have cc : wb.cell? ⟨p7, 2, none⟩ = some (.int .i64 0) := cell_at (hkb.get List.mem_cons_self) 2
             have qq : wb.frozen? ⟨p7, 2, none⟩ = false := free_at (hkb.get List.mem_cons_self) 2
             have HB := _root_.Go.Lib.hid (And.intro hrun (And.intro hkb hrb))
             clear hob hgb hat2 hwc he3 hkb hrb)
          | (go_at_call 208; refine (reg208a _).mono ?_; rintro e wc ⟨rfl, rfl⟩)
          | go_in)
        go_roundw
        case rel =>
          refine ⟨_, _, d, HB.out.2.2.kept (grown_setCell _ _ _) (fun e => HQ0.out.2.2.2.2.1 (Option.some.inj e).symm) (fun e => HQ0.out.2.2.2.2.2 (Option.some.inj e).symm), fun hh => HQ.out.2.1 (by simpa [Lit.sameKey] using hh), ?_⟩
          exact KW.cellAt [] [(p0, .cells #[.int .i64 0, .int .i64 0, .int .i64 0, .int .i64 0, .int .u32 0] 219), (w.heap.size, .cells (formI g) 287)] HB.out.2.1 rfl
        case measure =>
          rw [(HB.out.2.2.kept (grown_setCell _ _ _) (fun e => HQ0.out.2.2.2.2.1 (Option.some.inj e).symm) (fun e => HQ0.out.2.2.2.2.2 (Option.some.inj e).symm)).left_eq, HQ.out.1.left_eq]
          exact HS.out.2.2
      · have HC := _root_.Go.Lib.hid (has207e g w7)
        have HS := _root_.Go.Lib.hid (And.intro hk7 (And.intro hrg1 hlt))
        clear hk7 hrg1 hg7 hkey hlk hat hlt hg1 hs1
        go_wp2_with (go_at_call 207; refine HC.out.mono ?_; rintro e w8 ⟨rfl, hb8⟩)
        have hr8 := HS.out.2.1.kept (grown_below hb8 none) (by simp) (by simp)
        refine ⟨⟨_, _, d, hr8, fun hh => HQ.out.2.1 (by simpa [Lit.sameKey] using hh), HS.out.1.grown hb8⟩, ?_⟩
        rw [hr8.left_eq, HQ.out.1.left_eq]
        exact HS.out.2.2
end Go.Proofs.YtlcbilknfjdceaaGreatDoor
end
section
/-
  A word is decoded: the nineteenth row is its.
-/
set_option linter.unusedVariables false
set_option linter.unusedSimpArgs false
set_option maxRecDepth 100000
namespace Go.Proofs.YtlcbilknfjdceaaGreatDoor
open Go.RowKit Go.Lib Go.Sort
def ShapeP (k m : Int) : Prop := ∀ w : World, Calls Tryz.prog 176 #[.int .u8 k] w fun e w' => ∃ g s sg n, e = .returned (.agg #[.int .u32 m, .string s, .int .i64 sg, .slice (some ⟨g, 0, none⟩) n n]) ∧ Below w.heap.size w w'
theorem shU : ShapeP 85 127 := fun w => (shape176U w).mono (by rintro e w' ⟨g, rfl, _, _, hb⟩; exact ⟨g, _, _, _, rfl, hb⟩)
theorem shJ : ShapeP 74 127 := fun w => (shape176J w).mono (by rintro e w' ⟨g, rfl, _, _, hb⟩; exact ⟨g, _, _, _, rfl, hb⟩)
theorem shI : ShapeP 73 28799 := fun w => (shape176I w).mono (by rintro e w' ⟨g, rfl, _, _, hb⟩; exact ⟨g, _, _, _, rfl, hb⟩)
theorem shB : ShapeP 66 28799 := fun w => (shape176B w).mono (by rintro e w' ⟨g, rfl, _, _, hb⟩; exact ⟨g, _, _, _, rfl, hb⟩)
theorem shS : ShapeP 83 28799 := fun w => (shape176S w).mono (by rintro e w' ⟨g, rfl, _, _, hb⟩; exact ⟨g, _, _, _, rfl, hb⟩)
theorem row_miss (i : Nat) (h : i < 18) : ∃ p k m v : Int, rowsV[i * 2]? = some (.int .u32 p) ∧ rowsV[i * 2 + 1]? = some (.int .u8 k) ∧ ShapeP k m ∧ bits BinOp.and IntKind.u32 5243027 m = v ∧ ¬ v = p :=
  match i, h with
  | 0, _ => ⟨55, 85, 127, 19, rfl, rfl, shU, by kernel_rfl, by decide⟩
  | 1, _ => ⟨23, 85, 127, 19, rfl, rfl, shU, by kernel_rfl, by decide⟩
  | 2, _ => ⟨111, 74, 127, 19, rfl, rfl, shJ, by kernel_rfl, by decide⟩
  | 3, _ => ⟨103, 73, 28799, 19, rfl, rfl, shI, by kernel_rfl, by decide⟩
  | 4, _ => ⟨99, 66, 28799, 19, rfl, rfl, shB, by kernel_rfl, by decide⟩
  | 5, _ => ⟨4195, 66, 28799, 19, rfl, rfl, shB, by kernel_rfl, by decide⟩
  | 6, _ => ⟨16483, 66, 28799, 19, rfl, rfl, shB, by kernel_rfl, by decide⟩
  | 7, _ => ⟨20579, 66, 28799, 19, rfl, rfl, shB, by kernel_rfl, by decide⟩
  | 8, _ => ⟨24675, 66, 28799, 19, rfl, rfl, shB, by kernel_rfl, by decide⟩
  | 9, _ => ⟨28771, 66, 28799, 19, rfl, rfl, shB, by kernel_rfl, by decide⟩
  | 10, _ => ⟨3, 73, 28799, 19, rfl, rfl, shI, by kernel_rfl, by decide⟩
  | 11, _ => ⟨4099, 73, 28799, 19, rfl, rfl, shI, by kernel_rfl, by decide⟩
  | 12, _ => ⟨8195, 73, 28799, 19, rfl, rfl, shI, by kernel_rfl, by decide⟩
  | 13, _ => ⟨16387, 73, 28799, 19, rfl, rfl, shI, by kernel_rfl, by decide⟩
  | 14, _ => ⟨20483, 73, 28799, 19, rfl, rfl, shI, by kernel_rfl, by decide⟩
  | 15, _ => ⟨35, 83, 28799, 19, rfl, rfl, shS, by kernel_rfl, by decide⟩
  | 16, _ => ⟨4131, 83, 28799, 19, rfl, rfl, shS, by kernel_rfl, by decide⟩
  | 17, _ => ⟨8227, 83, 28799, 19, rfl, rfl, shS, by kernel_rfl, by decide⟩
  | i + 18, h => absurd h (by omega)
theorem results151 {tmps : Array Value} {w : World} {rb : Nat} {a b c d e : Value} {t : TypeId} (h2 : tmps.getD 2 undef = .pointer (some ⟨rb, 0, none⟩)) (h3 : tmps.getD 3 undef = .bool true) (hg : w.heap[rb]? = some (.cells #[a, b, c, d, e] t)) :
    (results Tryz.f151 tmps).run Tryz.prog w = .ok (.tuple #[.agg #[a, b, c, d, e], .bool true]) w := by
  have hl : (Instr.loadAt 219 (.pointer (some ⟨rb, 0, none⟩))).run Tryz.prog w = .ok (.agg #[a, b, c, d, e]) w := Mem.run_loadAt_part (by rfl) Tryz.underlying219 hg (by rw [size219]; rfl) rfl
  rw [Array.getD_eq_getD_getElem?] at h2 h3
  simp only [Instr.loadAt, Instr.sureAddr, pure_bind] at hl
  simp [results, h2, h3, Result.andThen, asAddr, hl]
abbrev opZ : Obj := .cells #[.int .i64 0, .int .i64 0, .int .i64 0, .int .i64 0, .int .u32 0] 219
abbrev opV : Array Value := #[.int .i64 19, .int .i64 1, .int .i64 0, .int .i64 0, .int .u32 5]
theorem word151 (w : World) : Calls Tryz.prog 151 #[.int .u32 5243027] w fun e w' => e = .returned (.tuple #[.agg opV, .bool true]) ∧ Below w.heap.size w w' := by
  obtain ⟨g, hg⟩ : ∃ g, g = w.heap.size + 1 := ⟨_, rfl⟩
  have h2 := ((KW.start (Below.refl w.heap.size w) (Nat.le_refl _)).push opZ).push (.cells rowsV 284)
  rw [size_al, ← hg] at h2
  have H := _root_.Go.Lib.hid (And.intro h2 hg)
  clear h2 hg
  go_enter Tryz.func151, Tryz.ntmps151
  go_wp2_with (go_at_call 175; refine (rows175 _).mono ?_; rintro e w1 ⟨rfl, rfl⟩)
  obtain ⟨h2, hg⟩ := H.out
  rw [← hg]
  clear H
  generalize hr : w.heap.size = r at h2 hg ⊢
  generalize World.alloc (World.alloc w _) _ = w2 at h2 ⊢
  have H := _root_.Go.Lib.hid h2
  clear h2 hg
  go_loopg [9] 18 (fun k s9 wr => ∃ i : Nat, i + k = 18 ∧ s9 = .int .i64 (i : Int) ∧ KW r w [(g, .cells rowsV 284), (r, opZ)] wr)
  case atStart => exact ⟨0, rfl, rfl, H.out⟩
  case round =>
    obtain ⟨i, hik, rfl, hk⟩ := hrel
    have hlt : ((i : Int) < 69) = True := by simp; omega
    have hgr := hk.get (g := g) (o := .cells rowsV 284) (by simp)
    by_cases hi : i < 18
    · obtain ⟨p, k1, m, v, e1, e2, hs, hv, hne⟩ := row_miss i hi
      have c0 : wr.cell? ⟨g, i * 2, none⟩ = some (.int .u32 p) := by rw [cell_at hgr]; exact e1
      have c1 : wr.cell? ⟨g, i * 2 + 1, none⟩ = some (.int .u8 k1) := by rw [cell_at hgr]; exact e2
      have HX := _root_.Go.Lib.hid (And.intro hk (And.intro hs hik))
      clear hk hs hik hgr e1 e2
      go_upto_region 4 with fail
      have h3 := HX.out.1.push (.cells #[.int .u32 p, .int .u8 k1] 284)
      generalize hq : wr.heap.size = q at h3 ⊢
      generalize World.alloc wr _ = w3 at h3 ⊢
      have y1 : w3.cell? ⟨q, 1, none⟩ = some (.int .u8 k1) := cell_at (h3.get List.mem_cons_self) 1
      have H3 := _root_.Go.Lib.hid h3
      clear h3
      go_upto_region 5 with (go_at_call 176; refine (HX.out.2.1 _).mono ?_; rintro e w4 ⟨g1, s1, sg, n1, rfl, hb⟩)
      have h5 := (H3.out.grown hb).push (.cells #[.int .u32 m, .string s1, .int .i64 sg, .slice (some ⟨g1, 0, none⟩) n1 n1] 287)
      generalize hq2 : w4.heap.size = q2 at h5 ⊢
      generalize World.alloc w4 _ = w5 at h5 ⊢
      have x0 : w5.cell? ⟨q, 0, none⟩ = some (.int .u32 p) := cell_at (h5.get (g := q) (o := .cells #[.int .u32 p, .int .u8 k1] 284) (by simp)) 0
      have x1 : w5.cell? ⟨q2, 0, none⟩ = some (.int .u32 m) := cell_at (h5.get List.mem_cons_self) 0
      have H5 := _root_.Go.Lib.hid h5
      clear h5 hb y1 c0 c1
      go_wp2_with fail
      go_roundg (18 - (i + 1))
      case measure => have := HX.out.2.2; omega
      case rel => exact ⟨i + 1, by have := HX.out.2.2; omega, by first | rfl | go_num, H5.out.tail.tail⟩
    · obtain rfl : i = 18 := by omega
      have c0 : wr.cell? ⟨g, 36, none⟩ = some (.int .u32 19) := by rw [cell_at hgr]; rfl
      have c1 : wr.cell? ⟨g, 37, none⟩ = some (.int .u8 73) := by rw [cell_at hgr]; rfl
      have hv : bits BinOp.and IntKind.u32 5243027 28799 = 19 := by kernel_rfl
      have HX := _root_.Go.Lib.hid hk
      clear hk hgr
      go_upto_region 4 with fail
      have h3 := HX.out.push (.cells #[.int .u32 19, .int .u8 73] 284)
      generalize hq : wr.heap.size = q at h3 ⊢
      generalize World.alloc wr _ = w3 at h3 ⊢
      have y1 : w3.cell? ⟨q, 1, none⟩ = some (.int .u8 73) := cell_at (h3.get List.mem_cons_self) 1
      have H3 := _root_.Go.Lib.hid h3
      clear h3
      go_upto_region 5 with (go_at_call 176; refine (shape176I _).mono ?_; rintro e w4 ⟨g1, rfl, hle, hg1, hb⟩)
      have hg2 := lt_of_heap hg1
      have h5 := (H3.out.grown hb).push (.cells (formI g1) 287)
      have hg5 : (w4.alloc (.cells (formI g1) 287)).heap[g1]? = some (.cells #[.int .i64 20, .int .i64 12, .int .i64 0] 305) := by rw [Below.heap_alloc w4 _ g1 hg2]; exact hg1
      generalize hq2 : w4.heap.size = q2 at h5 ⊢
      generalize World.alloc w4 _ = w5 at h5 hg5 ⊢
      have x0 : w5.cell? ⟨q, 0, none⟩ = some (.int .u32 19) := cell_at (h5.get (g := q) (o := .cells #[.int .u32 19, .int .u8 73] 284) (by simp)) 0
      have hq5 := h5.get (g := q2) (o := .cells (formI g1) 287) List.mem_cons_self
      have x1 : w5.cell? ⟨q2, 0, none⟩ = some (.int .u32 28799) := cell_at hq5 0
      have x2 : w5.cell? ⟨q2, 1, none⟩ = some sD1 := cell_at hq5 1
      have x3 : w5.cell? ⟨q2, 2, none⟩ = some (.int .i64 12) := cell_at hq5 2
      have x4 : w5.cell? ⟨q2, 3, none⟩ = some (.slice (some ⟨g1, 0, none⟩) 1 1) := cell_at hq5 3
      have H5 := _root_.Go.Lib.hid (And.intro h5 (op177 hg5))
      clear h5 hb y1 c0 c1 hg1 hg2 hg5 hq5
      go_upto_region 6 with fail
      go_wp2_with (go_at_call 177; refine H5.out.2.mono ?_; rintro e w6 ⟨rfl, hb⟩
                   have h6 := H5.out.1.grown hb
                   have hr6 := h6.get (g := r) (o := opZ) (by simp)
                   have r0 : w6.cell? ⟨r, 0, none⟩ = some (.int .i64 0) := cell_at hr6 0
                   have f0 : w6.frozen? ⟨r, 0, none⟩ = false := free_at hr6 0
                   have r1 : w6.cell? ⟨r, 1, none⟩ = some (.int .i64 0) := cell_at hr6 1
                   have f1 : w6.frozen? ⟨r, 1, none⟩ = false := free_at hr6 1
                   have r2 : w6.cell? ⟨r, 2, none⟩ = some (.int .i64 0) := cell_at hr6 2
                   have f2 : w6.frozen? ⟨r, 2, none⟩ = false := free_at hr6 2
                   have r3 : w6.cell? ⟨r, 3, none⟩ = some (.int .i64 0) := cell_at hr6 3
                   have f3 : w6.frozen? ⟨r, 3, none⟩ = false := free_at hr6 3
                   have r4 : w6.cell? ⟨r, 4, none⟩ = some (.int .u32 0) := cell_at hr6 4
                   have f4 : w6.frozen? ⟨r, 4, none⟩ = false := free_at hr6 4
                   have H6 := _root_.Go.Lib.hid h6
                   clear h6 hr6 hb)
      have h9 := set5 [(q2, .cells (formI g1) 287), (q, .cells #[.int .u32 19, .int .u8 73] 284), (g, .cells rowsV 284)] [] (g := r) (x0 := .int .i64 19) (x1 := .int .i64 1) (x2 := .int .i64 0) (x3 := .int .i64 0) (x4 := .int .u32 5) H6.out
      generalize World.setCell _ _ _ = w9 at h9 ⊢
      refine bodyPost_ret (v := .tuple #[.agg opV, .bool true]) (results151 (rb := r) rfl rfl (h9.get (g := r) (o := .cells opV 219) (by simp))) rfl ?_
      exact ⟨rfl, by rw [hr]; exact h9.bel⟩
end Go.Proofs.YtlcbilknfjdceaaGreatDoor
end
section
/-
  A command is done: the one that adds a number.
-/
set_option linter.unusedVariables false
set_option linter.unusedSimpArgs false
set_option maxRecDepth 100000
namespace Go.Proofs.YtlcbilknfjdceaaGreatDoor
open Go.RowKit Go.Lib Go.Sort
section
variable {B o b c : Nat} {cy pc wd nx : Int} {W w : World} {K : Blocks}
theorem a182 (h : w.heap[c]? = some (coreO o b 19 1 0 0 5 wd nx)) (ho : w.heap[o]? = some (.cells (hartV cy pc 0) 72)) : Calls Tryz.prog 182 #[pt c] w fun e w' => e = .returned (.int .u32 0) ∧ w' = w.drew := by
  have c0 : w.cell? ⟨c, 0, none⟩ = some (pt o) := cell_at h 0
  have c4 : w.cell? ⟨c, 4, none⟩ = some (.int .i64 0) := cell_at h 4
  have o19 : w.cell? ⟨o, 19, none⟩ = some (.int .u32 0) := cell_at ho 19
  clear h ho
  go_enter Tryz.func182, Tryz.ntmps182
  go_upto_region 1 with fail
  go_still (by kernel_rfl)
  go_wp2_with fail
  go_ret
  exact ⟨rfl, rfl⟩
theorem put178 (h : KW B W ((c, coreO o b 19 1 0 0 5 wd nx) :: (o, .cells (hartV cy pc 0) 72) :: K) w) : Calls Tryz.prog 178 #[pt c, .int .u32 5] w fun e w' => e = .returned (.tuple #[]) ∧ KW B W ((c, coreO o b 19 1 0 0 5 wd nx) :: (o, .cells (hartV cy pc 5) 72) :: K) w' := by
  have hc := h.get (g := c) (o := coreO o b 19 1 0 0 5 wd nx) (by simp)
  have ho := h.get (g := o) (o := .cells (hartV cy pc 0) 72) (by simp)
  have c0 : w.cell? ⟨c, 0, none⟩ = some (pt o) := cell_at hc 0
  have c3 : w.cell? ⟨c, 3, none⟩ = some (.int .i64 1) := cell_at hc 3
  have o20 : w.cell? ⟨o, 20, none⟩ = some (.int .u32 0) := cell_at ho 20
  have q20 : w.frozen? ⟨o, 20, none⟩ = false := free_at ho 20
  have H := _root_.Go.Lib.hid h
  clear h hc ho
  go_enter Tryz.func178, Tryz.ntmps178
  go_upto_region 1 with fail
  go_still_tail 13, (by kernel_rfl)
  go_wp2_with fail
  have h9 := KW.cellAt [(c, coreO o b 19 1 0 0 5 wd nx)] K (i := 20) (x := .int .u32 5) (vs := hartV cy pc 5) H.out rfl
  refine bodyPost_end (v := .tuple #[]) (by simp [results, Tryz.results178]) rfl ⟨rfl, ?_⟩
  exact h9.drew
theorem does214 (w : World) : Calls Tryz.prog 214 #[.int .i64 19] w fun e w' => e = .returned (.func (.func 245) #[] #[]) ∧ w' = w := by
  go_enter Tryz.func214, Tryz.ntmps214
  go_wp2_with fail
  go_ret
  exact ⟨rfl, rfl⟩
theorem add245 (w : World) : Calls Tryz.prog 245 #[.int .u32 0, .int .u32 5] w fun e w' => e = .returned (.int .u32 5) ∧ w' = w := by
  go_enter Tryz.func245, Tryz.ntmps245
  go_wp2_with fail
  go_ret
  exact ⟨rfl, rfl⟩
theorem do181 (w : World) : Calls Tryz.prog 181 #[.int .i64 19, .int .u32 0, .int .u32 5] w fun e w' => e = .returned (.tuple #[.int .u32 5, .bool true]) ∧ w' = w := by
  have hnf : ∀ w, (binOp .eql 315 (.func (.func 245) #[] #[]) .nilFunc).run Tryz.prog w = .ok (.bool false) w := fun _ => by kernel_rfl
  go_enter Tryz.func181, Tryz.ntmps181
  go_wp2_with (first | (go_at_call 214; refine (does214 _).mono ?_; rintro e w1 ⟨rfl, rfl⟩) | (go_at_call 245; refine (add245 _).mono ?_; rintro e w1 ⟨rfl, rfl⟩))
  refine bodyPost_ret (v := .tuple #[.int .u32 5, .bool true]) (by simp [results, Tryz.results181, Sem.run_bind, Result.andThen]) rfl ⟨rfl, rfl⟩
theorem does153 (h : KW B W ((c, coreO o b 19 1 0 0 5 wd nx) :: (o, .cells (hartV cy pc 0) 72) :: K) w) : Calls Tryz.prog 153 #[pt c] w fun e w' => e = .returned (.tuple #[]) ∧ KW B W ((c, coreO o b 19 1 0 0 5 wd nx) :: (o, .cells (hartV cy pc 5) 72) :: K) w' := by
  have hc := h.get (g := c) (o := coreO o b 19 1 0 0 5 wd nx) (by simp)
  have ho := h.get (g := o) (o := .cells (hartV cy pc 0) 72) (by simp)
  have c2 : w.cell? ⟨c, 2, none⟩ = some (.int .i64 19) := cell_at hc 2
  have c6 : w.cell? ⟨c, 6, none⟩ = some (.int .u32 5) := cell_at hc 6
  have ha : ∀ n, Calls Tryz.prog 182 #[pt c] (w.drewN n) fun e w' => e = .returned (.int .u32 0) ∧ ∃ m, w' = (w.drewN n).drewN m := fun n => (a182 (w := w.drewN n) (c := c) (o := o) (b := b) (cy := cy) (pc := pc) (wd := wd) (nx := nx) hc ho).mono fun e w' hh => ⟨hh.1, 1, hh.2⟩
  have hp : ∀ n, Calls Tryz.prog 178 #[pt c, .int .u32 5] (w.drewN n) fun e w' => e = .returned (.tuple #[]) ∧ KW B W ((c, coreO o b 19 1 0 0 5 wd nx) :: (o, .cells (hartV cy pc 5) 72) :: K) w' := fun n => put178 (h.drewN (n := n))
  have H := _root_.Go.Lib.hid (And.intro ha hp)
  clear h hc ho ha hp
  go_enter Tryz.func153, Tryz.ntmps153
  go_upto_region 11 with fail
  go_quiet ((first | (go_at_call 182; exact Calls.quiet_of (H.out.1 _)) | (go_at_call 181; exact Calls.quiet_of_same (do181 _))))
  go_wp2_with (go_at_call 178; refine (H.out.2 _).mono ?_; rintro e w1 ⟨rfl, hk⟩; have HK := _root_.Go.Lib.hid hk; clear hk)
  refine bodyPost_end (v := .tuple #[]) (by simp [results, Tryz.results153]) rfl ⟨rfl, HK.out⟩
end
end Go.Proofs.YtlcbilknfjdceaaGreatDoor
end
section
/-
  What asks for a trap: nothing.
-/
set_option linter.unusedVariables false
set_option linter.unusedSimpArgs false
set_option maxRecDepth 100000
namespace Go.Proofs.YtlcbilknfjdceaaGreatDoor
open Go.RowKit Go.Lib Go.Sort
def ordC : Array Value := #[.int .u32 11, .int .u32 3, .int .u32 7, .int .u32 9, .int .u32 1, .int .u32 5]
/-- The table of the order in which traps are looked for. -/
def Tab (w : World) : Prop := ∃ t fr, w.heap[0]? = some (.cells ordC t fr)
theorem Tab.pos {w : World} (h : Tab w) : 0 < w.heap.size := by
  obtain ⟨t, fr, h⟩ := h
  exact lt_of_heap h
theorem Tab.below {B : Nat} {w w' : World} (h : Tab w) (hb : Below B w w') (hB : 0 < B) : Tab w' := by
  obtain ⟨t, fr, h⟩ := h
  exact ⟨t, fr, (hb.block 0 hB).trans h⟩
theorem has146 (x : Int) (h : bits BinOp.and IntKind.u32 0 x = 0) (w : World) : Calls Tryz.prog 146 #[.int .u32 0, .int .u32 x] w fun e w' => e = .returned (.bool false) ∧ w' = w := by
  go_enter Tryz.func146, Tryz.ntmps146
  go_wp2_with fail
  go_ret
  exact ⟨rfl, rfl⟩
def fileZ (cy : Int) : Array Value := #[.int .u32 0, .int .u32 0, .int .u32 0, .int .u32 0, .int .u32 0, .int .u32 0, .int .u32 0, .int .u32 0, .int .u32 0, .int .u32 0, .int .u32 0, .int .u32 0, .int .u32 0, .int .u32 0, .int .u32 0, .int .u32 0, .int .u64 cy]
theorem size67 : (Tryz.prog.info? 67).map (·.size) = some 17 := by kernel_rfl
theorem size69 : (Tryz.prog.info? 69).map (·.size) = some 19 := by kernel_rfl
theorem core_file (cy pc : Int) : ((coreV cy pc).toList.drop 0).take 17 = (fileZ cy).toList := rfl
theorem zero67 (w : World) : (zeroValue 67).run Tryz.prog w = .ok (.agg (fileZ 0)) w := by kernel_rfl
theorem load254 {w : World} (h : Tab w) : (Instr.loadAt 254 (pt 0)).run Tryz.prog w = .ok (.agg ordC) w := by
  obtain ⟨t, fr, h⟩ := h
  exact Mem.run_loadAt_part (by rfl) Tryz.underlying254 h (by rw [show (Tryz.prog.info? 254).map (·.size) = some 6 by kernel_rfl]; rfl) rfl
theorem st67 (cy : Int) {w : World} {g : Nat} {t : TypeId} {cur : Array Value} (hg : w.heap[g]? = some (.cells cur t)) (hc : cur.size = 17) : (Instr.storeAt 67 (.pointer (some ⟨g, 0, none⟩)) (.agg (fileZ cy))).run Tryz.prog w = .ok () (w.setRow g (fileZ cy)) :=
  Mem.run_storeAt_part hg (by rw [size67]; rfl) (by rw [hc]; show 0 + 17 ≤ 17; omega) rfl (by
    rw [List.take_zero, List.nil_append, List.drop_eq_nil_of_le (by rw [Array.length_toList, hc]; show 17 ≤ 0 + 17; omega), List.append_nil, Array.toArray_toList]) rfl
theorem ix253_0 : ∀ w, (Instr.index 253 (.agg #[.int .u32 0, .int .u32 0]) (.int .i64 0)).run Tryz.prog w = .ok (.int .u32 0) w := fun _ => by kernel_rfl
theorem ix253_1 : ∀ w, (Instr.index 253 (.agg #[.int .u32 0, .int .u32 0]) (.int .i64 1)).run Tryz.prog w = .ok (.int .u32 0) w := fun _ => by kernel_rfl
theorem ix253 (i : Nat) (h : i < 2) (w : World) : (Instr.index 253 (.agg #[.int .u32 0, .int .u32 0]) (.int .i64 (i : Int))).run Tryz.prog w = .ok (.int .u32 0) w := by
  have : i = 0 ∨ i = 1 := by omega
  rcases this with rfl | rfl
  · exact ix253_0 w
  · exact ix253_1 w
theorem pend115 {w : World} {cy pc : Int} (hT : Tab w) : Calls Tryz.prog 115 #[.agg (coreV cy pc)] w fun e w' => e = .returned (.tuple #[.int .u32 0, .bool false]) ∧ Below w.heap.size w w' := by
  have hz := zero67
  have h1 := (KW.start (Below.refl w.heap.size w) (Nat.le_refl _)).push (.cells (coreV cy pc) 69)
  have HT := _root_.Go.Lib.hid (And.intro h1 hT)
  clear h1 hT
  go_enter Tryz.func115, Tryz.ntmps115
  go_upto_region 1 with fail
  have h1 := HT.out.1
  obtain ⟨s1, hs⟩ : ∃ s1, s1 = w.heap.size := ⟨_, rfl⟩
  rw [← hs] at h1 ⊢
  generalize World.alloc w _ = w1 at h1 ⊢
  have hl : (Instr.loadAt 67 (.pointer (some ⟨s1, 0, none⟩))).run Tryz.prog w1 = .ok (.agg (fileZ cy)) w1 := Mem.run_loadAt_part (by rfl) Tryz.underlying67 (h1.get List.mem_cons_self) (by rw [size67]; rfl) (core_file cy pc)
  have h2 := (h1.push (.cells (fileZ 0) 67)).row (vs := fileZ cy)
  have hst := st67 cy (w := w1.alloc (.cells (fileZ 0) 67)) (heap_alloc_new w1 (.cells (fileZ 0) 67)) rfl
  have H := _root_.Go.Lib.hid (And.intro hl (And.intro hst (And.intro h2 hs)))
  clear h1 hl h2 hst hs
  go_upto_region 2 with (first | ((with_reducible apply Mem.ld 67); rfl; exact H.out.1) | ((with_reducible apply Mem.st 67); rfl; rfl; exact H.out.2.1))
  obtain ⟨-, -, h2, hs⟩ := H.out
  generalize hs2 : w1.heap.size = s2 at h2 ⊢
  generalize World.setRow _ _ _ = w2 at h2 ⊢
  have hT2 : Tab w2 := HT.out.2.below h2.bel (by rw [hs]; exact HT.out.2.pos)
  have hl := load254 hT2
  have g1 := h2.get (g := s1) (o := .cells (coreV cy pc) 69) (by simp)
  have g2 := h2.get (g := s2) (o := .cells (fileZ cy) 67) (by simp)
  have x17 : w2.cell? ⟨s1, 17, none⟩ = some (.int .i64 3) := cell_at g1 17
  have y0 : w2.cell? ⟨s2, 0, none⟩ = some (.int .u32 0) := cell_at g2 0
  have y3 : w2.cell? ⟨s2, 3, none⟩ = some (.int .u32 0) := cell_at g2 3
  have y4 : w2.cell? ⟨s2, 4, none⟩ = some (.int .u32 0) := cell_at g2 4
  have e1 : bits BinOp.and IntKind.u32 0 0 = 0 := by kernel_rfl
  have H2 := _root_.Go.Lib.hid (And.intro h2 hl)
  have HS := _root_.Go.Lib.hid hs
  clear h2 hT2 g1 g2 H hz hl hs2 hs
  go_wp2_with (go_at_call 146; refine (has146 _ (by kernel_rfl) _).mono ?_; rintro e w3 ⟨rfl, rfl⟩)
  go_loopg [51] 2 (fun k s51 wr => ∃ i : Nat, i + k = 2 ∧ s51 = .int .i64 (i : Int) ∧ wr = w3)
  case atStart => exact ⟨0, rfl, rfl, rfl⟩
  case round =>
    obtain ⟨i, hik, rfl, rfl⟩ := hrel
    by_cases hi : i < 2
    · have hx : (Instr.index 253 (.agg #[.int .u32 0, .int .u32 0]) (.int .i64 (i : Int))).run Tryz.prog wr = .ok (.int .u32 0) wr := ix253 i hi wr
      have HI := _root_.Go.Lib.hid hik
      clear hik
      go_wp2_with ((with_reducible apply Mem.ld 254); rfl; exact H2.out.2)
      go_loopg [55] 6 (fun k s55 wq => ∃ j : Nat, j + k = 6 ∧ s55 = .int .i64 (j : Int) ∧ wq = wr)
      case atStart => exact ⟨0, rfl, rfl, rfl⟩
      case round =>
        obtain ⟨j, hjk, rfl, rfl⟩ := hrel
        by_cases hj : j < 6
        · have HJ := _root_.Go.Lib.hid hjk
          clear hjk
          have h6 : j = 0 ∨ j = 1 ∨ j = 2 ∨ j = 3 ∨ j = 4 ∨ j = 5 := by omega
          rcases h6 with rfl | rfl | rfl | rfl | rfl | rfl
          · have hy : (Instr.index 254 (.agg ordC) (.int .i64 0)).run Tryz.prog wr = .ok (.int .u32 11) wr := by kernel_rfl
            go_wp2_with (go_at_call 146; refine (has146 _ (by kernel_rfl) _).mono ?_; rintro e w3 ⟨rfl, rfl⟩)
            go_roundg 5
            case measure => have := HJ.out; omega
            case rel => exact ⟨1, rfl, by first | rfl | go_num, rfl⟩
          · have hy : (Instr.index 254 (.agg ordC) (.int .i64 1)).run Tryz.prog wr = .ok (.int .u32 3) wr := by kernel_rfl
            go_wp2_with (go_at_call 146; refine (has146 _ (by kernel_rfl) _).mono ?_; rintro e w3 ⟨rfl, rfl⟩)
            go_roundg 4
            case measure => have := HJ.out; omega
            case rel => exact ⟨2, rfl, by first | rfl | go_num, rfl⟩
          · have hy : (Instr.index 254 (.agg ordC) (.int .i64 2)).run Tryz.prog wr = .ok (.int .u32 7) wr := by kernel_rfl
            go_wp2_with (go_at_call 146; refine (has146 _ (by kernel_rfl) _).mono ?_; rintro e w3 ⟨rfl, rfl⟩)
            go_roundg 3
            case measure => have := HJ.out; omega
            case rel => exact ⟨3, rfl, by first | rfl | go_num, rfl⟩
          · have hy : (Instr.index 254 (.agg ordC) (.int .i64 3)).run Tryz.prog wr = .ok (.int .u32 9) wr := by kernel_rfl
            go_wp2_with (go_at_call 146; refine (has146 _ (by kernel_rfl) _).mono ?_; rintro e w3 ⟨rfl, rfl⟩)
            go_roundg 2
            case measure => have := HJ.out; omega
            case rel => exact ⟨4, rfl, by first | rfl | go_num, rfl⟩
          · have hy : (Instr.index 254 (.agg ordC) (.int .i64 4)).run Tryz.prog wr = .ok (.int .u32 1) wr := by kernel_rfl
            go_wp2_with (go_at_call 146; refine (has146 _ (by kernel_rfl) _).mono ?_; rintro e w3 ⟨rfl, rfl⟩)
            go_roundg 1
            case measure => have := HJ.out; omega
            case rel => exact ⟨5, rfl, by first | rfl | go_num, rfl⟩
          · have hy : (Instr.index 254 (.agg ordC) (.int .i64 5)).run Tryz.prog wr = .ok (.int .u32 5) wr := by kernel_rfl
            go_wp2_with (go_at_call 146; refine (has146 _ (by kernel_rfl) _).mono ?_; rintro e w3 ⟨rfl, rfl⟩)
            go_roundg 0
            case measure => have := HJ.out; omega
            case rel => exact ⟨6, rfl, by first | rfl | go_num, rfl⟩
        · obtain rfl : j = 6 := by omega
          go_wp2_with fail
          go_roundg (2 - (i + 1))
          case measure => have := HI.out; omega
          case rel => exact ⟨i + 1, by have := HI.out; omega, by first | rfl | go_num, rfl⟩
    · obtain rfl : i = 2 := by omega
      go_wp2_with fail
      refine bodyPost_ret (v := .tuple #[.int .u32 0, .bool false]) (by simp [results, Tryz.results115, Sem.run_bind, Result.andThen]) rfl ⟨rfl, ?_⟩
      exact HS.out ▸ H2.out.1.bel
end Go.Proofs.YtlcbilknfjdceaaGreatDoor
end
section
/-
  A command is gone through.
-/
set_option linter.unusedVariables false
set_option linter.unusedSimpArgs false
set_option maxRecDepth 100000
namespace Go.Proofs.YtlcbilknfjdceaaGreatDoor
open Go.RowKit Go.Lib Go.Sort
theorem results80 {tmps : Array Value} {w : World} {rb : Nat} {cy : Int} {t : TypeId} (h2 : tmps.getD 4 undef = .pointer (some ⟨rb, 0, none⟩)) (hg : w.heap[rb]? = some (.cells (fileZ cy) t)) :
    (results Tryz.f80 tmps).run Tryz.prog w = .ok (.agg (fileZ cy)) w := by
  have hl : (Instr.loadAt 67 (.pointer (some ⟨rb, 0, none⟩))).run Tryz.prog w = .ok (.agg (fileZ cy)) w := Mem.run_loadAt_part (by rfl) Tryz.underlying67 hg (by rw [size67]; rfl) rfl
  rw [Array.getD_eq_getD_getElem?] at h2
  simp only [Instr.loadAt, Instr.sureAddr, pure_bind] at hl
  simp [results, h2, Result.andThen, asAddr, hl]
theorem lines80 {cy : Int} (w : World) : Calls Tryz.prog 80 #[.agg (fileZ cy), .int .u32 0] w fun e w' => e = .returned (.agg (fileZ cy)) ∧ Below w.heap.size w w' := by
  have hz := zero67
  have h1 := ((KW.start (Below.refl w.heap.size w) (Nat.le_refl _)).push (.cells (fileZ cy) 67)).push (.cells (fileZ 0) 67)
  rw [size_al] at h1
  have HT := _root_.Go.Lib.hid h1
  clear h1
  go_enter Tryz.func80, Tryz.ntmps80
  go_upto_region 1 with fail
  have h1 := HT.out
  clear HT
  obtain ⟨s1, hs⟩ : ∃ s1, s1 = w.heap.size := ⟨_, rfl⟩
  rw [← hs] at h1 ⊢
  generalize World.alloc (World.alloc w _) _ = w1 at h1 ⊢
  have x4 : w1.cell? ⟨s1, 4, none⟩ = some (.int .u32 0) := cell_at (h1.get (g := s1) (o := .cells (fileZ cy) 67) (by simp)) 4
  have q4 : w1.frozen? ⟨s1, 4, none⟩ = false := free_at (h1.get (g := s1) (o := .cells (fileZ cy) 67) (by simp)) 4
  have e1 : bits BinOp.andNot IntKind.u32 0 2184 = 0 := by kernel_rfl
  have e2 : bits BinOp.and IntKind.u32 0 2184 = 0 := by kernel_rfl
  have e3 : bits BinOp.or IntKind.u32 0 0 = 0 := by kernel_rfl
  have H := _root_.Go.Lib.hid (And.intro h1 hs)
  clear h1 hs hz
  go_upto_region 2 with fail
  obtain ⟨h1, hs⟩ := H.out
  clear H
  have h2 := KW.cellAt [(s1 + 1, .cells (fileZ 0) 67)] [] (g := s1) (i := 4) (x := .int .u32 0) (vs := fileZ cy) h1 rfl
  generalize World.setCell _ _ _ = w2 at h2 ⊢
  have hl : (Instr.loadAt 67 (.pointer (some ⟨s1, 0, none⟩))).run Tryz.prog w2 = .ok (.agg (fileZ cy)) w2 := Mem.run_loadAt_part (by rfl) Tryz.underlying67 (h2.get (g := s1) (o := .cells (fileZ cy) 67) (by simp)) (by rw [size67]; rfl) rfl
  have hst := st67 cy (h2.get (g := s1 + 1) (o := .cells (fileZ 0) 67) (by simp)) rfl
  have h3 := KW.row (vs := fileZ cy) h2
  have H := _root_.Go.Lib.hid (And.intro hl (And.intro hst (And.intro h3 hs)))
  clear h1 h2 h3 hl hst hs x4 q4 e1 e2 e3
  go_wp2_with (first | ((with_reducible apply Mem.ld 67); rfl; exact H.out.1) | ((with_reducible apply Mem.st 67); rfl; rfl; exact H.out.2.1))
  obtain ⟨-, -, h3, hs⟩ := H.out
  generalize World.setRow _ _ _ = w3 at h3 ⊢
  refine bodyPost_ret (v := .agg (fileZ cy)) (results80 (rb := s1 + 1) rfl (h3.get (g := s1 + 1) (o := .cells (fileZ cy) 67) (by simp))) rfl ⟨rfl, hs ▸ h3.bel⟩
section
variable {B o b c r g cap : Nat} {W w : World} {K0 : Blocks} {v : Value} {gw : Array Value}
theorem command118 (h : KW B W ((c, coreO o b 0 0 0 0 0 0 0) :: (o, .cells (hartV 1 2147483648 0) 72) :: (b, busO r v) :: (r, ramO g 16 cap) :: (g, .cells gw 38) :: K0) w) (hgw : gw[0]? = some (.int .u32 5243027)) :
    Calls Tryz.prog 118 #[pt c] w fun e w' => e = .returned (.tuple #[]) ∧ KW B W ((o, .cells (hartV 1 2147483652 5) 72) :: (b, busO r v) :: (r, ramO g 16 cap) :: (g, .cells gw 38) :: K0) w' := by
  have hc := h.get (g := c) (o := coreO o b 0 0 0 0 0 0 0) (by simp)
  have ho := h.get (g := o) (o := .cells (hartV 1 2147483648 0) 72) (by simp)
  have hb := h.get (g := b) (o := busO r v) (by simp)
  have hr := h.get (g := r) (o := ramO g 16 cap) (by simp)
  have hg := h.get (g := g) (o := .cells gw 38) (by simp)
  have c0 : w.cell? ⟨c, 0, none⟩ = some (pt o) := cell_at hc 0
  have o18 : w.cell? ⟨o, 18, none⟩ = some (.int .u32 2147483648) := cell_at ho 18
  have hld := load150 hc ho hb hr ((cell_at hg 0).trans hgw) (lt_of_heap hg)
  have H := _root_.Go.Lib.hid (And.intro hld h)
  clear h hc ho hb hr hg hld
  go_enter Tryz.func118, Tryz.ntmps118
  go_upto_region 1 with (go_at_call 150; refine H.out.1.mono ?_; rintro e w1 ⟨rfl, hb⟩
                         have h1 := H.out.2.grown hb
                         have hc := h1.get (g := c) (o := coreO o b 0 0 0 0 0 0 0) (by simp)
                         have c7 : w1.cell? ⟨c, 7, none⟩ = some (.int .u32 0) := cell_at hc 7
                         have q7 : w1.frozen? ⟨c, 7, none⟩ = false := free_at hc 7
                         have H1 := _root_.Go.Lib.hid h1
                         clear h1 hb hc)
  have h2 := KW.cell (i := 7) (x := .int .u32 5243027) (vs := #[pt o, pt b, .int .i64 0, .int .i64 0, .int .i64 0, .int .i64 0, .int .u32 0, .int .u32 5243027, .int .u32 0]) H1.out rfl
  generalize World.setCell _ _ _ = w2 at h2 ⊢
  have c7' : w2.cell? ⟨c, 7, none⟩ = some (.int .u32 5243027) := cell_at (h2.get List.mem_cons_self) 7
  have H2 := _root_.Go.Lib.hid h2
  clear h2 c7 q7 H1 H c0 o18
  go_upto_region 4 with (go_at_call 151; refine (word151 _).mono ?_; rintro e w3 ⟨rfl, hb⟩; have H3 := _root_.Go.Lib.hid hb; clear hb)
  have h4 := (H2.out.grown H3.out).push (.cells opV 219)
  generalize hp : w3.heap.size = p at h4 ⊢
  generalize World.alloc w3 _ = w4 at h4 ⊢
  have hc := h4.get (g := c) (o := coreO o b 0 0 0 0 0 5243027 0) (by simp)
  have hpp := h4.get (g := p) (o := .cells opV 219) (by simp)
  have ho := h4.get (g := o) (o := .cells (hartV 1 2147483648 0) 72) (by simp)
  have z0 : w4.cell? ⟨c, 0, none⟩ = some (pt o) := cell_at hc 0
  have z2 : w4.cell? ⟨c, 2, none⟩ = some (.int .i64 0) := cell_at hc 2
  have z3 : w4.cell? ⟨c, 3, none⟩ = some (.int .i64 0) := cell_at hc 3
  have z4 : w4.cell? ⟨c, 4, none⟩ = some (.int .i64 0) := cell_at hc 4
  have z5 : w4.cell? ⟨c, 5, none⟩ = some (.int .i64 0) := cell_at hc 5
  have z6 : w4.cell? ⟨c, 6, none⟩ = some (.int .u32 0) := cell_at hc 6
  have z8 : w4.cell? ⟨c, 8, none⟩ = some (.int .u32 0) := cell_at hc 8
  have q2 : w4.frozen? ⟨c, 2, none⟩ = false := free_at hc 2
  have q3 : w4.frozen? ⟨c, 3, none⟩ = false := free_at hc 3
  have q4 : w4.frozen? ⟨c, 4, none⟩ = false := free_at hc 4
  have q5 : w4.frozen? ⟨c, 5, none⟩ = false := free_at hc 5
  have q6 : w4.frozen? ⟨c, 6, none⟩ = false := free_at hc 6
  have q8 : w4.frozen? ⟨c, 8, none⟩ = false := free_at hc 8
  have p0 : w4.cell? ⟨p, 0, none⟩ = some (.int .i64 19) := cell_at hpp 0
  have p1 : w4.cell? ⟨p, 1, none⟩ = some (.int .i64 1) := cell_at hpp 1
  have p2 : w4.cell? ⟨p, 2, none⟩ = some (.int .i64 0) := cell_at hpp 2
  have p3 : w4.cell? ⟨p, 3, none⟩ = some (.int .i64 0) := cell_at hpp 3
  have p4 : w4.cell? ⟨p, 4, none⟩ = some (.int .u32 5) := cell_at hpp 4
  have o18 : w4.cell? ⟨o, 18, none⟩ = some (.int .u32 2147483648) := cell_at ho 18
  have H4 := _root_.Go.Lib.hid h4
  clear h4 hc hpp ho hp H2 H3 c7'
  have hcs := H4.out.get (g := c) (o := coreO o b 0 0 0 0 0 5243027 0) (by simp)
  have hps := H4.out.get (g := p) (o := .cells opV 219) (by simp)
  have hos := H4.out.get (g := o) (o := .cells (hartV 1 2147483648 0) 72) (by simp)
  clear z0 z2 z3 z4 z5 z6 z8 q2 q3 q4 q5 q6 q8 p0 p1 p2 p3 p4 o18
  refine wp_region_plan [(true, 0), (true, 1), (true, 2), (true, 3), (true, 4), (true, 5), (true, 6), (true, 7), (true, 8), (true, 9), (true, 10), (true, 11), (true, 12), (true, 13), (false, 14), (true, 15), (true, 16), (false, 17)] [(true, _), (true, _), (true, _), (true, _), (true, _), (true, _), (true, _), (true, _), (true, _), (true, _), (true, _), (true, _), (true, _), (true, _), (false, _), (true, _), (true, _), (false, _)] (fun w => w.cell? ⟨c, 0, none⟩ = some (pt o) ∧ w.heap[p]? = some (.cells opV 219) ∧ w.heap[o]? = some (.cells (hartV 1 2147483648 0) 72)) (by kernel_rfl) (by kernel_rfl) rfl ⟨cell_at hcs 0, hps, hos⟩ ?_
  clear hcs hps hos
  refine Plan.val (v := pt c) rfl (fun wc hC => ?_) ?_
  · go_simp
  refine Plan.go fun K hK => ?_
  go_simp
  refine hK _ _ ?_
  clear hK K
  refine Plan.val (v := pt c) rfl (fun wc hC => ?_) ?_
  · go_simp
  refine Plan.go fun K hK => ?_
  go_simp
  refine hK _ _ ?_
  clear hK K
  refine Plan.val (v := .agg opV) rfl (fun wc hC => ?_) ?_
  · have p0 : wc.cell? ⟨p, 0, none⟩ = some (.int .i64 19) := cell_at hC.2.1 0
    have p1 : wc.cell? ⟨p, 1, none⟩ = some (.int .i64 1) := cell_at hC.2.1 1
    have p2 : wc.cell? ⟨p, 2, none⟩ = some (.int .i64 0) := cell_at hC.2.1 2
    have p3 : wc.cell? ⟨p, 3, none⟩ = some (.int .i64 0) := cell_at hC.2.1 3
    have p4 : wc.cell? ⟨p, 4, none⟩ = some (.int .u32 5) := cell_at hC.2.1 4
    go_simp
  refine Plan.go fun K hK => ?_
  go_simp
  refine hK _ _ ?_
  clear hK K
  refine Plan.val (v := pt c) rfl (fun wc hC => ?_) ?_
  · go_simp
  refine Plan.go fun K hK => ?_
  go_simp
  refine hK _ _ ?_
  clear hK K
  refine Plan.val (v := pt c) rfl (fun wc hC => ?_) ?_
  · go_simp
  refine Plan.go fun K hK => ?_
  go_simp
  refine hK _ _ ?_
  clear hK K
  refine Plan.val (v := pt c) rfl (fun wc hC => ?_) ?_
  · go_simp
  refine Plan.go fun K hK => ?_
  go_simp
  refine hK _ _ ?_
  clear hK K
  refine Plan.val (v := pt o) rfl (fun wc hC => ?_) ?_
  · have m0 := hC.1
    go_simp
  refine Plan.go fun K hK => ?_
  go_simp
  refine hK _ _ ?_
  clear hK K
  refine Plan.val (v := pt o) rfl (fun wc hC => ?_) ?_
  · go_simp
  refine Plan.go fun K hK => ?_
  go_simp
  refine hK _ _ ?_
  clear hK K
  refine Plan.val (v := pt o) rfl (fun wc hC => ?_) ?_
  · go_simp
  refine Plan.go fun K hK => ?_
  go_simp
  refine hK _ _ ?_
  clear hK K
  refine Plan.val (v := .pointer (some ⟨o, 18, none⟩)) rfl (fun wc hC => ?_) ?_
  · go_simp
  refine Plan.go fun K hK => ?_
  go_simp
  refine hK _ _ ?_
  clear hK K
  refine Plan.val (v := .int .u32 2147483648) rfl (fun wc hC => ?_) ?_
  · have m0 : wc.cell? ⟨o, 18, none⟩ = some (.int .u32 2147483648) := cell_at hC.2.2 18
    go_simp
  refine Plan.go fun K hK => ?_
  go_simp
  refine hK _ _ ?_
  clear hK K
  refine Plan.val (v := .int .u32 2147483652) rfl (fun wc hC => ?_) ?_
  · have hw : IntKind.u32.wrap 2147483652 = 2147483652 := by kernel_rfl
    go_simp
  refine Plan.go fun K hK => ?_
  go_simp
  refine hK _ _ ?_
  clear hK K
  refine Plan.val (v := pt c) rfl (fun wc hC => ?_) ?_
  · go_simp
  refine Plan.go fun K hK => ?_
  go_simp
  refine hK _ _ ?_
  clear hK K
  refine Plan.val (v := .pointer (some ⟨c, 2, none⟩)) rfl (fun wc hC => ?_) ?_
  · go_simp
  refine Plan.go fun K hK => ?_
  go_simp
  refine hK _ _ ?_
  clear hK K
  have h5 : KW B W ((p, .cells opV 219) :: (c, coreO o b 0 0 0 0 0 5243027 0) :: (o, .cells (hartV 1 2147483648 0) 72) :: (b, busO r v) :: (r, ramO g 16 cap) :: (g, .cells gw 38) :: K0) w4.drew := H4.out.drew
  have hst : (Instr.storeAt 219 (.pointer (some ⟨c, 2, none⟩)) (.agg opV)).run Tryz.prog w4.drew = .ok () (w4.drew.setRow c #[pt o, pt b, .int .i64 19, .int .i64 1, .int .i64 0, .int .i64 0, .int .u32 5, .int .u32 5243027, .int .u32 0]) := Mem.run_storeAt_part (h5.get (g := c) (o := coreO o b 0 0 0 0 0 5243027 0) (by simp)) (by rw [size219]; rfl) (show 2 + 5 ≤ 9 by decide) rfl rfl rfl
  have h6 := KW.rowAt [(p, .cells opV 219)] ((o, .cells (hartV 1 2147483648 0) 72) :: (b, busO r v) :: (r, ramO g 16 cap) :: (g, .cells gw 38) :: K0) (vs := #[pt o, pt b, .int .i64 19, .int .i64 1, .int .i64 0, .int .i64 0, .int .u32 5, .int .u32 5243027, .int .u32 0]) h5
  refine Plan.skip rfl (Mem.ex_store rfl rfl rfl hst) ⟨cell_at (h6.get (g := c) (o := coreO o b 19 1 0 0 5 5243027 0) (by simp)) 0, h6.get (g := p) (o := .cells opV 219) (by simp), h6.get (g := o) (o := .cells (hartV 1 2147483648 0) 72) (by simp)⟩ ?_
  generalize World.setRow _ _ _ = w5 at h6 ⊢
  have H5 := _root_.Go.Lib.hid h6
  clear h5 h6 hst H4
  refine Plan.go fun K hK => ?_
  go_simp
  refine hK _ _ ?_
  clear hK K
  refine Plan.val (v := pt c) rfl (fun wc hC => ?_) ?_
  · go_simp
  refine Plan.go fun K hK => ?_
  go_simp
  refine hK _ _ ?_
  clear hK K
  refine Plan.val (v := .pointer (some ⟨c, 8, none⟩)) rfl (fun wc hC => ?_) ?_
  · go_simp
  refine Plan.go fun K hK => ?_
  go_simp
  refine hK _ _ ?_
  clear hK K
  have hst : (Instr.storeAt 38 (.pointer (some ⟨c, 8, none⟩)) (.int .u32 2147483652)).run Tryz.prog w5 = .ok () (w5.setRow c #[pt o, pt b, .int .i64 19, .int .i64 1, .int .i64 0, .int .i64 0, .int .u32 5, .int .u32 5243027, .int .u32 2147483652]) := Mem.run_storeAt_cell (H5.out.get (g := c) (o := coreO o b 19 1 0 0 5 5243027 0) (by simp)) (by kernel_rfl) (show 8 < 9 by decide) rfl rfl rfl
  have h6 := KW.rowAt [(p, .cells opV 219)] ((o, .cells (hartV 1 2147483648 0) 72) :: (b, busO r v) :: (r, ramO g 16 cap) :: (g, .cells gw 38) :: K0) (vs := #[pt o, pt b, .int .i64 19, .int .i64 1, .int .i64 0, .int .i64 0, .int .u32 5, .int .u32 5243027, .int .u32 2147483652]) H5.out
  refine Plan.skip rfl (Mem.ex_store rfl rfl rfl hst) ⟨cell_at (h6.get (g := c) (o := coreO o b 19 1 0 0 5 5243027 2147483652) (by simp)) 0, h6.get (g := p) (o := .cells opV 219) (by simp), h6.get (g := o) (o := .cells (hartV 1 2147483648 0) 72) (by simp)⟩ ?_
  generalize World.setRow _ _ _ = w6 at h6 ⊢
  have h6 := h6.tail
  have hd := does153 h6
  have HD := _root_.Go.Lib.hid hd
  clear h6 hst H5 hd
  refine Plan.go fun K hK => ?_
  go_simp
  refine hK _ _ ?_
  clear hK K
  refine Plan.nil ?_
  go_upto_region 6 with (go_at_call 153; refine HD.out.mono ?_; rintro e w7 ⟨rfl, h7⟩; have H7 := _root_.Go.Lib.hid h7; clear h7)
  have c0 : w7.cell? ⟨c, 0, none⟩ = some (pt o) := cell_at (H7.out.get (g := c) (o := coreO o b 19 1 0 0 5 5243027 2147483652) (by simp)) 0
  have c8 : w7.cell? ⟨c, 8, none⟩ = some (.int .u32 2147483652) := cell_at (H7.out.get (g := c) (o := coreO o b 19 1 0 0 5 5243027 2147483652) (by simp)) 8
  have o18 : w7.cell? ⟨o, 18, none⟩ = some (.int .u32 2147483648) := cell_at (H7.out.get (g := o) (o := .cells (hartV 1 2147483648 5) 72) (by simp)) 18
  have q18 : w7.frozen? ⟨o, 18, none⟩ = false := free_at (H7.out.get (g := o) (o := .cells (hartV 1 2147483648 5) 72) (by simp)) 18
  go_still_tail 8, (by kernel_rfl)
  go_wp2_with fail
  have h9 := KW.cellAt [(c, coreO o b 19 1 0 0 5 5243027 2147483652)] ((b, busO r v) :: (r, ramO g 16 cap) :: (g, .cells gw 38) :: K0) (g := o) (i := 18) (x := .int .u32 2147483652) (vs := hartV 1 2147483652 5) H7.out rfl
  refine bodyPost_end (v := .tuple #[]) (by simp [results, Tryz.results118]) rfl ⟨rfl, ?_⟩
  exact h9.tail.drew
end
end Go.Proofs.YtlcbilknfjdceaaGreatDoor
end
section
/-
  A hart goes one step.
-/
set_option linter.unusedVariables false
set_option linter.unusedSimpArgs false
set_option maxRecDepth 100000
namespace Go.Proofs.YtlcbilknfjdceaaGreatDoor
open Go.RowKit Go.Lib Go.Sort
theorem caught117 (o : Nat) (w : World) : CallsD Tryz.prog 117 #[pt o] .returning w fun e u' w' => e = .returned (.tuple #[]) ∧ u' = .returning ∧ w' = w := by
  refine callsD_of_wpS Tryz.func117 rfl fun c₀ cs hu => ?_
  apply wpS_seq
  apply wpS_region
  simp [wpOpsS, go_sem, recoverD, hu, Tryz.ntmps117, Exit.thenS]
  have e : #[pt o] ++ (Array.replicate 22 undef).setIfInBounds 4 Value.nilIface = #[pt o, undef, undef, undef, undef, .nilIface, undef, undef, undef, undef, undef, undef, undef, undef, undef, undef, undef, undef, undef, undef, undef, undef, undef] := by kernel_rfl
  rw [e]
  refine wpS_of_wp ?_
  have HU := _root_.Go.Lib.hid hu
  clear hu e
  go_wp2_with fail
  cases c₀
  have hu := HU.out
  simp_all [bodyPostS, results, Tryz.results117]
theorem hart_core (cy pc x1 : Int) : ((hartV cy pc x1).toList.drop 0).take 19 = (coreV cy pc).toList := rfl
theorem ld69 {cy pc x1 : Int} {w : World} {g : Nat} {t : TypeId} (hg : w.heap[g]? = some (.cells (hartV cy pc x1) t)) : (Instr.loadAt 69 (.pointer (some ⟨g, 0, none⟩))).run Tryz.prog w = .ok (.agg (coreV cy pc)) w :=
  Mem.run_loadAt_part (by rfl) Tryz.underlying69 hg (by rw [size69]; rfl) (hart_core cy pc x1)
theorem results82 {tmps : Array Value} {w : World} {rb : Nat} {cy pc x1 : Int} {t : TypeId} (h2 : tmps.getD 4 undef = .pointer (some ⟨rb, 0, none⟩)) (hg : w.heap[rb]? = some (.cells (hartV cy pc x1) t)) :
    (results Tryz.f82 tmps).run Tryz.prog w = .ok (.agg (hartV cy pc x1)) w := by
  have hl := ld72 hg
  rw [Array.getD_eq_getD_getElem?] at h2
  simp only [Instr.loadAt, Instr.sureAddr, pure_bind] at hl
  simp [results, h2, Result.andThen, asAddr, hl]
section
variable {B b r g cap : Nat} {W w : World} {K0 : Blocks} {v : Value} {gw : Array Value}
theorem step82 (h : KW B W ((b, busO r v) :: (r, ramO g 16 cap) :: (g, .cells gw 38) :: K0) w) (hgw : gw[0]? = some (.int .u32 5243027)) (hT : Tab W) (hB : 0 < B) :
    Calls Tryz.prog 82 #[.agg (hartV 0 2147483648 0), pt b] w fun e w' => e = .returned (.agg (hartV 1 2147483652 5)) ∧ KW B W ((b, busO r v) :: (r, ramO g 16 cap) :: (g, .cells gw 38) :: K0) w' := by
  have hz := zero72
  have h1 := h.push2 (.cells (hartV 0 2147483648 0) 72) (.cells hartZ 72)
  have hTT : ∀ w', Below B W w' → Tab w' := fun w' hb => hT.below hb hB
  have HX := _root_.Go.Lib.hid (And.intro h1 (And.intro hTT hgw))
  clear h h1 hT hTT hgw hB
  go_enter_defers Tryz.func82, Tryz.ntmps82
  go_upto_region 1 with fail
  have h1 := HX.out.1
  obtain ⟨p, hp⟩ : ∃ p, p = w.heap.size := ⟨_, rfl⟩
  rw [← hp] at h1 ⊢
  generalize World.alloc (World.alloc w _) _ = w1 at h1 ⊢
  have hl := ld72 (h1.get (g := p) (o := .cells (hartV 0 2147483648 0) 72) (by simp))
  have hst := st72 0 2147483648 0 (h1.get (g := p + 1) (o := .cells hartZ 72) (by simp)) hartZ_size
  have h2 := KW.row (vs := hartV 0 2147483648 0) h1
  have H := _root_.Go.Lib.hid (And.intro hl (And.intro hst (And.intro h2 hp)))
  clear h1 hl hst h2 hz hp
  go_upto_region 2 with (first | ((with_reducible apply Mem.ld 72); rfl; exact H.out.1) | ((with_reducible apply Mem.st 72); rfl; rfl; exact H.out.2.1))
  obtain ⟨-, -, h2, hp⟩ := H.out
  clear H
  generalize World.setRow _ _ _ = w2 at h2 ⊢
  have ho := h2.get (g := p + 1) (o := .cells (hartV 0 2147483648 0) 72) (by simp)
  have x16 : w2.cell? ⟨p + 1, 16, none⟩ = some (.int .u64 0) := cell_at ho 16
  have q16 : w2.frozen? ⟨p + 1, 16, none⟩ = false := free_at ho 16
  have H := _root_.Go.Lib.hid (And.intro h2 hp)
  clear h2 ho hp
  go_upto_region 3 with fail
  obtain ⟨h2, hp⟩ := H.out
  clear H
  have h3 := KW.cell (i := 16) (x := .int .u64 1) (vs := hartV 1 2147483648 0) h2 rfl
  generalize World.setCell _ _ _ = w3 at h3 ⊢
  have hl := ld69 (h3.get (g := p + 1) (o := .cells (hartV 1 2147483648 0) 72) (by simp))
  have hT3 : Tab w3 := HX.out.2.1 _ h3.bel
  have hpd := pend115 (cy := 1) (pc := 2147483648) hT3
  have H := _root_.Go.Lib.hid (And.intro hl (And.intro hpd (And.intro h3 hp)))
  clear h2 h3 hl hT3 hpd hp x16 q16
  go_upto_region 7 with (first | ((with_reducible apply Mem.ld 69); rfl; exact H.out.1) | (go_at_call 115; refine H.out.2.1.mono ?_; rintro e w4 ⟨rfl, hb⟩; have HB := _root_.Go.Lib.hid hb; clear hb))
  obtain ⟨-, -, h3, hp⟩ := H.out
  clear H
  have h4 := h3.grown HB.out
  have ho := h4.get (g := p + 1) (o := .cells (hartV 1 2147483648 0) 72) (by simp)
  have x53 : w4.cell? ⟨p + 1, 53, none⟩ = some (.bool false) := cell_at ho 53
  have q53 : w4.frozen? ⟨p + 1, 53, none⟩ = false := free_at ho 53
  have H := _root_.Go.Lib.hid (And.intro h4 hp)
  clear h3 h4 hp ho HB
  go_upto_region 10 with fail
  obtain ⟨h4, hp⟩ := H.out
  clear H
  have h5 := KW.cell (i := 53) (x := .bool false) (vs := hartV 1 2147483648 0) h4 rfl
  generalize World.setCell _ _ _ = w5 at h5 ⊢
  have h6 := h5.push (coreO (p + 1) b 0 0 0 0 0 0 0)
  have h7 : KW B W ((w5.heap.size, coreO (p + 1) b 0 0 0 0 0 0 0) :: (p + 1, .cells (hartV 1 2147483648 0) 72) :: (b, busO r v) :: (r, ramO g 16 cap) :: (g, .cells gw 38) :: ((p, .cells (hartV 0 2147483648 0) 72) :: K0)) (w5.alloc (coreO (p + 1) b 0 0 0 0 0 0 0)) := h6.perm (((List.perm_middle (l₁ := [(b, busO r v), (r, ramO g 16 cap), (g, .cells gw 38)]) (a := (p, .cells (hartV 0 2147483648 0) 72)) (l₂ := K0)).symm.cons _).cons _)
  have hcm := command118 h7 HX.out.2.2
  have H := _root_.Go.Lib.hid (And.intro hcm hp)
  clear h4 h5 h6 h7 hcm x53 q53 hp
  go_upto_region 13 with (go_at_call 118; refine H.out.1.mono ?_; rintro e w8 ⟨rfl, h8⟩; have H8 := _root_.Go.Lib.hid h8; clear h8)
  have hl := ld72 (H8.out.get (g := p + 1) (o := .cells (hartV 1 2147483652 5) 72) (by simp))
  have hst := st72 1 2147483652 5 (H8.out.get (g := p + 1) (o := .cells (hartV 1 2147483652 5) 72) (by simp)) (hart_size _ _ _)
  have h9 := KW.row (vs := hartV 1 2147483652 5) H8.out
  have HL := _root_.Go.Lib.hid (And.intro hl (And.intro hst h9))
  clear hl hst h9
  go_wp2_with (first | ((with_reducible apply Mem.ld 72); rfl; exact HL.out.1) | ((with_reducible apply Mem.st 72); rfl; rfl; exact HL.out.2.1))
  have h9 := HL.out.2.2
  generalize World.setRow _ _ _ = w9 at h9 ⊢
  refine leaves_cons (f := 117) (args := #[pt (p + 1)]) (by simp) (by simp [go_sem]) ?_
  refine (caught117 (p + 1) _).mono ?_
  rintro e u' w'' ⟨rfl, rfl, rfl⟩
  exact ⟨_, results82 (rb := p + 1) rfl (h9.get (g := p + 1) (o := .cells (hartV 1 2147483652 5) 72) (by simp)), rfl, KW.cut [(b, busO r v), (r, ramO g 16 cap), (g, .cells gw 38)] [(p, .cells (hartV 0 2147483648 0) 72)] K0 h9.tail⟩
end
end Go.Proofs.YtlcbilknfjdceaaGreatDoor
end
section
/-
  A machine goes one step.
-/
set_option linter.unusedVariables false
set_option linter.unusedSimpArgs false
set_option maxRecDepth 100000
namespace Go.Proofs.YtlcbilknfjdceaaGreatDoor
open Go.RowKit Go.Lib Go.Sort
section
variable {B m b r g c d u s f cap : Nat} {W w : World} {K0 : Blocks} {v : Value} {gw : Array Value}
theorem mach_file (cy pc x1 : Int) : ((machV r b c d u s cy pc x1).toList.drop 6).take 17 = (fileZ cy).toList := rfl
theorem mach_hart (cy pc x1 : Int) : ((machV r b c d u s cy pc x1).toList.drop 6).take 54 = (hartV cy pc x1).toList := rfl
theorem mach_size (cy pc x1 : Int) : (machV r b c d u s cy pc x1).size = 60 := rfl
theorem mld67 {cy pc x1 : Int} (hg : w.heap[m]? = some (machO r b c d u s cy pc x1)) : (Instr.loadAt 67 (.pointer (some ⟨m, 6, none⟩))).run Tryz.prog w = .ok (.agg (fileZ cy)) w :=
  Mem.run_loadAt_part (by rfl) Tryz.underlying67 hg (by rw [size67]; rfl) (mach_file cy pc x1)
theorem mld72 {cy pc x1 : Int} (hg : w.heap[m]? = some (machO r b c d u s cy pc x1)) : (Instr.loadAt 72 (.pointer (some ⟨m, 6, none⟩))).run Tryz.prog w = .ok (.agg (hartV cy pc x1)) w :=
  Mem.run_loadAt_part (by rfl) Tryz.underlying72 hg (by rw [size72]; rfl) (mach_hart cy pc x1)
theorem mst67 {cy pc x1 : Int} (hg : w.heap[m]? = some (machO r b c d u s cy pc x1)) : (Instr.storeAt 67 (.pointer (some ⟨m, 6, none⟩)) (.agg (fileZ cy))).run Tryz.prog w = .ok () (w.setRow m (machV r b c d u s cy pc x1)) :=
  Mem.run_storeAt_part hg (by rw [size67]; rfl) (show 6 + 17 ≤ 60 by decide) rfl rfl rfl
theorem mst72 {cy pc x1 cy' pc' x1' : Int} (hg : w.heap[m]? = some (machO r b c d u s cy pc x1)) : (Instr.storeAt 72 (.pointer (some ⟨m, 6, none⟩)) (.agg (hartV cy' pc' x1'))).run Tryz.prog w = .ok () (w.setRow m (machV r b c d u s cy' pc' x1')) :=
  Mem.run_storeAt_part hg (by rw [size72]; rfl) (show 6 + 54 ≤ 60 by decide) rfl rfl rfl
theorem step42 (h : KW B W ((m, machO r b c d u s 0 2147483648 0) :: (b, busO r v) :: (r, ramO g 16 cap) :: (g, .cells gw 38) :: (c, clockO 0) :: (d, deskO) :: (u, uartO) :: (s, sectO f) :: K0) w) (hgw : gw[0]? = some (.int .u32 5243027)) (hT : Tab W) (hB : 0 < B) :
    Calls Tryz.prog 42 #[pt m] w fun e w' => e = .returned (.tuple #[]) ∧ KW B W ((m, machO r b c d u s 1 2147483652 5) :: (b, busO r v) :: (r, ramO g 16 cap) :: (g, .cells gw 38) :: (c, clockO 1) :: (d, deskO) :: (u, uartO) :: (s, sectO f) :: K0) w' := by
  have hm := h.get (g := m) (o := machO r b c d u s 0 2147483648 0) (by simp)
  have m2 : w.cell? ⟨m, 2, none⟩ = some (pt c) := cell_at hm 2
  have hgd := good45 hm
  have htk := tick77 (n := 0) (by kernel_rfl) (h.perm (List.perm_middle (l₁ := [(m, machO r b c d u s 0 2147483648 0), (b, busO r v), (r, ramO g 16 cap), (g, .cells gw 38)]) (a := (c, clockO 0)) (l₂ := (d, deskO) :: (u, uartO) :: (s, sectO f) :: K0)))
  have HX := _root_.Go.Lib.hid (And.intro hgw (And.intro hT hB))
  have H := _root_.Go.Lib.hid (And.intro hgd htk)
  clear h hm hgd htk hgw hT hB
  go_enter Tryz.func42, Tryz.ntmps42
  go_upto_region 2 with (first | (go_at_call 45; refine H.out.1.mono ?_; rintro e w1 ⟨rfl, rfl⟩) | (go_at_call 77; refine H.out.2.mono ?_; rintro e w2 ⟨rfl, h2⟩; have H2 := _root_.Go.Lib.hid h2; clear h2))
  have h2 : KW B W ((m, machO r b c d u s 0 2147483648 0) :: (b, busO r v) :: (r, ramO g 16 cap) :: (g, .cells gw 38) :: (c, clockO 1) :: (d, deskO) :: (u, uartO) :: (s, sectO f) :: K0) w2 := H2.out.perm (List.perm_middle (l₁ := [(m, machO r b c d u s 0 2147483648 0), (b, busO r v), (r, ramO g 16 cap), (g, .cells gw 38)]) (a := (c, clockO 1)) (l₂ := (d, deskO) :: (u, uartO) :: (s, sectO f) :: K0)).symm
  clear H H2 m2
  refine wp_region_plan [(true, 0), (true, 1), (true, 2), (true, 3), (true, 4), (true, 5), (false, 6)] [(true, _), (true, _), (true, _), (true, _), (true, _), (true, _), (false, _)] (fun w => KW B W ((m, machO r b c d u s 0 2147483648 0) :: (b, busO r v) :: (r, ramO g 16 cap) :: (g, .cells gw 38) :: (c, clockO 1) :: (d, deskO) :: (u, uartO) :: (s, sectO f) :: K0) w) (by kernel_rfl) (by kernel_rfl) rfl h2.drew ?_
  have H2 := _root_.Go.Lib.hid h2
  clear h2
  refine Plan.val (v := pt m) rfl (fun wc hC => ?_) ?_
  · go_simp
  refine Plan.go fun K hK => ?_
  go_simp
  refine hK _ _ ?_
  clear hK K
  refine Plan.val (v := pt m) rfl (fun wc hC => ?_) ?_
  · go_simp
  refine Plan.go fun K hK => ?_
  go_simp
  refine hK _ _ ?_
  clear hK K
  refine Plan.val (v := .pointer (some ⟨m, 3, none⟩)) rfl (fun wc hC => ?_) ?_
  · go_simp
  refine Plan.go fun K hK => ?_
  go_simp
  refine hK _ _ ?_
  clear hK K
  refine Plan.val (v := pt d) rfl (fun wc hC => ?_) ?_
  · have m0 : wc.cell? ⟨m, 3, none⟩ = some (pt d) := cell_at (hC.get (g := m) (o := machO r b c d u s 0 2147483648 0) (by simp)) 3
    go_simp
  refine Plan.go fun K hK => ?_
  go_simp
  refine hK _ _ ?_
  clear hK K
  refine Plan.val (v := pt m) rfl (fun wc hC => ?_) ?_
  · go_simp
  refine Plan.go fun K hK => ?_
  go_simp
  refine hK _ _ ?_
  clear hK K
  refine Plan.read (v := .int .u32 0) (f := 79) (fs := #[.tmp 14]) (ts := #[63]) rfl rfl (enters_of Tryz.func79 (by kernel_rfl) rfl) (gs := #[pt m]) (by go_simp) (fun wc hC => asks79 (hC.get (g := m) (o := machO r b c d u s 0 2147483648 0) (by simp)) (hC.get (g := u) (o := uartO) (by simp)) (hC.get (g := s) (o := sectO f) (by simp))) ?_
  refine Plan.go fun K hK => ?_
  go_simp
  refine hK _ _ ?_
  clear hK K
  have hak := ask78 (H2.out.drew.perm (List.perm_middle (l₁ := [(m, machO r b c d u s 0 2147483648 0), (b, busO r v), (r, ramO g 16 cap), (g, .cells gw 38), (c, clockO 1)]) (a := (d, deskO)) (l₂ := (u, uartO) :: (s, sectO f) :: K0)))
  refine Plan.call (f := 78) (fs := #[.tmp 13, .tmp 15]) (ts := #[116, 38]) rfl rfl (enters_of Tryz.func78 (by kernel_rfl) rfl) (gs := #[pt d, .int .u32 0]) (by go_simp) hak ?_
  rintro e w3 ⟨rfl, h3⟩
  have h3 : KW B W ((m, machO r b c d u s 0 2147483648 0) :: (b, busO r v) :: (r, ramO g 16 cap) :: (g, .cells gw 38) :: (c, clockO 1) :: (d, deskO) :: (u, uartO) :: (s, sectO f) :: K0) w3 := h3.perm (List.perm_middle (l₁ := [(m, machO r b c d u s 0 2147483648 0), (b, busO r v), (r, ramO g 16 cap), (g, .cells gw 38), (c, clockO 1)]) (a := (d, deskO)) (l₂ := (u, uartO) :: (s, sectO f) :: K0)).symm
  refine ⟨_, rfl, h3, ?_⟩
  have H3 := _root_.Go.Lib.hid h3
  clear h3 hak H2
  refine Plan.go fun K hK => ?_
  go_simp
  refine hK _ _ ?_
  clear hK K
  refine Plan.nil ?_
  go_upto_region 3 with fail
  refine wp_region_plan [(true, 0), (true, 1), (true, 2), (true, 3), (true, 4), (true, 5), (true, 6), (true, 7), (false, 8), (false, 9), (true, 10), (true, 11), (true, 12), (true, 13), (false, 14)] [(true, _), (true, _), (true, _), (true, _), (true, _), (true, _), (true, _), (true, _), (false, _), (false, _), (true, _), (true, _), (true, _), (true, _), (false, _)] (fun w => KW B W ((m, machO r b c d u s 0 2147483648 0) :: (b, busO r v) :: (r, ramO g 16 cap) :: (g, .cells gw 38) :: (c, clockO 1) :: (d, deskO) :: (u, uartO) :: (s, sectO f) :: K0) w) (by kernel_rfl) (by kernel_rfl) rfl H3.out.drew ?_
  refine Plan.val (v := pt m) rfl (fun wc hC => ?_) ?_
  · go_simp
  refine Plan.go fun K hK => ?_
  go_simp
  refine hK _ _ ?_
  clear hK K
  refine Plan.val (v := pt m) rfl (fun wc hC => ?_) ?_
  · go_simp
  refine Plan.go fun K hK => ?_
  go_simp
  refine hK _ _ ?_
  clear hK K
  refine Plan.val (v := pt m) rfl (fun wc hC => ?_) ?_
  · go_simp
  refine Plan.go fun K hK => ?_
  go_simp
  refine hK _ _ ?_
  clear hK K
  refine Plan.val (v := .pointer (some ⟨m, 6, none⟩)) rfl (fun wc hC => ?_) ?_
  · go_simp
  refine Plan.go fun K hK => ?_
  go_simp
  refine hK _ _ ?_
  clear hK K
  refine Plan.val (v := .pointer (some ⟨m, 6, none⟩)) rfl (fun wc hC => ?_) ?_
  · go_simp
  refine Plan.go fun K hK => ?_
  go_simp
  refine hK _ _ ?_
  clear hK K
  refine Plan.val (v := .pointer (some ⟨m, 6, none⟩)) rfl (fun wc hC => ?_) ?_
  · go_simp
  refine Plan.go fun K hK => ?_
  go_simp
  refine hK _ _ ?_
  clear hK K
  refine Plan.val (v := .agg (fileZ 0)) rfl (fun wc hC => Mem.ex_load rfl rfl (mld67 (hC.get (g := m) (o := machO r b c d u s 0 2147483648 0) (by simp)))) ?_
  refine Plan.go fun K hK => ?_
  go_simp
  refine hK _ _ ?_
  clear hK K
  refine Plan.val (v := pt m) rfl (fun wc hC => ?_) ?_
  · go_simp
  refine Plan.go fun K hK => ?_
  go_simp
  refine hK _ _ ?_
  clear hK K
  have h3 := H3.out.drew
  have hln := lines81 (n := 1) (by decide) (h3.get (g := m) (o := machO r b c d u s 0 2147483648 0) (by simp)) (h3.get (g := c) (o := clockO 1) (by simp)) (h3.get (g := d) (o := deskO) (by simp))
  refine Plan.call (f := 81) (fs := #[.tmp 24]) (ts := #[63]) rfl rfl (enters_of Tryz.func81 (by kernel_rfl) rfl) (gs := #[pt m]) (by go_simp) hln ?_
  rintro e w4 ⟨rfl, rfl⟩
  have h4 := h3.drew.drew
  refine ⟨_, rfl, h4, ?_⟩
  have H4 := _root_.Go.Lib.hid h4
  clear h3 h4 hln H3
  refine Plan.go fun K hK => ?_
  go_simp
  refine hK _ _ ?_
  clear hK K
  refine Plan.call (f := 80) (fs := #[.tmp 23, .tmp 25]) (ts := #[67, 38]) rfl rfl (enters_of Tryz.func80 (by kernel_rfl) rfl) (gs := #[.agg (fileZ 0), .int .u32 0]) (by go_simp) (lines80 _) ?_
  rintro e w5 ⟨rfl, hb5⟩
  have h5 := H4.out.grown hb5
  refine ⟨_, rfl, h5, ?_⟩
  have H5 := _root_.Go.Lib.hid h5
  clear h5 hb5 H4
  refine Plan.go fun K hK => ?_
  go_simp
  refine hK _ _ ?_
  clear hK K
  refine Plan.val (v := pt m) rfl (fun wc hC => ?_) ?_
  · go_simp
  refine Plan.go fun K hK => ?_
  go_simp
  refine hK _ _ ?_
  clear hK K
  refine Plan.val (v := .pointer (some ⟨m, 6, none⟩)) rfl (fun wc hC => ?_) ?_
  · go_simp
  refine Plan.go fun K hK => ?_
  go_simp
  refine hK _ _ ?_
  clear hK K
  refine Plan.val (v := .pointer (some ⟨m, 6, none⟩)) rfl (fun wc hC => ?_) ?_
  · go_simp
  refine Plan.go fun K hK => ?_
  go_simp
  refine hK _ _ ?_
  clear hK K
  refine Plan.val (v := .pointer (some ⟨m, 6, none⟩)) rfl (fun wc hC => ?_) ?_
  · go_simp
  refine Plan.go fun K hK => ?_
  go_simp
  refine hK _ _ ?_
  clear hK K
  have hst := mst67 (H5.out.get (g := m) (o := machO r b c d u s 0 2147483648 0) (by simp))
  have h6 := KW.row (vs := machV r b c d u s 0 2147483648 0) H5.out
  refine Plan.skip rfl (Mem.ex_store rfl rfl rfl hst) h6 ?_
  generalize World.setRow _ _ _ = w6 at h6 ⊢
  have H6 := _root_.Go.Lib.hid h6
  clear h6 hst H5
  refine Plan.go fun K hK => ?_
  go_simp
  refine hK _ _ ?_
  clear hK K
  refine Plan.nil ?_
  go_upto_region 4 with fail
  refine wp_region_plan [(true, 0), (true, 1), (true, 2), (true, 3), (true, 5), (true, 6), (true, 7), (true, 8), (false, 4), (false, 9), (true, 10), (true, 11), (false, 12)] [(true, _), (true, _), (true, _), (true, _), (true, _), (true, _), (true, _), (true, _), (false, _), (false, _), (true, _), (true, _), (false, _)] (fun w => w.cell? ⟨m, 1, none⟩ = some (pt b)) (by kernel_rfl) (by kernel_rfl) rfl (cell_at (H6.out.drew.get (g := m) (o := machO r b c d u s 0 2147483648 0) (by simp)) 1) ?_
  refine Plan.val (v := pt m) rfl (fun wc hC => ?_) ?_
  · go_simp
  refine Plan.go fun K hK => ?_
  go_simp
  refine hK _ _ ?_
  clear hK K
  refine Plan.val (v := pt m) rfl (fun wc hC => ?_) ?_
  · go_simp
  refine Plan.go fun K hK => ?_
  go_simp
  refine hK _ _ ?_
  clear hK K
  refine Plan.val (v := pt m) rfl (fun wc hC => ?_) ?_
  · go_simp
  refine Plan.go fun K hK => ?_
  go_simp
  refine hK _ _ ?_
  clear hK K
  refine Plan.val (v := .pointer (some ⟨m, 6, none⟩)) rfl (fun wc hC => ?_) ?_
  · go_simp
  refine Plan.go fun K hK => ?_
  go_simp
  refine hK _ _ ?_
  clear hK K
  refine Plan.val (v := pt m) rfl (fun wc hC => ?_) ?_
  · go_simp
  refine Plan.go fun K hK => ?_
  go_simp
  refine hK _ _ ?_
  clear hK K
  refine Plan.val (v := pt m) rfl (fun wc hC => ?_) ?_
  · go_simp
  refine Plan.go fun K hK => ?_
  go_simp
  refine hK _ _ ?_
  clear hK K
  refine Plan.val (v := .pointer (some ⟨m, 1, none⟩)) rfl (fun wc hC => ?_) ?_
  · go_simp
  refine Plan.go fun K hK => ?_
  go_simp
  refine hK _ _ ?_
  clear hK K
  refine Plan.val (v := pt b) rfl (fun wc hC => ?_) ?_
  · go_simp
  refine Plan.go fun K hK => ?_
  go_simp
  refine hK _ _ ?_
  clear hK K
  have h6 := H6.out.drew
  refine Plan.put (v := .agg (hartV 0 2147483648 0)) rfl (Mem.ex_load rfl rfl (mld72 (h6.get (g := m) (o := machO r b c d u s 0 2147483648 0) (by simp)))) (cell_at (h6.get (g := m) (o := machO r b c d u s 0 2147483648 0) (by simp)) 1) ?_
  refine Plan.go fun K hK => ?_
  go_simp
  refine hK _ _ ?_
  clear hK K
  have hstep := step82 (h6.perm (List.perm_middle (l₁ := [(b, busO r v), (r, ramO g 16 cap), (g, .cells gw 38)]) (a := (m, machO r b c d u s 0 2147483648 0)) (l₂ := (c, clockO 1) :: (d, deskO) :: (u, uartO) :: (s, sectO f) :: K0)).symm) HX.out.1 HX.out.2.1 HX.out.2.2
  refine Plan.call (f := 82) (fs := #[.tmp 35, .tmp 39]) (ts := #[72, 114]) rfl rfl (enters_of Tryz.func82 (by kernel_rfl) rfl) (gs := #[.agg (hartV 0 2147483648 0), pt b]) (by go_simp) hstep ?_
  rintro e w7 ⟨rfl, h7⟩
  have h7 : KW B W ((m, machO r b c d u s 0 2147483648 0) :: (b, busO r v) :: (r, ramO g 16 cap) :: (g, .cells gw 38) :: (c, clockO 1) :: (d, deskO) :: (u, uartO) :: (s, sectO f) :: K0) w7 := h7.perm (List.perm_middle (l₁ := [(b, busO r v), (r, ramO g 16 cap), (g, .cells gw 38)]) (a := (m, machO r b c d u s 0 2147483648 0)) (l₂ := (c, clockO 1) :: (d, deskO) :: (u, uartO) :: (s, sectO f) :: K0))
  refine ⟨_, rfl, cell_at (h7.get (g := m) (o := machO r b c d u s 0 2147483648 0) (by simp)) 1, ?_⟩
  have H7 := _root_.Go.Lib.hid h7
  clear h6 h7 hstep H6
  refine Plan.go fun K hK => ?_
  go_simp
  refine hK _ _ ?_
  clear hK K
  refine Plan.val (v := pt m) rfl (fun wc hC => ?_) ?_
  · go_simp
  refine Plan.go fun K hK => ?_
  go_simp
  refine hK _ _ ?_
  clear hK K
  refine Plan.val (v := .pointer (some ⟨m, 6, none⟩)) rfl (fun wc hC => ?_) ?_
  · go_simp
  refine Plan.go fun K hK => ?_
  go_simp
  refine hK _ _ ?_
  clear hK K
  have hst := mst72 (cy' := 1) (pc' := 2147483652) (x1' := 5) (H7.out.get (g := m) (o := machO r b c d u s 0 2147483648 0) (by simp))
  have h8 := KW.row (vs := machV r b c d u s 1 2147483652 5) H7.out
  refine Plan.skip rfl (Mem.ex_store rfl rfl rfl hst) (cell_at (h8.get (g := m) (o := machO r b c d u s 1 2147483652 5) (by simp)) 1) ?_
  generalize World.setRow _ _ _ = w8 at h8 ⊢
  have H8 := _root_.Go.Lib.hid h8
  clear h8 hst H7
  refine Plan.go fun K hK => ?_
  go_simp
  refine hK _ _ ?_
  clear hK K
  refine Plan.nil ?_
  go_wp2_with fail
  refine bodyPost_end (v := .tuple #[]) (by simp [results, Tryz.results42]) rfl ⟨rfl, H8.out⟩
end
end Go.Proofs.YtlcbilknfjdceaaGreatDoor
end
