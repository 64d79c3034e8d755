/-
  Feed: bytes come, as long as there is room; else something is lost. Conditions: at most sixteen bytes wait.
-/
import Derived.Test.YtjaldngafappdaaOut
import Derived.Deep.RegionLaw
set_option linter.unusedVariables false
set_option linter.unusedSimpArgs false
namespace Go.Proofs.Ytjaldngafappdaa
open Go.RowKit Go.Lib

/-- An append, by its run, as one step of a region that draws. -/
theorem step_append_run {P : Program} {ops : Array Oper} {o : Oper} {a : Act} {w : World} {K : Act → World → Prop} {Q : Exit → Act → World → Prop} {E : Prop}
    (hg : o.guard = none) (s x : Operand) (t u : TypeId) (hop : o.op = Op.call { callee := Callee.builtin Builtin.append, args := #[s, x], argTypes := #[t, u] })
    (v y v' : Value) (w' : World) (hs : a.eval s = v) (hx : a.eval x = y) (hr : (Builtin.append_ #[t, u] o.type #[v, y]).run P w = .ok v' w') (hK : K (a.put o.dst v') w') :
    if Region.wanted o (yielded ops a.tmps) = true then Oper.wp P o a w K Q else E := by
  have hw : Region.wanted o (yielded ops a.tmps) = true := by simp [Region.wanted, hg]
  rw [if_pos hw]
  unfold Oper.wp execOp
  simp only [hop, resolve, invoke, builtin, Sem.run_bind, Sem.run_pure, Result.andThen_ok, List.map_toArray, List.map_cons, List.map_nil, hs, hx, hr]
  exact hK

theorem feed_nil (s : ByteArray) (w : World) : Calls Try.prog 15 #[.pointer none, .string s] w fun e w' => e = .returned (.tuple #[]) ∧ w = w' := by
  go_enter Try.func15, Try.ntmps15
  go_wp2
  exact bodyPost_ret (v := .tuple #[]) (by simp [results, Try.results15, go_sem]) rfl ⟨rfl, rfl⟩

theorem feed_all (b n cap : Nat) (a : Option Addr) (s : ByteArray) (a' : Option Addr) (n' cap' : Nat) (w w1 : World) (hn : n ≤ 16) (hs : s.size ≤ 140737488355328) (hroom : s.size ≤ 16 - n) (ov : Bool)
    (h0 : w.cell? ⟨b, 0, none⟩ = some (.slice a n cap)) (hrun : (Builtin.append_ #[43, 9] 43 #[.slice a n cap, .string s]).run Try.prog w.drew = .ok (.slice a' n' cap') w1)
    (k0 : w1.cell? ⟨b, 0, none⟩ = some (.slice a n cap)) (f0 : w1.frozen? ⟨b, 0, none⟩ = false) (k11 : w1.cell? ⟨b, 11, none⟩ = some (.bool ov)) (f11 : w1.frozen? ⟨b, 11, none⟩ = false) :
    Calls Try.prog 15 #[.pointer (some ⟨b, 0, none⟩), .string s] w fun e w' => e = .returned (.tuple #[]) ∧ w' = (w1.setCell ⟨b, 0, none⟩ (.slice a' n' cap')).setCell ⟨b, 11, none⟩ (.bool ov) := by
  have h1 : (s.size : Int) ≤ 16 - n := by omega
  have h2 : decide ((s.size : Int) < s.size) = false := by simp
  have HR := _root_.Go.Lib.hid hrun
  clear hrun
  cases ov with
  | true =>
    go_enter Try.func15, Try.ntmps15
    go_wp2
    go_region_law (refine step_append_run rfl (.tmp 20) (.tmp 23) 43 9 rfl _ _ _ w1 rfl rfl HR.out ?_)
    go_wp2
    go_end0
    exact ⟨rfl, rfl⟩
  | false =>
    go_enter Try.func15, Try.ntmps15
    go_wp2
    go_region_law (refine step_append_run rfl (.tmp 20) (.tmp 23) 43 9 rfl _ _ _ w1 rfl rfl HR.out ?_)
    go_wp2
    go_end0
    exact ⟨rfl, rfl⟩

theorem feed_some (b n k cap : Nat) (a : Option Addr) (s : ByteArray) (a' : Option Addr) (n' cap' : Nat) (w w1 : World) (hn : n ≤ 16) (hs : s.size ≤ 140737488355328) (hk : n + k = 16) (hroom : k < s.size) (ov : Bool)
    (h0 : w.cell? ⟨b, 0, none⟩ = some (.slice a n cap)) (hrun : (Builtin.append_ #[43, 9] 43 #[.slice a n cap, .string (s.extract 0 k)]).run Try.prog w.drew = .ok (.slice a' n' cap') w1)
    (k0 : w1.cell? ⟨b, 0, none⟩ = some (.slice a n cap)) (f0 : w1.frozen? ⟨b, 0, none⟩ = false) (k11 : w1.cell? ⟨b, 11, none⟩ = some (.bool ov)) (f11 : w1.frozen? ⟨b, 11, none⟩ = false) :
    Calls Try.prog 15 #[.pointer (some ⟨b, 0, none⟩), .string s] w fun e w' => e = .returned (.tuple #[]) ∧ w' = (w1.setCell ⟨b, 0, none⟩ (.slice a' n' cap')).setCell ⟨b, 11, none⟩ (.bool true) := by
  have h1 : ¬ (s.size : Int) ≤ k := by omega
  have h2 : k ≤ s.size := by omega
  have e : (16 : Int) - n = k := by omega
  have HR := _root_.Go.Lib.hid hrun
  clear hrun
  cases ov with
  | true =>
    go_enter Try.func15, Try.ntmps15
    go_wp2
    go_region_law (refine step_append_run rfl (.tmp 20) (.tmp 23) 43 9 rfl _ _ _ w1 rfl rfl HR.out ?_)
    go_wp2
    go_end0
    exact ⟨rfl, rfl⟩
  | false =>
    go_enter Try.func15, Try.ntmps15
    go_wp2
    go_region_law (refine step_append_run rfl (.tmp 20) (.tmp 23) 43 9 rfl _ _ _ w1 rfl rfl HR.out ?_)
    go_wp2
    go_end0
    exact ⟨rfl, rfl⟩

theorem strCells_b (s : ByteArray) : strCells s = bcells s.data.toList := rfl

/-- What Feed leaves. -/
def fS (S : Ua) (l : List UInt8) : Ua := { S with c := S.c ++ l.take (16 - S.c.length), ov := S.ov || decide (16 - S.c.length < l.length) }

theorem lt_of_heap {w : World} {k : Nat} {o : Obj} (h : w.heap[k]? = some o) : k < w.heap.size := (Array.getElem?_eq_some_iff.1 h).1

/-- Behind the append. -/
theorem feed_left {B b n' cap' : Nat} {cv pv bv : Value} {a' : Option Addr} {S : Ua} {s : ByteArray} {ov : Bool} {w w1 : World} (hU : IsUx B b cv pv bv S w) (hBw : B ≤ w.heap.size)
    (hr0 : Row 5 B (.slice a' n' cap') (bcells S.c ++ strCells s) w1) (hg : w.drew.grownBy w1 cv.ownBlock) (ho : (Value.slice a' n' cap').ownBlock = cv.ownBlock ∨ (Value.slice a' n' cap').ownBlock = some w.drew.heap.size) :
    w1.heap[b]? = some (.cells (uRow cv pv bv S.r S.ov) 55 (0, 0)) ∧
    IsU B b { S with c := S.c ++ s.data.toList, ov := ov } ((w1.setCell ⟨b, 0, none⟩ (.slice a' n' cap')).setCell ⟨b, 11, none⟩ (.bool ov)) ∧ Left B b w ((w1.setCell ⟨b, 0, none⟩ (.slice a' n' cap')).setCell ⟨b, 11, none⟩ (.bool ov)) := by
  have hr : Row 5 B (.slice a' n' cap') (bcells (S.c ++ s.data.toList)) w1 := by
    rw [show bcells (S.c ++ s.data.toList) = bcells S.c ++ bcells s.data.toList by simp [bcells, Lib.byteCells]]; exact hr0
  have hb : w1.heap[b]? = some (.cells (uRow cv pv bv S.r S.ov) 55 (0, 0)) := by
    rw [hg.block b (lt_of_heap hU.row) fun e => hU.came_far e.symm]; exact hU.row
  have hw : w1.ownsRow B 5 1 bv S.o.length (bcells S.o) := ownsRow_keep hU.went fun g hgb o hx => by
    rw [hg.block g (lt_of_heap hx) fun e => hU.apart g e.symm hgb]; exact hx
  have hap : ∀ g, (Value.slice a' n' cap').ownBlock = some g → bv.ownBlock = some g → False := fun g h1 h2 => by
    rcases ho with h | h
    · exact hU.apart g (by rw [← h]; exact h1) h2
    · obtain ⟨_, cur, hc⟩ := ownsRow_block hU.went h2
      have := lt_of_heap hc
      rw [h] at h1
      injection h1 with h1
      simp at h1
      omega
  have hX : IsUx B b cv pv bv S w1 → False ∨ True := fun _ => .inr trivial
  have hfar : (Value.slice a' n' cap').ownBlock ≠ some b := fun e => by
    obtain ⟨_, cur, hc⟩ := hr.block e
    rw [hb] at hc
    cases hc
  have h1 : IsUx B b (.slice a' n' cap') pv bv { S with c := S.c ++ s.data.toList } (w1.setCell ⟨b, 0, none⟩ (.slice a' n' cap')) :=
    ⟨hU.at_b, by rw [heap_setCell_same w1 b 0 _ 55 _ hb]; rfl, hr.setCell hfar, ownsRow_keep hw fun g hgb o ho => by
      rw [heap_setCell_other w1 ⟨b, 0, none⟩ g _ (fun e => hU.went_far (by rw [hgb, e]))]; exact ho, hU.addr, hap, hU.empt⟩
  refine ⟨hb, ⟨_, _, _, h1.put 11 (.bool ov) _ rfl rfl rfl⟩, Left.setCell (Left.setCell ⟨?_, ?_⟩ hU.at_b _) hU.at_b _⟩
  · exact (Below.refl B w).drew.grown hg hBw fun k hk => (hU.came.block hk).1
  · exact (OthersKept.refl 5 (some b) w).drew.grown hg fun k hk => by
      obtain ⟨_, cur, hc⟩ := hU.came.block hk
      exact ⟨cur, _, hc⟩

theorem feed_calls {B b : Nat} {S : Ua} {w : World} (h : IsU B b S w) (hc : S.c.length ≤ 16) (s : ByteArray) (hs : s.size ≤ 140737488355328) (hBw : B ≤ w.heap.size) :
    Calls Try.prog 15 #[.pointer (some ⟨b, 0, none⟩), .string s] w fun e w' => e = .returned (.tuple #[]) ∧ IsU B b (fS S s.data.toList) w' ∧ Left B b w w' := by
  obtain ⟨cv, pv, bv, hU⟩ := h
  obtain ⟨i0, hi, hz0, hz1, hz2⟩ := info_parts infoByte
  obtain ⟨a, cap, rfl⟩ := hU.came.form
  have h0 := hU.cell 0
  have hlen : (bcells S.c).length = S.c.length := bcells_length _
  by_cases hroom : s.size ≤ 16 - S.c.length
  · obtain ⟨v', w1, hrun, hrow, hgrow, hown⟩ := run_append_at (P := Try.prog) w.drew B 43 9 43 5 i0 Try.underlying43 Try.underlying9 hi hz0 hz1 hz2 _ _ hU.came.drew s (by rw [hlen]; omega) hBw
    obtain ⟨a', cap', rfl⟩ := hrow.form
    obtain ⟨hb, hI, hL⟩ := feed_left (ov := S.ov) hU hBw hrow hgrow hown
    refine (feed_all b _ cap a s a' _ cap' w w1 (by rw [hlen]; exact hc) hs (by rw [hlen]; exact hroom) S.ov h0 hrun (cell_at hb 0) (by simp [World.frozen?, hb]) (cell_at hb 11) (by simp [World.frozen?, hb])).mono ?_
    rintro e w' ⟨rfl, rfl⟩
    have e1 : fS S s.data.toList = { S with c := S.c ++ s.data.toList, ov := S.ov } := by
      unfold fS
      rw [List.take_of_length_le (by simpa using hroom), show decide (16 - S.c.length < s.data.toList.length) = false by simpa using hroom]
      simp
    rw [e1]
    exact ⟨rfl, hI, hL⟩
  · have hx : (s.extract 0 (16 - S.c.length)).size = 16 - S.c.length := by simp; omega
    obtain ⟨v', w1, hrun, hrow, hgrow, hown⟩ := run_append_at (P := Try.prog) w.drew B 43 9 43 5 i0 Try.underlying43 Try.underlying9 hi hz0 hz1 hz2 _ _ hU.came.drew (s.extract 0 (16 - S.c.length)) (by rw [hlen, hx]; omega) hBw
    obtain ⟨a', cap', rfl⟩ := hrow.form
    obtain ⟨hb, hI, hL⟩ := feed_left (ov := true) hU hBw hrow hgrow hown
    refine (feed_some b _ (16 - S.c.length) cap a s a' _ cap' w w1 (by rw [hlen]; exact hc) hs (by rw [hlen]; omega) (by omega) S.ov h0 hrun (cell_at hb 0) (by simp [World.frozen?, hb]) (cell_at hb 11) (by simp [World.frozen?, hb])).mono ?_
    rintro e w' ⟨rfl, rfl⟩
    have e1 : fS S s.data.toList = { S with c := S.c ++ (s.extract 0 (16 - S.c.length)).data.toList, ov := true } := by
      unfold fS
      rw [show decide (16 - S.c.length < s.data.toList.length) = true by simp; omega]
      simp
    rw [e1]
    exact ⟨rfl, hI, hL⟩
end Go.Proofs.Ytjaldngafappdaa
