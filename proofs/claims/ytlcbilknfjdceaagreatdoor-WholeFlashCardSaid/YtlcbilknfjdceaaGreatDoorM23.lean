/-
  WholeFlash, part 23 of 44: Compact, Of, Needed, Fresh, Sel, Usable, Usit, Seek, Empties, Victim.
-/
import Derived.Shelf.SlSortCmp.QuietGrown
import Derived.WalkMore
import Derived.Shelf.SlSortCmp.Insertion
import Derived.Test.YtlcbilknfjdceaaGreatDoorM21
import Derived.Test.YtlcbilknfjdceaaGreatDoorM22
section
/-
  slices.CompactFunc over sorted places.
-/
set_option linter.unusedVariables false
set_option linter.unusedSimpArgs false
namespace Go.Proofs.YtlcbilknfjdceaaGreatDoor
open Go.RowKit Go.Lib
open Go.Sort
abbrev rowP (r : List Pc) (sp : List Value) : Array Value := (flatP r ++ sp).toArray
theorem rowP_at {r : List Pc} {i : Nat} {x : Pc} (h : r[i]? = some x) (sp : List Value) : ((rowP r sp).toList.drop (i * 9)).take 9 = encL x := by
  have hi : i < r.length := (List.getElem?_eq_some_iff.1 h).1
  have hf := flatN (l := r.map fun x => (pcV x).toList) (n := 9) (by intro x hx; obtain ⟨p, _, rfl⟩ := List.mem_map.1 hx; rfl) i (by simpa using hi)
  have e : (rowP r sp).toList = flatP r ++ sp := rfl
  have hl := flatP_len r
  rw [e, List.drop_append_of_le_length (by omega), List.take_append_of_le_length (by rw [List.length_drop]; omega)]
  unfold flatP at hl ⊢
  rw [hf, List.getD_eq_getElem?_getD, List.getElem?_map, h]
  rfl
theorem ldP {w : World} {g i : Nat} {r : List Pc} {sp : List Value} {x : Pc} (hg : w.heap[g]? = some (.cells (rowP r sp) 102)) (h : r[i]? = some x) : Sem.run Tryz.prog (loadCellsFrom ⟨g, i * 9, none⟩ 0 9 #[]) w = .ok (pcV x) w :=
  run_loadCellsFrom_list Tryz.prog w ⟨g, i * 9, none⟩ (encL x) 9 rfl (news_mid hg (rowP_at h sp))
theorem cellP {w : World} {g i : Nat} {r : List Pc} {sp : List Value} {x : Pc} (hg : w.heap[g]? = some (.cells (rowP r sp) 102)) (h : r[i]? = some x) (j : Nat) {v : Value} (hj : (encL x)[j]? = some v) : w.cell? ⟨g, i * 9 + j, none⟩ = some v :=
  by rw [← addr_add']; exact news_mid (off := i * 9) (m := 9) hg (rowP_at h sp) j v hj
theorem cellP2 {w : World} {g k0 k2 : Nat} {r : List Pc} {sp : List Value} {x : Pc} (hg : w.heap[g]? = some (.cells (rowP r sp) 102)) (h : r[k0 + k2]? = some x) (j : Nat) {v : Value} (hj : (encL x)[j]? = some v) : w.cell? ⟨g, k0 * 9 + k2 * 9 + j, none⟩ = some v := by
  rw [← Nat.add_mul]
  exact cellP hg h j hj
theorem flatP_append (a b : List Pc) : flatP (a ++ b) = flatP a ++ flatP b := by unfold flatP; simp
theorem flatP_take {r : List Pc} {k : Nat} (hk : k ≤ r.length) : flatP (r.take k) = (flatP r).take (k * 9) := by
  have l1 : (flatP (r.take k)).length = k * 9 := by rw [flatP_len, List.length_take, Nat.min_eq_left hk]
  have e3 := flatP_append (r.take k) (r.drop k)
  rw [List.take_append_drop] at e3
  rw [e3, ← l1, List.take_left]
theorem flatP_drop {r : List Pc} {k : Nat} (hk : k ≤ r.length) : flatP (r.drop k) = (flatP r).drop (k * 9) := by
  have l1 : (flatP (r.take k)).length = k * 9 := by rw [flatP_len, List.length_take, Nat.min_eq_left hk]
  have e3 := flatP_append (r.take k) (r.drop k)
  rw [List.take_append_drop] at e3
  rw [e3, ← l1, List.drop_left]
theorem flatP_set {r : List Pc} {k : Nat} (hk : k < r.length) (x : Pc) : flatP (r.set k x) = (flatP r).take (k * 9) ++ encL x ++ (flatP r).drop (k * 9 + 9) := by
  have e2 : r.set k x = r.take k ++ ([x] ++ r.drop (k + 1)) := by rw [List.set_eq_take_append_cons_drop, if_pos hk]; rfl
  rw [e2, flatP_append, flatP_append, flatP_take (Nat.le_of_lt hk), flatP_drop hk, show k.succ * 9 = k * 9 + 9 by omega, List.append_assoc]
  simp [flatP, encL]
theorem rowP_set {r : List Pc} {k : Nat} (hk : k < r.length) (x : Pc) (sp : List Value) : ((rowP r sp).toList.take (k * 9) ++ (pcV x).toList ++ (rowP r sp).toList.drop (k * 9 + (pcV x).size)).toArray = rowP (r.set k x) sp := by
  have hl := flatP_len r
  have e : (rowP r sp).toList = flatP r ++ sp := rfl
  rw [e, rowP, flatP_set hk, List.take_append_of_le_length (by omega), List.drop_append_of_le_length (by rw [show (pcV x).size = 9 from rfl]; omega), ← List.append_assoc]
  rfl
theorem clear102 {w : World} {g k n : Nat} {r : List Pc} {sp : List Value} (ty c : Nat) (hg : w.heap[g]? = some (.cells (rowP r sp) 102)) (hn : n = r.length) (hk : k < n) :
    ∃ z : List Value, z.length = (n - k) * 9 ∧ (Builtin.clear_ #[181] ty #[.slice (some ⟨g, k * 9, none⟩) (n - k) c]).run Tryz.prog w = .ok (.tuple #[]) (w.setRow g (rowP (r.take k) (z ++ sp))) := by
  have hv : ∀ w, (zeroValue 102).run Tryz.prog w = .ok (.agg (pcV ⟨0, 0, Pg.z⟩)) w := fun w => by kernel_rfl
  obtain ⟨m, hm⟩ : ∃ m, n - k = m + 1 := ⟨n - k - 1, by omega⟩
  have hl := flatP_len r
  obtain ⟨z, hz⟩ : ∃ z, z = (Builtin.zeroCells (Value.agg (pcV ⟨0, 0, Pg.z⟩)).cells (m + 1)).toList := ⟨_, rfl⟩
  have hzl : z.length = (n - k) * 9 := by rw [hz, hm]; simp [Builtin.zeroCells, Value.cells]
  have hz1 : ∀ v ∈ z, v.oneCell' = true := by
    intro v hv
    rw [hz] at hv
    simp [Builtin.zeroCells, Value.cells] at hv
    obtain ⟨i, hi, rfl⟩ := hv
    have h9 : i % 9 < 9 := by omega
    have : i % 9 = 0 ∨ i % 9 = 1 ∨ i % 9 = 2 ∨ i % 9 = 3 ∨ i % 9 = 4 ∨ i % 9 = 5 ∨ i % 9 = 6 ∨ i % 9 = 7 ∨ i % 9 = 8 := by omega
    rcases this with h | h | h | h | h | h | h | h | h <;> rw [h] <;> rfl
  refine ⟨z, hzl, ?_⟩
  have hst := run_storeCells_at Tryz.prog g (k * 9) 102 z 0 _ w hg (by rw [hzl]; simp; omega) hz1
  have e : (rowP r sp).toList = flatP r ++ sp := rfl
  have e2 : ((rowP r sp).toList.take (k * 9 + 0) ++ z ++ (rowP r sp).toList.drop (k * 9 + 0 + z.length)).toArray = rowP (r.take k) (z ++ sp) := by
    rw [e, hzl, rowP, flatP_take (by omega), List.take_append_of_le_length (by omega)]
    have e3 : k * 9 + 0 + (n - k) * 9 = (flatP r).length := by omega
    rw [e3, List.drop_left]
    simp
  rw [e2] at hst
  rw [hm]
  simp [Builtin.clear_, run_underlying Tryz.underlying181, hv, ← hz, hst]
theorem ex_clear {P : Program} {a : Act} {w w' : World} {o : Oper} {t : TypeId} {x : Operand} {v r : Value} (h : o.op = .call { callee := .builtin .clear, args := #[x], argTypes := #[t] }) (hx : a.eval x = v) (hr : (Builtin.clear_ #[t] o.type #[v]).run P w = .ok r w') : (execOp a.eval o).run P w = .ok (.value r) w' := by
  subst hx
  cases o; simp only at h; subst h
  have hr : (Builtin.clear_ #[t] _ #[a.eval x]).run P w = .ok r w' := hr
  simp only [execOp, resolve, invoke, Sem.run_bind, Sem.run_pure, Result.andThen_ok, List.map_toArray, List.map_cons, List.map_nil]
  show Sem.run P (do pure (Next.value (← Builtin.clear_ #[t] _ #[a.eval x]))) w = _
  simp only [Sem.run_bind, hr, Result.andThen_ok, Sem.run_pure]
theorem heap_grown {w : World} {g : Nat} {o : Obj} (h : w.heap[g]? = some o) (n : Nat) (os : Array Obj) : (grow (w.drewN n) os).heap[g]? = some o := by
  rw [heap_grow_old (w.drewN n) os (lt_of_heap h)]
  exact h
theorem KW.sortGrown {B : Nat} {W w : World} {K : Blocks} (h : KW B W K w) (n : Nat) (os : Array Obj) : KW B W K (grow (w.drewN n) os) :=
  h.grown ⟨rfl, rfl, rfl, by simp, fun k hk => by rw [heap_grow_old _ _ (by exact hk)]; rfl⟩
set_option maxHeartbeats 1000000 in
set_option maxRecDepth 100000 in
theorem compact2 {B g cap : Nat} {W w : World} {K : Blocks} {l : List Pc} {sp : List Value} (h : KW B W ((g, .cells (rowP l sp) 102) :: K) w) (h2 : 2 ≤ l.length) (hs : l.length < 1000) (hc : l.length ≤ cap) :
    Calls Tryz.prog 128 #[.slice (some ⟨g, 0, none⟩) l.length cap, .func (.func 129) #[] #[]] w fun e w' => e = .returned (.slice (some ⟨g, 0, none⟩) (hdsTo l l.length).length cap) ∧
      ∃ sp', KW B W ((g, .cells (rowP (hdsTo l l.length) sp') 102) :: K) w' ∧ sp'.length + (hdsTo l l.length).length * 9 = sp.length + l.length * 9 := by
  have mixed : Tryz.prog.follows .mixedOrders = true := by kernel_rfl
  have same : ∀ (x y : Pc) (W : World), Calls Tryz.prog 129 #[.agg (pcV x), .agg (pcV y)] W fun e w' => e = .returned (.bool (x.p.sec == y.p.sec)) ∧ ∃ q os', w' = grow (W.drewN q) os' := fun x y W => (same129 x y W).mono (by rintro e w' ⟨a, os', rfl⟩; exact ⟨a, 0, os', rfl⟩)
  have hd1 : hdsTo l 1 = l.take 1 := take_new (by omega) rfl rfl
  obtain ⟨n, hn⟩ : ∃ n, n = l.length := ⟨_, rfl⟩
  rw [← hn] at h2 hs hc ⊢
  have HH := _root_.Go.Lib.hid (And.intro h (And.intro hn hd1))
  have n0 : ¬ ((n : Int) < 2) := by omega
  clear h hn hd1
  go_enter Tryz.func128, Tryz.ntmps128
  go_wp2
  go_loopg [5] (n - 1) (fun k' s5 wr => ∃ k : Nat, k + k' = n ∧ 1 ≤ k ∧ s5 = .int .i64 (k : Int) ∧ hdsTo l k = l.take k ∧ KW B W ((g, .cells (rowP l sp) 102) :: K) wr)
  case atStart => exact ⟨1, by omega, by omega, rfl, HH.out.2.2, HH.out.1⟩
  case round =>
    obtain ⟨k, hkk, h1, rfl, hd, hk⟩ := hrel
    by_cases hkn : k < n
    · obtain ⟨x, hx⟩ : ∃ x, l[k]? = some x := ⟨_, List.getElem?_eq_getElem (by rw [← HH.out.2.1]; exact hkn)⟩
      obtain ⟨y, hy⟩ : ∃ y, l[k - 1]? = some y := ⟨_, List.getElem?_eq_getElem (by rw [← HH.out.2.1]; omega)⟩
      have hnew := newAt_of h1 hx hy
      have hg := hk.get (g := g) (o := .cells (rowP l sp) 102) List.mem_cons_self
      have x0 : ∀ (m : Nat) (os : Array Obj), (grow (wr.drewN m) os).cell? ⟨g, k * 9, none⟩ = some (.int .i64 (x.b : Int)) := fun m os => cellP (heap_grown hg m os) hx 0 rfl
      have x1 : ∀ (m : Nat) (os : Array Obj), (grow (wr.drewN m) os).cell? ⟨g, k * 9 + 1, none⟩ = some (.int .i64 (x.k : Int)) := fun m os => cellP (heap_grown hg m os) hx 1 rfl
      have x2 : ∀ (m : Nat) (os : Array Obj), (grow (wr.drewN m) os).cell? ⟨g, k * 9 + 2, none⟩ = some (.int .u32 x.p.sec) := fun m os => cellP (heap_grown hg m os) hx 2 rfl
      have x3 : ∀ (m : Nat) (os : Array Obj), (grow (wr.drewN m) os).cell? ⟨g, k * 9 + 3, none⟩ = some (.int .u32 x.p.seq) := fun m os => cellP (heap_grown hg m os) hx 3 rfl
      have x4 : ∀ (m : Nat) (os : Array Obj), (grow (wr.drewN m) os).cell? ⟨g, k * 9 + 4, none⟩ = some (.bool x.p.gone) := fun m os => cellP (heap_grown hg m os) hx 4 rfl
      have x5 : ∀ (m : Nat) (os : Array Obj), (grow (wr.drewN m) os).cell? ⟨g, k * 9 + 5, none⟩ = some (.int .u32 x.p.d0) := fun m os => cellP (heap_grown hg m os) hx 5 rfl
      have x6 : ∀ (m : Nat) (os : Array Obj), (grow (wr.drewN m) os).cell? ⟨g, k * 9 + 6, none⟩ = some (.int .u32 x.p.d1) := fun m os => cellP (heap_grown hg m os) hx 6 rfl
      have x7 : ∀ (m : Nat) (os : Array Obj), (grow (wr.drewN m) os).cell? ⟨g, k * 9 + 7, none⟩ = some (.int .u32 x.p.d2) := fun m os => cellP (heap_grown hg m os) hx 7 rfl
      have x8 : ∀ (m : Nat) (os : Array Obj), (grow (wr.drewN m) os).cell? ⟨g, k * 9 + 8, none⟩ = some (.int .u32 x.p.d3) := fun m os => cellP (heap_grown hg m os) hx 8 rfl
      have y0 : ∀ (m : Nat) (os : Array Obj), (grow (wr.drewN m) os).cell? ⟨g, (k - 1) * 9, none⟩ = some (.int .i64 (y.b : Int)) := fun m os => cellP (heap_grown hg m os) hy 0 rfl
      have y1 : ∀ (m : Nat) (os : Array Obj), (grow (wr.drewN m) os).cell? ⟨g, (k - 1) * 9 + 1, none⟩ = some (.int .i64 (y.k : Int)) := fun m os => cellP (heap_grown hg m os) hy 1 rfl
      have y2 : ∀ (m : Nat) (os : Array Obj), (grow (wr.drewN m) os).cell? ⟨g, (k - 1) * 9 + 2, none⟩ = some (.int .u32 y.p.sec) := fun m os => cellP (heap_grown hg m os) hy 2 rfl
      have y3 : ∀ (m : Nat) (os : Array Obj), (grow (wr.drewN m) os).cell? ⟨g, (k - 1) * 9 + 3, none⟩ = some (.int .u32 y.p.seq) := fun m os => cellP (heap_grown hg m os) hy 3 rfl
      have y4 : ∀ (m : Nat) (os : Array Obj), (grow (wr.drewN m) os).cell? ⟨g, (k - 1) * 9 + 4, none⟩ = some (.bool y.p.gone) := fun m os => cellP (heap_grown hg m os) hy 4 rfl
      have y5 : ∀ (m : Nat) (os : Array Obj), (grow (wr.drewN m) os).cell? ⟨g, (k - 1) * 9 + 5, none⟩ = some (.int .u32 y.p.d0) := fun m os => cellP (heap_grown hg m os) hy 5 rfl
      have y6 : ∀ (m : Nat) (os : Array Obj), (grow (wr.drewN m) os).cell? ⟨g, (k - 1) * 9 + 6, none⟩ = some (.int .u32 y.p.d1) := fun m os => cellP (heap_grown hg m os) hy 6 rfl
      have y7 : ∀ (m : Nat) (os : Array Obj), (grow (wr.drewN m) os).cell? ⟨g, (k - 1) * 9 + 7, none⟩ = some (.int .u32 y.p.d2) := fun m os => cellP (heap_grown hg m os) hy 7 rfl
      have y8 : ∀ (m : Nat) (os : Array Obj), (grow (wr.drewN m) os).cell? ⟨g, (k - 1) * 9 + 8, none⟩ = some (.int .u32 y.p.d3) := fun m os => cellP (heap_grown hg m os) hy 8 rfl
      have e1 : IntKind.i64.wrap ((k : Int) - 1) = ((k - 1 : Nat) : Int) := by rw [IntKind.wrap_i64]; omega
      have e2 : ((k - 1 : Nat) : Int) < (n : Int) := by omega
      obtain ⟨b0, hb0⟩ : ∃ b0, b0 = (x.p.sec == y.p.sec) := ⟨_, rfl⟩
      have hcb := fun W => same x y W
      rw [← hb0] at hcb hnew
      have HK := _root_.Go.Lib.hid (And.intro hk (And.intro hd (And.intro hnew (And.intro hx hy))))
      clear hb0
      clear hk hd hnew hx hy hg
      go_wp2_with fail
      go_quiet_grown (exact Calls.grown_of (hcb _))
      clear hcb
      have hk2 := HK.out.1.sortGrown nq osq
      generalize grow (wr.drewN nq) osq = w2 at hk2 ⊢
      clear x0 x1 x2 x3 x4 x5 x6 x7 x8
      clear y0 y1 y2 y3 y4 y5 y6 y7 y8
      cases b0 with
      | true =>
        have hold : newAt l k = false := HK.out.2.2.1
        have hd1 : hdsTo l (k + 1) = l.take k := by rw [hdsTo_old hold, HK.out.2.1]
        have H2 := _root_.Go.Lib.hid (And.intro hk2 hd1)
        clear hk2 hold hd1 HK
        have e3 : k ≤ n := by omega
        have e4 : k ≤ cap := by omega
        go_wp2_with fail
        clear e1 e2
        go_loopg [5, 7] (n - k - 1) (fun m' s5 s7 wr => ∃ (k2 kk : Nat) (r : List Pc), k2 + m' = n - k ∧ 1 ≤ k2 ∧ s7 = .int .i64 (k2 : Int) ∧ s5 = .int .i64 (kk : Int) ∧ hdsTo l (k + k2) = r.take kk ∧ kk = (hdsTo l (k + k2)).length ∧ 1 ≤ kk ∧ kk + 1 ≤ k + k2 ∧ r.length = n ∧ (∀ i, k + k2 ≤ i + 1 → r[i]? = l[i]?) ∧ KW B W ((g, .cells (rowP r sp) 102) :: K) wr)
        case atStart => exact ⟨1, k, l, by omega, by omega, rfl, rfl, H2.out.2, by rw [H2.out.2, List.length_take, ← HH.out.2.1]; omega, h1, by omega, HH.out.2.1.symm, fun _ _ => rfl, H2.out.1⟩
        case round =>
          obtain ⟨k2, kk, r, hkm, h21, rfl, rfl, hd, hkl, hk1, hkk2, hrl, hro, hk⟩ := hrel
          by_cases h2n : k2 < n - k
          · obtain ⟨u, hu⟩ : ∃ u, r[k + k2]? = some u := ⟨_, List.getElem?_eq_getElem (by omega)⟩
            obtain ⟨t, ht⟩ : ∃ t, r[k + (k2 - 1)]? = some t := ⟨_, List.getElem?_eq_getElem (by omega)⟩
            have hnew := newAt_of (l := l) (k := k + k2) (x := u) (y := t) (by omega) (by rw [← hro _ (by omega)]; exact hu) (by rw [← hro _ (by omega), show k + k2 - 1 = k + (k2 - 1) by omega]; exact ht)
            have hg := hk.get (g := g) (o := .cells (rowP r sp) 102) List.mem_cons_self
            have u0 : ∀ (m : Nat) (os : Array Obj), (grow (wr.drewN m) os).cell? ⟨g, k * 9 + k2 * 9, none⟩ = some (.int .i64 (u.b : Int)) := fun m os => cellP2 (heap_grown hg m os) hu 0 rfl
            have u1 : ∀ (m : Nat) (os : Array Obj), (grow (wr.drewN m) os).cell? ⟨g, k * 9 + k2 * 9 + 1, none⟩ = some (.int .i64 (u.k : Int)) := fun m os => cellP2 (heap_grown hg m os) hu 1 rfl
            have u2 : ∀ (m : Nat) (os : Array Obj), (grow (wr.drewN m) os).cell? ⟨g, k * 9 + k2 * 9 + 2, none⟩ = some (.int .u32 u.p.sec) := fun m os => cellP2 (heap_grown hg m os) hu 2 rfl
            have u3 : ∀ (m : Nat) (os : Array Obj), (grow (wr.drewN m) os).cell? ⟨g, k * 9 + k2 * 9 + 3, none⟩ = some (.int .u32 u.p.seq) := fun m os => cellP2 (heap_grown hg m os) hu 3 rfl
            have u4 : ∀ (m : Nat) (os : Array Obj), (grow (wr.drewN m) os).cell? ⟨g, k * 9 + k2 * 9 + 4, none⟩ = some (.bool u.p.gone) := fun m os => cellP2 (heap_grown hg m os) hu 4 rfl
            have u5 : ∀ (m : Nat) (os : Array Obj), (grow (wr.drewN m) os).cell? ⟨g, k * 9 + k2 * 9 + 5, none⟩ = some (.int .u32 u.p.d0) := fun m os => cellP2 (heap_grown hg m os) hu 5 rfl
            have u6 : ∀ (m : Nat) (os : Array Obj), (grow (wr.drewN m) os).cell? ⟨g, k * 9 + k2 * 9 + 6, none⟩ = some (.int .u32 u.p.d1) := fun m os => cellP2 (heap_grown hg m os) hu 6 rfl
            have u7 : ∀ (m : Nat) (os : Array Obj), (grow (wr.drewN m) os).cell? ⟨g, k * 9 + k2 * 9 + 7, none⟩ = some (.int .u32 u.p.d2) := fun m os => cellP2 (heap_grown hg m os) hu 7 rfl
            have u8 : ∀ (m : Nat) (os : Array Obj), (grow (wr.drewN m) os).cell? ⟨g, k * 9 + k2 * 9 + 8, none⟩ = some (.int .u32 u.p.d3) := fun m os => cellP2 (heap_grown hg m os) hu 8 rfl
            have t0 : ∀ (m : Nat) (os : Array Obj), (grow (wr.drewN m) os).cell? ⟨g, k * 9 + (k2 - 1) * 9, none⟩ = some (.int .i64 (t.b : Int)) := fun m os => cellP2 (heap_grown hg m os) ht 0 rfl
            have t1 : ∀ (m : Nat) (os : Array Obj), (grow (wr.drewN m) os).cell? ⟨g, k * 9 + (k2 - 1) * 9 + 1, none⟩ = some (.int .i64 (t.k : Int)) := fun m os => cellP2 (heap_grown hg m os) ht 1 rfl
            have t2 : ∀ (m : Nat) (os : Array Obj), (grow (wr.drewN m) os).cell? ⟨g, k * 9 + (k2 - 1) * 9 + 2, none⟩ = some (.int .u32 t.p.sec) := fun m os => cellP2 (heap_grown hg m os) ht 2 rfl
            have t3 : ∀ (m : Nat) (os : Array Obj), (grow (wr.drewN m) os).cell? ⟨g, k * 9 + (k2 - 1) * 9 + 3, none⟩ = some (.int .u32 t.p.seq) := fun m os => cellP2 (heap_grown hg m os) ht 3 rfl
            have t4 : ∀ (m : Nat) (os : Array Obj), (grow (wr.drewN m) os).cell? ⟨g, k * 9 + (k2 - 1) * 9 + 4, none⟩ = some (.bool t.p.gone) := fun m os => cellP2 (heap_grown hg m os) ht 4 rfl
            have t5 : ∀ (m : Nat) (os : Array Obj), (grow (wr.drewN m) os).cell? ⟨g, k * 9 + (k2 - 1) * 9 + 5, none⟩ = some (.int .u32 t.p.d0) := fun m os => cellP2 (heap_grown hg m os) ht 5 rfl
            have t6 : ∀ (m : Nat) (os : Array Obj), (grow (wr.drewN m) os).cell? ⟨g, k * 9 + (k2 - 1) * 9 + 6, none⟩ = some (.int .u32 t.p.d1) := fun m os => cellP2 (heap_grown hg m os) ht 6 rfl
            have t7 : ∀ (m : Nat) (os : Array Obj), (grow (wr.drewN m) os).cell? ⟨g, k * 9 + (k2 - 1) * 9 + 7, none⟩ = some (.int .u32 t.p.d2) := fun m os => cellP2 (heap_grown hg m os) ht 7 rfl
            have t8 : ∀ (m : Nat) (os : Array Obj), (grow (wr.drewN m) os).cell? ⟨g, k * 9 + (k2 - 1) * 9 + 8, none⟩ = some (.int .u32 t.p.d3) := fun m os => cellP2 (heap_grown hg m os) ht 8 rfl
            have e1 : IntKind.i64.wrap ((k2 : Int) - 1) = ((k2 - 1 : Nat) : Int) := by rw [IntKind.wrap_i64]; omega
            have e2 : ((k2 - 1 : Nat) : Int) < ((n - k : Nat) : Int) := by omega
            obtain ⟨bb, hbb⟩ : ∃ bb, bb = (u.p.sec == t.p.sec) := ⟨_, rfl⟩
            have hcb := fun W => same u t W
            rw [← hbb] at hcb hnew
            have HK := _root_.Go.Lib.hid (And.intro hk (And.intro hd (And.intro hnew (And.intro hu (And.intro hkl (And.intro hrl hro))))))
            clear hbb
            clear hk hd hnew hu ht hg hkl hrl hro
            go_wp2_with fail
            go_quiet_grown (exact Calls.grown_of (hcb _))
            have hk2 := HK.out.1.sortGrown nq osq
            generalize grow (wr.drewN nq) osq = w2 at hk2 ⊢
            clear u0 u1 u2 u3 u4 u5 u6 u7 u8
            clear t0 t1 t2 t3 t4 t5 t6 t7 t8
            obtain ⟨_, hd, hnew, hu, hkl, hrl, hro⟩ := HK.out
            clear hcb
            cases bb with
            | true =>
              have hd2 : hdsTo l (k + (k2 + 1)) = r.take kk := by rw [← Nat.add_assoc, hdsTo_old hnew, hd]
              have H3 := _root_.Go.Lib.hid (And.intro hk2 (And.intro hd2 (And.intro hrl (And.intro hro (And.intro hd hkl)))))
              clear hk2 hd2 hrl hro HK hd hnew hu hkl
              go_wp2_with fail
              go_roundg (n - k - (k2 + 1))
              case measure => omega
              case rel =>
                obtain ⟨hk2, hd2, hrl, hro, hd, hkl⟩ := H3.out
                exact ⟨k2 + 1, kk, r, by omega, by omega, by first | rfl | go_num, rfl, hd2, by rw [hd2, ← hd]; exact hkl, hk1, by omega, hrl, fun i hi => hro i (by omega), hk2⟩
            | false =>
              have hul : l.getD (k + k2) default = u := by rw [List.getD_eq_getElem?_getD, ← hro _ (by omega), hu]; rfl
              have hd2 : hdsTo l (k + (k2 + 1)) = (r.set kk u).take (kk + 1) := by rw [← Nat.add_assoc, hdsTo_new hnew, hul, set_take (by omega) hd.symm]
              have hg := hk2.get (g := g) (o := .cells (rowP r sp) 102) List.mem_cons_self
              have hld : (Instr.loadAt 102 (.pointer (some ⟨g, k * 9 + k2 * 9, none⟩))).run Tryz.prog w2 = .ok (.agg (pcV u)) w2 := Mem.run_loadAt_part (by rfl) Tryz.underlying102 hg (by kernel_rfl) (by rw [← Nat.add_mul]; exact rowP_at hu sp)
              have hst2 : (Instr.storeAt 102 (.pointer (some ⟨g, kk * 9, none⟩)) (.agg (pcV u))).run Tryz.prog w2 = .ok () (w2.setRow g (rowP (r.set kk u) sp)) := Mem.run_storeAt_part hg (by kernel_rfl) (by have := flatP_len r; simp; omega) (List.all_eq_true.2 (encL_one u)) (rowP_set (by omega) u sp) rfl
              have hk3 := KW.row (vs := rowP (r.set kk u) sp) hk2
              have b1 : (kk : Int) < (n : Int) := by omega
              have H3 := _root_.Go.Lib.hid (And.intro hk3 (And.intro hd2 (And.intro hrl (And.intro hro (And.intro hd (And.intro hkl (And.intro hld hst2)))))))
              clear hk2 hk3 hd2 hrl hro HK hd hnew hu hkl hul hg hld hst2
              go_wp2_with (first | ((with_reducible apply Mem.ld 102); rfl; exact H3.out.2.2.2.2.2.2.1) | ((with_reducible apply Mem.st 102); rfl; rfl; exact H3.out.2.2.2.2.2.2.2))
              go_roundg (n - k - (k2 + 1))
              case measure => omega
              case rel =>
                obtain ⟨hk2, hd2, hrl, hro, hd, hkl, _⟩ := H3.out
                refine ⟨k2 + 1, kk + 1, r.set kk u, by omega, by omega, by first | rfl | go_num, by first | rfl | go_num, hd2, ?_, by omega, by omega, by simpa using hrl, fun i hi => ?_, hk2⟩
                · rw [hd2, List.length_take, List.length_set]
                  omega
                · rw [List.getElem?_set_ne (by omega)]
                  exact hro i (by omega)
          · have e : k2 = n - k := by omega
            subst e
            have hg := hk.get (g := g) (o := .cells (rowP r sp) 102) List.mem_cons_self
            obtain ⟨z, hz, hcl⟩ := clear102 (k := kk) 0 (cap - kk) hg hrl.symm (by omega)
            have hk3 := KW.row (vs := rowP (r.take kk) (z ++ sp)) hk
            have e5 : k + (n - k) = n := by omega
            rw [e5] at hd hkl
            rw [← hd] at hcl hk3
            have b1 : kk ≤ n := by omega
            have b2 : kk ≤ cap := by omega
            have b3 : (kk : Int) ≤ (n : Int) := by omega
            have b4 : (kk : Int) ≤ (cap : Int) := by omega
            have H3 := _root_.Go.Lib.hid (And.intro hk3 (And.intro trivial (And.intro hz (And.intro hkl hrl))))
            clear hk hk3 hz hkl hg hrl hro hd
            go_wp2_with fail
            go_ret
            obtain ⟨hk3, _, hz, hkl, hrl⟩ := H3.out
            refine ⟨by first | rw [← hkl]; rfl | rw [← hkl], z ++ sp, hk3, ?_⟩
            rw [List.length_append, hz, ← hkl, Nat.sub_mul]
            have := Nat.mul_le_mul_right 9 b1
            omega
      | false =>
        have hn : newAt l k = true := HK.out.2.2.1
        have H2 := _root_.Go.Lib.hid (And.intro hk2 (take_new (by rw [← HH.out.2.1]; exact hkn) hn HK.out.2.1))
        clear hk2 hn HK
        go_wp2_with fail
        go_roundg (n - (k + 1))
        case measure => omega
        case rel => exact ⟨k + 1, by omega, by omega, by first | rfl | go_num, H2.out.2, H2.out.1⟩
    · have e : k = n := by omega
      subst e
      have HK := _root_.Go.Lib.hid (And.intro hk hd)
      clear hk hd
      go_wp2_with fail
      go_ret
      obtain ⟨hk, hd⟩ := HK.out
      have hd : hdsTo l k = l := by rw [hd, List.take_of_length_le (by rw [← HH.out.2.1]; exact Nat.le_refl _)]
      rw [hd]
      exact ⟨by rw [← HH.out.2.1]; rfl, sp, hk, by rw [← HH.out.2.1]⟩
theorem compact128 {B n : Nat} {W w : World} {K : Blocks} {v : Value} {l : List Pc} (h : KO B W 102 9 v n (flatP l) K w) (hn : n = l.length) (hs : n < 1000) :
    Calls Tryz.prog 128 #[v, .func (.func 129) #[] #[]] w fun e w' => ∃ v', e = .returned v' ∧ KO B W 102 9 v' (hdsTo l n).length (flatP (hdsTo l n)) K w' := by
  by_cases h2 : n < 2
  · have e : hdsTo l n = l := by
      rcases (show n = 0 ∨ n = 1 by omega) with h0 | h0 <;> subst h0
      · rw [List.length_eq_zero_iff.1 hn.symm]; rfl
      · rw [show (1 : Nat) = 0 + 1 from rfl, take_new (by omega) rfl rfl, List.take_of_length_le (by omega)]
    rw [e, ← hn]
    obtain ⟨p, c, rfl⟩ := h.shape
    have HH := _root_.Go.Lib.hid h
    have n0 : ((n : Int) < 2) := by omega
    clear h hn e
    go_enter Tryz.func128, Tryz.ntmps128
    go_wp2
    go_ret
    exact ⟨_, rfl, HH.out⟩
  · rcases h.2 with ⟨_, h0, _⟩ | ⟨g, cap, cur, rfl, hcap, hmax, hsz, htk, hk⟩
    · omega
    · have hc : cur = rowP l (cur.toList.drop (n * 9)) := by
        unfold rowP
        rw [← htk, List.take_append_drop, Array.toArray_toList]
      rw [hc] at hk
      subst hn
      refine (compact2 hk (by omega) hs hcap).mono ?_
      rintro e w' ⟨rfl, sp', hk', hlen⟩
      have hle := hdsTo_len l l.length
      refine ⟨_, rfl, by rw [flatP_len], .inr ⟨g, cap, _, rfl, by omega, hmax, ?_, ?_, hk'⟩⟩
      · have hl2 := flatP_len (hdsTo l l.length)
        have : cur.size = (rowP l (cur.toList.drop (l.length * 9))).size := by rw [← hc]
        have hl3 := flatP_len l
        simp only [List.size_toArray, List.length_append] at this ⊢
        have e9 := Nat.mul_le_mul_right 9 hcap
        simp only [List.length_drop, Array.length_toList] at hlen
        omega
      · rw [← flatP_len]
        exact List.take_left
end Go.Proofs.YtlcbilknfjdceaaGreatDoor
end
section
/-
  slices.SortedFunc and latest.Of.
-/
set_option linter.unusedVariables false
set_option linter.unusedSimpArgs false
namespace Go.Proofs.YtlcbilknfjdceaaGreatDoor
open Go.RowKit Go.Lib
/-- t is the latest of each sector. -/
def OfT (bs : List Rb) (t : List Pc) : Prop := ∃ l, l.Perm (allL bs) ∧ SortedP l ∧ Heads l t
theorem OfT.latest {bs : List Rb} {t : List Pc} (h : OfT bs t) {L : Int → Option Pc} (hL : Tells t L) : Latest bs L := by
  obtain ⟨l, hp, hs, hh⟩ := h
  exact latest_of_heads (fun x => (hp.mem_iff).trans mem_allL) hs hh hL
theorem OfT.mem {bs : List Rb} {t : List Pc} (h : OfT bs t) {x : Pc} (hx : x ∈ t) : In bs x := by
  obtain ⟨l, hp, hs, hh⟩ := h
  obtain ⟨i, hi, _⟩ := (hh x).1 hx
  exact mem_allL.1 ((hp.mem_iff).1 (List.mem_of_getElem? hi))
theorem sorted126 {B bx g cap : Nat} {W w : World} {K : Blocks} {bs : List Rb} {sp : List Value} (h : KW B W (allKt bx g 5 cap bs sp ++ K) w) (h8 : ∀ b ∈ bs, Rb8 b) (hl : bs.length = 5) :
    Calls Tryz.prog 126 #[.func (.func 125) #[] #[.pointer (some ⟨bx, 0, none⟩)], .func (.func 127) #[] #[]] w fun e w' => ∃ v l, e = .returned v ∧ l.Perm (allL bs) ∧ SortedP l ∧ KO B W 102 9 v l.length (flatP l) (allKt bx g 5 cap bs sp ++ K) w' := by
  have hlen := allL_len bs
  have HC := _root_.Go.Lib.hid (And.intro (collect156 h h8 hl) (show (allL bs).length < 1000 by omega))
  clear h h8 hlen
  go_enter Tryz.func126, Tryz.ntmps126
  go_wp2_with (go_at_call 156; refine HC.out.1.mono ?_)
  rintro e w2 ⟨v, rfl, hk⟩
  have HK := _root_.Go.Lib.hid (sort157 hk rfl HC.out.2)
  clear hk
  go_wp2_with (go_at_call 157; refine HK.out.mono ?_)
  rintro e w3 ⟨rfl, l, hp, hs, hk⟩
  have HS := _root_.Go.Lib.hid (And.intro hp (And.intro hs hk))
  clear hp hs hk HK
  go_wp2_with fail
  go_ret
  obtain ⟨hp, hs, hk⟩ := HS.out
  rw [← hp.length_eq] at hk
  exact ⟨v, l, rfl, hp, hs, hk⟩
theorem of89 {B g cap : Nat} {W w : World} {K : Blocks} {bs : List Rb} {sp : List Value} (h : KW B W ((g, rowO bs sp) :: K) w) (h8 : ∀ b ∈ bs, Rb8 b) (hl : bs.length = 5) :
    Calls Tryz.prog 89 #[.slice (some ⟨g, 0, none⟩) 5 cap] w fun e w' => ∃ v t, e = .returned v ∧ OfT bs t ∧ t.length < 1000 ∧ KO B W 102 9 v t.length (flatP t) ((g, rowO bs sp) :: K) w' := by
  have hlen := allL_len bs
  have HH := _root_.Go.Lib.hid (And.intro h (And.intro h8 (show (allL bs).length < 1000 by omega)))
  clear h h8 hlen
  go_enter Tryz.func89, Tryz.ntmps89
  go_wp2_with (go_at_call 88; refine all_calls.mono ?_)
  rintro e w2 ⟨rfl, rfl⟩
  have hk := HH.out.1.push (boxO (.slice (some ⟨g, 0, none⟩) 5 cap) 84)
  generalize w.alloc _ = w2 at hk ⊢
  generalize w.heap.size = bx at hk ⊢
  have HS := _root_.Go.Lib.hid (sorted126 (bx := bx) (cap := cap) (sp := sp) hk HH.out.2.1 hl)
  clear hk
  go_wp2_with (go_at_call 126; refine HS.out.mono ?_)
  rintro e w3 ⟨v, l, rfl, hp, hs, hk⟩
  have hlen := HH.out.2.2
  rw [← hp.length_eq] at hlen
  have HC := _root_.Go.Lib.hid (And.intro (compact128 hk rfl hlen) (And.intro hp (And.intro hs hlen)))
  clear hp hs hk HS hlen
  go_wp2_with (go_at_call 128; refine HC.out.1.mono ?_)
  rintro e w4 ⟨v', rfl, hk⟩
  have HK := _root_.Go.Lib.hid hk
  clear hk
  go_wp2_with fail
  go_ret
  obtain ⟨_, hp, hs, hlen⟩ := HC.out
  have := hdsTo_len l l.length
  exact ⟨v', _, rfl, ⟨l, hp, hs, heads_hdsTo l⟩, by omega, HK.out.drop⟩
end Go.Proofs.YtlcbilknfjdceaaGreatDoor
end
section
/-
  latest.Needed: places of one block.
-/
set_option linter.unusedVariables false
set_option linter.unusedSimpArgs false
namespace Go.Proofs.YtlcbilknfjdceaaGreatDoor
open Go.RowKit Go.Lib
attribute [local go_sem] Oper.semAt_some
open Go.Sort
abbrev needR (tb : Nat) (pre : List Pc) (s : Value × Blocks × List Pc) : Prop := s.2.2.Sublist (pre.filter fun x => decide (x.b = tb)) ∧ OwnR 102 9 s.1 s.2.2.length (flatP s.2.2) s.2.1
abbrev needB (b2 b3 g cap tb : Nat) : Blocks := [(b3, boxO (.int .i64 (tb : Int)) 3), (b2, boxO (.slice (some ⟨g, 0, none⟩) 5 cap) 84)]
abbrev needK (b2 b3 g cap tb ob : Nat) (s : Value × Blocks × List Pc) : Blocks := s.2.1 ++ (needB b2 b3 g cap tb ++ [(ob, boxO s.1 181)])
abbrev needA (g cap tb b2 b3 ob bx gx : Nat) (x : Pc) : Act := { tmps := #[.slice (some ⟨g, 0, none⟩) 5 cap, .int .i64 (tb : Int), .pointer (some ⟨b2, 0, none⟩), .pointer (some ⟨b3, 0, none⟩), .slice none 0 0, .pointer (some ⟨ob, 0, none⟩), .pointer (some ⟨gx, 0, none⟩), undef, .slice (some ⟨g, 0, none⟩) 5 cap, .func (.func 125) #[] #[.pointer (some ⟨bx, 0, none⟩)], .agg (pcV x), undef, undef, undef, undef, undef, undef, undef, undef, undef, undef, undef, undef, undef, undef, undef], defers := [] }
abbrev needA2 (g cap tb b2 b3 ob bx gx by' gy : Nat) (x y : Pc) : Act := { tmps := #[.slice (some ⟨g, 0, none⟩) 5 cap, .int .i64 (tb : Int), .pointer (some ⟨b2, 0, none⟩), .pointer (some ⟨b3, 0, none⟩), .slice none 0 0, .pointer (some ⟨ob, 0, none⟩), .pointer (some ⟨gx, 0, none⟩), .pointer (some ⟨gy, 0, none⟩), .slice (some ⟨g, 0, none⟩) 5 cap, .func (.func 125) #[] #[.pointer (some ⟨bx, 0, none⟩)], .agg (pcV x), .pointer (some ⟨gx, 0, none⟩), .int .i64 (tb : Int), .int .i64 (tb : Int), .bool false, .slice (some ⟨g, 0, none⟩) 5 cap, .func (.func 125) #[] #[.pointer (some ⟨by', 0, none⟩)], .agg (pcV y), undef, undef, undef, undef, undef, undef, undef, undef], defers := [] }
theorem scope_wide {n : Nat} {P : Program} {c : Code} {Q : Exit → Act → World → Prop} {a : Act} {w : World} (h : c.wpIn Fence.wide n P (Exit.noGoto Q) a w) : (Code.scope c).wpIn Fence.wide n P Q a w := wpIn_wide.2 (wp_scope_straight (wpIn_wide.1 h))
theorem label_wide {n l : Nat} {P : Program} {Q : Exit → Act → World → Prop} {a : Act} {w : World} (h : Q .normal a w) : (Code.label l).wpIn Fence.wide n P Q a w := wpIn_wide.2 (wp_label h)
theorem need_in {B : Nat} {W w : World} {K' : Blocks} {p q r c : Nat × Obj} (h : KW B W (p :: q :: r :: c :: K') w) : KW B W (p :: r :: q :: K' ++ [c]) w :=
  h.perm (.cons _ ((List.Perm.swap _ _ _).trans (.cons _ (.cons _ (List.perm_append_comm (l₁ := [c]))))))
theorem need_out {B : Nat} {W w : World} {K' : Blocks} {p q r c : Nat × Obj} (h : KW B W (p :: r :: q :: K' ++ [c]) w) : KW B W (q :: r :: c :: K') w :=
  (h.perm (.cons _ ((List.Perm.swap q r (K' ++ [c])).trans (.cons _ (.cons _ (List.perm_append_comm (l₂ := [c]))))))).tail
theorem KO.lastCell {B : Nat} {W w : World} {e : TypeId} {sz n : Nat} {v : Value} {xs : List Value} {L : Blocks} {ob : Nat} {t : TypeId} {x y : Value} (h : KO B W e sz v n xs (L ++ [(ob, .cells #[x] t)]) w) : KO B W e sz v n xs (L ++ [(ob, .cells #[y] t)]) (w.setCell ⟨ob, 0, none⟩ y) :=
  h.turn fun K0 h => by
    rw [← List.append_assoc] at h ⊢
    exact h.lastCell
theorem heap_alloc_kept {w : World} {l : Nat} {o o' : Obj} (h : w.heap[l]? = some o) : (w.alloc o').heap[l]? = some o := by
  have hl := lt_of_heap h
  show (w.heap.push o')[l]? = _
  rw [Array.getElem?_push, if_neg (Nat.ne_of_lt hl)]
  exact h
set_option maxHeartbeats 2000000 in
set_option maxRecDepth 100000 in
theorem needed135 {B g cap tb : Nat} {V w : World} {K : Blocks} {bs : List Rb} {sp : List Value} (h : KW B V ((g, rowO bs sp) :: K) w) (h8 : ∀ b ∈ bs, Rb8 b) (hl : bs.length = 5) :
    Calls Tryz.prog 135 #[.slice (some ⟨g, 0, none⟩) 5 cap, .int .i64 (tb : Int)] w fun e w' => ∃ v xs, e = .returned v ∧ (∀ x ∈ xs, In bs x ∧ x.b = tb) ∧ xs.length ≤ 8 ∧ KO B V 102 9 v xs.length (flatP xs) ((g, rowO bs sp) :: K) w' := by
  obtain ⟨i0, hi, hz0, hz1, hz2⟩ := info_parts info102
  have hlen := own_len bs tb
  have HH := _root_.Go.Lib.hid (And.intro h (And.intro h8 (And.intro hl hlen)))
  have HI := _root_.Go.Lib.hid (And.intro hi (And.intro hz0 (And.intro hz1 hz2)))
  clear h h8 hl hi hz0 hz1 hz2 hlen
  refine (callsIn_wide (n := 9)).1 ?_
  refine callsIn_of_wp_marks Tryz.func135 rfl trivial ?_ rfl
  simp only [Tryz.ntmps135, List.size_toArray, List.length_cons, List.length_nil, Nat.reduceAdd, Nat.reduceSub, Array.replicate_succ, Array.replicate_zero, List.push_toArray, List.append_toArray, List.nil_append, List.cons_append]
  gi_wp2_with fail
  refine scope_wide ?_
  gi_wp2_with fail
  refine label_wide ?_
  have hk := HH.out.1.push3 (boxO (.slice (some ⟨g, 0, none⟩) 5 cap) 84) (boxO (.int .i64 (tb : Int)) 3) (boxO (.slice none 0 0) 181)
  generalize ((w.alloc _).alloc _).alloc _ = w2 at hk ⊢
  generalize w.heap.size = b2 at hk ⊢
  generalize hb3 : b2 + 1 = b3 at hk ⊢
  generalize hob : b3 + 1 = ob at hk ⊢
  have m2 : w2.cell? ⟨b2, 0, none⟩ = some (.slice (some ⟨g, 0, none⟩) 5 cap) := cell_at (hk.get (g := b2) (o := boxO (.slice (some ⟨g, 0, none⟩) 5 cap) 84) (by simp)) 0
  have HK := _root_.Go.Lib.hid hk
  clear hk hb3 hob
  gi_wp2_with fail
  refine ⟨trivial, ?_⟩
  refine (callsIn_wide.2 all_calls).mono ?_
  rintro e w3 ⟨rfl, rfl⟩
  have hk2 := HK.out.push (boxO (.slice (some ⟨g, 0, none⟩) 5 cap) 84)
  generalize w2.alloc _ = w3 at hk2 ⊢
  generalize w2.heap.size = bx at hk2 ⊢
  have hk3 : KW B V (allKt bx g 5 cap bs sp ++ K ++ needK b2 b3 g cap tb ob (.slice none 0 0, [], [])) w3 := hk2.perm (by
    refine List.Perm.cons _ ?_
    have e := List.perm_append_comm (l₁ := [(ob, boxO (.slice none 0 0) 181), (b3, boxO (.int .i64 (tb : Int)) 3), (b2, boxO (.slice (some ⟨g, 0, none⟩) 5 cap) 84)]) (l₂ := (g, rowO bs sp) :: K)
    refine e.trans (List.Perm.append_left _ ?_)
    exact List.perm_append_comm (l₁ := [(ob, boxO (.slice none 0 0) 181)]) (l₂ := needB b2 b3 g cap tb))
  have H3 := _root_.Go.Lib.hid hk3
  clear hk2 hk3 m2
  gi_wp2_with fail
  refine wpIn_range_kw (n := 7) (gf := 125) (lb := #[.pointer (some ⟨bx, 0, none⟩)]) rfl (enters_of Tryz.func125 (by kernel_rfl) rfl) (all_iter (bx := bx) (g := g) (cap := cap) (sp := sp) HH.out.2.1 HH.out.2.2.1) (fun _ => rfl)
    (needR tb) (fun _ _ _ => False) (needK b2 b3 g cap tb ob)
    (fun x a' Kx => ∃ gx, Kx = [(gx, .cells (pcV x) 102)] ∧ a' = needA g cap tb b2 b3 ob bx gx x) (K0 := K) ⟨(.slice none 0 0, [], []), ⟨List.Sublist.refl _, OwnR.nil⟩, H3.out⟩ ?assign ?body ?done ?stop
  case assign =>
    rintro l x pre K1 s W hk
    have hk2 := hk.push (.cells (pcV x) 102)
    have HK := _root_.Go.Lib.hid hk2
    clear hk hk2
    simp only [encPc]
    gi_wp2
    refine ⟨[(W.heap.size, .cells (pcV x) 102)], ⟨_, rfl, rfl⟩, ?_⟩
    have := HK.out
    exact this.perm (by
      have e := List.perm_append_comm_assoc [(W.heap.size, Obj.cells (pcV x) 102)] (allKt bx g 5 cap bs sp) (K1 ++ needK b2 b3 g cap tb ob s)
      simpa [List.append_assoc] using e)
  case body =>
    rintro l pre ⟨xb, xk, xp⟩ post a' Kx K1 ⟨v, Ks, xs⟩ W hf ⟨gx, rfl, rfl⟩ hR ⟨r0, hr0⟩ hk
    have m2 : W.cell? ⟨b2, 0, none⟩ = some (.slice (some ⟨g, 0, none⟩) 5 cap) := cell_at (hk.get (g := b2) (o := boxO (.slice (some ⟨g, 0, none⟩) 5 cap) 84) (by simp)) 0
    have m3 : W.cell? ⟨b3, 0, none⟩ = some (.int .i64 (tb : Int)) := cell_at (hk.get (g := b3) (o := boxO (.int .i64 (tb : Int)) 3) (by simp)) 0
    have mx : W.cell? ⟨gx, 0, none⟩ = some (.int .i64 (xb : Int)) := cell_at (hk.get (g := gx) (o := .cells (pcV ⟨xb, xk, xp⟩) 102) (by simp)) 0
    by_cases hx : tb = xb
    · subst hx
      have HB := _root_.Go.Lib.hid (And.intro hk (And.intro hR (And.intro hf hr0)))
      clear hk hR hf hr0
      gi_wp2_with fail
      refine ⟨trivial, ?_⟩
      refine (CallsIn.inRound l (callsIn_wide.2 all_calls)).mono ?_
      rintro e w4 ⟨rfl, rfl⟩
      obtain ⟨hk, hR, hf, hr0⟩ := HB.out
      have hr1 := heap_alloc_kept (o' := boxO (.slice (some ⟨g, 0, none⟩) 5 cap) 84) hr0
      have hk4 := need_in (hk.push (boxO (.slice (some ⟨g, 0, none⟩) 5 cap) 84))
      generalize W.alloc (boxO (.slice (some ⟨g, 0, none⟩) 5 cap) 84) = w4 at hk4 hr1 ⊢
      generalize W.heap.size = bx2 at hk4 hr1 ⊢
      have H4 := _root_.Go.Lib.hid (And.intro hk4 (And.intro hR (And.intro hf hr1)))
      clear hk hR hf hr0 hr1 hk4 m2 m3 mx HB
      gi_wp2_with fail
      refine wpIn_range_kwN (n := 5) (l₀ := l) (gf := 125) (lb := #[.pointer (some ⟨bx2, 0, none⟩)]) H4.out.2.2.2 rfl (enters_of Tryz.func125 (by kernel_rfl) rfl) (all_iter (bx := bx2) (g := g) (cap := cap) (sp := sp) HH.out.2.1 HH.out.2.2.1) (fun _ => rfl)
        (fun (_ : List Pc) (_ : Unit) => True) (fun c _ _ => c = .exit 1) (fun _ => [(gx, .cells (pcV ⟨tb, xk, xp⟩) 102)])
        (fun y a' Kx => ∃ gy, Kx = [(gy, .cells (pcV y) 102)] ∧ a' = needA2 g cap tb b2 b3 ob bx gx bx2 gy ⟨tb, xk, xp⟩ y) (K0 := (bx, boxO (.slice (some ⟨g, 0, none⟩) 5 cap) 84) :: (K1 ++ needK b2 b3 g cap tb ob (v, Ks, xs))) ⟨(), trivial, H4.out.1⟩ ?assign2 ?body2 ?done2 ?stop2
      case assign2 =>
        rintro l2 y pre2 K2 s2 W2 hk
        have hk2 := hk.push (.cells (pcV y) 102)
        have HK := _root_.Go.Lib.hid hk2
        clear hk hk2
        simp only [encPc]
        gi_wp2
        refine ⟨[(W2.heap.size, .cells (pcV y) 102)], ⟨_, rfl, rfl⟩, ?_⟩
        have := HK.out
        exact this.perm (by
          have e := List.perm_append_comm_assoc [(W2.heap.size, Obj.cells (pcV y) 102)] (allKt bx2 g 5 cap bs sp) (K2 ++ [(gx, .cells (pcV ⟨tb, xk, xp⟩) 102)])
          simpa [List.append_assoc] using e)
      case body2 =>
        rintro l2 pre2 ⟨yb, yk, yp⟩ post2 a2 Kx2 K2 s2 W2 hf2 ⟨gy, rfl, rfl⟩ - - hk
        have hgx := hk.get (g := gx) (o := .cells (pcV ⟨tb, xk, xp⟩) 102) (by simp)
        have hgy := hk.get (g := gy) (o := .cells (pcV ⟨yb, yk, yp⟩) 102) (by simp)
        have x0 : W2.cell? ⟨gx, 0, none⟩ = some (.int .i64 (tb : Int)) := cell_at hgx 0
        have x1 : W2.cell? ⟨gx, 1, none⟩ = some (.int .i64 (xk : Int)) := cell_at hgx 1
        have x2 : W2.cell? ⟨gx, 2, none⟩ = some (.int .u32 xp.sec) := cell_at hgx 2
        have x3 : W2.cell? ⟨gx, 3, none⟩ = some (.int .u32 xp.seq) := cell_at hgx 3
        have x4 : W2.cell? ⟨gx, 4, none⟩ = some (.bool xp.gone) := cell_at hgx 4
        have x5 : W2.cell? ⟨gx, 5, none⟩ = some (.int .u32 xp.d0) := cell_at hgx 5
        have x6 : W2.cell? ⟨gx, 6, none⟩ = some (.int .u32 xp.d1) := cell_at hgx 6
        have x7 : W2.cell? ⟨gx, 7, none⟩ = some (.int .u32 xp.d2) := cell_at hgx 7
        have x8 : W2.cell? ⟨gx, 8, none⟩ = some (.int .u32 xp.d3) := cell_at hgx 8
        have y0 : W2.cell? ⟨gy, 0, none⟩ = some (.int .i64 (yb : Int)) := cell_at hgy 0
        have y1 : W2.cell? ⟨gy, 1, none⟩ = some (.int .i64 (yk : Int)) := cell_at hgy 1
        have y2 : W2.cell? ⟨gy, 2, none⟩ = some (.int .u32 yp.sec) := cell_at hgy 2
        have y3 : W2.cell? ⟨gy, 3, none⟩ = some (.int .u32 yp.seq) := cell_at hgy 3
        have y4 : W2.cell? ⟨gy, 4, none⟩ = some (.bool yp.gone) := cell_at hgy 4
        have y5 : W2.cell? ⟨gy, 5, none⟩ = some (.int .u32 yp.d0) := cell_at hgy 5
        have y6 : W2.cell? ⟨gy, 6, none⟩ = some (.int .u32 yp.d1) := cell_at hgy 6
        have y7 : W2.cell? ⟨gy, 7, none⟩ = some (.int .u32 yp.d2) := cell_at hgy 7
        have y8 : W2.cell? ⟨gy, 8, none⟩ = some (.int .u32 yp.d3) := cell_at hgy 8
        have H2 := _root_.Go.Lib.hid hk
        clear hk hgx hgy hf2
        gi_wp2_with fail
        refine ⟨trivial, ?_⟩
        refine (CallsIn.inRound l2 (callsIn_wide.2 (stands165 ⟨yb, yk, yp⟩ ⟨tb, xk, xp⟩ W2))).mono ?_
        rintro e w5 ⟨⟨bv, rfl⟩, os', rfl⟩
        have hk5 := H2.out.sortGrown 0 os'
        have hk5 : KW B V _ (grow W2 os') := hk5
        generalize grow W2 os' = w5 at hk5 ⊢
        clear x0 x1 x2 x3 x4 x5 x6 x7 x8
        clear y0 y1 y2 y3 y4 y5 y6 y7 y8
        have H5 := _root_.Go.Lib.hid hk5
        clear hk5 H2
        cases bv with
        | true =>
          gi_wp2_with fail
          exact ⟨(), rfl, H5.out⟩
        | false =>
          gi_wp2_with fail
          exact ⟨(), trivial, H5.out⟩
      case stop2 =>
        rintro c pre2 y post2 s2 W2 hf2 rfl hk
        have hk5 := need_out hk
        have H5 := _root_.Go.Lib.hid hk5
        clear hk hk5
        gi_wp2_with fail
        obtain ⟨_, hR, hf, _⟩ := H4.out
        refine ⟨(v, Ks, xs), ⟨?_, hR.2⟩, H5.out⟩
        rw [List.filter_append]
        exact hR.1.trans (List.sublist_append_left _ _)
      case done2 =>
        rintro s2 W2 - hk
        have hk5 := need_out hk
        obtain ⟨_, hR, hf, _⟩ := H4.out
        have hn : xs.length ≤ 8 := by
          have a1 := hR.1.length_le
          have a2 := HH.out.2.2.2
          rw [hf, List.filter_append, List.length_append] at a2
          simp only [] at a1
          omega
        have hgx := hk5.get (g := gx) (o := .cells (pcV ⟨tb, xk, xp⟩) 102) (by simp)
        have m5 : W2.cell? ⟨ob, 0, none⟩ = some v := cell_at (hk5.get (g := ob) (o := boxO v 181) (by simp)) 0
        have f5 : W2.frozen? ⟨ob, 0, none⟩ = false := free_at (hk5.get (g := ob) (o := boxO v 181) (by simp)) 0
        have x0 : W2.cell? ⟨gx, 0, none⟩ = some (.int .i64 (tb : Int)) := cell_at hgx 0
        have x1 : W2.cell? ⟨gx, 1, none⟩ = some (.int .i64 (xk : Int)) := cell_at hgx 1
        have x2 : W2.cell? ⟨gx, 2, none⟩ = some (.int .u32 xp.sec) := cell_at hgx 2
        have x3 : W2.cell? ⟨gx, 3, none⟩ = some (.int .u32 xp.seq) := cell_at hgx 3
        have x4 : W2.cell? ⟨gx, 4, none⟩ = some (.bool xp.gone) := cell_at hgx 4
        have x5 : W2.cell? ⟨gx, 5, none⟩ = some (.int .u32 xp.d0) := cell_at hgx 5
        have x6 : W2.cell? ⟨gx, 6, none⟩ = some (.int .u32 xp.d1) := cell_at hgx 6
        have x7 : W2.cell? ⟨gx, 7, none⟩ = some (.int .u32 xp.d2) := cell_at hgx 7
        have x8 : W2.cell? ⟨gx, 8, none⟩ = some (.int .u32 xp.d3) := cell_at hgx 8
        have hk0 : KO B V 102 9 v xs.length (flatP xs) (((allKt bx g 5 cap bs sp ++ ([(gx, .cells (pcV ⟨tb, xk, xp⟩) 102)] ++ K1)) ++ needB b2 b3 g cap tb) ++ [(ob, boxO v 181)]) W2 := by
          have := OwnR.ko (K0 := allKt bx g 5 cap bs sp ++ ([(gx, .cells (pcV ⟨tb, xk, xp⟩) 102)] ++ K1)) (Kc := needB b2 b3 g cap tb ++ [(ob, boxO v 181)]) hR.2 hk5
          rwa [← List.append_assoc] at this
        have HB := _root_.Go.Lib.hid hk0
        clear hk hk5 hgx hR hf hk0
        gi_wp2_with (refine wpListIn_append_ko rfl (.tmp 21) (.tmp 23) 181 rfl i0 _ 48 Tryz.underlying181 HI.out.1 HI.out.2.1 HI.out.2.2.1 HI.out.2.2.2 rfl (by decide) rfl (HB.out.alloc _) ⟨_, 0, none⟩ 1 1 (pcV ⟨tb, xk, xp⟩).toList rfl rfl (news_mid (off := 0) (m := 9) (heap_alloc_new _ _) rfl) (by simp [Value.oneCell']) (by unfold maxLen; omega) (by omega) ?_)
        rintro v' w4 hk4 -
        have hk5 : KO B V 102 9 v' (xs.length + 1) (flatP (xs ++ [⟨tb, xk, xp⟩])) (((allKt bx g 5 cap bs sp ++ ([(gx, .cells (pcV ⟨tb, xk, xp⟩) 102)] ++ K1)) ++ needB b2 b3 g cap tb) ++ [(ob, boxO v 181)]) w4 := by
          rw [flatP_snoc, List.append_assoc]
          exact hk4.drop
        obtain ⟨vp, vc, rfl⟩ := hk5.shape
        have m4 : w4.cell? ⟨ob, 0, none⟩ = some v := cell_at (hk5.get (g := ob) (o := boxO v 181) (by simp)) 0
        have f4 : w4.frozen? ⟨ob, 0, none⟩ = false := free_at (hk5.get (g := ob) (o := boxO v 181) (by simp)) 0
        have hk6 := hk5.lastCell (y := .slice vp (xs.length + 1) vc)
        have H6 := _root_.Go.Lib.hid hk6
        clear hk4 hk5 hk6
        gi_wp2_with fail
        have hk7 := H6.out
        rw [List.append_assoc] at hk7
        obtain ⟨Ks', hR', hk'⟩ := hk7.ownR
        obtain ⟨_, hR, hf, _⟩ := H4.out
        refine ⟨(.slice vp (xs.length + 1) vc, Ks', xs ++ [⟨tb, xk, xp⟩]), ⟨?_, ?_⟩, hk'⟩
        · rw [List.filter_append]
          refine List.Sublist.append hR.1 ?_
          simp
        · rw [List.length_append, List.length_singleton]
          exact hR'
    · have hne : ((xb : Int) == (tb : Int)) = false := by simp; omega
      have HB := _root_.Go.Lib.hid (And.intro hk (And.intro hR hf))
      clear hk hR hf
      gi_wp2_with fail
      obtain ⟨hk, hR, hf⟩ := HB.out
      refine ⟨(v, Ks, xs), ⟨?_, hR.2⟩, hk⟩
      rw [List.filter_append]
      exact hR.1.trans (List.sublist_append_left _ _)
  case done =>
    rintro D ⟨v, Ks, xs⟩ W hR hk
    have m2 : W.cell? ⟨ob, 0, none⟩ = some v := cell_at (hk.get (g := ob) (o := boxO v 181) (by simp)) 0
    have HS := _root_.Go.Lib.hid (And.intro hk hR)
    clear hk hR
    gi_wp2
    have h2 := HS.out.1
    refine ⟨by simp, .inl ⟨_, _, rfl, run_takeDeferred (h2.get (g := D) (o := .deferred (some [])) (by simp)), ?_⟩⟩
    have h3 : KW B V _ (W.putObj D (.deferred none)) := KW.putMid (L := []) h2
    refine ⟨v, by simp [results, Tryz.results135, Sem.run_bind, Result.andThen], v, xs, rfl, ?_, ?_, ?_⟩
    · intro x hx
      have := HS.out.2.1.subset hx
      rw [List.mem_filter] at this
      exact ⟨mem_allL.1 this.1, by simpa using this.2⟩
    · exact Nat.le_trans HS.out.2.1.length_le HH.out.2.2.2
    · have h4 := KW.cut [] [(D, .deferred none), (bx, boxO (.slice (some ⟨g, 0, none⟩) 5 cap) 84)] (((g, rowO bs sp) :: K) ++ needK b2 b3 g cap tb ob (v, Ks, xs)) h3
      have h5 := (OwnR.ko (K0 := (g, rowO bs sp) :: K) (Kc := needB b2 b3 g cap tb ++ [(ob, boxO v 181)]) HS.out.2.2 h4)
      exact (KO.perm h5 (List.perm_append_comm (l₂ := [(b3, boxO (.int .i64 (tb : Int)) 3), (b2, boxO (.slice (some ⟨g, 0, none⟩) 5 cap) 84), (ob, boxO v 181)]))).drop.drop.drop
  case stop =>
    rintro D c pre x post s W hf h hk
    exact h.elim
end Go.Proofs.YtlcbilknfjdceaaGreatDoor
end
section
/-
  The store: where sectors are, told anew.
-/
set_option linter.unusedVariables false
set_option linter.unusedSimpArgs false
namespace Go.Proofs.YtlcbilknfjdceaaGreatDoor
open Go.RowKit Go.Lib
open Go.Sort
/-- A store. -/
abbrev sO (dv : Value) (g cap : Nat) (pl rt : Value) (seq : Int) : Obj := .cells #[dv, .slice (some ⟨g, 0, none⟩) 5 cap, pl, rt, .int .u32 seq, .bool false] 88
/-- The map tells L. -/
def PlacesE (es : Array MapEntry) (L : Int → Option Pc) : Prop := KeysE es ∧ ∀ q, lookE es q = (L q).map fun x => .agg (pcV x)
theorem PlacesE.nil : PlacesE #[] (fun _ => none) := ⟨fun e he => (by cases he), fun q => rfl⟩
theorem PlacesE.put {es es' : Array MapEntry} {L : Int → Option Pc} (h : PlacesE es L) (x : Pc) (hk : KeysE es') (he : ∀ s, lookE es' s = if s = x.p.sec then some (.agg (pcV x)) else lookE es s) : PlacesE es' (fun s => if s = x.p.sec then some x else L s) :=
  ⟨hk, fun q => by
    rw [he]
    by_cases e : q = x.p.sec
    · simp [e]
    · simp [e, h.2 q]⟩
theorem KW.setMap {B m : Nat} {W w : World} {K : Blocks} {o : Obj} (h : KW B W ((m, o) :: K) w) (o' : Obj) : KW B W ((m, o') :: K) { w with heap := w.heap.setIfInBounds m o' } := h.obj
set_option maxHeartbeats 1000000 in
set_option maxRecDepth 100000 in
theorem refresh54 {B s g cap : Nat} {W w : World} {K : Blocks} {bs : List Rb} {sp : List Value} {dv pl rt : Value} {seq : Int} (h : KW B W ((s, sO dv g cap pl rt seq) :: (g, rowO bs sp) :: K) w) (h8 : ∀ b ∈ bs, Rb8 b) (hl : bs.length = 5) :
    Calls Tryz.prog 54 #[.pointer (some ⟨s, 0, none⟩)] w fun e w' => e = .returned (.tuple #[]) ∧ ∃ mp es ck L, Latest bs L ∧ PlacesE es L ∧ KW B W ((s, sO dv g cap (.map (some mp)) rt seq) :: (g, rowO bs sp) :: (mp, .map es ck) :: K) w' := by
  have HH := _root_.Go.Lib.hid (And.intro h8 hl)
  have m1 : w.cell? ⟨s, 1, none⟩ = some (.slice (some ⟨g, 0, none⟩) 5 cap) := cell_at (h.get (g := s) (o := sO dv g cap pl rt seq) (by simp)) 1
  have m2 : w.cell? ⟨s, 2, none⟩ = some (pl) := cell_at (h.get (g := s) (o := sO dv g cap pl rt seq) (by simp)) 2
  have f2 : w.frozen? ⟨s, 2, none⟩ = false := free_at (h.get (g := s) (o := sO dv g cap pl rt seq) (by simp)) 2
  have H := _root_.Go.Lib.hid h
  clear h h8 hl
  go_enter Tryz.func54, Tryz.ntmps54
  have mk : ∀ w, (Instr.makeMap 85 none).run Tryz.prog w = .ok (.map (some w.heap.size)) (w.alloc (.map #[] 0)) := fun w => rfl
  have h1 := H.out.push (.map #[] 0)
  have m2' : (w.alloc (.map #[] 0)).cell? ⟨s, 2, none⟩ = some pl := cell_at (h1.get (g := s) (o := sO dv g cap pl rt seq) (by simp)) 2
  have f2' : (w.alloc (.map #[] 0)).frozen? ⟨s, 2, none⟩ = false := free_at (h1.get (g := s) (o := sO dv g cap pl rt seq) (by simp)) 2
  clear h1 m2 f2
  go_upto_region 1 with fail
  have h2 := KW.cell (i := 2) (x := .map (some w.heap.size)) (vs := #[dv, .slice (some ⟨g, 0, none⟩) 5 cap, .map (some w.heap.size), rt, .int .u32 seq, .bool false]) ((H.out.push (.map #[] 0)).perm (List.Perm.swap _ _ _)) rfl
  generalize World.setCell _ _ _ = w2 at h2 ⊢
  generalize w.heap.size = mp at h2 ⊢
  have h3 : KW B W ((s, sO dv g cap (.map (some mp)) rt seq) :: (g, rowO bs sp) :: (mp, .map #[] 0) :: K) w2 := h2.perm (List.Perm.cons _ (List.Perm.swap _ _ _))
  have m1 : w2.cell? ⟨s, 1, none⟩ = some (.slice (some ⟨g, 0, none⟩) 5 cap) := cell_at (h3.get (g := s) (o := sO dv g cap (.map (some mp)) rt seq) (by simp)) 1
  have hc := of89 (cap := cap) (h3.perm (List.Perm.swap _ _ _)) HH.out.1 HH.out.2
  have HC := _root_.Go.Lib.hid hc
  clear H f2' m2' h2 h3 hc
  go_wp2_with (go_at_call 89; refine HC.out.mono ?_)
  rintro e w3 ⟨v, t, rfl, hT, hn, hk⟩
  obtain ⟨tp, tc, rfl⟩ := hk.shape
  generalize hnt : t.length = n at hk hn ⊢
  have HT := _root_.Go.Lib.hid (And.intro hT (And.intro hnt hk))
  clear hT hnt hk HC m1
  go_wp2_with fail
  go_loopg [14] n (fun k s14 wr => ∃ (i : Nat) (es : Array MapEntry) (ck : Nat) (L : Int → Option Pc), i + k = n ∧ s14 = .int .i64 (i : Int) ∧ Tells (t.take i) L ∧ PlacesE es L ∧ KO B W 102 9 (.slice tp n tc) n (flatP t) ((g, rowO bs sp) :: (s, sO dv g cap (.map (some mp)) rt seq) :: (mp, .map es ck) :: K) wr)
  case atStart => exact ⟨0, #[], 0, fun _ => none, by omega, rfl, Tells.nil, PlacesE.nil, HT.out.2.2⟩
  case round =>
    obtain ⟨i, es, ck, L, hik, rfl, hL, hP, hk⟩ := hrel
    by_cases hin : i < n
    · rcases hk.2 with ⟨_, h0, _⟩ | ⟨gt, tcap, cur, hv, hcap, hmax, hsz, htk, hkw⟩
      · omega
      · simp only [Value.slice.injEq] at hv
        obtain ⟨rfl, rfl⟩ : tp = some ⟨gt, 0, none⟩ ∧ tc = tcap := ⟨hv.1, hv.2.2⟩
        obtain ⟨x, hx⟩ : ∃ x, t[i]? = some x := ⟨_, List.getElem?_eq_getElem (by rw [HT.out.2.1]; exact hin)⟩
        have hc : cur = rowP t (cur.toList.drop (n * 9)) := by
          unfold rowP
          rw [← htk, List.take_append_drop, Array.toArray_toList]
        have hg := hkw.get (g := gt) (o := .cells cur 102) List.mem_cons_self
        rw [hc] at hg
        have x0 : wr.cell? ⟨gt, i * 9, none⟩ = some (.int .i64 (x.b : Int)) := cellP hg hx 0 rfl
        have x1 : wr.cell? ⟨gt, i * 9 + 1, none⟩ = some (.int .i64 (x.k : Int)) := cellP hg hx 1 rfl
        have x2 : wr.cell? ⟨gt, i * 9 + 2, none⟩ = some (.int .u32 x.p.sec) := cellP hg hx 2 rfl
        have x3 : wr.cell? ⟨gt, i * 9 + 3, none⟩ = some (.int .u32 x.p.seq) := cellP hg hx 3 rfl
        have x4 : wr.cell? ⟨gt, i * 9 + 4, none⟩ = some (.bool x.p.gone) := cellP hg hx 4 rfl
        have x5 : wr.cell? ⟨gt, i * 9 + 5, none⟩ = some (.int .u32 x.p.d0) := cellP hg hx 5 rfl
        have x6 : wr.cell? ⟨gt, i * 9 + 6, none⟩ = some (.int .u32 x.p.d1) := cellP hg hx 6 rfl
        have x7 : wr.cell? ⟨gt, i * 9 + 7, none⟩ = some (.int .u32 x.p.d2) := cellP hg hx 7 rfl
        have x8 : wr.cell? ⟨gt, i * 9 + 8, none⟩ = some (.int .u32 x.p.d3) := cellP hg hx 8 rfl
        have hk2 := hk.alloc (.cells (pcV x) 102)
        have HK := _root_.Go.Lib.hid (And.intro hk2 (And.intro hL (And.intro hP (And.intro hx hik))))
        clear hk hL hP hx hik hkw hv hcap hmax hsz htk hc hg
        go_upto_region 4 with fail
        obtain ⟨hk2, hL, hP, hx, hik⟩ := HK.out
        generalize World.alloc wr _ = w4 at hk2 ⊢
        generalize wr.heap.size = gx at hk2 ⊢
        have hgx := hk2.get (g := gx) (o := .cells (pcV x) 102) (by simp)
        have mm : w4.cell? ⟨s, 2, none⟩ = some (.map (some mp)) := cell_at (hk2.get (g := s) (o := sO dv g cap (.map (some mp)) rt seq) (by simp)) 2
        have y0 : w4.cell? ⟨gx, 0, none⟩ = some (.int .i64 (x.b : Int)) := cell_at hgx 0
        have y1 : w4.cell? ⟨gx, 1, none⟩ = some (.int .i64 (x.k : Int)) := cell_at hgx 1
        have y2 : w4.cell? ⟨gx, 2, none⟩ = some (.int .u32 x.p.sec) := cell_at hgx 2
        have y3 : w4.cell? ⟨gx, 3, none⟩ = some (.int .u32 x.p.seq) := cell_at hgx 3
        have y4 : w4.cell? ⟨gx, 4, none⟩ = some (.bool x.p.gone) := cell_at hgx 4
        have y5 : w4.cell? ⟨gx, 5, none⟩ = some (.int .u32 x.p.d0) := cell_at hgx 5
        have y6 : w4.cell? ⟨gx, 6, none⟩ = some (.int .u32 x.p.d1) := cell_at hgx 6
        have y7 : w4.cell? ⟨gx, 7, none⟩ = some (.int .u32 x.p.d2) := cell_at hgx 7
        have y8 : w4.cell? ⟨gx, 8, none⟩ = some (.int .u32 x.p.d3) := cell_at hgx 8
        obtain ⟨es', ck', hmu, hke, hlk⟩ := update85 (w := w4.drew) (hk2.get (g := mp) (o := .map es ck) (by simp)) hP.1 x.p.sec (.agg (pcV x))
        have hk3 : KO B W 102 9 (.slice (some ⟨gt, 0, none⟩) n tc) n (flatP t) ((g, rowO bs sp) :: (s, sO dv g cap (.map (some mp)) rt seq) :: (mp, .map es' ck') :: K) { w4.drew with heap := w4.drew.heap.setIfInBounds mp (.map es' ck') } :=
          hk2.drop.drew.turn fun K0 h => by
            have h1 := (KW.perm h (show (K0 ++ ((g, rowO bs sp) :: (s, sO dv g cap (.map (some mp)) rt seq) :: (mp, .map es ck) :: K)).Perm ((mp, .map es ck) :: (K0 ++ ((g, rowO bs sp) :: (s, sO dv g cap (.map (some mp)) rt seq) :: K))) from by
              have := List.perm_middle (a := (mp, Obj.map es ck)) (l₁ := K0 ++ [(g, rowO bs sp), (s, sO dv g cap (.map (some mp)) rt seq)]) (l₂ := K)
              simpa [List.append_assoc] using this)).setMap (.map es' ck')
            refine h1.perm ?_
            have := List.perm_middle (a := (mp, Obj.map es' ck')) (l₁ := K0 ++ [(g, rowO bs sp), (s, sO dv g cap (.map (some mp)) rt seq)]) (l₂ := K)
            simpa [List.append_assoc] using this.symm
        generalize { w4.drew with heap := w4.drew.heap.setIfInBounds mp (.map es' ck') } = w5 at hmu hk3
        have hL' := hL.snoc x
        have hP' := hP.put x hke hlk
        have e1 : t.take (i + 1) = t.take i ++ [x] := by
          have hlt := (List.getElem?_eq_some_iff.1 hx)
          rw [List.take_succ_eq_append_getElem hlt.1, hlt.2]
        rw [← e1] at hL'
        have H5 := _root_.Go.Lib.hid (And.intro hk3 (And.intro hL' (And.intro hP' hik)))
        clear hk2 hk3 hL hP hx hik hgx hke hlk hL' hP' e1 HK
        go_still_tail 8, (by kernel_rfl)
        go_wp2_with fail
        go_roundg (n - (i + 1))
        case measure => have := H5.out.2.2.2; omega
        case rel =>
          obtain ⟨hk3, hL', hP', hik⟩ := H5.out
          exact ⟨i + 1, es', ck', _, by omega, by first | rfl | go_num, hL', hP', hk3⟩
    · have e : i = n := by omega
      subst e
      have HK := _root_.Go.Lib.hid (And.intro hk (And.intro hL hP))
      clear hk hL hP
      go_wp2_with fail
      obtain ⟨hk, hL, hP⟩ := HK.out
      rw [List.take_of_length_le (by rw [HT.out.2.1]; exact Nat.le_refl _)] at hL
      refine bodyPost_end (v := .tuple #[]) ?ga ?gb ?gx
      case ga => simp [results, Tryz.results54]
      case gb => rfl
      case gx => exact ⟨rfl, mp, es, ck, L, HT.out.1.latest hL, hP, hk.kw.perm (List.Perm.swap _ _ _)⟩
end Go.Proofs.YtlcbilknfjdceaaGreatDoor
end
section
/-
  Blocks sorted by how often they were erased.
-/
set_option linter.unusedVariables false
set_option linter.unusedSimpArgs false
namespace Go.Proofs.YtlcbilknfjdceaaGreatDoor
open Go.RowKit Go.Lib
open Go.Shelf Go.Sort Go.WideShapes Go.ChangeShapes
def Tryz.insInt_ren : Go.Shelf.Ren := ⟨fun | 20 => 230 | n => n, fun | 24 => 3 | 22 => 36 | 3 => 3 | 25 => 106 | 4 => 4 | 0 => 0 | n => n, fun | n => n⟩
theorem Tryz.insInt : Go.Proofs.SlLaysF.n20 Tryz.prog Tryz.insInt_ren := {
  mixed := by kernel_rfl
  f20 := ⟨Tryz.f230.name, by decide, Tryz.func230.trans (congrArg some (by kernel_rfl))⟩
  t0 := Tryz.underlying0
  a0 := Tryz.isAgg0
  z0 := Tryz.sizeOf0
  v0 := Tryz.zeroValue0
  t3 := Tryz.underlying3
  a3 := Tryz.isAgg3
  z3 := Tryz.sizeOf3
  v3 := Tryz.zeroValue3
  t4 := Tryz.underlying4
  a4 := Tryz.isAgg4
  z4 := Tryz.sizeOf4
  v4 := Tryz.zeroValue4
  t22 := Tryz.underlying36
  a22 := Tryz.isAgg36
  z22 := Tryz.sizeOf36
  v22 := Tryz.zeroValue36
  a24 := Tryz.isAgg3
  z24 := Tryz.sizeOf3
  t25 := Tryz.underlying106
  a25 := Tryz.isAgg106
  z25 := Tryz.sizeOf106
  v25 := Tryz.zeroValue106 }
def encF (i : Fin 5) : Value := .int .i64 (i.val : Int)
theorem encF_one : OneCell encF := fun _ => rfl
def cnt (bs : List Rb) (i : Fin 5) : Int := (bs.getD i.val default).count
def cfF (bs : List Rb) (i k : Fin 5) : Int := cmpI (cnt bs i) (cnt bs k)
theorem ltF (bs : List Rb) (x y : Fin 5) : ltOf (cfF bs) x y = decide (cnt bs x < cnt bs y) := by
  unfold ltOf cfF
  by_cases h : cnt bs x < cnt bs y
  · rw [decide_eq_true (cmpI_neg.2 h), decide_eq_true h]
  · rw [decide_eq_false (fun hh => h (cmpI_neg.1 hh)), decide_eq_false h]
theorem swoF (bs : List Rb) : SWO (ltOf (cfF bs)) := {
  irrefl := fun x => by rw [ltF]; simp
  trans := fun x y z h1 h2 => by rw [ltF] at *; simp at *; omega
  ntrans := fun x y z h1 h2 => by rw [ltF] at *; simp at *; omega }
theorem row_cell {bs : List Rb} {sp : List Value} {w : World} {g i : Nat} (hg : w.heap[g]? = some (rowO bs sp)) (h8 : ∀ b ∈ bs, Rb8 b) (hi : i < bs.length) (j : Nat) {v : Value} (hv : (rbV (bs.getD i default))[j]? = some v) : w.cell? ⟨g, i * 66 + j, none⟩ = some v := by
  rw [← addr_add']
  exact news_mid (off := i * 66) (m := 66) hg (rowV_at h8 hi sp) j v (by rw [Array.getElem?_toList]; exact hv)
set_option maxRecDepth 100000 in
theorem less163 {W : World} {bx s g cap : Nat} {dv pl rt : Value} {seq : Int} {bs : List Rb} {sp : List Value} (hb : W.heap[bx]? = some (boxO (.pointer (some ⟨s, 0, none⟩)) 30)) (hs : W.heap[s]? = some (sO dv g cap pl rt seq)) (hg : W.heap[g]? = some (rowO bs sp)) (h8 : ∀ b ∈ bs, Rb8 b) (hl : bs.length = 5) (x y : Fin 5) :
    Calls Tryz.prog 163 #[encF x, encF y, .pointer (some ⟨bx, 0, none⟩)] W fun e w' => e = .returned (.int .i64 (cfF bs x y)) ∧ w' = W.drewN 1 := by
  have m0 : W.cell? ⟨bx, 0, none⟩ = some (.pointer (some ⟨s, 0, none⟩)) := cell_at hb 0
  have m1 : W.cell? ⟨s, 1, none⟩ = some (.slice (some ⟨g, 0, none⟩) 5 cap) := cell_at hs 1
  have cx : W.cell? ⟨g, x.val * 66 + 1, none⟩ = some (.int .u32 (cnt bs x)) := row_cell hg h8 (by rw [hl]; exact x.isLt) 1 (rbV_count _)
  have cy : W.cell? ⟨g, y.val * 66 + 1, none⟩ = some (.int .u32 (cnt bs y)) := row_cell hg h8 (by rw [hl]; exact y.isLt) 1 (rbV_count _)
  have x5 : ((x.val : Nat) : Int) < 5 := by have := x.isLt; omega
  have y5 : ((y.val : Nat) : Int) < 5 := by have := y.isLt; omega
  unfold encF cfF
  generalize cnt bs x = p at *
  generalize cnt bs y = q at *
  generalize x.val = i at *
  generalize y.val = k at *
  clear hb hs hg h8 hl
  go_enter Tryz.func163, Tryz.ntmps163
  go_wp2_with fail
  refine wp_region_still_lit (by kernel_rfl) (by kernel_rfl) ?_
  repeat (first | still_step | still_call (compare159 _ _ _))
  refine wpStill_nil ?_
  go_wp2_with fail
  go_ret
  exact ⟨rfl, rfl⟩
theorem insert_nil (fv : Value) (w : World) : Calls Tryz.prog 230 #[.slice none 0 0, .int .i64 0, .int .i64 0, fv] w fun e w' => e = .returned (.tuple #[]) ∧ w' = w := by
  go_enter Tryz.func230, Tryz.ntmps230
  go_wp2
  refine wp_loop_rounds 1 ?_
  rw [rounds_succ]; go_wp2
  go_end0
  exact ⟨rfl, rfl⟩
set_option maxRecDepth 100000 in
theorem stable195 {p : Option Addr} {n c : Nat} {fv : Value} {w : World} {R : World → Prop} (hn : n ≤ 5) (hc : Calls Tryz.prog 230 #[.slice p n c, .int .i64 0, .int .i64 (n : Int), fv] w fun e w' => e = .returned (.tuple #[]) ∧ R w') :
    Calls Tryz.prog 195 #[.slice p n c, .int .i64 (n : Int), fv] w fun e w' => e = .returned (.tuple #[]) ∧ R w' := by
  have HC := _root_.Go.Lib.hid hc
  have g1 : ((20 : Int) ≤ (n : Int)) = False := eq_false (by omega)
  have g2 : ((20 : Int) < (n : Int)) = False := eq_false (by omega)
  have g3 : (20 ≤ n) = False := eq_false (by omega)
  have g4 : (20 < n) = False := eq_false (by omega)
  clear hc hn
  go_enter Tryz.func195, Tryz.ntmps195
  go_wp2_with fail
  refine wp_loop_rounds 1 ?_
  rw [rounds_succ]; go_wp2_with fail
  refine HC.out.mono ?_
  rintro e w2 ⟨rfl, hR⟩
  have HR := _root_.Go.Lib.hid hR
  clear hR HC
  go_wp2_with fail
  refine wp_loop_rounds 1 ?_
  rw [rounds_succ]; go_wp2_with fail
  go_end0
  exact ⟨rfl, HR.out⟩
theorem stable162 {p : Option Addr} {n c : Nat} {fv : Value} {w : World} {R : World → Prop} (hn : n ≤ 5) (hc : Calls Tryz.prog 230 #[.slice p n c, .int .i64 0, .int .i64 (n : Int), fv] w fun e w' => e = .returned (.tuple #[]) ∧ R w') :
    Calls Tryz.prog 162 #[.slice p n c, fv] w fun e w' => e = .returned (.tuple #[]) ∧ R w' := by
  have HC := _root_.Go.Lib.hid (stable195 hn hc)
  clear hc hn
  go_enter Tryz.func162, Tryz.ntmps162
  go_wp2_with (go_at_call 195; refine HC.out.mono ?_)
  rintro e w2 ⟨rfl, hR⟩
  have HR := _root_.Go.Lib.hid hR
  clear hR HC
  go_wp2_with fail
  go_end0
  exact ⟨rfl, HR.out⟩
theorem take_putF (cur : Array Value) (d : Array (Fin 5)) (h : d.size ≤ cur.size) : (putCells encF 0 d cur).toList.take d.size = d.toList.map encF := by
  apply List.ext_getElem?
  intro j
  by_cases hj : j < d.size
  · rw [List.getElem?_take_of_lt hj, Array.getElem?_toList]
    simp [putCells, hj, show j < cur.size by omega]
  · rw [List.getElem?_take_eq_none (by omega), List.getElem?_eq_none (by simp; omega)]
theorem heap_sortF {w : World} {g n : Nat} {os : Array Obj} {cur : Array Value} {e : TypeId} {fr : Nat × Nat} (d : Array (Fin 5)) (hb : w.heap[g]? = some (.cells cur e fr)) :
    (sortWorld encF w g 0 n d os).heap[g]? = some (.cells (putCells encF 0 d cur) e fr) := by
  have hg : g < w.heap.size := (Array.getElem?_eq_some_iff.1 hb).1
  unfold sortWorld
  rw [heap_grow_old _ _ (by simpa using hg)]
  simp [putRow, mapBlock, Sort.ahead, Array.getElem?_modify, hb, onCells]
theorem heap_sortF' {w : World} {g n k : Nat} {os : Array Obj} (d : Array (Fin 5)) {o : Obj} (hk : w.heap[k]? = some o) (hne : k ≠ g) : (sortWorld encF w g 0 n d os).heap[k]? = some o := by
  have hlt := lt_of_heap hk
  unfold sortWorld
  rw [heap_grow_old _ _ (by simpa using hlt)]
  simp [putRow, mapBlock, Sort.ahead, Array.getElem?_modify, Ne.symm hne, hk]
theorem grownBy_sortF {w : World} {g n : Nat} {os : Array Obj} (d : Array (Fin 5)) : w.grownBy (sortWorld encF w g 0 n d os) (some g) := by
  refine ⟨rfl, rfl, rfl, by simp [sortWorld], fun k hk hne => ?_⟩
  have : g ≠ k := fun e => hne (by rw [e])
  unfold sortWorld
  rw [heap_grow_old _ _ (by simpa using hk)]
  simp [putRow, mapBlock, Sort.ahead, Array.getElem?_modify, this]
theorem sort162 {B n bx s g cap : Nat} {W w : World} {K : Blocks} {v dv pl rt : Value} {seq : Int} {us : List (Fin 5)} {bs : List Rb} {sp : List Value}
    (h : KO B W 3 1 v n (us.map encF) ((bx, boxO (.pointer (some ⟨s, 0, none⟩)) 30) :: (s, sO dv g cap pl rt seq) :: (g, rowO bs sp) :: K) w) (hn : n = us.length) (h5 : n ≤ 5) (h8 : ∀ b ∈ bs, Rb8 b) (hl : bs.length = 5) :
    Calls Tryz.prog 162 #[v, .func (.func 163) #[] #[.pointer (some ⟨bx, 0, none⟩)]] w fun e w' => e = .returned (.tuple #[]) ∧ ∃ us' : List (Fin 5), us'.Perm us ∧ KO B W 3 1 v n (us'.map encF) ((bx, boxO (.pointer (some ⟨s, 0, none⟩)) 30) :: (s, sO dv g cap pl rt seq) :: (g, rowO bs sp) :: K) w' := by
  rcases h.2 with ⟨rfl, rfl, hk⟩ | ⟨gl, lc, cur, rfl, hcap, hmax, hsz, htk, hk⟩
  · refine stable162 (by omega) ((insert_nil _ w).mono ?_)
    rintro e w' ⟨rfl, rfl⟩
    exact ⟨rfl, us, .refl _, h⟩
  · refine stable162 h5 ?_
    have hb := hk.get (g := gl) (o := .cells cur 3) List.mem_cons_self
    have hsize : us.toArray.size = n := by simp [hn]
    rw [Nat.mul_one] at htk hsz
    have hnd := hk.nodup
    simp only [List.map_cons, List.nodup_cons, List.mem_cons, not_or] at hnd
    have hH : Holds encF w gl 0 us.toArray := by
      intro j hj
      rw [hsize] at hj
      refine ⟨?_, free_at hb _⟩
      have e1 : (us.map encF)[j]? = some (encF us.toArray[j]!) := by
        have hj' : j < us.length := by omega
        simp [List.getElem?_map, List.getElem?_eq_getElem hj', hj']
      rw [cell_at hb, Nat.zero_add, ← e1, ← htk, List.getElem?_take_of_lt hj, Array.getElem?_toList]
    have hcmp : CmpReads Tryz.prog 163 #[.pointer (some ⟨bx, 0, none⟩)] encF (cfF bs) gl 0 us.toArray.size w := fun m os dk hd x y =>
      (less163 (heap_sortF' dk (hk.get (g := bx) (o := boxO (.pointer (some ⟨s, 0, none⟩)) 30) (by simp)) (fun e => hnd.1.1 e.symm)) (heap_sortF' dk (hk.get (g := s) (o := sO dv g cap pl rt seq) (by simp)) (fun e => hnd.1.2.1 e.symm)) (heap_sortF' dk (hk.get (g := g) (o := rowO bs sp) (by simp)) (fun e => hnd.1.2.2.1 e.symm)) h8 hl x y).mono (by rintro e w' ⟨rfl, rfl⟩; exact ⟨rfl, 1, rfl⟩)
    have := Any.insertionSortCmpFunc_one (P := Tryz.prog) (ρ := Tryz.insInt_ren) Tryz.insInt encF encF_one (cfF bs) 163 #[.pointer (some ⟨bx, 0, none⟩)] gl 0 lc 0 n us.toArray w (enters_of Tryz.func163 (by kernel_rfl) rfl) hcmp hH (Nat.zero_le _) (by omega) (by omega)
    rw [hsize] at this
    refine Calls.mono (show Calls Tryz.prog 230 _ _ _ from this) ?_
    rintro e w' ⟨rfl, m, rfl⟩
    rw [← sortWorld_none]
    have hp := (insertionSort_holds (lt := ltOf (cfF bs)) (swoF bs) us.toArray 0 n (Nat.zero_le _) (by omega)).1
    generalize Sort.insertionSort (ltOf (cfF bs)) us.toArray 0 n = d' at hp ⊢
    have hds : d'.size = n := hp.1.trans hsize
    have hperm : d'.toList.Perm us := by
      have h2 := hp.2.2
      have a1 : d'.extract 0 n = d' := by rw [← hds]; simp
      have a2 : us.toArray.extract 0 n = us.toArray := by rw [← hsize]; simp
      rw [a1, a2] at h2
      simpa using h2
    have ho : (sortWorld encF w gl 0 m d' #[]).ownsRow B 3 1 (.slice (some ⟨gl, 0, none⟩) n lc) n (d'.toList.map encF) := by
      refine ⟨by simp [hds], .inr ⟨gl, lc, _, rfl, (hk.kept _ List.mem_cons_self).1, heap_sortF d' hb, hcap, hmax, by simp [putCells, hsz], ?_⟩⟩
      rw [Nat.mul_one, ← hds]
      exact take_putF _ _ (by rw [hds, hsz]; exact hcap)
    exact ⟨rfl, d'.toList, hperm, h.after ho (grownBy_sortF d') (.inl rfl)⟩
end Go.Proofs.YtlcbilknfjdceaaGreatDoor
end
section
/-
  The usable blocks, the least worn first.
-/
set_option linter.unusedVariables false
set_option linter.unusedSimpArgs false
namespace Go.Proofs.YtlcbilknfjdceaaGreatDoor
open Go.RowKit Go.Lib
/-- The blocks that have a head, of the first i. -/
def goodsTo (bs : List Rb) : Nat → List (Fin 5)
  | 0 => []
  | i + 1 => goodsTo bs i ++ (if h : i < 5 then (if (bs.getD i default).head = 1 then [⟨i, h⟩] else []) else [])
theorem goods_len (bs : List Rb) : ∀ i, (goodsTo bs i).length ≤ i := by
  intro i
  induction i with
  | zero => simp [goodsTo]
  | succ i ih => rw [goodsTo, List.length_append]; split <;> (try split) <;> simp <;> omega
theorem mem_goods (bs : List Rb) (x : Fin 5) : ∀ i, x ∈ goodsTo bs i ↔ x.val < i ∧ (bs.getD x.val default).head = 1 := by
  intro i
  induction i with
  | zero => simp [goodsTo]
  | succ i ih =>
    rw [goodsTo, List.mem_append, ih]
    constructor
    · rintro (⟨a, b⟩ | h)
      · exact ⟨by omega, b⟩
      · split at h
        · split at h
          · rename_i h1
            rw [List.mem_singleton] at h
            subst h
            exact ⟨Nat.lt_succ_self _, h1⟩
          · cases h
        · cases h
    · rintro ⟨a, b⟩
      by_cases e : x.val < i
      · exact .inl ⟨e, b⟩
      · have e2 : x.val = i := by omega
        right
        have hi : i < 5 := by have := x.isLt; omega
        subst e2
        rw [dif_pos hi, if_pos b]
        simp
theorem goods_nodup (bs : List Rb) : ∀ i, (goodsTo bs i).Nodup := by
  intro i
  induction i with
  | zero => simp [goodsTo]
  | succ i ih =>
    rw [goodsTo, List.nodup_append]
    refine ⟨ih, ?_, ?_⟩
    · split <;> (try split) <;> simp
    · intro x hx y hy e
      subst e
      have h1 := ((mem_goods bs x i).1 hx).1
      split at hy
      · split at hy
        · rw [List.mem_singleton] at hy
          rw [hy] at h1
          exact absurd h1 (Nat.lt_irrefl _)
        · cases hy
      · cases hy
abbrev stB (s g cap rt : Nat) (dv pl : Value) (seq : Int) (bs : List Rb) (sp : List Value) (ck : Nat) (K : Blocks) : Blocks := (s, sO dv g cap pl (.map (some rt)) seq) :: (g, rowO bs sp) :: (rt, .map #[] ck) :: K
theorem info3 : (Tryz.prog.info? 3).map (fun i => (i.zero, i.size, i.bytes)) = some (some (.int .i64 0), 1, 8) := by kernel_rfl
theorem KO.firstCell {B : Nat} {W w : World} {e : TypeId} {sz n : Nat} {v : Value} {xs : List Value} {L : Blocks} {ob : Nat} {t : TypeId} {x y : Value} (h : KO B W e sz v n xs ((ob, .cells #[x] t) :: L) w) : KO B W e sz v n xs ((ob, .cells #[y] t) :: L) (w.setCell ⟨ob, 0, none⟩ y) :=
  h.turn fun K0 h => KW.into (KW.cell (i := 0) (vs := #[y]) (h.perm List.perm_middle) rfl)
set_option maxHeartbeats 1000000 in
set_option maxRecDepth 100000 in
theorem usable132 {B s g cap rt ck : Nat} {W w : World} {K : Blocks} {bs : List Rb} {sp : List Value} {dv pl : Value} {seq : Int} (h : KW B W (stB s g cap rt dv pl seq bs sp ck K) w) (h8 : ∀ b ∈ bs, Rb8 b) (hl : bs.length = 5) :
    Calls Tryz.prog 132 #[.pointer (some ⟨s, 0, none⟩)] w fun e w' => ∃ (bx lb : Nat) (v : Value) (us : List (Fin 5)), e = .returned (.func (.func 164) #[] #[.pointer (some ⟨lb, 0, none⟩), .pointer (some ⟨bx, 0, none⟩)]) ∧ us.Perm (goodsTo bs 5) ∧
      KO B W 3 1 v us.length (us.map encF) ((lb, boxO v 36) :: (bx, boxO (.pointer (some ⟨s, 0, none⟩)) 30) :: stB s g cap rt dv pl seq bs sp ck K) w' := by
  obtain ⟨i0, hi, hz0, hz1, hz2⟩ := info_parts info3
  have hz := zero140
  have HI := _root_.Go.Lib.hid (And.intro hi (And.intro hz0 (And.intro hz1 hz2)))
  have HH := _root_.Go.Lib.hid (And.intro h (And.intro h8 hl))
  clear h h8 hl hi hz0 hz1 hz2
  go_enter Tryz.func132, Tryz.ntmps132
  go_upto_region 2 with fail
  have hk := HH.out.1.push2 (boxO (.pointer (some ⟨s, 0, none⟩)) 30) (boxO (.slice none 0 0) 36)
  generalize World.alloc (World.alloc w _) _ = w2 at hk ⊢
  generalize w.heap.size = bx at hk ⊢
  generalize hlb : bx + 1 = lb at hk ⊢
  have m0 : w2.cell? ⟨bx, 0, none⟩ = some (.pointer (some ⟨s, 0, none⟩)) := cell_at (hk.get (g := bx) (o := boxO (.pointer (some ⟨s, 0, none⟩)) 30) (by simp)) 0
  have m1 : w2.cell? ⟨s, 1, none⟩ = some (.slice (some ⟨g, 0, none⟩) 5 cap) := cell_at (hk.get (g := s) (o := sO dv g cap pl (.map (some rt)) seq) (by simp)) 1
  have HK := _root_.Go.Lib.hid (And.intro hk hlb)
  clear hk hlb
  go_wp2_with fail
  clear m0 m1
  go_loopg [11] 5 (fun k s11 wr => ∃ (i : Nat) (v : Value), i + k = 5 ∧ s11 = .int .i64 (i : Int) ∧ KO B W 3 1 v (goodsTo bs i).length ((goodsTo bs i).map encF) ((lb, boxO v 36) :: (bx, boxO (.pointer (some ⟨s, 0, none⟩)) 30) :: stB s g cap rt dv pl seq bs sp ck K) wr)
  case atStart => exact ⟨0, _, by omega, rfl, KO.start HK.out.1⟩
  case round =>
    obtain ⟨i, v, hik, rfl, hk⟩ := hrel
    by_cases hi5 : i < 5
    · obtain ⟨_, h8, hl⟩ := HH.out
      obtain ⟨b, hbe⟩ : ∃ b, b = bs.getD i default := ⟨_, rfl⟩
      have hbm : b ∈ bs := by
        rw [hbe, List.getD_eq_getElem?_getD, List.getElem?_eq_getElem (by rw [hl]; exact hi5)]
        exact List.getElem_mem _
      have h8b := h8 b hbm
      have hg := hk.get (g := g) (o := rowO bs sp) (by simp)
      have hld := load140 h8b (o := i * 66) hg (by rw [hbe]; exact rowV_at h8 (by rw [hl]; exact hi5) sp)
      have hst := store140_new h8b wr
      have hk2 := hk.alloc (.cells (rbV b) 140)
      have HX := _root_.Go.Lib.hid (And.intro hld (And.intro hst (And.intro hk2 (And.intro hbe hik))))
      clear hld hst hk2 hbe hik hk hg hbm h8b h8 hl
      go_upto_region 5 with (first | ((with_reducible apply Mem.ld 140); rfl; exact HX.out.1) | ((with_reducible apply Mem.st 140); rfl; rfl; exact HX.out.2.1))
      obtain ⟨_, _, hk, hbe, hik⟩ := HX.out
      generalize World.alloc wr _ = w4 at hk ⊢
      generalize wr.heap.size = t5 at hk ⊢
      have mt : w4.cell? ⟨t5, 0, none⟩ = some (.int .i64 b.head) := by rw [cell_at (hk.get (g := t5) (o := .cells (rbV b) 140) (by simp)) 0]; exact rbV_head b
      have m0 : w4.cell? ⟨bx, 0, none⟩ = some (.pointer (some ⟨s, 0, none⟩)) := cell_at (hk.get (g := bx) (o := boxO (.pointer (some ⟨s, 0, none⟩)) 30) (by simp)) 0
      have m3 : w4.cell? ⟨s, 3, none⟩ = some (.map (some rt)) := cell_at (hk.get (g := s) (o := sO dv g cap pl (.map (some rt)) seq) (by simp)) 3
      have ml : w4.cell? ⟨lb, 0, none⟩ = some v := cell_at (hk.get (g := lb) (o := boxO v 36) (by simp)) 0
      have lk := look86 (hk.get (g := rt) (o := .map #[] ck) (by simp)) (i : Int)
      have hk := hk.drop
      by_cases h1 : b.head = 1
      · rw [h1] at mt
        have hgo : goodsTo bs (i + 1) = goodsTo bs i ++ [⟨i, hi5⟩] := by rw [goodsTo, dif_pos hi5, if_pos (by rw [← hbe]; exact h1)]
        have hgl := goods_len bs i
        have HB := _root_.Go.Lib.hid (And.intro hk (And.intro hgo hik))
        clear hk hgo hik HX h1 hbe
        go_wp2_with (at_builtin; refine wpList_append_ko rfl _ _ 36 rfl i0 _ 8 Tryz.underlying36 HI.out.1 HI.out.2.1 HI.out.2.2.1 HI.out.2.2.2 rfl (by decide) rfl (HB.out.1.alloc _) ⟨_, 0, none⟩ 1 1 [.int .i64 (i : Int)] rfl rfl (news_mid (off := 0) (m := 1) (heap_alloc_new _ _) rfl) (by simp [Value.oneCell']) (by unfold maxLen; omega) (by omega) ?_)
        rintro v' w5 hk5 -
        have hk6 := hk5.drop
        obtain ⟨vp, vc, rfl⟩ := hk6.shape
        have m5 : w5.cell? ⟨lb, 0, none⟩ = some v := cell_at (hk6.get (g := lb) (o := boxO v 36) (by simp)) 0
        have f5 : w5.frozen? ⟨lb, 0, none⟩ = false := free_at (hk6.get (g := lb) (o := boxO v 36) (by simp)) 0
        have hk7 := hk6.firstCell (y := .slice vp ((goodsTo bs i).length + 1) vc)
        have hk8 : KO B W 3 1 (.slice vp ((goodsTo bs i).length + 1) vc) (goodsTo bs (i + 1)).length ((goodsTo bs (i + 1)).map encF) ((lb, boxO (.slice vp ((goodsTo bs i).length + 1) vc) 36) :: (bx, boxO (.pointer (some ⟨s, 0, none⟩)) 30) :: stB s g cap rt dv pl seq bs sp ck K) (w5.setCell ⟨lb, 0, none⟩ (.slice vp ((goodsTo bs i).length + 1) vc)) := by
          rw [HB.out.2.1, List.length_append, List.map_append]
          exact hk7
        have H8 := _root_.Go.Lib.hid hk8
        clear hk5 hk6 hk7 hk8 mt m0 m3 ml lk
        go_wp2_with fail
        go_roundg (5 - (i + 1))
        case measure => have := HB.out.2.2; omega
        case rel => exact ⟨i + 1, _, by omega, by first | rfl | go_num, H8.out⟩
      · have hne : (b.head == 1) = false := by simp [h1]
        have hgo : goodsTo bs (i + 1) = goodsTo bs i := by rw [goodsTo, dif_pos hi5, if_neg (by rw [← hbe]; exact h1), List.append_nil]
        rw [← hgo] at hk
        generalize b.head = hv at mt hne
        have HB := _root_.Go.Lib.hid (And.intro hk hik)
        clear hk hgo hik HX h1 hbe
        go_wp2_with fail
        go_roundg (5 - (i + 1))
        case measure => have := HB.out.2; omega
        case rel => exact ⟨i + 1, v, by omega, by first | rfl | go_num, HB.out.1⟩
    · have e : i = 5 := by omega
      subst e
      obtain ⟨_, h8, hl⟩ := HH.out
      have ml : wr.cell? ⟨lb, 0, none⟩ = some v := cell_at (hk.get (g := lb) (o := boxO v 36) (by simp)) 0
      have hk2 : KO B W 3 1 v (goodsTo bs 5).length ((goodsTo bs 5).map encF) ((bx, boxO (.pointer (some ⟨s, 0, none⟩)) 30) :: (s, sO dv g cap pl (.map (some rt)) seq) :: (g, rowO bs sp) :: ((rt, .map #[] ck) :: K ++ [(lb, boxO v 36)])) wr := hk.perm (List.perm_append_comm (l₁ := [(lb, boxO v 36)]))
      have hc := sort162 hk2 rfl (goods_len bs 5) h8 hl
      have HC := _root_.Go.Lib.hid hc
      obtain ⟨vp, vc, rfl⟩ := hk.shape
      clear hk hk2 hc h8 hl
      go_wp2_with fail
      refine HC.out.mono ?_
      rintro e w6 ⟨rfl, us, hp, hk⟩
      have H6 := _root_.Go.Lib.hid (And.intro hp hk)
      clear hp hk ml
      go_wp2_with fail
      go_ret
      obtain ⟨hp, hk⟩ := H6.out
      rw [← hp.length_eq] at hk
      exact ⟨bx, lb, _, us, rfl, hp, hk.perm (List.perm_append_comm (l₁ := (bx, boxO (.pointer (some ⟨s, 0, none⟩)) 30) :: stB s g cap rt dv pl seq bs sp ck K) (l₂ := [(lb, boxO (.slice vp us.length vc) 36)]))⟩
end Go.Proofs.YtlcbilknfjdceaaGreatDoor
end
section
/-
  The usable blocks, given one by one.
-/
set_option linter.unusedVariables false
set_option linter.unusedSimpArgs false
namespace Go.Proofs.YtlcbilknfjdceaaGreatDoor
open Go.RowKit Go.Lib
attribute [local go_sem] Oper.semAt_some
def encU (bs : List Rb) (x : Fin 5) : Array Value := #[.int .i64 (x.val : Int), .agg (rbV (bs.getD x.val default))]
abbrev usK (bx lb s g cap rt : Nat) (v dv pl : Value) (seq : Int) (bs : List Rb) (sp : List Value) (Ks : Blocks) : Blocks := (lb, boxO v 36) :: (bx, boxO (.pointer (some ⟨s, 0, none⟩)) 30) :: (s, sO dv g cap pl (.map (some rt)) seq) :: (g, rowO bs sp) :: Ks
theorem OwnR.shape {e : TypeId} {sz n : Nat} {v : Value} {xs : List Value} {Ks : Blocks} (h : OwnR e sz v n xs Ks) : ∃ p c, v = .slice p n c := by
  rcases h.2 with ⟨rfl, rfl, _⟩ | ⟨_, _, _, rfl, _⟩ <;> exact ⟨_, _, rfl⟩
set_option maxHeartbeats 1000000 in
set_option maxRecDepth 100000 in
theorem us_iter {bx lb s g cap rt : Nat} {v dv pl : Value} {seq : Int} {bs : List Rb} {sp : List Value} {Ks : Blocks} {us : List (Fin 5)} (h8 : ∀ b ∈ bs, Rb8 b) (hl : bs.length = 5) (ho : OwnR 3 1 v us.length (us.map encF) Ks) (h5 : us.length ≤ 5) :
    Iter 164 #[.pointer (some ⟨lb, 0, none⟩), .pointer (some ⟨bx, 0, none⟩)] (encU bs) (usK bx lb s g cap rt v dv pl seq bs sp Ks) us := by
  intro n B W0 σ R Rx KK l hY K0 W hJ
  obtain ⟨p, c, hv⟩ := ho.shape
  have hJJ : ∀ {pre K0 W}, Jn R KK B W0 pre (usK bx lb s g cap rt v dv pl seq bs sp Ks ++ K0) W → W.cell? ⟨lb, 0, none⟩ = some v ∧ W.cell? ⟨bx, 0, none⟩ = some (.pointer (some ⟨s, 0, none⟩)) ∧ W.cell? ⟨s, 1, none⟩ = some (.slice (some ⟨g, 0, none⟩) 5 cap) ∧ W.heap[g]? = some (rowO bs sp) := by
    rintro pre K0 W ⟨s', _, hk⟩
    exact ⟨cell_at (hk.get (g := lb) (o := boxO v 36) (by simp)) 0, cell_at (hk.get (g := bx) (o := boxO (.pointer (some ⟨s, 0, none⟩)) 30) (by simp)) 0, cell_at (hk.get (g := s) (o := sO dv g cap pl (.map (some rt)) seq) (by simp)) 1, hk.get (g := g) (o := rowO bs sp) (by simp)⟩
  have hc : ∀ {pre K0 W} (i : Nat) (x : Fin 5), us[i]? = some x → Jn R KK B W0 pre (usK bx lb s g cap rt v dv pl seq bs sp Ks ++ K0) W → ∃ gl, p = some ⟨gl, 0, none⟩ ∧ W.cell? ⟨gl, i, none⟩ = some (.int .i64 (x.val : Int)) := by
    rintro pre K0 W i x hx ⟨s', _, hk⟩
    rcases ho.2 with ⟨_, h0, _⟩ | ⟨gl, lc, cur, hv', _, _, hsz, htk, hK⟩
    · rw [List.length_eq_zero_iff.1 h0] at hx
      cases hx
    · rw [hv] at hv'
      simp only [Value.slice.injEq] at hv'
      refine ⟨gl, hv'.1, ?_⟩
      have hg := hk.get (g := gl) (o := .cells cur 3) (by rw [hK]; simp)
      rw [cell_at hg]
      have hi : i < us.length := (List.getElem?_eq_some_iff.1 hx).1
      have e1 : (us.map encF)[i]? = some (encF x) := by rw [List.getElem?_map, hx]; rfl
      rw [← htk, Nat.mul_one, List.getElem?_take_of_lt hi, Array.getElem?_toList] at e1
      exact e1
  generalize hn : us.length = m at *
  have m0 := (hJJ hJ).1
  rw [hv] at m0
  have HJ := _root_.Go.Lib.hid (And.intro hJ (And.intro hY (And.intro h8 (And.intro hl (And.intro hn hv)))))
  have HC := _root_.Go.Lib.hid (And.intro @hc @hJJ)
  clear hJ hY h8 hl hn hc hJJ ho hv
  refine callsIn_of_wp Tryz.func164 rfl trivial ?_ rfl
  simp only [Tryz.ntmps164, List.size_toArray, List.length_cons, List.length_nil, Nat.reduceAdd, Nat.reduceSub, Array.replicate_succ, Array.replicate_zero, List.push_toArray, List.append_toArray, List.nil_append, List.cons_append]
  gi_wp2
  clear m0
  gi_loopw [8] (fun q wr => ∃ i : Nat, i ≤ m ∧ q = .int .i64 (i : Int) ∧ Jn R KK B W0 (us.take i) (usK bx lb s g cap rt v dv pl seq bs sp Ks ++ K0) wr) (fun q _ => m - (intOf q).toNat)
  case atStart => exact ⟨0, by omega, rfl, HJ.out.1⟩
  case round =>
    obtain ⟨i, him, rfl, hJ⟩ := hrel
    by_cases hi : i < m
    · obtain ⟨x, hx⟩ : ∃ x, us[i]? = some x := ⟨_, List.getElem?_eq_getElem (by rw [HJ.out.2.2.2.2.1]; exact hi)⟩
      have hf : us = us.take i ++ x :: us.drop (i + 1) := by
        have h1 := List.getElem?_eq_some_iff.1 hx
        rw [← h1.2, ← List.drop_eq_getElem_cons h1.1, List.take_append_drop]
      have e1 : us.take (i + 1) = us.take i ++ [x] := by
        have h1 := List.getElem?_eq_some_iff.1 hx
        rw [List.take_succ_eq_append_getElem h1.1, h1.2]
      obtain ⟨gl, rfl, mx⟩ := HC.out.1 i x hx hJ
      obtain ⟨_, mb, ms, hg⟩ := HC.out.2 hJ
      obtain ⟨b, hbe⟩ : ∃ b, b = bs.getD x.val default := ⟨_, rfl⟩
      have h8b : Rb8 b := by
        apply HJ.out.2.2.1
        rw [hbe, List.getD_eq_getElem?_getD, List.getElem?_eq_getElem (by rw [HJ.out.2.2.2.1]; exact x.isLt)]
        exact List.getElem_mem _
      have hld := load140 h8b (o := x.val * 66) hg (by rw [hbe]; exact rowV_at HJ.out.2.2.1 (by rw [HJ.out.2.2.2.1]; exact x.isLt) sp)
      obtain ⟨fn, tmps, assign, body, hy, hR⟩ := HJ.out.2.1 _ _ _ K0 wr hf hJ
      rw [← e1] at hR
      have x5 : ((x.val : Nat) : Int) < 5 := by have := x.isLt; omega
      simp only [encU] at hy
      rw [← hbe] at hy
      have HE := _root_.Go.Lib.hid (And.intro hld (And.intro hf e1))
      clear hJ hx hld hg h8b hbe hf e1
      generalize hxv : x.val = xv at *
      gi_wp2_with ((with_reducible apply Mem.ldIn 140); rfl; exact HE.out.1)
      refine hR.mono ?_
      rintro e W3 (⟨rfl, hJ3⟩ | ⟨rfl, hJ3⟩)
      · have H3 := _root_.Go.Lib.hid hJ3
        clear hJ3
        gi_wp2
        go_roundw
        case rel => exact ⟨i + 1, by omega, by first | rfl | go_num, H3.out⟩
        case measure => simp [intOf]; omega
      · have H3 := _root_.Go.Lib.hid hJ3
        clear hJ3
        gi_wp2
        refine bodyPost_ret (results_none rfl _ _ _) rfl ?_
        refine ⟨⟨_, rfl⟩, .inr ⟨_, x, _, HE.out.2.1, ?_⟩⟩
        rw [← HE.out.2.2]
        exact H3.out
    · have e : i = m := by omega
      subst e
      have HJ8 := _root_.Go.Lib.hid hJ
      clear hJ
      gi_wp2
      go_end0
      refine ⟨⟨_, rfl⟩, .inl ?_⟩
      have := HJ8.out
      rw [List.take_of_length_le (by rw [HJ.out.2.2.2.2.1]; exact Nat.le_refl _)] at this
      exact this
end Go.Proofs.YtlcbilknfjdceaaGreatDoor
end
section
/-
  An empty block, and one that is begun.
-/
set_option linter.unusedVariables false
set_option linter.unusedSimpArgs false
namespace Go.Proofs.YtlcbilknfjdceaaGreatDoor
open Go.RowKit Go.Lib
attribute [local go_sem] Oper.semAt_some
abbrev bOf (bs : List Rb) (x : Fin 5) : Rb := bs.getD x.val default
theorem bOf8 {bs : List Rb} (h8 : ∀ b ∈ bs, Rb8 b) (hl : bs.length = 5) (x : Fin 5) : Rb8 (bOf bs x) := by
  apply h8
  unfold bOf
  rw [List.getD_eq_getElem?_getD, List.getElem?_eq_getElem (by rw [hl]; exact x.isLt)]
  exact List.getElem_mem _
theorem seek_out {B : Nat} {W w : World} {p q r : Nat × Obj} {c : Nat × Obj} {Ks K : Blocks} (h : KW B W (p :: q :: (Ks ++ (r :: K)) ++ [c]) w) : KW B W (p :: q :: r :: K) w := by
  have h1 := KW.cut [p, q] Ks (r :: K ++ [c]) (by simpa [List.append_assoc] using h)
  exact KW.outof (L := p :: q :: r :: K) (K := []) (by simpa using h1) |>.perm (by simp)
set_option maxHeartbeats 1000000 in
set_option maxRecDepth 100000 in
theorem empty96 {B s g cap rt ck : Nat} {V w : World} {K : Blocks} {bs : List Rb} {sp : List Value} {dv pl : Value} {seq : Int} (h : KW B V (stB s g cap rt dv pl seq bs sp ck K) w) (h8 : ∀ b ∈ bs, Rb8 b) (hl : bs.length = 5) :
    Calls Tryz.prog 96 #[.pointer (some ⟨s, 0, none⟩)] w fun e w' => (∃ r : Int, e = .returned (.int .i64 r) ∧ ((∃ x : Fin 5, r = (x.val : Int) ∧ (bOf bs x).head = 1 ∧ emptyB (bOf bs x) = true) ∨ (r = -1 ∧ ∀ x : Fin 5, (bOf bs x).head = 1 → emptyB (bOf bs x) = false))) ∧ KW B V (stB s g cap rt dv pl seq bs sp ck K) w' := by
  have hz := zero140
  have HH := _root_.Go.Lib.hid (And.intro h (And.intro h8 hl))
  have h2 := h.push (boxO (.int .i64 0) 3)
  have h3 : KW B V (stB s g cap rt dv pl seq bs sp ck (K ++ [(w.heap.size, boxO (.int .i64 0) 3)])) (w.alloc (boxO (.int .i64 0) 3)) := h2.perm (List.perm_append_comm (l₁ := [(w.heap.size, boxO (.int .i64 0) 3)]) (l₂ := stB s g cap rt dv pl seq bs sp ck K))
  have HC := _root_.Go.Lib.hid (usable132 h3 h8 hl)
  clear h h2 h3 h8 hl
  refine (callsIn_wide (n := 9)).1 ?_
  refine callsIn_of_wp_marks Tryz.func96 rfl trivial ?_ rfl
  simp only [Tryz.ntmps96, List.size_toArray, List.length_cons, List.length_nil, Nat.reduceAdd, Nat.reduceSub, Array.replicate_succ, Array.replicate_zero, List.push_toArray, List.append_toArray, List.nil_append, List.cons_append]
  gi_wp2_with fail
  refine ⟨trivial, ?_⟩
  refine (callsIn_wide.2 HC.out).mono ?_
  rintro e w2 ⟨bx, lb, v, us, rfl, hp, hk⟩
  generalize w.heap.size = rc at hk ⊢
  obtain ⟨Ks, ho, hk⟩ := KO.ownR (K0 := (lb, boxO v 36) :: (bx, boxO (.pointer (some ⟨s, 0, none⟩)) 30) :: (s, sO dv g cap pl (.map (some rt)) seq) :: (g, rowO bs sp) :: []) (Kc := (rt, .map #[] ck) :: (K ++ [(rc, boxO (.int .i64 0) 3)])) hk
  have hk3 : KW B V (usK bx lb s g cap rt v dv pl seq bs sp Ks ++ ((rt, .map #[] ck) :: K) ++ [(rc, boxO (.int .i64 0) 3)]) w2 := by simpa [List.append_assoc] using hk
  have h5 : us.length ≤ 5 := by rw [hp.length_eq]; exact goods_len bs 5
  have HK := _root_.Go.Lib.hid (And.intro hk3 (And.intro hp (And.intro ho h5)))
  clear hk hk3 hp ho h5 HC
  gi_wp2_with fail
  refine wpIn_range_kw (n := 7) (gf := 164) (lb := #[.pointer (some ⟨lb, 0, none⟩), .pointer (some ⟨bx, 0, none⟩)]) rfl (enters_of Tryz.func164 (by kernel_rfl) rfl) (us_iter (dv := dv) (pl := pl) (seq := seq) (sp := sp) (cap := cap) (rt := rt) (s := s) (g := g) (bx := bx) (lb := lb) HH.out.2.1 HH.out.2.2 HK.out.2.2.1 HK.out.2.2.2) (fun _ => rfl)
    (fun pre r => r = 0 ∧ ∀ x ∈ pre, emptyB (bOf bs x) = false) (fun c pre r => c = .ret ∧ ∃ x ∈ pre, r = (x.val : Int) ∧ emptyB (bOf bs x) = true) (fun r : Int => [(rc, boxO (.int .i64 r) 3)])
    (fun x a' Kx => ∃ gb, Kx = [(gb, .cells (rbV (bOf bs x)) 140)] ∧ a' = { tmps := #[.pointer (some ⟨s, 0, none⟩), undef, .pointer (some ⟨rc, 0, none⟩), .int .i64 (x.val : Int), .pointer (some ⟨gb, 0, none⟩), .pointer (some ⟨s, 0, none⟩), .func (.func 164) #[] #[.pointer (some ⟨lb, 0, none⟩), .pointer (some ⟨bx, 0, none⟩)], .int .i64 (x.val : Int), .agg (rbV (bOf bs x)), undef, undef, undef], defers := [] }) (K0 := (rt, .map #[] ck) :: K) ⟨0, ⟨rfl, fun _ h => (by cases h)⟩, HK.out.1⟩ ?assign ?body ?done ?stop
  case assign =>
    rintro l x pre K1 r W hk
    have h8b := bOf8 HH.out.2.1 HH.out.2.2 x
    have hst := store140_new h8b W
    have hk2 := hk.push (.cells (rbV (bOf bs x)) 140)
    have HX := _root_.Go.Lib.hid (And.intro hst hk2)
    clear hk hk2 hst
    simp only [encU]
    rw [show bs.getD x.val default = bOf bs x from rfl]
    generalize bOf bs x = b at *
    gi_wp2_with ((with_reducible apply Mem.stIn 140); rfl; rfl; exact HX.out.1)
    refine ⟨[(W.heap.size, .cells (rbV b) 140)], ⟨_, rfl, rfl⟩, ?_⟩
    have := HX.out.2
    exact this.perm (by
      have e := List.perm_append_comm_assoc [(W.heap.size, Obj.cells (rbV b) 140)] (usK bx lb s g cap rt v dv pl seq bs sp Ks) (K1 ++ [(rc, boxO (.int .i64 r) 3)])
      simpa [List.append_assoc] using e)
  case body =>
    rintro l pre x post a' Kx K1 r W hf ⟨gb, rfl, rfl⟩ hR - hk
    have h8b := bOf8 HH.out.2.1 HH.out.2.2 x
    have hxm : x ∈ us := by rw [hf]; simp
    generalize hbe : bOf bs x = b at *
    have hld := load140_0 h8b (hk.get (g := gb) (o := .cells (rbV b) 140) (by simp))
    have hc := empty_calls b h8b W
    have HX := _root_.Go.Lib.hid (And.intro hld (And.intro hc (And.intro hk (And.intro hR hbe))))
    clear hld hc hk hR hbe h8b
    gi_wp2_with ((with_reducible apply Mem.ldIn 140); rfl; exact HX.out.1)
    refine ⟨trivial, ?_⟩
    refine (CallsIn.inRound l (callsIn_wide.2 HX.out.2.1)).mono ?_
    rintro e w5 ⟨rfl, hb⟩
    have hk := HX.out.2.2.1.grown hb
    have m5 : w5.cell? ⟨rc, 0, none⟩ = some (.int .i64 r) := cell_at (hk.get (g := rc) (o := boxO (.int .i64 r) 3) (by simp)) 0
    have f5 : w5.frozen? ⟨rc, 0, none⟩ = false := free_at (hk.get (g := rc) (o := boxO (.int .i64 r) 3) (by simp)) 0
    cases hem : emptyB b with
    | true =>
      have hs : KW B V (usK bx lb s g cap rt v dv pl seq bs sp Ks ++ ([(gb, .cells (rbV b) 140)] ++ K1) ++ [(rc, boxO (.int .i64 (x.val : Int)) 3)]) (w5.setCell ⟨rc, 0, none⟩ (.int .i64 (x.val : Int))) := hk.lastCell
      have H5 := _root_.Go.Lib.hid hs
      have HX2 := _root_.Go.Lib.hid (And.intro HX.out.2.2.2.2 hem)
      clear hk hs hb HX hem
      gi_wp2_with fail
      exact ⟨_, ⟨rfl, x, by simp, rfl, by rw [HX2.out.1]; exact HX2.out.2⟩, H5.out⟩
    | false =>
      obtain ⟨_, _, _, hR, hbe⟩ := HX.out
      have H5 := _root_.Go.Lib.hid (And.intro hk (And.intro hR (And.intro hbe hem)))
      clear hk hb HX hem hR hbe
      gi_wp2_with fail
      obtain ⟨hk, hR, hbe, hem⟩ := H5.out
      refine ⟨r, ⟨hR.1, fun y hy => ?_⟩, hk⟩
      rcases List.mem_append.1 hy with hy | hy
      · exact hR.2 y hy
      · rw [List.mem_singleton.1 hy, hbe]
        exact hem
  case done =>
    rintro D r W5 hR hk
    have m : W5.cell? ⟨rc, 0, none⟩ = some (.int .i64 r) := cell_at (hk.get (g := rc) (o := boxO (.int .i64 r) 3) (by simp)) 0
    have f : W5.frozen? ⟨rc, 0, none⟩ = false := free_at (hk.get (g := rc) (o := boxO (.int .i64 r) 3) (by simp)) 0
    have hs : KW B V ((D, .deferred (some [])) :: (usK bx lb s g cap rt v dv pl seq bs sp Ks ++ ((rt, .map #[] ck) :: K)) ++ [(rc, boxO (.int .i64 (-1)) 3)]) (W5.setCell ⟨rc, 0, none⟩ (.int .i64 (-1))) := hk.lastCell
    have HS := _root_.Go.Lib.hid (And.intro hs hR)
    clear hk hs hR
    gi_wp2
    have h2 := HS.out.1
    generalize W5.setCell _ _ = W2 at h2 ⊢
    refine ⟨by simp, .inl ⟨_, _, rfl, run_takeDeferred (h2.get (g := D) (o := .deferred (some [])) (by simp)), ?_⟩⟩
    have h3 : KW B V _ (W2.putObj D (.deferred none)) := KW.putMid (L := []) h2
    have mc : (W2.putObj D (.deferred none)).cell? ⟨rc, 0, none⟩ = some (.int .i64 (-1)) := cell_at (h3.get (g := rc) (o := boxO (.int .i64 (-1)) 3) (by simp)) 0
    refine ⟨.int .i64 (-1), by simp [results, Tryz.results96, go_sem, mc], ⟨-1, rfl, .inr ⟨rfl, fun y hy => ?_⟩⟩, ?_⟩
    · refine HS.out.2.2 y ?_
      rw [HK.out.2.1.mem_iff, mem_goods]
      exact ⟨y.isLt, hy⟩
    · exact seek_out (KW.cut [] [(D, .deferred none), (lb, boxO v 36), (bx, boxO (.pointer (some ⟨s, 0, none⟩)) 30)] _ h3)
  case stop =>
    rintro D c pre x post r W5 hf ⟨rfl, y, hy, hr, he⟩ hk
    have H5 := _root_.Go.Lib.hid hk
    clear hk
    gi_wp2
    have h2 := H5.out
    refine ⟨by simp, .inl ⟨_, _, rfl, run_takeDeferred (h2.get (g := D) (o := .deferred (some [])) (by simp)), ?_⟩⟩
    have h3 : KW B V _ (W5.putObj D (.deferred none)) := KW.putMid (L := []) h2
    have mc : (W5.putObj D (.deferred none)).cell? ⟨rc, 0, none⟩ = some (.int .i64 r) := cell_at (h3.get (g := rc) (o := boxO (.int .i64 r) 3) (by simp)) 0
    refine ⟨.int .i64 r, by simp [results, Tryz.results96, go_sem, mc], ⟨r, rfl, .inl ⟨y, hr, ?_, he⟩⟩, ?_⟩
    · have hyu : y ∈ us := by
        rw [hf]
        rcases List.mem_append.1 hy with hy | hy
        · simp [hy]
        · simp [List.mem_singleton.1 hy]
      rw [HK.out.2.1.mem_iff, mem_goods] at hyu
      exact hyu.2
    · exact seek_out (KW.cut [] [(D, .deferred none), (lb, boxO v 36), (bx, boxO (.pointer (some ⟨s, 0, none⟩)) 30)] _ h3)
/-- It is begun, and has room. -/
def begunB (b : Rb) : Bool := decide (0 < nextB b)
set_option maxHeartbeats 1000000 in
set_option maxRecDepth 100000 in
theorem begun94 {B s g cap rt ck : Nat} {V w : World} {K : Blocks} {bs : List Rb} {sp : List Value} {dv pl : Value} {seq : Int} (h : KW B V (stB s g cap rt dv pl seq bs sp ck K) w) (h8 : ∀ b ∈ bs, Rb8 b) (hl : bs.length = 5) :
    Calls Tryz.prog 94 #[.pointer (some ⟨s, 0, none⟩)] w fun e w' => (∃ r : Int, e = .returned (.int .i64 r) ∧ ((∃ x : Fin 5, r = (x.val : Int) ∧ (bOf bs x).head = 1 ∧ begunB (bOf bs x) = true) ∨ (r = -1 ∧ ∀ x : Fin 5, (bOf bs x).head = 1 → begunB (bOf bs x) = false))) ∧ KW B V (stB s g cap rt dv pl seq bs sp ck K) w' := by
  have hz := zero140
  have HH := _root_.Go.Lib.hid (And.intro h (And.intro h8 hl))
  have h2 := h.push (boxO (.int .i64 0) 3)
  have h3 : KW B V (stB s g cap rt dv pl seq bs sp ck (K ++ [(w.heap.size, boxO (.int .i64 0) 3)])) (w.alloc (boxO (.int .i64 0) 3)) := h2.perm (List.perm_append_comm (l₁ := [(w.heap.size, boxO (.int .i64 0) 3)]) (l₂ := stB s g cap rt dv pl seq bs sp ck K))
  have HC := _root_.Go.Lib.hid (usable132 h3 h8 hl)
  clear h h2 h3 h8 hl
  refine (callsIn_wide (n := 9)).1 ?_
  refine callsIn_of_wp_marks Tryz.func94 rfl trivial ?_ rfl
  simp only [Tryz.ntmps94, List.size_toArray, List.length_cons, List.length_nil, Nat.reduceAdd, Nat.reduceSub, Array.replicate_succ, Array.replicate_zero, List.push_toArray, List.append_toArray, List.nil_append, List.cons_append]
  gi_wp2_with fail
  refine ⟨trivial, ?_⟩
  refine (callsIn_wide.2 HC.out).mono ?_
  rintro e w2 ⟨bx, lb, v, us, rfl, hp, hk⟩
  generalize w.heap.size = rc at hk ⊢
  obtain ⟨Ks, ho, hk⟩ := KO.ownR (K0 := (lb, boxO v 36) :: (bx, boxO (.pointer (some ⟨s, 0, none⟩)) 30) :: (s, sO dv g cap pl (.map (some rt)) seq) :: (g, rowO bs sp) :: []) (Kc := (rt, .map #[] ck) :: (K ++ [(rc, boxO (.int .i64 0) 3)])) hk
  have hk3 : KW B V (usK bx lb s g cap rt v dv pl seq bs sp Ks ++ ((rt, .map #[] ck) :: K) ++ [(rc, boxO (.int .i64 0) 3)]) w2 := by simpa [List.append_assoc] using hk
  have h5 : us.length ≤ 5 := by rw [hp.length_eq]; exact goods_len bs 5
  have HK := _root_.Go.Lib.hid (And.intro hk3 (And.intro hp (And.intro ho h5)))
  clear hk hk3 hp ho h5 HC
  gi_wp2_with fail
  refine wpIn_range_kw (n := 7) (gf := 164) (lb := #[.pointer (some ⟨lb, 0, none⟩), .pointer (some ⟨bx, 0, none⟩)]) rfl (enters_of Tryz.func164 (by kernel_rfl) rfl) (us_iter (dv := dv) (pl := pl) (seq := seq) (sp := sp) (cap := cap) (rt := rt) (s := s) (g := g) (bx := bx) (lb := lb) HH.out.2.1 HH.out.2.2 HK.out.2.2.1 HK.out.2.2.2) (fun _ => rfl)
    (fun pre r => r = 0 ∧ ∀ x ∈ pre, begunB (bOf bs x) = false) (fun c pre r => c = .ret ∧ ∃ x ∈ pre, r = (x.val : Int) ∧ begunB (bOf bs x) = true) (fun r : Int => [(rc, boxO (.int .i64 r) 3)])
    (fun x a' Kx => ∃ gb, Kx = [(gb, .cells (rbV (bOf bs x)) 140)] ∧ a' = { tmps := #[.pointer (some ⟨s, 0, none⟩), undef, .pointer (some ⟨rc, 0, none⟩), .int .i64 (x.val : Int), .pointer (some ⟨gb, 0, none⟩), .pointer (some ⟨s, 0, none⟩), .func (.func 164) #[] #[.pointer (some ⟨lb, 0, none⟩), .pointer (some ⟨bx, 0, none⟩)], .int .i64 (x.val : Int), .agg (rbV (bOf bs x)), undef, undef, undef, undef], defers := [] }) (K0 := (rt, .map #[] ck) :: K) ⟨0, ⟨rfl, fun _ h => (by cases h)⟩, HK.out.1⟩ ?assign ?body ?done ?stop
  case assign =>
    rintro l x pre K1 r W hk
    have h8b := bOf8 HH.out.2.1 HH.out.2.2 x
    have hst := store140_new h8b W
    have hk2 := hk.push (.cells (rbV (bOf bs x)) 140)
    have HX := _root_.Go.Lib.hid (And.intro hst hk2)
    clear hk hk2 hst
    simp only [encU]
    rw [show bs.getD x.val default = bOf bs x from rfl]
    generalize bOf bs x = b at *
    gi_wp2_with ((with_reducible apply Mem.stIn 140); rfl; rfl; exact HX.out.1)
    refine ⟨[(W.heap.size, .cells (rbV b) 140)], ⟨_, rfl, rfl⟩, ?_⟩
    have := HX.out.2
    exact this.perm (by
      have e := List.perm_append_comm_assoc [(W.heap.size, Obj.cells (rbV b) 140)] (usK bx lb s g cap rt v dv pl seq bs sp Ks) (K1 ++ [(rc, boxO (.int .i64 r) 3)])
      simpa [List.append_assoc] using e)
  case body =>
    rintro l pre x post a' Kx K1 r W hf ⟨gb, rfl, rfl⟩ hR - hk
    have h8b := bOf8 HH.out.2.1 HH.out.2.2 x
    have hxm : x ∈ us := by rw [hf]; simp
    generalize hbe : bOf bs x = b at *
    have hld := load140_0 h8b (hk.get (g := gb) (o := .cells (rbV b) 140) (by simp))
    have hc := next_calls b h8b.k8 W
    have HX := _root_.Go.Lib.hid (And.intro hld (And.intro hc (And.intro hk (And.intro hR hbe))))
    clear hld hc hk hR hbe h8b
    gi_wp2_with ((with_reducible apply Mem.ldIn 140); rfl; exact HX.out.1)
    refine ⟨trivial, ?_⟩
    refine (CallsIn.inRound l (callsIn_wide.2 HX.out.2.1)).mono ?_
    rintro e w5 ⟨rfl, hb⟩
    have hk := HX.out.2.2.1.grown hb
    have m5 : w5.cell? ⟨rc, 0, none⟩ = some (.int .i64 r) := cell_at (hk.get (g := rc) (o := boxO (.int .i64 r) 3) (by simp)) 0
    have f5 : w5.frozen? ⟨rc, 0, none⟩ = false := free_at (hk.get (g := rc) (o := boxO (.int .i64 r) 3) (by simp)) 0
    cases hem : begunB b with
    | true =>
      have hs : KW B V (usK bx lb s g cap rt v dv pl seq bs sp Ks ++ ([(gb, .cells (rbV b) 140)] ++ K1) ++ [(rc, boxO (.int .i64 (x.val : Int)) 3)]) (w5.setCell ⟨rc, 0, none⟩ (.int .i64 (x.val : Int))) := hk.lastCell
      have H5 := _root_.Go.Lib.hid hs
      have HX2 := _root_.Go.Lib.hid (And.intro HX.out.2.2.2.2 hem)
      have hq : 0 < nextB b := of_decide_eq_true hem
      generalize nextB b = q at hq ⊢
      clear hk hs hb HX hem
      gi_wp2_with fail
      exact ⟨_, ⟨rfl, x, by simp, rfl, by rw [HX2.out.1]; exact HX2.out.2⟩, H5.out⟩
    | false =>
      obtain ⟨_, _, _, hR, hbe⟩ := HX.out
      have H5 := _root_.Go.Lib.hid (And.intro hk (And.intro hR (And.intro hbe hem)))
      have hq : ¬ 0 < nextB b := of_decide_eq_false hem
      generalize nextB b = q at hq ⊢
      clear hk hb HX hem hR hbe
      gi_wp2_with fail
      obtain ⟨hk, hR, hbe, hem⟩ := H5.out
      refine ⟨r, ⟨hR.1, fun y hy => ?_⟩, hk⟩
      rcases List.mem_append.1 hy with hy | hy
      · exact hR.2 y hy
      · rw [List.mem_singleton.1 hy, hbe]
        exact hem
  case done =>
    rintro D r W5 hR hk
    have m : W5.cell? ⟨rc, 0, none⟩ = some (.int .i64 r) := cell_at (hk.get (g := rc) (o := boxO (.int .i64 r) 3) (by simp)) 0
    have f : W5.frozen? ⟨rc, 0, none⟩ = false := free_at (hk.get (g := rc) (o := boxO (.int .i64 r) 3) (by simp)) 0
    have hs : KW B V ((D, .deferred (some [])) :: (usK bx lb s g cap rt v dv pl seq bs sp Ks ++ ((rt, .map #[] ck) :: K)) ++ [(rc, boxO (.int .i64 (-1)) 3)]) (W5.setCell ⟨rc, 0, none⟩ (.int .i64 (-1))) := hk.lastCell
    have HS := _root_.Go.Lib.hid (And.intro hs hR)
    clear hk hs hR
    gi_wp2
    have h2 := HS.out.1
    generalize W5.setCell _ _ = W2 at h2 ⊢
    refine ⟨by simp, .inl ⟨_, _, rfl, run_takeDeferred (h2.get (g := D) (o := .deferred (some [])) (by simp)), ?_⟩⟩
    have h3 : KW B V _ (W2.putObj D (.deferred none)) := KW.putMid (L := []) h2
    have mc : (W2.putObj D (.deferred none)).cell? ⟨rc, 0, none⟩ = some (.int .i64 (-1)) := cell_at (h3.get (g := rc) (o := boxO (.int .i64 (-1)) 3) (by simp)) 0
    refine ⟨.int .i64 (-1), by simp [results, Tryz.results94, go_sem, mc], ⟨-1, rfl, .inr ⟨rfl, fun y hy => ?_⟩⟩, ?_⟩
    · refine HS.out.2.2 y ?_
      rw [HK.out.2.1.mem_iff, mem_goods]
      exact ⟨y.isLt, hy⟩
    · exact seek_out (KW.cut [] [(D, .deferred none), (lb, boxO v 36), (bx, boxO (.pointer (some ⟨s, 0, none⟩)) 30)] _ h3)
  case stop =>
    rintro D c pre x post r W5 hf ⟨rfl, y, hy, hr, he⟩ hk
    have H5 := _root_.Go.Lib.hid hk
    clear hk
    gi_wp2
    have h2 := H5.out
    refine ⟨by simp, .inl ⟨_, _, rfl, run_takeDeferred (h2.get (g := D) (o := .deferred (some [])) (by simp)), ?_⟩⟩
    have h3 : KW B V _ (W5.putObj D (.deferred none)) := KW.putMid (L := []) h2
    have mc : (W5.putObj D (.deferred none)).cell? ⟨rc, 0, none⟩ = some (.int .i64 r) := cell_at (h3.get (g := rc) (o := boxO (.int .i64 r) 3) (by simp)) 0
    refine ⟨.int .i64 r, by simp [results, Tryz.results94, go_sem, mc], ⟨r, rfl, .inl ⟨y, hr, ?_, he⟩⟩, ?_⟩
    · have hyu : y ∈ us := by
        rw [hf]
        rcases List.mem_append.1 hy with hy | hy
        · simp [hy]
        · simp [List.mem_singleton.1 hy]
      rw [HK.out.2.1.mem_iff, mem_goods] at hyu
      exact hyu.2
    · exact seek_out (KW.cut [] [(D, .deferred none), (lb, boxO v 36), (bx, boxO (.pointer (some ⟨s, 0, none⟩)) 30)] _ h3)
end Go.Proofs.YtlcbilknfjdceaaGreatDoor
end
section
/-
  How many blocks are empty.
-/
set_option linter.unusedVariables false
set_option linter.unusedSimpArgs false
namespace Go.Proofs.YtlcbilknfjdceaaGreatDoor
open Go.RowKit Go.Lib
attribute [local go_sem] Oper.semAt_some
set_option maxHeartbeats 1000000 in
set_option maxRecDepth 100000 in
theorem empties95 {B s g cap rt ck : Nat} {V w : World} {K : Blocks} {bs : List Rb} {sp : List Value} {dv pl : Value} {seq : Int} (h : KW B V (stB s g cap rt dv pl seq bs sp ck K) w) (h8 : ∀ b ∈ bs, Rb8 b) (hl : bs.length = 5) :
    Calls Tryz.prog 95 #[.pointer (some ⟨s, 0, none⟩)] w fun e w' => (∃ r : Int, e = .returned (.int .i64 r) ∧ (0 < r → ∃ x : Fin 5, (bOf bs x).head = 1 ∧ emptyB (bOf bs x) = true)) ∧ KW B V (stB s g cap rt dv pl seq bs sp ck K) w' := by
  have hz := zero140
  have HH := _root_.Go.Lib.hid (And.intro h (And.intro h8 hl))
  have h2 := h.push (boxO (.int .i64 0) 3)
  have h3 : KW B V (stB s g cap rt dv pl seq bs sp ck (K ++ [(w.heap.size, boxO (.int .i64 0) 3)])) (w.alloc (boxO (.int .i64 0) 3)) := h2.perm (List.perm_append_comm (l₁ := [(w.heap.size, boxO (.int .i64 0) 3)]) (l₂ := stB s g cap rt dv pl seq bs sp ck K))
  have HC := _root_.Go.Lib.hid (usable132 h3 h8 hl)
  clear h h2 h3 h8 hl
  refine (callsIn_wide (n := 9)).1 ?_
  refine callsIn_of_wp_marks Tryz.func95 rfl trivial ?_ rfl
  simp only [Tryz.ntmps95, List.size_toArray, List.length_cons, List.length_nil, Nat.reduceAdd, Nat.reduceSub, Array.replicate_succ, Array.replicate_zero, List.push_toArray, List.append_toArray, List.nil_append, List.cons_append]
  gi_wp2_with fail
  refine ⟨trivial, ?_⟩
  refine (callsIn_wide.2 HC.out).mono ?_
  rintro e w2 ⟨bx, lb, v, us, rfl, hp, hk⟩
  generalize w.heap.size = rc at hk ⊢
  obtain ⟨Ks, ho, hk⟩ := KO.ownR (K0 := (lb, boxO v 36) :: (bx, boxO (.pointer (some ⟨s, 0, none⟩)) 30) :: (s, sO dv g cap pl (.map (some rt)) seq) :: (g, rowO bs sp) :: []) (Kc := (rt, .map #[] ck) :: (K ++ [(rc, boxO (.int .i64 0) 3)])) hk
  have hk3 : KW B V (usK bx lb s g cap rt v dv pl seq bs sp Ks ++ ((rt, .map #[] ck) :: K) ++ [(rc, boxO (.int .i64 0) 3)]) w2 := by simpa [List.append_assoc] using hk
  have h5 : us.length ≤ 5 := by rw [hp.length_eq]; exact goods_len bs 5
  have HK := _root_.Go.Lib.hid (And.intro hk3 (And.intro hp (And.intro ho h5)))
  clear hk hk3 hp ho h5 HC
  gi_wp2_with fail
  refine wpIn_range_kw (n := 7) (gf := 164) (lb := #[.pointer (some ⟨lb, 0, none⟩), .pointer (some ⟨bx, 0, none⟩)]) rfl (enters_of Tryz.func164 (by kernel_rfl) rfl) (us_iter (dv := dv) (pl := pl) (seq := seq) (sp := sp) (cap := cap) (rt := rt) (s := s) (g := g) (bx := bx) (lb := lb) HH.out.2.1 HH.out.2.2 HK.out.2.2.1 HK.out.2.2.2) (fun _ => rfl)
    (fun pre r => 0 ≤ r ∧ r ≤ (pre.length : Int) ∧ (0 < r → ∃ x ∈ pre, emptyB (bOf bs x) = true)) (fun _ _ _ => False) (fun r : Int => [(rc, boxO (.int .i64 r) 3)])
    (fun x a' Kx => ∃ gb, Kx = [(gb, .cells (rbV (bOf bs x)) 140)] ∧ a' = { tmps := #[.pointer (some ⟨s, 0, none⟩), undef, .pointer (some ⟨rc, 0, none⟩), undef, .pointer (some ⟨gb, 0, none⟩), .pointer (some ⟨s, 0, none⟩), .func (.func 164) #[] #[.pointer (some ⟨lb, 0, none⟩), .pointer (some ⟨bx, 0, none⟩)], .int .i64 (x.val : Int), .agg (rbV (bOf bs x)), undef, undef, undef, undef, undef], defers := [] }) (K0 := (rt, .map #[] ck) :: K) ⟨0, ⟨by omega, by simp, fun h => (by omega)⟩, HK.out.1⟩ ?assign ?body ?done ?stop
  case assign =>
    rintro l x pre K1 r W hk
    have h8b := bOf8 HH.out.2.1 HH.out.2.2 x
    have hst := store140_new h8b W
    have hk2 := hk.push (.cells (rbV (bOf bs x)) 140)
    have HX := _root_.Go.Lib.hid (And.intro hst hk2)
    clear hk hk2 hst
    simp only [encU]
    rw [show bs.getD x.val default = bOf bs x from rfl]
    generalize bOf bs x = b at *
    gi_wp2_with ((with_reducible apply Mem.stIn 140); rfl; rfl; exact HX.out.1)
    refine ⟨[(W.heap.size, .cells (rbV b) 140)], ⟨_, rfl, rfl⟩, ?_⟩
    have := HX.out.2
    exact this.perm (by
      have e := List.perm_append_comm_assoc [(W.heap.size, Obj.cells (rbV b) 140)] (usK bx lb s g cap rt v dv pl seq bs sp Ks) (K1 ++ [(rc, boxO (.int .i64 r) 3)])
      simpa [List.append_assoc] using e)
  case body =>
    rintro l pre x post a' Kx K1 r W hf ⟨gb, rfl, rfl⟩ hR - hk
    have h8b := bOf8 HH.out.2.1 HH.out.2.2 x
    have hxm : x ∈ us := by rw [hf]; simp
    generalize hbe : bOf bs x = b at *
    have hld := load140_0 h8b (hk.get (g := gb) (o := .cells (rbV b) 140) (by simp))
    have hc := empty_calls b h8b W
    have HX := _root_.Go.Lib.hid (And.intro hld (And.intro hc (And.intro hk (And.intro hR hbe))))
    clear hld hc hk hR hbe h8b
    gi_wp2_with ((with_reducible apply Mem.ldIn 140); rfl; exact HX.out.1)
    refine ⟨trivial, ?_⟩
    refine (CallsIn.inRound l (callsIn_wide.2 HX.out.2.1)).mono ?_
    rintro e w5 ⟨rfl, hb⟩
    have hk := HX.out.2.2.1.grown hb
    have m5 : w5.cell? ⟨rc, 0, none⟩ = some (.int .i64 r) := cell_at (hk.get (g := rc) (o := boxO (.int .i64 r) 3) (by simp)) 0
    have f5 : w5.frozen? ⟨rc, 0, none⟩ = false := free_at (hk.get (g := rc) (o := boxO (.int .i64 r) 3) (by simp)) 0
    have hlen : pre.length < 5 := by
      have := congrArg List.length hf
      have h5 := HK.out.2.2.2
      simp at this
      omega
    cases hem : emptyB b with
    | true =>
      have hs : KW B V (usK bx lb s g cap rt v dv pl seq bs sp Ks ++ ([(gb, .cells (rbV b) 140)] ++ K1) ++ [(rc, boxO (.int .i64 (r + 1)) 3)]) (w5.setCell ⟨rc, 0, none⟩ (.int .i64 (r + 1))) := hk.lastCell
      obtain ⟨_, _, _, hR, hbe⟩ := HX.out
      have hr0 := hR.1
      have hr1 := hR.2.1
      have H5 := _root_.Go.Lib.hid (And.intro hs (And.intro hR (And.intro hbe hem)))
      clear hk hs hb HX hem hR hbe hf
      gi_wp2_with fail
      obtain ⟨hs, hR, hbe, hem⟩ := H5.out
      exact ⟨r + 1, ⟨by omega, by simp; omega, fun _ => ⟨x, by simp, by rw [hbe]; exact hem⟩⟩, hs⟩
    | false =>
      obtain ⟨_, _, _, hR, hbe⟩ := HX.out
      have H5 := _root_.Go.Lib.hid (And.intro hk hR)
      clear hk hb HX hem hR hbe hf
      gi_wp2_with fail
      obtain ⟨hk, hR⟩ := H5.out
      refine ⟨r, ⟨hR.1, by have := hR.2.1; simp; omega, fun h => ?_⟩, hk⟩
      obtain ⟨y, hy, he⟩ := hR.2.2 h
      exact ⟨y, List.mem_append_left _ hy, he⟩
  case done =>
    rintro D r W5 hR hk
    have m : W5.cell? ⟨rc, 0, none⟩ = some (.int .i64 r) := cell_at (hk.get (g := rc) (o := boxO (.int .i64 r) 3) (by simp)) 0
    have f : W5.frozen? ⟨rc, 0, none⟩ = false := free_at (hk.get (g := rc) (o := boxO (.int .i64 r) 3) (by simp)) 0
    have hs : KW B V ((D, .deferred (some [])) :: (usK bx lb s g cap rt v dv pl seq bs sp Ks ++ ((rt, .map #[] ck) :: K)) ++ [(rc, boxO (.int .i64 r) 3)]) (W5.setCell ⟨rc, 0, none⟩ (.int .i64 r)) := hk.lastCell
    have HS := _root_.Go.Lib.hid (And.intro hs hR)
    clear hk hs hR
    gi_wp2
    have h2 := HS.out.1
    generalize W5.setCell _ _ = W2 at h2 ⊢
    refine ⟨by simp, .inl ⟨_, _, rfl, run_takeDeferred (h2.get (g := D) (o := .deferred (some [])) (by simp)), ?_⟩⟩
    have h3 : KW B V _ (W2.putObj D (.deferred none)) := KW.putMid (L := []) h2
    have mc : (W2.putObj D (.deferred none)).cell? ⟨rc, 0, none⟩ = some (.int .i64 r) := cell_at (h3.get (g := rc) (o := boxO (.int .i64 r) 3) (by simp)) 0
    refine ⟨.int .i64 r, by simp [results, Tryz.results95, go_sem, mc], ⟨r, rfl, fun hr => ?_⟩, ?_⟩
    · obtain ⟨y, hy, he⟩ := HS.out.2.2.2 hr
      refine ⟨y, ?_, he⟩
      rw [HK.out.2.1.mem_iff, mem_goods] at hy
      exact hy.2
    · exact seek_out (KW.cut [] [(D, .deferred none), (lb, boxO v 36), (bx, boxO (.pointer (some ⟨s, 0, none⟩)) 30)] _ h3)
  case stop =>
    rintro D c pre x post r W5 hf h hk
    exact h.elim
end Go.Proofs.YtlcbilknfjdceaaGreatDoor
end
section
/-
  The block that is collected.
-/
set_option linter.unusedVariables false
set_option linter.unusedSimpArgs false
namespace Go.Proofs.YtlcbilknfjdceaaGreatDoor
open Go.RowKit Go.Lib
attribute [local go_sem] Oper.semAt_some
abbrev vicK (b1 ra rf s : Nat) (r : Int × Int) : Blocks := [(b1, boxO (.pointer (some ⟨s, 0, none⟩)) 30), (rf, boxO (.int .i64 r.2) 3), (ra, boxO (.int .i64 r.1) 3)]
def vicR (r : Int) : Prop := r = -1 ∨ ∃ x : Fin 5, r = (x.val : Int)
theorem KW.midCell {B : Nat} {W w : World} {L R : Blocks} {ob : Nat} {t : TypeId} {x y : Value} (h : KW B W (L ++ (ob, .cells #[x] t) :: R) w) : KW B W (L ++ (ob, .cells #[y] t) :: R) (w.setCell ⟨ob, 0, none⟩ y) :=
  KW.into (KW.cell (i := 0) (vs := #[y]) (h.perm List.perm_middle) rfl)
theorem vic_set {B : Nat} {W w : World} {L : Blocks} {b1 ra rf s : Nat} {r : Int × Int} {a f : Int} (h : KW B W (L ++ vicK b1 ra rf s r) w) : KW B W (L ++ vicK b1 ra rf s (a, f)) ((w.setCell ⟨ra, 0, none⟩ (.int .i64 a)).setCell ⟨rf, 0, none⟩ (.int .i64 f)) := by
  have h1 : KW B W ((L ++ [(b1, boxO (.pointer (some ⟨s, 0, none⟩)) 30), (rf, boxO (.int .i64 r.2) 3)]) ++ (ra, boxO (.int .i64 r.1) 3) :: []) w := by simpa [List.append_assoc] using h
  have h2 := h1.midCell (y := .int .i64 a)
  have h3 : KW B W ((L ++ [(b1, boxO (.pointer (some ⟨s, 0, none⟩)) 30)]) ++ (rf, boxO (.int .i64 r.2) 3) :: [(ra, boxO (.int .i64 a) 3)]) (w.setCell ⟨ra, 0, none⟩ (.int .i64 a)) := by simpa [List.append_assoc] using h2
  have h4 := h3.midCell (y := .int .i64 f)
  simpa [List.append_assoc] using h4
theorem vic_out {B : Nat} {W w : World} {p q r : Nat × Obj} {Ks K R : Blocks} (h : KW B W (p :: q :: (Ks ++ (r :: K)) ++ R) w) : KW B W (p :: q :: r :: K) w := by
  have h1 := KW.cut [p, q] Ks (r :: K ++ R) (by simpa [List.append_assoc] using h)
  have h2 := KW.cut (p :: q :: r :: K) R [] (by simpa using h1)
  simpa using h2
set_option maxHeartbeats 1000000 in
set_option maxRecDepth 100000 in
theorem victim134 {B s g cap rt ck : Nat} {V w : World} {K : Blocks} {bs : List Rb} {sp : List Value} {dv pl : Value} {seq : Int} (h : KW B V (stB s g cap rt dv pl seq bs sp ck K) w) (h8 : ∀ b ∈ bs, Rb8 b) (hl : bs.length = 5) :
    Calls Tryz.prog 134 #[.pointer (some ⟨s, 0, none⟩)] w fun e w' => (∃ r : Int, e = .returned (.int .i64 r) ∧ vicR r) ∧ KW B V (stB s g cap rt dv pl seq bs sp ck K) w' := by
  have hz := zero140
  have HH := _root_.Go.Lib.hid (And.intro h (And.intro h8 hl))
  clear h h8 hl
  refine (callsIn_wide (n := 9)).1 ?_
  refine callsIn_of_wp_marks Tryz.func134 rfl trivial ?_ rfl
  simp only [Tryz.ntmps134, List.size_toArray, List.length_cons, List.length_nil, Nat.reduceAdd, Nat.reduceSub, Array.replicate_succ, Array.replicate_zero, List.push_toArray, List.append_toArray, List.nil_append, List.cons_append]
  gi_wp2_with fail
  have h2 := HH.out.1.push3 (boxO (.pointer (some ⟨s, 0, none⟩)) 30) (boxO (.int .i64 (-1)) 3) (boxO (.int .i64 8) 3)
  generalize ((w.alloc _).alloc _).alloc _ = w1 at h2 ⊢
  generalize w.heap.size = b1 at h2 ⊢
  generalize hra : b1 + 1 = ra at h2 ⊢
  generalize hrf : ra + 1 = rf at h2 ⊢
  have h3 : KW B V (stB s g cap rt dv pl seq bs sp ck (K ++ vicK b1 ra rf s (-1, 8))) w1 := by
    have e := List.perm_append_comm (l₁ := [(rf, boxO (.int .i64 8) 3), (ra, boxO (.int .i64 (-1)) 3), (b1, boxO (.pointer (some ⟨s, 0, none⟩)) 30)]) (l₂ := stB s g cap rt dv pl seq bs sp ck K)
    refine h2.perm (e.trans (List.Perm.append_left _ ?_))
    exact (List.perm_append_comm (l₁ := [(rf, boxO (.int .i64 8) 3), (ra, boxO (.int .i64 (-1)) 3)]) (l₂ := [(b1, boxO (.pointer (some ⟨s, 0, none⟩)) 30)]))
  refine ⟨trivial, ?_⟩
  refine (callsIn_wide.2 (usable132 h3 HH.out.2.1 HH.out.2.2)).mono ?_
  clear h2 h3 hra hrf
  rintro e w2 ⟨bx, lb, v, us, rfl, hp, hk⟩
  obtain ⟨Ks, ho, hk⟩ := KO.ownR (K0 := (lb, boxO v 36) :: (bx, boxO (.pointer (some ⟨s, 0, none⟩)) 30) :: (s, sO dv g cap pl (.map (some rt)) seq) :: (g, rowO bs sp) :: []) (Kc := (rt, .map #[] ck) :: (K ++ vicK b1 ra rf s (-1, 8))) hk
  have hk3 : KW B V (usK bx lb s g cap rt v dv pl seq bs sp Ks ++ ((rt, .map #[] ck) :: K) ++ vicK b1 ra rf s (-1, 8)) w2 := by simpa [List.append_assoc] using hk
  have h5 : us.length ≤ 5 := by rw [hp.length_eq]; exact goods_len bs 5
  have HK := _root_.Go.Lib.hid (And.intro hk3 (And.intro hp (And.intro ho h5)))
  clear hk hk3 hp ho h5
  gi_wp2_with fail
  refine wpIn_range_kw (n := 7) (gf := 164) (lb := #[.pointer (some ⟨lb, 0, none⟩), .pointer (some ⟨bx, 0, none⟩)]) rfl (enters_of Tryz.func164 (by kernel_rfl) rfl) (us_iter (dv := dv) (pl := pl) (seq := seq) (sp := sp) (cap := cap) (rt := rt) (s := s) (g := g) (bx := bx) (lb := lb) HH.out.2.1 HH.out.2.2 HK.out.2.2.1 HK.out.2.2.2) (fun _ => rfl)
    (fun pre r => vicR r.1) (fun _ _ _ => False) (vicK b1 ra rf s)
    (fun x a' Kx => ∃ gb, Kx = [(gb, .cells (rbV (bOf bs x)) 140)] ∧ a' = { tmps := #[.pointer (some ⟨s, 0, none⟩), .pointer (some ⟨b1, 0, none⟩), .int .i64 0, .pointer (some ⟨ra, 0, none⟩), .pointer (some ⟨rf, 0, none⟩), .int .i64 (x.val : Int), .pointer (some ⟨gb, 0, none⟩), undef, .pointer (some ⟨s, 0, none⟩), .func (.func 164) #[] #[.pointer (some ⟨lb, 0, none⟩), .pointer (some ⟨bx, 0, none⟩)], .int .i64 (x.val : Int), .agg (rbV (bOf bs x)), undef, undef, undef, undef, undef, undef, undef, undef, undef, undef, undef, undef, undef, undef, undef, undef], defers := [] }) (K0 := (rt, .map #[] ck) :: K) ⟨(-1, 8), .inl rfl, HK.out.1⟩ ?assign ?body ?done ?stop
  case assign =>
    rintro l x pre K1 r W hk
    have h8b := bOf8 HH.out.2.1 HH.out.2.2 x
    have hst := store140_new h8b W
    have hk2 := hk.push (.cells (rbV (bOf bs x)) 140)
    have HX := _root_.Go.Lib.hid (And.intro hst hk2)
    clear hk hk2 hst
    simp only [encU]
    rw [show bs.getD x.val default = bOf bs x from rfl]
    generalize bOf bs x = b at *
    gi_wp2_with ((with_reducible apply Mem.stIn 140); rfl; rfl; exact HX.out.1)
    refine ⟨[(W.heap.size, .cells (rbV b) 140)], ⟨_, rfl, rfl⟩, ?_⟩
    have := HX.out.2
    exact this.perm (by
      have e := List.perm_append_comm_assoc [(W.heap.size, Obj.cells (rbV b) 140)] (usK bx lb s g cap rt v dv pl seq bs sp Ks) (K1 ++ vicK b1 ra rf s r)
      simpa [List.append_assoc] using e)
  case body =>
    rintro l pre x post a' Kx K1 r W hf ⟨gb, rfl, rfl⟩ hR - hk
    have h8b := bOf8 HH.out.2.1 HH.out.2.2 x
    generalize hbe : bOf bs x = b at *
    have hld := load140_0 h8b (hk.get (g := gb) (o := .cells (rbV b) 140) (by simp))
    have hc := next_calls b h8b.k8 W
    have HX := _root_.Go.Lib.hid (And.intro hld (And.intro hc (And.intro hk hR)))
    clear hld hc hk hR hbe h8b hf
    gi_wp2_with ((with_reducible apply Mem.ldIn 140); rfl; exact HX.out.1)
    refine ⟨trivial, ?_⟩
    refine (CallsIn.inRound l (callsIn_wide.2 HX.out.2.1)).mono ?_
    rintro e w5 ⟨rfl, hb⟩
    have hk := HX.out.2.2.1.grown hb
    have hR := HX.out.2.2.2
    have m1 : w5.cell? ⟨b1, 0, none⟩ = some (.pointer (some ⟨s, 0, none⟩)) := cell_at (hk.get (g := b1) (o := boxO (.pointer (some ⟨s, 0, none⟩)) 30) (by simp)) 0
    have m2 : w5.cell? ⟨s, 1, none⟩ = some (.slice (some ⟨g, 0, none⟩) 5 cap) := cell_at (hk.get (g := s) (o := sO dv g cap pl (.map (some rt)) seq) (by simp)) 1
    generalize nextB b = q at *
    by_cases hq : 0 ≤ q
    · have H5 := _root_.Go.Lib.hid (And.intro hk hR)
      clear hk hb HX hR
      gi_wp2_with fail
      exact ⟨r, H5.out.2, H5.out.1⟩
    · have hN := needed135 (tb := x.val) (cap := cap) (hk.perm (List.perm_middle (l₁ := [(lb, boxO v 36), (bx, boxO (.pointer (some ⟨s, 0, none⟩)) 30), (s, sO dv g cap pl (.map (some rt)) seq)]))) HH.out.2.1 HH.out.2.2
      have H5 := _root_.Go.Lib.hid (And.intro hN hR)
      clear hk hb HX hR hN
      gi_wp2_with fail
      refine ⟨trivial, ?_⟩
      refine (CallsIn.inRound l (callsIn_wide.2 H5.out.1)).mono ?_
      rintro e w6 ⟨nv, xs, rfl, _, hxl, hko⟩
      obtain ⟨np, nc, rfl⟩ := hko.shape
      have hk6 := hko.kw.perm (List.perm_middle (l₁ := [(lb, boxO v 36), (bx, boxO (.pointer (some ⟨s, 0, none⟩)) 30), (s, sO dv g cap pl (.map (some rt)) seq)])).symm
      have hk6 : KW B V (usK bx lb s g cap rt v dv pl seq bs sp Ks ++ ([(gb, .cells (rbV b) 140)] ++ K1) ++ vicK b1 ra rf s r) w6 := hk6
      have hR := H5.out.2
      have ma : w6.cell? ⟨ra, 0, none⟩ = some (.int .i64 r.1) := cell_at (hk6.get (g := ra) (o := boxO (.int .i64 r.1) 3) (by simp)) 0
      have fa : w6.frozen? ⟨ra, 0, none⟩ = false := free_at (hk6.get (g := ra) (o := boxO (.int .i64 r.1) 3) (by simp)) 0
      have mf : w6.cell? ⟨rf, 0, none⟩ = some (.int .i64 r.2) := cell_at (hk6.get (g := rf) (o := boxO (.int .i64 r.2) 3) (by simp)) 0
      have ff : w6.frozen? ⟨rf, 0, none⟩ = false := free_at (hk6.get (g := rf) (o := boxO (.int .i64 r.2) 3) (by simp)) 0
      have hset := vic_set (a := (x.val : Int)) (f := (xs.length : Int)) hk6
      obtain ⟨r1, r2⟩ := r
      generalize xs.length = n at *
      by_cases hn : (n : Int) < r2
      · have H6 := _root_.Go.Lib.hid hset
        clear hko hk6 hset H5 hR m1 m2
        have hne : ra ≠ rf := fun e => by
          have h6 := H6.out.nodup
          simp [e, List.nodup_append] at h6
        have m2 : (w6.setCell ⟨ra, 0, none⟩ (.int .i64 (x.val : Int))).cell? ⟨rf, 0, none⟩ = some (.int .i64 r2) := by
          rw [World.cell?_setCell_other _ _ _ _ (by intro e; injection e with e1; exact hne e1)]
          exact mf
        gi_wp2_with fail
        exact ⟨((x.val : Int), (n : Int)), .inr ⟨x, rfl⟩, H6.out⟩
      · have H6 := _root_.Go.Lib.hid (And.intro hk6 hR)
        clear hko hk6 hset H5 hR m1 m2
        gi_wp2_with fail
        exact ⟨(r1, r2), H6.out.2, H6.out.1⟩
  case done =>
    rintro D r W5 hR hk
    have m : W5.cell? ⟨ra, 0, none⟩ = some (.int .i64 r.1) := cell_at (hk.get (g := ra) (o := boxO (.int .i64 r.1) 3) (by simp)) 0
    have HS := _root_.Go.Lib.hid (And.intro hk hR)
    clear hk hR
    gi_wp2
    have h2 := HS.out.1
    refine ⟨by simp, .inl ⟨_, _, rfl, run_takeDeferred (h2.get (g := D) (o := .deferred (some [])) (by simp)), ?_⟩⟩
    have h3 : KW B V _ (W5.putObj D (.deferred none)) := KW.putMid (L := []) h2
    refine ⟨.int .i64 r.1, by simp [results, Tryz.results134, Sem.run_bind, Result.andThen], ⟨r.1, rfl, HS.out.2⟩, ?_⟩
    exact vic_out (KW.cut [] [(D, .deferred none), (lb, boxO v 36), (bx, boxO (.pointer (some ⟨s, 0, none⟩)) 30)] _ h3)
  case stop =>
    rintro D c pre x post r W5 hf h hk
    exact h.elim
end Go.Proofs.YtlcbilknfjdceaaGreatDoor
end
