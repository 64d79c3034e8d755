/-
  A slice of bytes that may begin in the middle of its row: what it holds, what a string's bytes behind it make of it, and what cutting off the first byte makes of it. Conditions: the row is no string's, and lengths are below Go's own limit.
-/
import Derived.Test.YtjaldngafappdaaRows
import Derived.Lib.AppendStr
import Derived.Lib.OthersKept
import Derived.WalkKit
namespace Go.Proofs.Ytjaldngafappdaa
open Go.RowKit Go.Lib

/-- v is a slice of bytes (of type e) that holds xs; its row lies at or behind base. -/
def Row (e : TypeId) (base : Nat) (v : Value) (xs : List Value) (w : World) : Prop :=
  (v = .slice none 0 0 ∧ xs = []) ∨
  ∃ g off cap cur, v = .slice (some ⟨g, off, none⟩) xs.length cap ∧ base ≤ g ∧ w.heap[g]? = some (.cells cur e (0, 0)) ∧ xs.length ≤ cap ∧ cap ≤ maxLen ∧ off + cap ≤ cur.size ∧ (cur.toList.drop off).take xs.length = xs

theorem Row.nil (e : TypeId) (base : Nat) (w : World) : Row e base (.slice none 0 0) [] w := .inl ⟨rfl, rfl⟩

theorem Row.form {e : TypeId} {base : Nat} {v : Value} {xs : List Value} {w : World} (h : Row e base v xs w) : ∃ a cap, v = .slice a xs.length cap := by
  rcases h with ⟨rfl, rfl⟩ | ⟨g, off, cap, cur, rfl, _⟩
  · exact ⟨none, 0, rfl⟩
  · exact ⟨_, _, rfl⟩

/-- It goes on where its row stands. -/
theorem Row.keep {e : TypeId} {base : Nat} {v : Value} {xs : List Value} {w w' : World} (h : Row e base v xs w) (hk : ∀ g, v.ownBlock = some g → ∀ o, w.heap[g]? = some o → w'.heap[g]? = some o) : Row e base v xs w' := by
  rcases h with h | ⟨g, off, cap, cur, rfl, hb, hg, h1, h2, h3, h4⟩
  · exact .inl h
  · exact .inr ⟨g, off, cap, cur, rfl, hb, hk g rfl _ hg, h1, h2, h3, h4⟩

theorem Row.block {e : TypeId} {base : Nat} {v : Value} {xs : List Value} {w : World} (h : Row e base v xs w) {g : Nat} (hv : v.ownBlock = some g) : base ≤ g ∧ ∃ cur, w.heap[g]? = some (.cells cur e (0, 0)) := by
  rcases h with ⟨rfl, _⟩ | ⟨g', off, cap, cur, rfl, hb, hg, _⟩
  · cases hv
  · have : g' = g := by simpa [Value.ownBlock] using hv
    subst this
    exact ⟨hb, _, hg⟩

section
variable {P : Program} (w : World)

theorem run_append_room_at (t u ty e : TypeId) (i : TypeInfo) (ht : P.underlying t = some (.slice e)) (hu : P.underlying u = some .string) (hi : P.info? e = some i) (hs1 : i.size = 1)
    (g off sLen sCap : Nat) (cur : Array Value) (hg : w.heap[g]? = some (.cells cur e (0, 0))) (s : ByteArray)
    (hroom : sLen + s.size ≤ sCap) (hfit : off + sLen + s.size ≤ cur.size) :
    (Builtin.append_ #[t, u] ty #[.slice (some ⟨g, off, none⟩) sLen sCap, .string s]).run P w =
      .ok (.slice (some ⟨g, off, none⟩) (sLen + s.size) sCap) (w.setRow g (cur.toList.take (off + sLen) ++ strCells s ++ cur.toList.drop (off + sLen + s.size)).toArray) := by
  have hf := run_firstCells_string (P := P) w 1 s
  have hst := run_storeCells_at P g (off + sLen) e (strCells s) 0 cur w hg (by simpa [strCells_length] using hfit) (strCells_oneCell s)
  simp only [Nat.add_zero, strCells_length] at hst
  simp [Builtin.append_, run_underlying ht, run_underlying hu, sizeOf, typeInfo, hi, hs1, Builtin.lenOf, hroom, hf, Addr.add_lit, hst]

/-- append(v, s...): some slice that holds the bytes and s behind them; the world is the old one but for v's row and new blocks. -/
theorem run_append_at (base : Nat) (t u ty e : TypeId) (i : TypeInfo) (ht : P.underlying t = some (.slice e)) (hu : P.underlying u = some .string) (hi : P.info? e = some i) (hz : i.zero = some (.int .u8 0))
    (hsize : i.size = 1) (hby : i.bytes = 1) (v : Value) (xs : List Value) (hown : Row e base v xs w) (s : ByteArray)
    (hbytes : xs.length + s.size ≤ 140737488355328) (hbase : base ≤ w.heap.size) :
    ∃ v' w', (Builtin.append_ #[t, u] ty #[v, .string s]).run P w = .ok v' w' ∧ Row e base v' (xs ++ strCells s) w' ∧ w.grownBy w' v.ownBlock ∧ (v'.ownBlock = v.ownBlock ∨ v'.ownBlock = some w.heap.size) := by
  have h63 : xs.length + s.size ≤ maxLen := by unfold maxLen; omega
  have hlen : (xs ++ strCells s).length = xs.length + s.size := by rw [List.length_append, strCells_length]
  have grown : ∀ (old : Nat), old < xs.length + s.size → ∀ (row : Option Nat),
      Row e base (.slice (some ⟨w.heap.size, 0, none⟩) (xs.length + s.size) (grownCap w (xs.length + s.size) old e)) (xs ++ strCells s)
        (w.drew.alloc (.cells (xs.toArray ++ (strCells s).toArray ++ Builtin.zeroCells (Value.int .u8 0).cells (grownCap w (xs.length + s.size) old e - (xs.length + s.size))) e)) ∧
      w.grownBy (w.drew.alloc (.cells (xs.toArray ++ (strCells s).toArray ++ Builtin.zeroCells (Value.int .u8 0).cells (grownCap w (xs.length + s.size) old e - (xs.length + s.size))) e)) row := by
    intro old ho row
    have hge := grownCap_ge w (xs.length + s.size) old e
    have hcm : grownCap w (xs.length + s.size) old e ≤ maxLen := grownCap_le_maxLen w (xs.length + s.size) old e h63
    refine ⟨.inr ⟨w.heap.size, 0, _, _, by rw [hlen], hbase, heap_alloc_new w.drew _, by omega, hcm, ?_, ?_⟩, ⟨rfl, rfl, rfl, by simp, fun k hk _ => by show (w.heap.push _)[k]? = _; rw [Array.getElem?_push, if_neg (by omega)]⟩⟩
    · have hz1 : (Value.int IntKind.u8 0).cells.size = 1 := rfl
      simp only [Array.size_append, List.size_toArray, size_zeroCells, hz1, strCells_length]
      omega
    · simp only [Array.toList_append, List.append_assoc, List.drop_zero]
      rw [← List.append_assoc]
      exact List.take_left
  rcases hown with ⟨rfl, rfl⟩ | ⟨g, off, cap, cur, rfl, hbg, hg, hnc, hcm, hcs, htake⟩
  · by_cases hm : s.size = 0
    · have hn : strCells s = [] := List.eq_nil_of_length_eq_zero (by rw [strCells_length]; exact hm)
      refine ⟨.slice none 0 0, w, ?_, by rw [hn]; exact Row.nil e base w, ⟨rfl, rfl, rfl, Nat.le_refl _, fun _ _ _ => rfl⟩, .inl rfl⟩
      have hf := run_firstCells_string (P := P) w 1 s
      rw [hm] at hf
      simp [Builtin.append_, run_underlying ht, run_underlying hu, sizeOf, typeInfo, hi, hsize, Builtin.lenOf, hm, hf]
    · have hr := run_append_nil_string (P := P) w t u ty e i (.int .u8 0) ht hu hi hz s (by omega) (by simp at hbytes; omega) (by rw [hby]; simp at hbytes; omega)
      have hgr := grown 0 (by simp; omega) (Value.ownBlock (.slice none 0 0))
      simp only [List.length_nil, Nat.zero_add, List.nil_append, Array.empty_append] at hgr ⊢
      have e1 : (s.data.map fun b => Value.int .u8 b.toNat) = (strCells s).toArray := by
        apply Array.ext'
        simp [strCells]
      rw [e1] at hr
      exact ⟨_, _, hr, hgr.1, hgr.2, .inr rfl⟩
  · by_cases hroom : xs.length + s.size ≤ cap
    · have hr := run_append_room_at (P := P) w t u ty e i ht hu hi hsize g off xs.length cap cur hg s hroom (by omega)
      refine ⟨_, _, hr, .inr ⟨g, off, cap, _, by rw [hlen], hbg, setRow_heap w g cur _ e _ hg, by omega, hcm, ?_, ?_⟩, ⟨rfl, rfl, rfl, by simp, fun k _ hk => setRow_other w g k _ (fun e => hk (by simp [Value.ownBlock, e]))⟩, .inl rfl⟩
      · simp only [List.size_toArray, List.length_append, List.length_take, List.length_drop, Array.length_toList, strCells_length]
        omega
      · have hl2 : off + xs.length ≤ cur.toList.length := by simp; omega
        rw [hlen, List.append_assoc, List.drop_append_of_le_length (by simp; omega), List.drop_take, show off + xs.length - off = xs.length by omega, htake, ← List.append_assoc, ← hlen]
        exact List.take_left
    · have holds : ∀ j u, xs[j]? = some u → w.cell? ((⟨g, off, none⟩ : Addr).add j) = some u := by
        intro j u hj
        rw [Addr.add_lit, cell_of_row w g (off + j) cur e (0, 0) hg]
        rw [← htake, List.getElem?_take] at hj
        split at hj
        · rw [List.getElem?_drop] at hj
          simpa using hj
        · cases hj
      have hr := run_append_grow_string (P := P) w t u ty e i (.int .u8 0) ht hu hi hz ⟨g, off, none⟩ xs.length cap xs (by rw [hsize]; simp) holds s (by omega) (by omega) (by rw [hby]; exact growslice_fits (by omega) (by omega))
      have hgr := grown cap (by omega) (Value.ownBlock (.slice (some ⟨g, off, none⟩) xs.length cap))
      exact ⟨_, _, hr, hgr.1, hgr.2, .inr rfl⟩
end

/-- The first byte is cut off. -/
theorem Row.tail {e : TypeId} {base : Nat} {x : Value} {xs : List Value} {a : Addr} {cap : Nat} {w : World} (h : Row e base (.slice (some a) (xs.length + 1) cap) (x :: xs) w) :
    Row e base (.slice (some (if cap = 1 then a else a.add 1)) xs.length (cap - 1)) xs w := by
  rcases h with ⟨h, _⟩ | ⟨g, off, cap', cur, hv, hb, hg, h1, h2, h3, h4⟩
  · cases h
  · injection hv with ha hl hc
    injection ha with ha
    subst ha; subst hc
    simp only [List.length_cons] at h1 h4
    have h5 : (cur.toList.drop (off + 1)).take xs.length = xs := by
      cases hd : cur.toList.drop off with
      | nil => rw [hd] at h4; simp at h4
      | cons y ys =>
        rw [hd, List.take_succ_cons] at h4
        injection h4 with _ h4
        rw [← List.drop_drop, hd]
        simpa using h4
    by_cases hcap : cap = 1
    · have hx : xs = [] := List.eq_nil_of_length_eq_zero (by omega)
      subst hx
      rw [if_pos hcap]
      exact .inr ⟨g, off, cap - 1, cur, rfl, hb, hg, by simp, by omega, by omega, by simp⟩
    · rw [if_neg hcap, Addr.add_lit]
      exact .inr ⟨g, off + 1, cap - 1, cur, rfl, hb, hg, by omega, by omega, by omega, h5⟩

theorem Row.head {e : TypeId} {base : Nat} {v x : Value} {xs : List Value} {w : World} (h : Row e base v (x :: xs) w) :
    ∃ g off cap, v = .slice (some ⟨g, off, none⟩) (xs.length + 1) cap ∧ 1 ≤ cap ∧ w.cell? ⟨g, off, none⟩ = some x := by
  rcases h with ⟨_, h⟩ | ⟨g, off, cap, cur, hv, hb, hg, h1, h2, h3, h4⟩
  · cases h
  · refine ⟨g, off, cap, hv, by simp at h1; omega, ?_⟩
    rw [cell_of_row w g off cur e (0, 0) hg]
    cases hd : cur.toList.drop off with
    | nil => rw [hd] at h4; simp at h4
    | cons y ys =>
      rw [hd] at h4
      simp only [List.length_cons, List.take_succ_cons] at h4
      injection h4 with h4 _
      have : (cur.toList.drop off)[0]? = some y := by rw [hd]; rfl
      rw [List.getElem?_drop] at this
      rw [← h4]
      simpa using this
end Go.Proofs.Ytjaldngafappdaa
