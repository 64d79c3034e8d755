/-
  WholeFlash, part 10 of 44: Ko.
-/
import Derived.Maps.AppendAt
import Derived.Lib.AppendZeros
import Derived.Test.YtlcbilknfjdceaaGreatDoorM09
section
/-
  A slice of the call's own, beside known blocks.
-/
set_option linter.unusedVariables false
set_option linter.unusedSimpArgs false
namespace Go.Proofs.YtlcbilknfjdceaaGreatDoor
open Go.RowKit Go.Lib
open Go in
/-- v is a slice of the call's own, of n elements of sz cells each, that hold xs; beside it the blocks K are known. -/
def KO (B : Nat) (W : World) (e : TypeId) (sz : Nat) (v : Value) (n : Nat) (xs : List Value) (K : Blocks) (w : World) : Prop :=
  xs.length = n * sz ∧ ((v = .slice none 0 0 ∧ n = 0 ∧ KW B W K w) ∨ ∃ g cap cur, v = .slice (some ⟨g, 0, none⟩) n cap ∧ n ≤ cap ∧ cap ≤ maxLen ∧ cur.size = cap * sz ∧ cur.toList.take (n * sz) = xs ∧ KW B W ((g, .cells cur e) :: K) w)
section
variable {B : Nat} {W w w' : World} {K : Blocks} {e : TypeId} {sz n : Nat} {v : Value} {xs : List Value}
theorem KO.start (h : KW B W K w) : KO B W e sz (.slice none 0 0) 0 [] K w := ⟨by simp, .inl ⟨rfl, rfl, h⟩⟩
theorem KO.kw (h : KO B W e sz v n xs K w) : KW B W K w := by
  rcases h.2 with ⟨_, _, h⟩ | ⟨g, cap, cur, _, _, _, _, _, h⟩
  · exact h
  · exact h.tail
/-- The known blocks turned, in whatever way that leaves the slice's own block. -/
theorem KO.turn {K' : Blocks} (h : KO B W e sz v n xs K w) (hk : ∀ K0, KW B W (K0 ++ K) w → KW B W (K0 ++ K') w') : KO B W e sz v n xs K' w' := by
  refine ⟨h.1, ?_⟩
  rcases h.2 with ⟨a, b, h⟩ | ⟨g, cap, cur, a, b, c, d, f, h⟩
  · exact .inl ⟨a, b, hk [] h⟩
  · exact .inr ⟨g, cap, cur, a, b, c, d, f, hk [(g, .cells cur e)] h⟩
theorem KO.perm {K' : Blocks} (h : KO B W e sz v n xs K w) (hp : K.Perm K') : KO B W e sz v n xs K' w := h.turn fun K0 h => KW.perm h (List.Perm.append_left K0 hp)
theorem KO.owns (h : KO B W e sz v n xs K w) : w.ownsRow B e sz v n xs := by
  refine ⟨h.1, ?_⟩
  rcases h.2 with ⟨a, b, h⟩ | ⟨g, cap, cur, a, b, c, d, f, h⟩
  · exact .inl ⟨a, b⟩
  · exact .inr ⟨g, cap, cur, a, (h.kept _ List.mem_cons_self).1, h.get List.mem_cons_self, b, c, d, f⟩
theorem KW.grew {row : Option Nat} (h : KW B W K w) (hg : w.grownBy w' row) (hr : ∀ k, row = some k → B ≤ k) (hn : ∀ p ∈ K, some p.1 ≠ row) : KW B W K w' := by
  refine ⟨h.bel.trans ⟨hg.os, hg.tape, hg.output, hg.size, fun k hk => hg.block k (Nat.lt_of_lt_of_le hk h.size) fun e => ?_⟩, Nat.le_trans h.size hg.size, fun p hp => ⟨(h.kept p hp).1, ?_⟩, h.nodup⟩
  · have := hr k e.symm
    omega
  · rw [hg.block p.1 (lt_of_heap (h.kept p hp).2) (hn p hp)]
    exact (h.kept p hp).2
theorem KO.after {v' : Value} {n' : Nat} {ys : List Value} (h : KO B W e sz v n xs K w) (ho : w'.ownsRow B e sz v' n' ys) (hg : w.grownBy w' v.ownBlock) (hat : v'.ownBlock = v.ownBlock ∨ v'.ownBlock = some w.heap.size) : KO B W e sz v' n' ys K w' := by
  have hr : ∀ k, v.ownBlock = some k → B ≤ k := fun k hk => (h.owns.lt k hk).1
  have hn : ∀ p ∈ K, some p.1 ≠ v.ownBlock := by
    intro p hp e1
    rcases h.2 with ⟨rfl, _, _⟩ | ⟨g, cap, cur, rfl, _, _, _, _, hk⟩
    · cases e1
    · have e2 : p.1 = g := by injection e1
      exact (List.nodup_cons.1 hk.nodup).1 (List.mem_map.2 ⟨p, hp, e2⟩)
  have hk := h.kw.grew hg hr hn
  refine ⟨ho.1, ?_⟩
  rcases ho.2 with ⟨a, b⟩ | ⟨g, cap, cur, rfl, hb, hgb, c, d, f, t⟩
  · exact .inl ⟨a, b, hk⟩
  · refine .inr ⟨g, cap, cur, rfl, c, d, f, t, hk.bel, hk.size, fun p hp => ?_, ?_⟩
    · rcases List.mem_cons.1 hp with rfl | hp
      · exact ⟨hb, hgb⟩
      · exact hk.kept p hp
    · rw [List.map_cons, List.nodup_cons]
      refine ⟨fun hm => ?_, hk.nodup⟩
      obtain ⟨p, hp, e1⟩ := List.mem_map.1 hm
      have e1 : p.1 = g := e1
      rcases hat with hat | hat
      · exact hn p hp (by rw [e1, ← hat]; rfl)
      · have : g = w.heap.size := by injection hat
        have := lt_of_heap (h.kw.kept p hp).2
        omega
theorem wpList_append_ko {P : Program} {ops : Array Oper} {rest : List Oper} {o : Oper} {a : Act} {Q : Exit → Act → World → Prop} (hgd : o.guard = none) (s x : Operand) (t : TypeId)
    (ho : o.op = .call { callee := .builtin .append, args := #[s, x], argTypes := #[t, t] })
    (i : TypeInfo) (z : Value) (bytes : Nat) (ht : P.underlying t = some (.slice e)) (hi : P.info? e = some i) (hz : i.zero = some z)
    (hsize : i.size = sz) (hby : i.bytes = bytes) (hzs : z.cells.size = sz) (hsz : 0 < sz)
    (hs : a.eval s = v) (hk : KO B W e sz v n xs K w)
    (ad : Addr) (m c : Nat) (news : List Value) (hx : a.eval x = .slice (some ad) m c) (hl : news.length = m * sz) (hnews : ∀ j u, news[j]? = some u → w.cell? (ad.add j) = some u) (h1 : ∀ u ∈ news, u.oneCell' = true)
    (h63 : n + m ≤ maxLen) (hbytes : (n + m) * bytes ≤ 140737488355328)
    (h : ∀ v' w', KO B W e sz v' (n + m) (xs ++ news) K w' → (v' = .slice none 0 0 ↔ v = .slice none 0 0 ∧ m = 0) → wpList P ops Q rest (a.put o.dst v') w') : wpList P ops Q (o :: rest) a w :=
  wpList_append_own_at w hgd s x t ho B e i z sz bytes ht hi hz hsize hby hzs hsz v n xs hs hk.owns ad m c news hx hl hnews h1 h63 hbytes hk.kw.size fun v' w' a b c d => h v' w' (hk.after a b d) c
end
end Go.Proofs.YtlcbilknfjdceaaGreatDoor
end
