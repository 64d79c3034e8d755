/-
  A region that draws its order, whose first operations only read and whose last ones stand in one order: one walk of the text, by the quick steps.
-/
import Derived.WalkKit
import Derived.StillTailTactics
import Derived.Deep.QuietTactic
import Derived.BigQuiet
namespace Go

def Op.plainOp : Op → Bool
  | .move _ | .assign _ | .pick .. | .load .. | .nilCheck _ | .binOp .. | .unOp .. | .convert .. | .fieldAddr .. | .field .. | .indexAddr .. | .index .. | .extract .. | .build .. | .makeInterface .. | .slice .. => true
  | _ => false

def NotEnter (r : Result Next) : Prop := ∀ f args w', r ≠ .ok (.enter f args) w'

theorem notEnter_bind {α : Type} {P : Program} {w : World} {s : Sem α} {k : α → Sem Next} (h : ∀ a w, NotEnter ((k a).run P w)) : NotEnter ((s >>= k).run P w) := by
  rw [Sem.run_bind]
  cases s.run P w with
  | ok a w' => exact h a w'
  | halt x w' => intro f args w'' e; cases e

theorem notEnter_value {P : Program} {w : World} (v : Value) : NotEnter ((pure (Next.value v) : Sem Next).run P w) := by
  intro f args w' e
  cases e

theorem notEnter_plain {P : Program} {w : World} {ρ : Operand → Value} {o : Oper} (h : o.op.plainOp = true) : NotEnter ((execOp ρ o).run P w) := by
  obtain ⟨dst, op, type, pos, after, guard⟩ := o
  cases op <;> simp only [Op.plainOp] at h <;> first | (cases h; done) | skip
  case nilCheck x =>
    simp only [execOp]
    split
    · exact notEnter_bind fun a w => by intro f args w' e; cases e
    · exact notEnter_bind fun a w => by intro f args w' e; cases e
    · exact notEnter_bind fun a w => by intro f args w' e; cases e
    · split
      · exact notEnter_bind fun a w => by intro f args w' e; cases e
      · refine notEnter_bind fun a w => notEnter_bind fun a w => ?_
        split
        · refine notEnter_bind fun a w => ?_
          exact notEnter_value _
        · exact notEnter_value _
      · exact notEnter_value _
    · exact notEnter_value _
  all_goals simp only [execOp]
  all_goals first | exact notEnter_value _ | exact notEnter_bind fun _ _ => notEnter_value _ | skip
theorem still_of_quiet {P : Program} {ops : Array Oper} {C : World → Prop} {W : World} {Q : Act → Prop} (hC : C W) : ∀ (l : List Oper) (a : Act), (l.all fun o => o.op.plainOp) = true → wpQuiet P ops C Q l a → wpStill P ops W Q l a
  | [], _, _, h => h
  | o :: l, a, hp, h => by
    simp only [List.all_cons, Bool.and_eq_true] at hp
    unfold wpQuiet at h
    unfold wpStill
    split
    · rename_i hw
      rw [if_pos hw] at h
      obtain ⟨v, hq, hn⟩ := h
      have hq := hq W hC
      have hne := notEnter_plain (P := P) (w := W) (ρ := a.eval) hp.1
      unfold Oper.quietAt at hq
      unfold Oper.still
      generalize (execOp a.eval o).run P W = r at *
      have ih := still_of_quiet (P := P) (ops := ops) (Q := Q) hC l (a.put o.dst v) hp.2 hn
      cases r with
      | halt x w' => simp only [Oper.quietUpon] at hq
      | ok n w' =>
        cases n <;> simp only [Oper.quietUpon] at hq <;> simp only [Oper.stillUpon]
        case value u => obtain ⟨e1, e2⟩ := hq; subst e2; exact ⟨e1, ih⟩
        case skip => obtain ⟨e1, e2⟩ := hq; subst e2; exact ⟨e1, ih⟩
        case enter f args => exact absurd rfl (hne f args w')
    · rename_i hw
      rw [if_neg hw] at h
      exact still_of_quiet hC l _ hp.2 h

/-- A REGION THAT DRAWS ITS ORDER, all of whose first n operations only read, and whose last ones stand in one order: one walk. -/
theorem wp_region_quiet_tail {P : Program} {id : Nat} {Q : Exit → Act → World → Prop} {a : Act} {w : World} {l : List Oper} (n : Nat) (hm : P.follows .mixedOrders = true) (hB : Region.lexTailB .any l.toArray n = true)
    (hp : ((l.take n).all fun o => o.op.plainOp) = true)
    (h : wpQuiet P l.toArray (fun w' => ∃ k, w' = w.drewN k) (fun a' => wpList P l.toArray Q (l.drop n) a' w.drew) (l.take n) a) : (Code.region id l.toArray true).wp P Q a w :=
  wp_region_still_tail n hm hB (still_of_quiet (W := w.drew) ⟨1, rfl⟩ _ _ hp h)
end Go
