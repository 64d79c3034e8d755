/-
  NARROWER THAN 'FOR EVERY INPUT', by the rows' own cells (each row's printed sentence says how): TrapTells: laid · TrapBack: laid · TrapHigher: laid · TrapQuiet: laid · TrapNests: laid · TrapLines: laid.
  DERIVED. THE GIVEN ROWS OF THIS SEAT. 6 by the template 'for every input the law returns true; each argument reads behind the call as it read before'; 0 by the template 'total and deterministic' (their statements: YtkebphpfedgokaaDoorTotals.lean).
  GIVEN WITH THE SEED: the statements are not yours to turn. If you find one false, say at which input.
  Laid BY PROGRAM, IN A SANDBOX (cutbox-rows.mjs): the forced cells as the released guide's own fill.sh prints them over the translation 85d6ce7241b04045… (all of the seat's roots in one cut). By AI agents, Wed Nov 11 2026. No macro, syntax, notation, axiom, sorry.
-/
import Derived.Test.YtkebphpfedgokaaDoorChecked
import GoSem.Claim
import GoSem.ClaimJoined
import GoSem.ClaimMapViews
import Derived.JoinedTies
import Derived.KernelRfl
namespace Go.Proofs.YtkebphpfedgokaaDoor
/- THE CELL 'sum', in the pinned program and in every row, IS THE sha256 OF THE DUMP (.gsa) THAT YtkebphpfedgokaaDoorProg.lean LOADS. Nothing in Lean hashes anything: it is a label: what it is worth is what the hold of that sum in a sandbox is worth. -/
noncomputable def Tryd.pinned : Pinned := { name := "ytkebphpfedgokaadoor", sum := "85d6ce7241b04045768f2b1fbe5d0fa76bd3387918b33ac0bcde03a7aac238d2", checked := Tryd.checked }
namespace Rows
def none {H : Type} : Left H := { results := [], args := [] }

/- WHAT THE LISTED PACKAGE-LEVEL VARIABLES READ AS WHEN THE CALL BEGINS. Each datum BY PROGRAM (the guide's laid-datum.mjs) off the statement by which the dump's own 'gosem.cut.vars' lays the variable. In a bare row this is a premise. The card (YtkebphpfedgokaaDoorCards.lean) ties it to the program's text. -/
def laid_dioptra_trap_order {H : Type} : DataW H := .agg [.lit (.int .u32 11), .lit (.int .u32 3), .lit (.int .u32 7), .lit (.int .u32 9), .lit (.int .u32 1), .lit (.int .u32 5)]

/-- 'dioptralaw14.TrapTells': WHATEVER THE INPUT: true; the input reads as it did. -/
def trapTellsSpec : ChangeSpec := { name := "trapTells", fn := fun _ => fun
  | [d1, d2, d3] => { results := [.lit (.bool true)], args := [d1, d2, d3] }
  | _ => none }
def trapTellsRow : OpenClaim := { program := "ytkebphpfedgokaadoor", sum := "85d6ce7241b04045768f2b1fbe5d0fa76bd3387918b33ac0bcde03a7aac238d2", func := "dioptra/dioptralaw14.TrapTells", spec := "trapTells", named := ["dioptra/trap.order"], apart := false, laid := [("dioptra/trap.order", laid_dioptra_trap_order)] }
def TrapTellsSaid : Prop := trapTellsRow.holds Tryd.pinned (OpenSpec.ofChange trapTellsSpec)

/-- ITS FALSE NEIGHBOUR: 'it returns false'. Refute it at one input. -/
def trapTellsWrong : ChangeSpec := { name := "trapTells", fn := fun _ => fun
  | [d1, d2, d3] => { results := [.lit (.bool false)], args := [d1, d2, d3] }
  | _ => none }
def TrapTellsWrongFalsely : Prop := trapTellsRow.holds Tryd.pinned (OpenSpec.ofChange trapTellsWrong)

/-- 'dioptralaw14.TrapBack': WHATEVER THE INPUT: true; the input reads as it did. -/
def trapBackSpec : ChangeSpec := { name := "trapBack", fn := fun _ => fun
  | [d1, d2, d3] => { results := [.lit (.bool true)], args := [d1, d2, d3] }
  | _ => none }
def trapBackRow : OpenClaim := { program := "ytkebphpfedgokaadoor", sum := "85d6ce7241b04045768f2b1fbe5d0fa76bd3387918b33ac0bcde03a7aac238d2", func := "dioptra/dioptralaw14.TrapBack", spec := "trapBack", named := ["dioptra/trap.order"], apart := false, laid := [("dioptra/trap.order", laid_dioptra_trap_order)] }
def TrapBackSaid : Prop := trapBackRow.holds Tryd.pinned (OpenSpec.ofChange trapBackSpec)

/-- ITS FALSE NEIGHBOUR: 'it returns false'. Refute it at one input. -/
def trapBackWrong : ChangeSpec := { name := "trapBack", fn := fun _ => fun
  | [d1, d2, d3] => { results := [.lit (.bool false)], args := [d1, d2, d3] }
  | _ => none }
def TrapBackWrongFalsely : Prop := trapBackRow.holds Tryd.pinned (OpenSpec.ofChange trapBackWrong)

/-- 'dioptralaw14.TrapHigher': WHATEVER THE INPUT: true; the input reads as it did. -/
def trapHigherSpec : ChangeSpec := { name := "trapHigher", fn := fun _ => fun
  | [d1, d2, d3] => { results := [.lit (.bool true)], args := [d1, d2, d3] }
  | _ => none }
def trapHigherRow : OpenClaim := { program := "ytkebphpfedgokaadoor", sum := "85d6ce7241b04045768f2b1fbe5d0fa76bd3387918b33ac0bcde03a7aac238d2", func := "dioptra/dioptralaw14.TrapHigher", spec := "trapHigher", named := ["dioptra/trap.order"], apart := false, laid := [("dioptra/trap.order", laid_dioptra_trap_order)] }
def TrapHigherSaid : Prop := trapHigherRow.holds Tryd.pinned (OpenSpec.ofChange trapHigherSpec)

/-- ITS FALSE NEIGHBOUR: 'it returns false'. Refute it at one input. -/
def trapHigherWrong : ChangeSpec := { name := "trapHigher", fn := fun _ => fun
  | [d1, d2, d3] => { results := [.lit (.bool false)], args := [d1, d2, d3] }
  | _ => none }
def TrapHigherWrongFalsely : Prop := trapHigherRow.holds Tryd.pinned (OpenSpec.ofChange trapHigherWrong)

/-- 'dioptralaw14.TrapQuiet': WHATEVER THE INPUT: true; the input reads as it did. -/
def trapQuietSpec : ChangeSpec := { name := "trapQuiet", fn := fun _ => fun
  | [d] => { results := [.lit (.bool true)], args := [d] }
  | _ => none }
def trapQuietRow : OpenClaim := { program := "ytkebphpfedgokaadoor", sum := "85d6ce7241b04045768f2b1fbe5d0fa76bd3387918b33ac0bcde03a7aac238d2", func := "dioptra/dioptralaw14.TrapQuiet", spec := "trapQuiet", named := ["dioptra/trap.order"], apart := false, laid := [("dioptra/trap.order", laid_dioptra_trap_order)] }
def TrapQuietSaid : Prop := trapQuietRow.holds Tryd.pinned (OpenSpec.ofChange trapQuietSpec)

/-- ITS FALSE NEIGHBOUR: 'it returns false'. Refute it at one input. -/
def trapQuietWrong : ChangeSpec := { name := "trapQuiet", fn := fun _ => fun
  | [d] => { results := [.lit (.bool false)], args := [d] }
  | _ => none }
def TrapQuietWrongFalsely : Prop := trapQuietRow.holds Tryd.pinned (OpenSpec.ofChange trapQuietWrong)

/-- 'dioptralaw14.TrapNests': WHATEVER THE INPUT: true; the input reads as it did. -/
def trapNestsSpec : ChangeSpec := { name := "trapNests", fn := fun _ => fun
  | [d1, d2] => { results := [.lit (.bool true)], args := [d1, d2] }
  | _ => none }
def trapNestsRow : OpenClaim := { program := "ytkebphpfedgokaadoor", sum := "85d6ce7241b04045768f2b1fbe5d0fa76bd3387918b33ac0bcde03a7aac238d2", func := "dioptra/dioptralaw14.TrapNests", spec := "trapNests", named := ["dioptra/trap.order"], apart := false, laid := [("dioptra/trap.order", laid_dioptra_trap_order)] }
def TrapNestsSaid : Prop := trapNestsRow.holds Tryd.pinned (OpenSpec.ofChange trapNestsSpec)

/-- ITS FALSE NEIGHBOUR: 'it returns false'. Refute it at one input. -/
def trapNestsWrong : ChangeSpec := { name := "trapNests", fn := fun _ => fun
  | [d1, d2] => { results := [.lit (.bool false)], args := [d1, d2] }
  | _ => none }
def TrapNestsWrongFalsely : Prop := trapNestsRow.holds Tryd.pinned (OpenSpec.ofChange trapNestsWrong)

/-- 'dioptralaw14.TrapLines': WHATEVER THE INPUT: true; the input reads as it did. -/
def trapLinesSpec : ChangeSpec := { name := "trapLines", fn := fun _ => fun
  | [d] => { results := [.lit (.bool true)], args := [d] }
  | _ => none }
def trapLinesRow : OpenClaim := { program := "ytkebphpfedgokaadoor", sum := "85d6ce7241b04045768f2b1fbe5d0fa76bd3387918b33ac0bcde03a7aac238d2", func := "dioptra/dioptralaw14.TrapLines", spec := "trapLines", named := ["dioptra/trap.order"], apart := false, laid := [("dioptra/trap.order", laid_dioptra_trap_order)] }
def TrapLinesSaid : Prop := trapLinesRow.holds Tryd.pinned (OpenSpec.ofChange trapLinesSpec)

/-- ITS FALSE NEIGHBOUR: 'it returns false'. Refute it at one input. -/
def trapLinesWrong : ChangeSpec := { name := "trapLines", fn := fun _ => fun
  | [d] => { results := [.lit (.bool false)], args := [d] }
  | _ => none }
def TrapLinesWrongFalsely : Prop := trapLinesRow.holds Tryd.pinned (OpenSpec.ofChange trapLinesWrong)

/- THE SECOND FORM. 'bulk': how many values and letters a reading holds, each counted each time it is reached (what is shared counts as often as it is met; a slice's spare places count too). A statement '..UptoSaid' is the law's where the arguments, and the package variables that the reading takes, are together of bulk at most 1048576: NARROWER than '..Said'. Prove '..Said' where nothing that the law and all that it calls make is longer than what came in: it says more and counts as full. Else prove '..UptoSaid'. A law counts once. -/
mutual
def uptoBulk {H : Type} : DataW H → Nat
  | .lit (.string bytes) => bytes.length + 1
  | .lit _ => 1
  | .nil => 1
  | .ptr d => uptoBulk d + 1
  | .slice elems spare => uptoBulkAll elems + uptoBulkAll spare + 1
  | .agg parts => uptoBulkAll parts + 1
  | .iface _ d => uptoBulk d + 1
  | .map entries => uptoBulkEntries entries + 1
  | .held _ => 1
def uptoBulkAll {H : Type} : List (DataW H) → Nat
  | [] => 0
  | d :: r => uptoBulk d + uptoBulkAll r
def uptoBulkEntries {H : Type} : List (Lit × DataW H) → Nat
  | [] => 0
  | x :: r => uptoBulkEntry x + uptoBulkEntries r
def uptoBulkEntry {H : Type} : Lit × DataW H → Nat
  | (.string bytes, d) => bytes.length + uptoBulk d + 1
  | (_, d) => uptoBulk d + 1
 end
def uptoSmall : (H : Type) → List (DataW H) → Bool := fun _ ds => decide (uptoBulkAll ds ≤ 1048576)
def OpenSpec.upto (s : _root_.Go.ChangeSpec) : _root_.Go.OpenSpec := { _root_.Go.OpenSpec.ofChange s with cond := some uptoSmall }

/-- 'dioptralaw14.TrapTells', WHERE WHAT IT READS IS OF BULK AT MOST 1048576: true; the input reads as it did. -/
def trapTellsUptoRow : OpenClaim := { program := "ytkebphpfedgokaadoor", sum := "85d6ce7241b04045768f2b1fbe5d0fa76bd3387918b33ac0bcde03a7aac238d2", func := "dioptra/dioptralaw14.TrapTells", spec := "trapTells", named := ["dioptra/trap.order"], apart := false, laid := [("dioptra/trap.order", laid_dioptra_trap_order)], narrowed := true }
def TrapTellsUptoSaid : Prop := trapTellsUptoRow.holds Tryd.pinned (OpenSpec.upto trapTellsSpec)

/-- 'dioptralaw14.TrapBack', WHERE WHAT IT READS IS OF BULK AT MOST 1048576: true; the input reads as it did. -/
def trapBackUptoRow : OpenClaim := { program := "ytkebphpfedgokaadoor", sum := "85d6ce7241b04045768f2b1fbe5d0fa76bd3387918b33ac0bcde03a7aac238d2", func := "dioptra/dioptralaw14.TrapBack", spec := "trapBack", named := ["dioptra/trap.order"], apart := false, laid := [("dioptra/trap.order", laid_dioptra_trap_order)], narrowed := true }
def TrapBackUptoSaid : Prop := trapBackUptoRow.holds Tryd.pinned (OpenSpec.upto trapBackSpec)

/-- 'dioptralaw14.TrapHigher', WHERE WHAT IT READS IS OF BULK AT MOST 1048576: true; the input reads as it did. -/
def trapHigherUptoRow : OpenClaim := { program := "ytkebphpfedgokaadoor", sum := "85d6ce7241b04045768f2b1fbe5d0fa76bd3387918b33ac0bcde03a7aac238d2", func := "dioptra/dioptralaw14.TrapHigher", spec := "trapHigher", named := ["dioptra/trap.order"], apart := false, laid := [("dioptra/trap.order", laid_dioptra_trap_order)], narrowed := true }
def TrapHigherUptoSaid : Prop := trapHigherUptoRow.holds Tryd.pinned (OpenSpec.upto trapHigherSpec)

/-- 'dioptralaw14.TrapQuiet', WHERE WHAT IT READS IS OF BULK AT MOST 1048576: true; the input reads as it did. -/
def trapQuietUptoRow : OpenClaim := { program := "ytkebphpfedgokaadoor", sum := "85d6ce7241b04045768f2b1fbe5d0fa76bd3387918b33ac0bcde03a7aac238d2", func := "dioptra/dioptralaw14.TrapQuiet", spec := "trapQuiet", named := ["dioptra/trap.order"], apart := false, laid := [("dioptra/trap.order", laid_dioptra_trap_order)], narrowed := true }
def TrapQuietUptoSaid : Prop := trapQuietUptoRow.holds Tryd.pinned (OpenSpec.upto trapQuietSpec)

/-- 'dioptralaw14.TrapNests', WHERE WHAT IT READS IS OF BULK AT MOST 1048576: true; the input reads as it did. -/
def trapNestsUptoRow : OpenClaim := { program := "ytkebphpfedgokaadoor", sum := "85d6ce7241b04045768f2b1fbe5d0fa76bd3387918b33ac0bcde03a7aac238d2", func := "dioptra/dioptralaw14.TrapNests", spec := "trapNests", named := ["dioptra/trap.order"], apart := false, laid := [("dioptra/trap.order", laid_dioptra_trap_order)], narrowed := true }
def TrapNestsUptoSaid : Prop := trapNestsUptoRow.holds Tryd.pinned (OpenSpec.upto trapNestsSpec)

/-- 'dioptralaw14.TrapLines', WHERE WHAT IT READS IS OF BULK AT MOST 1048576: true; the input reads as it did. -/
def trapLinesUptoRow : OpenClaim := { program := "ytkebphpfedgokaadoor", sum := "85d6ce7241b04045768f2b1fbe5d0fa76bd3387918b33ac0bcde03a7aac238d2", func := "dioptra/dioptralaw14.TrapLines", spec := "trapLines", named := ["dioptra/trap.order"], apart := false, laid := [("dioptra/trap.order", laid_dioptra_trap_order)], narrowed := true }
def TrapLinesUptoSaid : Prop := trapLinesUptoRow.holds Tryd.pinned (OpenSpec.upto trapLinesSpec)

end Rows
end Go.Proofs.YtkebphpfedgokaaDoor
