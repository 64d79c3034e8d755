/-
  No cell of these rows narrows 'for every input' (looked for: loops, veiled, ifaces, maps, wideKeys, modest, calm, conditions, laid).
  DERIVED. THE GIVEN ROWS OF THIS SEAT. 5 by the template 'for every input the law returns true; each argument reads behind the call as it read before'; 0 by the template 'total and deterministic' (their statements: YtpmgdidigfincaaTotals.lean).
  GIVEN WITH THE SEED: the statements are not yours to turn. If you find one false, say at which input.
  Laid BY PROGRAM, IN A SANDBOX (cutbox-rows.mjs): the forced cells as the released guide's own fill.sh prints them over the translation 41a57f8aea1dd2cb… (all of the seat's roots in one cut). By AI agents, Wed Nov 11 2026. No macro, syntax, notation, axiom, sorry.
-/
import Derived.Test.YtpmgdidigfincaaChecked
import GoSem.Claim
import GoSem.ClaimJoined
import GoSem.ClaimMapViews
import Derived.JoinedTies
import Derived.KernelRfl
namespace Go.Proofs.Ytpmgdidigfincaa
/- THE CELL 'sum', in the pinned program and in every row, IS THE sha256 OF THE DUMP (.gsa) THAT YtpmgdidigfincaaProg.lean LOADS. Nothing in Lean hashes anything: it is a label: what it is worth is what the hold of that sum in a sandbox is worth. -/
noncomputable def Try.pinned : Pinned := { name := "ytpmgdidigfincaa", sum := "41a57f8aea1dd2cbf30e8640672a59c9d7dd683e090c8c00affad1f6cb9bb455", checked := Try.checked }
namespace Rows
def none {H : Type} : Left H := { results := [], args := [] }

/-- 'dioptralaw13.CsrReads': WHATEVER THE INPUT: true; the input reads as it did. -/
def csrReadsSpec : ChangeSpec := { name := "csrReads", fn := fun _ => fun
  | [d1, d2, d3] => { results := [.lit (.bool true)], args := [d1, d2, d3] }
  | _ => none }
def csrReadsRow : OpenClaim := { program := "ytpmgdidigfincaa", sum := "41a57f8aea1dd2cbf30e8640672a59c9d7dd683e090c8c00affad1f6cb9bb455", func := "dioptra/dioptralaw13.CsrReads", spec := "csrReads", apart := false }
def CsrReadsSaid : Prop := csrReadsRow.holds Try.pinned (OpenSpec.ofChange csrReadsSpec)

/-- ITS FALSE NEIGHBOUR: 'it returns false'. Refute it at one input. -/
def csrReadsWrong : ChangeSpec := { name := "csrReads", fn := fun _ => fun
  | [d1, d2, d3] => { results := [.lit (.bool false)], args := [d1, d2, d3] }
  | _ => none }
def CsrReadsWrongFalsely : Prop := csrReadsRow.holds Try.pinned (OpenSpec.ofChange csrReadsWrong)

/-- 'dioptralaw13.CsrWrites': WHATEVER THE INPUT: true; the input reads as it did. -/
def csrWritesSpec : ChangeSpec := { name := "csrWrites", fn := fun _ => fun
  | [d1, d2, d3] => { results := [.lit (.bool true)], args := [d1, d2, d3] }
  | _ => none }
def csrWritesRow : OpenClaim := { program := "ytpmgdidigfincaa", sum := "41a57f8aea1dd2cbf30e8640672a59c9d7dd683e090c8c00affad1f6cb9bb455", func := "dioptra/dioptralaw13.CsrWrites", spec := "csrWrites", apart := false }
def CsrWritesSaid : Prop := csrWritesRow.holds Try.pinned (OpenSpec.ofChange csrWritesSpec)

/-- ITS FALSE NEIGHBOUR: 'it returns false'. Refute it at one input. -/
def csrWritesWrong : ChangeSpec := { name := "csrWrites", fn := fun _ => fun
  | [d1, d2, d3] => { results := [.lit (.bool false)], args := [d1, d2, d3] }
  | _ => none }
def CsrWritesWrongFalsely : Prop := csrWritesRow.holds Try.pinned (OpenSpec.ofChange csrWritesWrong)

/-- 'dioptralaw13.CsrPrivileges': WHATEVER THE INPUT: true; the input reads as it did. -/
def csrPrivilegesSpec : ChangeSpec := { name := "csrPrivileges", fn := fun _ => fun
  | [d1, d2, d3] => { results := [.lit (.bool true)], args := [d1, d2, d3] }
  | _ => none }
def csrPrivilegesRow : OpenClaim := { program := "ytpmgdidigfincaa", sum := "41a57f8aea1dd2cbf30e8640672a59c9d7dd683e090c8c00affad1f6cb9bb455", func := "dioptra/dioptralaw13.CsrPrivileges", spec := "csrPrivileges", apart := false }
def CsrPrivilegesSaid : Prop := csrPrivilegesRow.holds Try.pinned (OpenSpec.ofChange csrPrivilegesSpec)

/-- ITS FALSE NEIGHBOUR: 'it returns false'. Refute it at one input. -/
def csrPrivilegesWrong : ChangeSpec := { name := "csrPrivileges", fn := fun _ => fun
  | [d1, d2, d3] => { results := [.lit (.bool false)], args := [d1, d2, d3] }
  | _ => none }
def CsrPrivilegesWrongFalsely : Prop := csrPrivilegesRow.holds Try.pinned (OpenSpec.ofChange csrPrivilegesWrong)

/-- 'dioptralaw13.CsrViews': WHATEVER THE INPUT: true; the input reads as it did. -/
def csrViewsSpec : ChangeSpec := { name := "csrViews", fn := fun _ => fun
  | [d1, d2] => { results := [.lit (.bool true)], args := [d1, d2] }
  | _ => none }
def csrViewsRow : OpenClaim := { program := "ytpmgdidigfincaa", sum := "41a57f8aea1dd2cbf30e8640672a59c9d7dd683e090c8c00affad1f6cb9bb455", func := "dioptra/dioptralaw13.CsrViews", spec := "csrViews", apart := false }
def CsrViewsSaid : Prop := csrViewsRow.holds Try.pinned (OpenSpec.ofChange csrViewsSpec)

/-- ITS FALSE NEIGHBOUR: 'it returns false'. Refute it at one input. -/
def csrViewsWrong : ChangeSpec := { name := "csrViews", fn := fun _ => fun
  | [d1, d2] => { results := [.lit (.bool false)], args := [d1, d2] }
  | _ => none }
def CsrViewsWrongFalsely : Prop := csrViewsRow.holds Try.pinned (OpenSpec.ofChange csrViewsWrong)

/-- 'dioptralaw13.CsrLines': WHATEVER THE INPUT: true; the input reads as it did. -/
def csrLinesSpec : ChangeSpec := { name := "csrLines", fn := fun _ => fun
  | [d1, d2, d3] => { results := [.lit (.bool true)], args := [d1, d2, d3] }
  | _ => none }
def csrLinesRow : OpenClaim := { program := "ytpmgdidigfincaa", sum := "41a57f8aea1dd2cbf30e8640672a59c9d7dd683e090c8c00affad1f6cb9bb455", func := "dioptra/dioptralaw13.CsrLines", spec := "csrLines", apart := false }
def CsrLinesSaid : Prop := csrLinesRow.holds Try.pinned (OpenSpec.ofChange csrLinesSpec)

/-- ITS FALSE NEIGHBOUR: 'it returns false'. Refute it at one input. -/
def csrLinesWrong : ChangeSpec := { name := "csrLines", fn := fun _ => fun
  | [d1, d2, d3] => { results := [.lit (.bool false)], args := [d1, d2, d3] }
  | _ => none }
def CsrLinesWrongFalsely : Prop := csrLinesRow.holds Try.pinned (OpenSpec.ofChange csrLinesWrong)

/- THE SECOND FORM. 'bulk': how many values and letters a reading holds, each counted each time it is reached (what is shared counts as often as it is met; a slice's spare places count too). A statement '..UptoSaid' is the law's where the arguments, and the package variables that the reading takes, are together of bulk at most 1048576: NARROWER than '..Said'. Prove '..Said' where nothing that the law and all that it calls make is longer than what came in: it says more and counts as full. Else prove '..UptoSaid'. A law counts once. -/
mutual
def uptoBulk {H : Type} : DataW H → Nat
  | .lit (.string bytes) => bytes.length + 1
  | .lit _ => 1
  | .nil => 1
  | .ptr d => uptoBulk d + 1
  | .slice elems spare => uptoBulkAll elems + uptoBulkAll spare + 1
  | .agg parts => uptoBulkAll parts + 1
  | .iface _ d => uptoBulk d + 1
  | .map entries => uptoBulkEntries entries + 1
  | .held _ => 1
def uptoBulkAll {H : Type} : List (DataW H) → Nat
  | [] => 0
  | d :: r => uptoBulk d + uptoBulkAll r
def uptoBulkEntries {H : Type} : List (Lit × DataW H) → Nat
  | [] => 0
  | x :: r => uptoBulkEntry x + uptoBulkEntries r
def uptoBulkEntry {H : Type} : Lit × DataW H → Nat
  | (.string bytes, d) => bytes.length + uptoBulk d + 1
  | (_, d) => uptoBulk d + 1
 end
def uptoSmall : (H : Type) → List (DataW H) → Bool := fun _ ds => decide (uptoBulkAll ds ≤ 1048576)
def OpenSpec.upto (s : _root_.Go.ChangeSpec) : _root_.Go.OpenSpec := { _root_.Go.OpenSpec.ofChange s with cond := some uptoSmall }

/-- 'dioptralaw13.CsrReads', WHERE WHAT IT READS IS OF BULK AT MOST 1048576: true; the input reads as it did. -/
def csrReadsUptoRow : OpenClaim := { program := "ytpmgdidigfincaa", sum := "41a57f8aea1dd2cbf30e8640672a59c9d7dd683e090c8c00affad1f6cb9bb455", func := "dioptra/dioptralaw13.CsrReads", spec := "csrReads", apart := false, narrowed := true }
def CsrReadsUptoSaid : Prop := csrReadsUptoRow.holds Try.pinned (OpenSpec.upto csrReadsSpec)

/-- 'dioptralaw13.CsrWrites', WHERE WHAT IT READS IS OF BULK AT MOST 1048576: true; the input reads as it did. -/
def csrWritesUptoRow : OpenClaim := { program := "ytpmgdidigfincaa", sum := "41a57f8aea1dd2cbf30e8640672a59c9d7dd683e090c8c00affad1f6cb9bb455", func := "dioptra/dioptralaw13.CsrWrites", spec := "csrWrites", apart := false, narrowed := true }
def CsrWritesUptoSaid : Prop := csrWritesUptoRow.holds Try.pinned (OpenSpec.upto csrWritesSpec)

/-- 'dioptralaw13.CsrPrivileges', WHERE WHAT IT READS IS OF BULK AT MOST 1048576: true; the input reads as it did. -/
def csrPrivilegesUptoRow : OpenClaim := { program := "ytpmgdidigfincaa", sum := "41a57f8aea1dd2cbf30e8640672a59c9d7dd683e090c8c00affad1f6cb9bb455", func := "dioptra/dioptralaw13.CsrPrivileges", spec := "csrPrivileges", apart := false, narrowed := true }
def CsrPrivilegesUptoSaid : Prop := csrPrivilegesUptoRow.holds Try.pinned (OpenSpec.upto csrPrivilegesSpec)

/-- 'dioptralaw13.CsrViews', WHERE WHAT IT READS IS OF BULK AT MOST 1048576: true; the input reads as it did. -/
def csrViewsUptoRow : OpenClaim := { program := "ytpmgdidigfincaa", sum := "41a57f8aea1dd2cbf30e8640672a59c9d7dd683e090c8c00affad1f6cb9bb455", func := "dioptra/dioptralaw13.CsrViews", spec := "csrViews", apart := false, narrowed := true }
def CsrViewsUptoSaid : Prop := csrViewsUptoRow.holds Try.pinned (OpenSpec.upto csrViewsSpec)

/-- 'dioptralaw13.CsrLines', WHERE WHAT IT READS IS OF BULK AT MOST 1048576: true; the input reads as it did. -/
def csrLinesUptoRow : OpenClaim := { program := "ytpmgdidigfincaa", sum := "41a57f8aea1dd2cbf30e8640672a59c9d7dd683e090c8c00affad1f6cb9bb455", func := "dioptra/dioptralaw13.CsrLines", spec := "csrLines", apart := false, narrowed := true }
def CsrLinesUptoSaid : Prop := csrLinesUptoRow.holds Try.pinned (OpenSpec.upto csrLinesSpec)

end Rows
end Go.Proofs.Ytpmgdidigfincaa
