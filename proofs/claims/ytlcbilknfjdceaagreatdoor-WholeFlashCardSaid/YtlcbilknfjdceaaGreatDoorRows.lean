/-
  NARROWER THAN 'FOR EVERY INPUT', by the rows' own cells (each row's printed sentence says how): WholeFlash: laid.
  DERIVED. THE GIVEN ROWS OF THIS SEAT. 1 by the template 'for every input the law returns true; each argument reads behind the call as it read before'; 0 by the template 'total and deterministic' (their statements: YtlcbilknfjdceaaGreatDoorTotals.lean).
  GIVEN WITH THE SEED: the statements are not yours to turn. If you find one false, say at which input.
  Laid BY PROGRAM, IN A SANDBOX (cutbox-rows.mjs): the forced cells as the released guide's own fill.sh prints them over the translation b87ad2e7094ce00d… (all of the seat's roots in one cut). By AI agents, Wed Nov 11 2026. No macro, syntax, notation, axiom, sorry.
-/
import Derived.Test.YtlcbilknfjdceaaGreatDoorChecked
import GoSem.Claim
import GoSem.ClaimJoined
import GoSem.ClaimMapViews
import Derived.JoinedTies
import Derived.KernelRfl
namespace Go.Proofs.YtlcbilknfjdceaaGreatDoor
/- THE CELL 'sum', in the pinned program and in every row, IS THE sha256 OF THE DUMP (.gsa) THAT YtlcbilknfjdceaaGreatDoorProg.lean LOADS. Nothing in Lean hashes anything: it is a label: what it is worth is what the hold of that sum in a sandbox is worth. -/
noncomputable def Tryz.pinned : Pinned := { name := "ytlcbilknfjdceaagreatdoor", sum := "b87ad2e7094ce00da059240147475679abd981056395ff73f1858ac94a66ee65", checked := Tryz.checked }
namespace Rows
def none {H : Type} : Left H := { results := [], args := [] }

/- WHAT THE LISTED PACKAGE-LEVEL VARIABLES READ AS WHEN THE CALL BEGINS. Each datum BY PROGRAM (the guide's laid-datum.mjs) off the statement by which the dump's own 'gosem.cut.vars' lays the variable. In a bare row this is a premise. The card (YtlcbilknfjdceaaGreatDoorCards.lean) ties it to the program's text. -/
def laid_dioptra_trap_order {H : Type} : DataW H := .agg [.lit (.int .u32 11), .lit (.int .u32 3), .lit (.int .u32 7), .lit (.int .u32 9), .lit (.int .u32 1), .lit (.int .u32 5)]
def laid_dioptra_hart_uneven {H : Type} : DataW H := .agg [.lit (.int .u32 0), .lit (.int .u32 4), .lit (.int .u32 6)]
def laid_dioptra_hart_faults {H : Type} : DataW H := .agg [.lit (.int .u32 1), .lit (.int .u32 5), .lit (.int .u32 7)]

/-- 'dioptratop.WholeFlash': WHATEVER THE INPUT: true; the input reads as it did. -/
def wholeFlashSpec : ChangeSpec := { name := "wholeFlash", fn := fun _ => fun
  | [d] => { results := [.lit (.bool true)], args := [d] }
  | _ => none }
def wholeFlashRow : OpenClaim := { program := "ytlcbilknfjdceaagreatdoor", sum := "b87ad2e7094ce00da059240147475679abd981056395ff73f1858ac94a66ee65", func := "dioptra/dioptratop.WholeFlash", spec := "wholeFlash", inPlace := ["internal/bytealg.IndexByteString", "internal/bytealg.IndexString"], unfollowed := true, recurses := true, named := ["dioptra/trap.order", "dioptra/hart.faults", "dioptra/hart.uneven", "internal/bytealg.MaxLen"], apart := false, laid := [("dioptra/trap.order", laid_dioptra_trap_order), ("dioptra/hart.uneven", laid_dioptra_hart_uneven), ("dioptra/hart.faults", laid_dioptra_hart_faults)] }
def WholeFlashSaid : Prop := wholeFlashRow.holds Tryz.pinned (OpenSpec.ofChange wholeFlashSpec)

/-- ITS FALSE NEIGHBOUR: 'it returns false'. Refute it at one input. -/
def wholeFlashWrong : ChangeSpec := { name := "wholeFlash", fn := fun _ => fun
  | [d] => { results := [.lit (.bool false)], args := [d] }
  | _ => none }
def WholeFlashWrongFalsely : Prop := wholeFlashRow.holds Tryz.pinned (OpenSpec.ofChange wholeFlashWrong)

/- THE SECOND FORM. 'bulk': how many values and letters a reading holds, each counted each time it is reached (what is shared counts as often as it is met; a slice's spare places count too). A statement '..UptoSaid' is the law's where the arguments, and the package variables that the reading takes, are together of bulk at most 1048576: NARROWER than '..Said'. Prove '..Said' where nothing that the law and all that it calls make is longer than what came in: it says more and counts as full. Else prove '..UptoSaid'. A law counts once. -/
mutual
def uptoBulk {H : Type} : DataW H → Nat
  | .lit (.string bytes) => bytes.length + 1
  | .lit _ => 1
  | .nil => 1
  | .ptr d => uptoBulk d + 1
  | .slice elems spare => uptoBulkAll elems + uptoBulkAll spare + 1
  | .agg parts => uptoBulkAll parts + 1
  | .iface _ d => uptoBulk d + 1
  | .map entries => uptoBulkEntries entries + 1
  | .held _ => 1
def uptoBulkAll {H : Type} : List (DataW H) → Nat
  | [] => 0
  | d :: r => uptoBulk d + uptoBulkAll r
def uptoBulkEntries {H : Type} : List (Lit × DataW H) → Nat
  | [] => 0
  | x :: r => uptoBulkEntry x + uptoBulkEntries r
def uptoBulkEntry {H : Type} : Lit × DataW H → Nat
  | (.string bytes, d) => bytes.length + uptoBulk d + 1
  | (_, d) => uptoBulk d + 1
 end
def uptoSmall : (H : Type) → List (DataW H) → Bool := fun _ ds => decide (uptoBulkAll ds ≤ 1048576)
def OpenSpec.upto (s : _root_.Go.ChangeSpec) : _root_.Go.OpenSpec := { _root_.Go.OpenSpec.ofChange s with cond := some uptoSmall }

/-- 'dioptratop.WholeFlash', WHERE WHAT IT READS IS OF BULK AT MOST 1048576: true; the input reads as it did. -/
def wholeFlashUptoRow : OpenClaim := { program := "ytlcbilknfjdceaagreatdoor", sum := "b87ad2e7094ce00da059240147475679abd981056395ff73f1858ac94a66ee65", func := "dioptra/dioptratop.WholeFlash", spec := "wholeFlash", inPlace := ["internal/bytealg.IndexByteString", "internal/bytealg.IndexString"], unfollowed := true, recurses := true, named := ["dioptra/trap.order", "dioptra/hart.faults", "dioptra/hart.uneven", "internal/bytealg.MaxLen"], apart := false, laid := [("dioptra/trap.order", laid_dioptra_trap_order), ("dioptra/hart.uneven", laid_dioptra_hart_uneven), ("dioptra/hart.faults", laid_dioptra_hart_faults)], narrowed := true }
def WholeFlashUptoSaid : Prop := wholeFlashUptoRow.holds Tryz.pinned (OpenSpec.upto wholeFlashSpec)

end Rows
end Go.Proofs.YtlcbilknfjdceaaGreatDoor
