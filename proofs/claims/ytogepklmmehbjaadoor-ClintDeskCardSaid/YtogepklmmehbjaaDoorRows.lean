/-
  NARROWER THAN 'FOR EVERY INPUT', by the rows' own cells (each row's printed sentence says how): ClintActs: laid · ClintDesk: laid · ClintOnce: laid · ClintRings: laid · ClintNobody: laid · ClintHalves: laid.
  DERIVED. THE GIVEN ROWS OF THIS SEAT. 6 by the template 'for every input the law returns true; each argument reads behind the call as it read before'; 0 by the template 'total and deterministic' (their statements: YtogepklmmehbjaaDoorTotals.lean).
  GIVEN WITH THE SEED: the statements are not yours to turn. If you find one false, say at which input.
  Laid BY PROGRAM, IN A SANDBOX (cutbox-rows.mjs): the forced cells as the released guide's own fill.sh prints them over the translation f239c48f1629842c… (all of the seat's roots in one cut). By AI agents, Wed Nov 11 2026. No macro, syntax, notation, axiom, sorry.
-/
import Derived.Test.YtogepklmmehbjaaDoorChecked
import GoSem.Claim
import GoSem.ClaimJoined
import GoSem.ClaimMapViews
import Derived.JoinedTies
import Derived.KernelRfl
namespace Go.Proofs.YtogepklmmehbjaaDoor
/- THE CELL 'sum', in the pinned program and in every row, IS THE sha256 OF THE DUMP (.gsa) THAT YtogepklmmehbjaaDoorProg.lean LOADS. Nothing in Lean hashes anything: it is a label: what it is worth is what the hold of that sum in a sandbox is worth. -/
noncomputable def Tryd.pinned : Pinned := { name := "ytogepklmmehbjaadoor", sum := "f239c48f1629842cd1054ea0e092612f19cdd5485b9d95fc0ea002a25a118958", checked := Tryd.checked }
namespace Rows
def none {H : Type} : Left H := { results := [], args := [] }

/- WHAT THE LISTED PACKAGE-LEVEL VARIABLES READ AS WHEN THE CALL BEGINS. Each datum BY PROGRAM (the guide's laid-datum.mjs) off the statement by which the dump's own 'gosem.cut.vars' lays the variable. In a bare row this is a premise. The card (YtogepklmmehbjaaDoorCards.lean) ties it to the program's text. -/
def laid_math_bits_deBruijn32tab {H : Type} : DataW H := .agg [.lit (.int .u8 0), .lit (.int .u8 1), .lit (.int .u8 28), .lit (.int .u8 2), .lit (.int .u8 29), .lit (.int .u8 14), .lit (.int .u8 24), .lit (.int .u8 3), .lit (.int .u8 30), .lit (.int .u8 22), .lit (.int .u8 20), .lit (.int .u8 15), .lit (.int .u8 25), .lit (.int .u8 17), .lit (.int .u8 4), .lit (.int .u8 8), .lit (.int .u8 31), .lit (.int .u8 27), .lit (.int .u8 13), .lit (.int .u8 23), .lit (.int .u8 21), .lit (.int .u8 19), .lit (.int .u8 16), .lit (.int .u8 7), .lit (.int .u8 26), .lit (.int .u8 12), .lit (.int .u8 18), .lit (.int .u8 6), .lit (.int .u8 11), .lit (.int .u8 5), .lit (.int .u8 10), .lit (.int .u8 9)]

/-- 'dioptralaw18.ClintActs': WHATEVER THE INPUT: true; the input reads as it did. -/
def clintActsSpec : ChangeSpec := { name := "clintActs", fn := fun _ => fun
  | [d] => { results := [.lit (.bool true)], args := [d] }
  | _ => none }
def clintActsRow : OpenClaim := { program := "ytogepklmmehbjaadoor", sum := "f239c48f1629842cd1054ea0e092612f19cdd5485b9d95fc0ea002a25a118958", func := "dioptra/dioptralaw18.ClintActs", spec := "clintActs", named := ["math/bits.deBruijn32tab"], apart := false, laid := [("math/bits.deBruijn32tab", laid_math_bits_deBruijn32tab)] }
def ClintActsSaid : Prop := clintActsRow.holds Tryd.pinned (OpenSpec.ofChange clintActsSpec)

/-- ITS FALSE NEIGHBOUR: 'it returns false'. Refute it at one input. -/
def clintActsWrong : ChangeSpec := { name := "clintActs", fn := fun _ => fun
  | [d] => { results := [.lit (.bool false)], args := [d] }
  | _ => none }
def ClintActsWrongFalsely : Prop := clintActsRow.holds Tryd.pinned (OpenSpec.ofChange clintActsWrong)

/-- 'dioptralaw18.ClintDesk': WHATEVER THE INPUT: true; the input reads as it did. -/
def clintDeskSpec : ChangeSpec := { name := "clintDesk", fn := fun _ => fun
  | [d] => { results := [.lit (.bool true)], args := [d] }
  | _ => none }
def clintDeskRow : OpenClaim := { program := "ytogepklmmehbjaadoor", sum := "f239c48f1629842cd1054ea0e092612f19cdd5485b9d95fc0ea002a25a118958", func := "dioptra/dioptralaw18.ClintDesk", spec := "clintDesk", named := ["math/bits.deBruijn32tab"], apart := false, laid := [("math/bits.deBruijn32tab", laid_math_bits_deBruijn32tab)] }
def ClintDeskSaid : Prop := clintDeskRow.holds Tryd.pinned (OpenSpec.ofChange clintDeskSpec)

/-- ITS FALSE NEIGHBOUR: 'it returns false'. Refute it at one input. -/
def clintDeskWrong : ChangeSpec := { name := "clintDesk", fn := fun _ => fun
  | [d] => { results := [.lit (.bool false)], args := [d] }
  | _ => none }
def ClintDeskWrongFalsely : Prop := clintDeskRow.holds Tryd.pinned (OpenSpec.ofChange clintDeskWrong)

/-- 'dioptralaw18.ClintOnce': WHATEVER THE INPUT: true; the input reads as it did. -/
def clintOnceSpec : ChangeSpec := { name := "clintOnce", fn := fun _ => fun
  | [d1, d2] => { results := [.lit (.bool true)], args := [d1, d2] }
  | _ => none }
def clintOnceRow : OpenClaim := { program := "ytogepklmmehbjaadoor", sum := "f239c48f1629842cd1054ea0e092612f19cdd5485b9d95fc0ea002a25a118958", func := "dioptra/dioptralaw18.ClintOnce", spec := "clintOnce", named := ["math/bits.deBruijn32tab"], apart := false, laid := [("math/bits.deBruijn32tab", laid_math_bits_deBruijn32tab)] }
def ClintOnceSaid : Prop := clintOnceRow.holds Tryd.pinned (OpenSpec.ofChange clintOnceSpec)

/-- ITS FALSE NEIGHBOUR: 'it returns false'. Refute it at one input. -/
def clintOnceWrong : ChangeSpec := { name := "clintOnce", fn := fun _ => fun
  | [d1, d2] => { results := [.lit (.bool false)], args := [d1, d2] }
  | _ => none }
def ClintOnceWrongFalsely : Prop := clintOnceRow.holds Tryd.pinned (OpenSpec.ofChange clintOnceWrong)

/-- 'dioptralaw18.ClintRings': WHATEVER THE INPUT: true; the input reads as it did. -/
def clintRingsSpec : ChangeSpec := { name := "clintRings", fn := fun _ => fun
  | [d1, d2] => { results := [.lit (.bool true)], args := [d1, d2] }
  | _ => none }
def clintRingsRow : OpenClaim := { program := "ytogepklmmehbjaadoor", sum := "f239c48f1629842cd1054ea0e092612f19cdd5485b9d95fc0ea002a25a118958", func := "dioptra/dioptralaw18.ClintRings", spec := "clintRings", named := ["math/bits.deBruijn32tab"], apart := false, laid := [("math/bits.deBruijn32tab", laid_math_bits_deBruijn32tab)] }
def ClintRingsSaid : Prop := clintRingsRow.holds Tryd.pinned (OpenSpec.ofChange clintRingsSpec)

/-- ITS FALSE NEIGHBOUR: 'it returns false'. Refute it at one input. -/
def clintRingsWrong : ChangeSpec := { name := "clintRings", fn := fun _ => fun
  | [d1, d2] => { results := [.lit (.bool false)], args := [d1, d2] }
  | _ => none }
def ClintRingsWrongFalsely : Prop := clintRingsRow.holds Tryd.pinned (OpenSpec.ofChange clintRingsWrong)

/-- 'dioptralaw18.ClintNobody': WHATEVER THE INPUT: true; the input reads as it did. -/
def clintNobodySpec : ChangeSpec := { name := "clintNobody", fn := fun _ => fun
  | [d1, d2] => { results := [.lit (.bool true)], args := [d1, d2] }
  | _ => none }
def clintNobodyRow : OpenClaim := { program := "ytogepklmmehbjaadoor", sum := "f239c48f1629842cd1054ea0e092612f19cdd5485b9d95fc0ea002a25a118958", func := "dioptra/dioptralaw18.ClintNobody", spec := "clintNobody", named := ["math/bits.deBruijn32tab"], apart := false, laid := [("math/bits.deBruijn32tab", laid_math_bits_deBruijn32tab)] }
def ClintNobodySaid : Prop := clintNobodyRow.holds Tryd.pinned (OpenSpec.ofChange clintNobodySpec)

/-- ITS FALSE NEIGHBOUR: 'it returns false'. Refute it at one input. -/
def clintNobodyWrong : ChangeSpec := { name := "clintNobody", fn := fun _ => fun
  | [d1, d2] => { results := [.lit (.bool false)], args := [d1, d2] }
  | _ => none }
def ClintNobodyWrongFalsely : Prop := clintNobodyRow.holds Tryd.pinned (OpenSpec.ofChange clintNobodyWrong)

/-- 'dioptralaw18.ClintHalves': WHATEVER THE INPUT: true; the input reads as it did. -/
def clintHalvesSpec : ChangeSpec := { name := "clintHalves", fn := fun _ => fun
  | [d1, d2, d3] => { results := [.lit (.bool true)], args := [d1, d2, d3] }
  | _ => none }
def clintHalvesRow : OpenClaim := { program := "ytogepklmmehbjaadoor", sum := "f239c48f1629842cd1054ea0e092612f19cdd5485b9d95fc0ea002a25a118958", func := "dioptra/dioptralaw18.ClintHalves", spec := "clintHalves", named := ["math/bits.deBruijn32tab"], apart := false, laid := [("math/bits.deBruijn32tab", laid_math_bits_deBruijn32tab)] }
def ClintHalvesSaid : Prop := clintHalvesRow.holds Tryd.pinned (OpenSpec.ofChange clintHalvesSpec)

/-- ITS FALSE NEIGHBOUR: 'it returns false'. Refute it at one input. -/
def clintHalvesWrong : ChangeSpec := { name := "clintHalves", fn := fun _ => fun
  | [d1, d2, d3] => { results := [.lit (.bool false)], args := [d1, d2, d3] }
  | _ => none }
def ClintHalvesWrongFalsely : Prop := clintHalvesRow.holds Tryd.pinned (OpenSpec.ofChange clintHalvesWrong)

/- THE SECOND FORM. 'bulk': how many values and letters a reading holds, each counted each time it is reached (what is shared counts as often as it is met; a slice's spare places count too). A statement '..UptoSaid' is the law's where the arguments, and the package variables that the reading takes, are together of bulk at most 1048576: NARROWER than '..Said'. Prove '..Said' where nothing that the law and all that it calls make is longer than what came in: it says more and counts as full. Else prove '..UptoSaid'. A law counts once. -/
mutual
def uptoBulk {H : Type} : DataW H → Nat
  | .lit (.string bytes) => bytes.length + 1
  | .lit _ => 1
  | .nil => 1
  | .ptr d => uptoBulk d + 1
  | .slice elems spare => uptoBulkAll elems + uptoBulkAll spare + 1
  | .agg parts => uptoBulkAll parts + 1
  | .iface _ d => uptoBulk d + 1
  | .map entries => uptoBulkEntries entries + 1
  | .held _ => 1
def uptoBulkAll {H : Type} : List (DataW H) → Nat
  | [] => 0
  | d :: r => uptoBulk d + uptoBulkAll r
def uptoBulkEntries {H : Type} : List (Lit × DataW H) → Nat
  | [] => 0
  | x :: r => uptoBulkEntry x + uptoBulkEntries r
def uptoBulkEntry {H : Type} : Lit × DataW H → Nat
  | (.string bytes, d) => bytes.length + uptoBulk d + 1
  | (_, d) => uptoBulk d + 1
 end
def uptoSmall : (H : Type) → List (DataW H) → Bool := fun _ ds => decide (uptoBulkAll ds ≤ 1048576)
def OpenSpec.upto (s : _root_.Go.ChangeSpec) : _root_.Go.OpenSpec := { _root_.Go.OpenSpec.ofChange s with cond := some uptoSmall }

/-- 'dioptralaw18.ClintActs', WHERE WHAT IT READS IS OF BULK AT MOST 1048576: true; the input reads as it did. -/
def clintActsUptoRow : OpenClaim := { program := "ytogepklmmehbjaadoor", sum := "f239c48f1629842cd1054ea0e092612f19cdd5485b9d95fc0ea002a25a118958", func := "dioptra/dioptralaw18.ClintActs", spec := "clintActs", named := ["math/bits.deBruijn32tab"], apart := false, laid := [("math/bits.deBruijn32tab", laid_math_bits_deBruijn32tab)], narrowed := true }
def ClintActsUptoSaid : Prop := clintActsUptoRow.holds Tryd.pinned (OpenSpec.upto clintActsSpec)

/-- 'dioptralaw18.ClintDesk', WHERE WHAT IT READS IS OF BULK AT MOST 1048576: true; the input reads as it did. -/
def clintDeskUptoRow : OpenClaim := { program := "ytogepklmmehbjaadoor", sum := "f239c48f1629842cd1054ea0e092612f19cdd5485b9d95fc0ea002a25a118958", func := "dioptra/dioptralaw18.ClintDesk", spec := "clintDesk", named := ["math/bits.deBruijn32tab"], apart := false, laid := [("math/bits.deBruijn32tab", laid_math_bits_deBruijn32tab)], narrowed := true }
def ClintDeskUptoSaid : Prop := clintDeskUptoRow.holds Tryd.pinned (OpenSpec.upto clintDeskSpec)

/-- 'dioptralaw18.ClintOnce', WHERE WHAT IT READS IS OF BULK AT MOST 1048576: true; the input reads as it did. -/
def clintOnceUptoRow : OpenClaim := { program := "ytogepklmmehbjaadoor", sum := "f239c48f1629842cd1054ea0e092612f19cdd5485b9d95fc0ea002a25a118958", func := "dioptra/dioptralaw18.ClintOnce", spec := "clintOnce", named := ["math/bits.deBruijn32tab"], apart := false, laid := [("math/bits.deBruijn32tab", laid_math_bits_deBruijn32tab)], narrowed := true }
def ClintOnceUptoSaid : Prop := clintOnceUptoRow.holds Tryd.pinned (OpenSpec.upto clintOnceSpec)

/-- 'dioptralaw18.ClintRings', WHERE WHAT IT READS IS OF BULK AT MOST 1048576: true; the input reads as it did. -/
def clintRingsUptoRow : OpenClaim := { program := "ytogepklmmehbjaadoor", sum := "f239c48f1629842cd1054ea0e092612f19cdd5485b9d95fc0ea002a25a118958", func := "dioptra/dioptralaw18.ClintRings", spec := "clintRings", named := ["math/bits.deBruijn32tab"], apart := false, laid := [("math/bits.deBruijn32tab", laid_math_bits_deBruijn32tab)], narrowed := true }
def ClintRingsUptoSaid : Prop := clintRingsUptoRow.holds Tryd.pinned (OpenSpec.upto clintRingsSpec)

/-- 'dioptralaw18.ClintNobody', WHERE WHAT IT READS IS OF BULK AT MOST 1048576: true; the input reads as it did. -/
def clintNobodyUptoRow : OpenClaim := { program := "ytogepklmmehbjaadoor", sum := "f239c48f1629842cd1054ea0e092612f19cdd5485b9d95fc0ea002a25a118958", func := "dioptra/dioptralaw18.ClintNobody", spec := "clintNobody", named := ["math/bits.deBruijn32tab"], apart := false, laid := [("math/bits.deBruijn32tab", laid_math_bits_deBruijn32tab)], narrowed := true }
def ClintNobodyUptoSaid : Prop := clintNobodyUptoRow.holds Tryd.pinned (OpenSpec.upto clintNobodySpec)

/-- 'dioptralaw18.ClintHalves', WHERE WHAT IT READS IS OF BULK AT MOST 1048576: true; the input reads as it did. -/
def clintHalvesUptoRow : OpenClaim := { program := "ytogepklmmehbjaadoor", sum := "f239c48f1629842cd1054ea0e092612f19cdd5485b9d95fc0ea002a25a118958", func := "dioptra/dioptralaw18.ClintHalves", spec := "clintHalves", named := ["math/bits.deBruijn32tab"], apart := false, laid := [("math/bits.deBruijn32tab", laid_math_bits_deBruijn32tab)], narrowed := true }
def ClintHalvesUptoSaid : Prop := clintHalvesUptoRow.holds Tryd.pinned (OpenSpec.upto clintHalvesSpec)

end Rows
end Go.Proofs.YtogepklmmehbjaaDoor
