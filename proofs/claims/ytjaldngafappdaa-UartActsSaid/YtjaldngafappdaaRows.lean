/-
  No cell of these rows narrows 'for every input' (looked for: loops, veiled, ifaces, maps, wideKeys, modest, calm, conditions, laid).
  DERIVED. THE GIVEN ROWS OF THIS SEAT. 6 by the template 'for every input the law returns true; each argument reads behind the call as it read before'; 0 by the template 'total and deterministic' (their statements: YtjaldngafappdaaTotals.lean).
  GIVEN WITH THE SEED: the statements are not yours to turn. If you find one false, say at which input.
  Laid BY PROGRAM, IN A SANDBOX (cutbox-rows.mjs): the forced cells as the released guide's own fill.sh prints them over the translation 6b73e94b97dc4e0f… (all of the seat's roots in one cut). By AI agents, Wed Nov 11 2026. No macro, syntax, notation, axiom, sorry.
-/
import Derived.Test.YtjaldngafappdaaChecked
import GoSem.Claim
import GoSem.ClaimJoined
import GoSem.ClaimMapViews
import Derived.JoinedTies
import Derived.KernelRfl
namespace Go.Proofs.Ytjaldngafappdaa
/- THE CELL 'sum', in the pinned program and in every row, IS THE sha256 OF THE DUMP (.gsa) THAT YtjaldngafappdaaProg.lean LOADS. Nothing in Lean hashes anything: it is a label: what it is worth is what the hold of that sum in a sandbox is worth. -/
noncomputable def Try.pinned : Pinned := { name := "ytjaldngafappdaa", sum := "6b73e94b97dc4e0f27f4bf0aad2161bcbd5b4d58ed3f9e87dff62b98639aa0ae", checked := Try.checked }
namespace Rows
def none {H : Type} : Left H := { results := [], args := [] }

/-- 'dioptralaw17.UartActs': WHATEVER THE INPUT: true; the input reads as it did. -/
def uartActsSpec : ChangeSpec := { name := "uartActs", fn := fun _ => fun
  | [d] => { results := [.lit (.bool true)], args := [d] }
  | _ => none }
def uartActsRow : OpenClaim := { program := "ytjaldngafappdaa", sum := "6b73e94b97dc4e0f27f4bf0aad2161bcbd5b4d58ed3f9e87dff62b98639aa0ae", func := "dioptra/dioptralaw17.UartActs", spec := "uartActs", inPlace := ["internal/abi.NoEscape"], apart := false }
def UartActsSaid : Prop := uartActsRow.holds Try.pinned (OpenSpec.ofChange uartActsSpec)

/-- ITS FALSE NEIGHBOUR: 'it returns false'. Refute it at one input. -/
def uartActsWrong : ChangeSpec := { name := "uartActs", fn := fun _ => fun
  | [d] => { results := [.lit (.bool false)], args := [d] }
  | _ => none }
def UartActsWrongFalsely : Prop := uartActsRow.holds Try.pinned (OpenSpec.ofChange uartActsWrong)

/-- 'dioptralaw17.UartRows': WHATEVER THE INPUT: true; the input reads as it did. -/
def uartRowsSpec : ChangeSpec := { name := "uartRows", fn := fun _ => fun
  | [d1, d2] => { results := [.lit (.bool true)], args := [d1, d2] }
  | _ => none }
def uartRowsRow : OpenClaim := { program := "ytjaldngafappdaa", sum := "6b73e94b97dc4e0f27f4bf0aad2161bcbd5b4d58ed3f9e87dff62b98639aa0ae", func := "dioptra/dioptralaw17.UartRows", spec := "uartRows", inPlace := ["internal/abi.NoEscape"], apart := false }
def UartRowsSaid : Prop := uartRowsRow.holds Try.pinned (OpenSpec.ofChange uartRowsSpec)

/-- ITS FALSE NEIGHBOUR: 'it returns false'. Refute it at one input. -/
def uartRowsWrong : ChangeSpec := { name := "uartRows", fn := fun _ => fun
  | [d1, d2] => { results := [.lit (.bool false)], args := [d1, d2] }
  | _ => none }
def UartRowsWrongFalsely : Prop := uartRowsRow.holds Try.pinned (OpenSpec.ofChange uartRowsWrong)

/-- 'dioptralaw17.UartAsks': WHATEVER THE INPUT: true; the input reads as it did. -/
def uartAsksSpec : ChangeSpec := { name := "uartAsks", fn := fun _ => fun
  | [d1, d2, d3] => { results := [.lit (.bool true)], args := [d1, d2, d3] }
  | _ => none }
def uartAsksRow : OpenClaim := { program := "ytjaldngafappdaa", sum := "6b73e94b97dc4e0f27f4bf0aad2161bcbd5b4d58ed3f9e87dff62b98639aa0ae", func := "dioptra/dioptralaw17.UartAsks", spec := "uartAsks", inPlace := ["internal/abi.NoEscape"], apart := false }
def UartAsksSaid : Prop := uartAsksRow.holds Try.pinned (OpenSpec.ofChange uartAsksSpec)

/-- ITS FALSE NEIGHBOUR: 'it returns false'. Refute it at one input. -/
def uartAsksWrong : ChangeSpec := { name := "uartAsks", fn := fun _ => fun
  | [d1, d2, d3] => { results := [.lit (.bool false)], args := [d1, d2, d3] }
  | _ => none }
def UartAsksWrongFalsely : Prop := uartAsksRow.holds Try.pinned (OpenSpec.ofChange uartAsksWrong)

/-- 'dioptralaw17.UartNobody': WHATEVER THE INPUT: true; the input reads as it did. -/
def uartNobodySpec : ChangeSpec := { name := "uartNobody", fn := fun _ => fun
  | [d1, d2] => { results := [.lit (.bool true)], args := [d1, d2] }
  | _ => none }
def uartNobodyRow : OpenClaim := { program := "ytjaldngafappdaa", sum := "6b73e94b97dc4e0f27f4bf0aad2161bcbd5b4d58ed3f9e87dff62b98639aa0ae", func := "dioptra/dioptralaw17.UartNobody", spec := "uartNobody", inPlace := ["internal/abi.NoEscape"], apart := false }
def UartNobodySaid : Prop := uartNobodyRow.holds Try.pinned (OpenSpec.ofChange uartNobodySpec)

/-- ITS FALSE NEIGHBOUR: 'it returns false'. Refute it at one input. -/
def uartNobodyWrong : ChangeSpec := { name := "uartNobody", fn := fun _ => fun
  | [d1, d2] => { results := [.lit (.bool false)], args := [d1, d2] }
  | _ => none }
def UartNobodyWrongFalsely : Prop := uartNobodyRow.holds Try.pinned (OpenSpec.ofChange uartNobodyWrong)

/-- 'dioptralaw17.UartKeeps': WHATEVER THE INPUT: true; the input reads as it did. -/
def uartKeepsSpec : ChangeSpec := { name := "uartKeeps", fn := fun _ => fun
  | [d] => { results := [.lit (.bool true)], args := [d] }
  | _ => none }
def uartKeepsRow : OpenClaim := { program := "ytjaldngafappdaa", sum := "6b73e94b97dc4e0f27f4bf0aad2161bcbd5b4d58ed3f9e87dff62b98639aa0ae", func := "dioptra/dioptralaw17.UartKeeps", spec := "uartKeeps", inPlace := ["internal/abi.NoEscape"], apart := false }
def UartKeepsSaid : Prop := uartKeepsRow.holds Try.pinned (OpenSpec.ofChange uartKeepsSpec)

/-- ITS FALSE NEIGHBOUR: 'it returns false'. Refute it at one input. -/
def uartKeepsWrong : ChangeSpec := { name := "uartKeeps", fn := fun _ => fun
  | [d] => { results := [.lit (.bool false)], args := [d] }
  | _ => none }
def UartKeepsWrongFalsely : Prop := uartKeepsRow.holds Try.pinned (OpenSpec.ofChange uartKeepsWrong)

/-- 'dioptralaw17.UartLoses': WHATEVER THE INPUT: true; the input reads as it did. -/
def uartLosesSpec : ChangeSpec := { name := "uartLoses", fn := fun _ => fun
  | [d1, d2] => { results := [.lit (.bool true)], args := [d1, d2] }
  | _ => none }
def uartLosesRow : OpenClaim := { program := "ytjaldngafappdaa", sum := "6b73e94b97dc4e0f27f4bf0aad2161bcbd5b4d58ed3f9e87dff62b98639aa0ae", func := "dioptra/dioptralaw17.UartLoses", spec := "uartLoses", inPlace := ["internal/abi.NoEscape"], apart := false }
def UartLosesSaid : Prop := uartLosesRow.holds Try.pinned (OpenSpec.ofChange uartLosesSpec)

/-- ITS FALSE NEIGHBOUR: 'it returns false'. Refute it at one input. -/
def uartLosesWrong : ChangeSpec := { name := "uartLoses", fn := fun _ => fun
  | [d1, d2] => { results := [.lit (.bool false)], args := [d1, d2] }
  | _ => none }
def UartLosesWrongFalsely : Prop := uartLosesRow.holds Try.pinned (OpenSpec.ofChange uartLosesWrong)

/- THE SECOND FORM. 'bulk': how many values and letters a reading holds, each counted each time it is reached (what is shared counts as often as it is met; a slice's spare places count too). A statement '..UptoSaid' is the law's where the arguments, and the package variables that the reading takes, are together of bulk at most 1048576: NARROWER than '..Said'. Prove '..Said' where nothing that the law and all that it calls make is longer than what came in: it says more and counts as full. Else prove '..UptoSaid'. A law counts once. -/
mutual
def uptoBulk {H : Type} : DataW H → Nat
  | .lit (.string bytes) => bytes.length + 1
  | .lit _ => 1
  | .nil => 1
  | .ptr d => uptoBulk d + 1
  | .slice elems spare => uptoBulkAll elems + uptoBulkAll spare + 1
  | .agg parts => uptoBulkAll parts + 1
  | .iface _ d => uptoBulk d + 1
  | .map entries => uptoBulkEntries entries + 1
  | .held _ => 1
def uptoBulkAll {H : Type} : List (DataW H) → Nat
  | [] => 0
  | d :: r => uptoBulk d + uptoBulkAll r
def uptoBulkEntries {H : Type} : List (Lit × DataW H) → Nat
  | [] => 0
  | x :: r => uptoBulkEntry x + uptoBulkEntries r
def uptoBulkEntry {H : Type} : Lit × DataW H → Nat
  | (.string bytes, d) => bytes.length + uptoBulk d + 1
  | (_, d) => uptoBulk d + 1
 end
def uptoSmall : (H : Type) → List (DataW H) → Bool := fun _ ds => decide (uptoBulkAll ds ≤ 1048576)
def OpenSpec.upto (s : _root_.Go.ChangeSpec) : _root_.Go.OpenSpec := { _root_.Go.OpenSpec.ofChange s with cond := some uptoSmall }

/-- 'dioptralaw17.UartActs', WHERE WHAT IT READS IS OF BULK AT MOST 1048576: true; the input reads as it did. -/
def uartActsUptoRow : OpenClaim := { program := "ytjaldngafappdaa", sum := "6b73e94b97dc4e0f27f4bf0aad2161bcbd5b4d58ed3f9e87dff62b98639aa0ae", func := "dioptra/dioptralaw17.UartActs", spec := "uartActs", inPlace := ["internal/abi.NoEscape"], apart := false, narrowed := true }
def UartActsUptoSaid : Prop := uartActsUptoRow.holds Try.pinned (OpenSpec.upto uartActsSpec)

/-- 'dioptralaw17.UartRows', WHERE WHAT IT READS IS OF BULK AT MOST 1048576: true; the input reads as it did. -/
def uartRowsUptoRow : OpenClaim := { program := "ytjaldngafappdaa", sum := "6b73e94b97dc4e0f27f4bf0aad2161bcbd5b4d58ed3f9e87dff62b98639aa0ae", func := "dioptra/dioptralaw17.UartRows", spec := "uartRows", inPlace := ["internal/abi.NoEscape"], apart := false, narrowed := true }
def UartRowsUptoSaid : Prop := uartRowsUptoRow.holds Try.pinned (OpenSpec.upto uartRowsSpec)

/-- 'dioptralaw17.UartAsks', WHERE WHAT IT READS IS OF BULK AT MOST 1048576: true; the input reads as it did. -/
def uartAsksUptoRow : OpenClaim := { program := "ytjaldngafappdaa", sum := "6b73e94b97dc4e0f27f4bf0aad2161bcbd5b4d58ed3f9e87dff62b98639aa0ae", func := "dioptra/dioptralaw17.UartAsks", spec := "uartAsks", inPlace := ["internal/abi.NoEscape"], apart := false, narrowed := true }
def UartAsksUptoSaid : Prop := uartAsksUptoRow.holds Try.pinned (OpenSpec.upto uartAsksSpec)

/-- 'dioptralaw17.UartNobody', WHERE WHAT IT READS IS OF BULK AT MOST 1048576: true; the input reads as it did. -/
def uartNobodyUptoRow : OpenClaim := { program := "ytjaldngafappdaa", sum := "6b73e94b97dc4e0f27f4bf0aad2161bcbd5b4d58ed3f9e87dff62b98639aa0ae", func := "dioptra/dioptralaw17.UartNobody", spec := "uartNobody", inPlace := ["internal/abi.NoEscape"], apart := false, narrowed := true }
def UartNobodyUptoSaid : Prop := uartNobodyUptoRow.holds Try.pinned (OpenSpec.upto uartNobodySpec)

/-- 'dioptralaw17.UartKeeps', WHERE WHAT IT READS IS OF BULK AT MOST 1048576: true; the input reads as it did. -/
def uartKeepsUptoRow : OpenClaim := { program := "ytjaldngafappdaa", sum := "6b73e94b97dc4e0f27f4bf0aad2161bcbd5b4d58ed3f9e87dff62b98639aa0ae", func := "dioptra/dioptralaw17.UartKeeps", spec := "uartKeeps", inPlace := ["internal/abi.NoEscape"], apart := false, narrowed := true }
def UartKeepsUptoSaid : Prop := uartKeepsUptoRow.holds Try.pinned (OpenSpec.upto uartKeepsSpec)

/-- 'dioptralaw17.UartLoses', WHERE WHAT IT READS IS OF BULK AT MOST 1048576: true; the input reads as it did. -/
def uartLosesUptoRow : OpenClaim := { program := "ytjaldngafappdaa", sum := "6b73e94b97dc4e0f27f4bf0aad2161bcbd5b4d58ed3f9e87dff62b98639aa0ae", func := "dioptra/dioptralaw17.UartLoses", spec := "uartLoses", inPlace := ["internal/abi.NoEscape"], apart := false, narrowed := true }
def UartLosesUptoSaid : Prop := uartLosesUptoRow.holds Try.pinned (OpenSpec.upto uartLosesSpec)

end Rows
end Go.Proofs.Ytjaldngafappdaa
