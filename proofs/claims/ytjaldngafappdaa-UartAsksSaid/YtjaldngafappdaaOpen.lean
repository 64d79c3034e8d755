/-
  What the arguments of the laws hold.
-/
import Derived.Test.YtjaldngafappdaaRows
import Derived.ProofKit
import Derived.OpenShut
import Derived.Below
namespace Go.Proofs.Ytjaldngafappdaa
open Go.ChangeShapes Go.WideShapes Go.ChangeAt Go.RowKit

theorem own17 : ownKnob Try.prog.godebug = none := by kernel_rfl
theorem laidOut17 : laidOutB Try.prog = true := by kernel_rfl
end Go.Proofs.Ytjaldngafappdaa
