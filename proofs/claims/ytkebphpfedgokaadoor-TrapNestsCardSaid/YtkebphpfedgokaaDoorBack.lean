/-
  trap.Back.
-/
import Derived.Test.YtkebphpfedgokaaDoorState
import Derived.Test.YtkebphpfedgokaaDoorTake
import Derived.Deep.RegionWith
import Derived.Deep.Cut
set_option linter.unusedVariables false
set_option linter.unusedSimpArgs false
namespace Go.Proofs.YtkebphpfedgokaaDoor
open Go.RowKit Go.Lib

def sPriv (x : Int) : Int := IntKind.i64.wrap (bits .and .u32 (x / 2048) 3)
def sMach (x : Int) : Int := bits .andNot .u32 (bits .or .u32 (tSet x 8 (tHas x 128)) 128) 6144
def sUser (x : Int) : Int := bits .andNot .u32 (bits .andNot .u32 (bits .or .u32 (tSet x 2 (tHas x 32)) 32) 256) 131072
def backM (s : St) : St := { s with x0 := if sPriv s.x0 = 3 then sMach s.x0 else bits .andNot .u32 (sMach s.x0) 131072, p := if sPriv s.x0 = 2 then 0 else sPriv s.x0, pc := s.x7 }
def backU (s : St) : St := { s with x0 := sUser s.x0, p := if tHas s.x0 256 then 1 else 0, pc := s.x12 }

end Go.Proofs.YtkebphpfedgokaaDoor
