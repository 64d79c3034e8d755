/-
  What Pending tells, as a plain function.
-/
import Derived.Test.YtkebphpfedgokaaDoorTake
import Derived.Test.YtkebphpfedgokaaDoorOpen
import Derived.Test.YtkebphpfedgokaaDoorMem
set_option linter.unusedVariables false
set_option linter.unusedSimpArgs false
namespace Go.Proofs.YtkebphpfedgokaaDoor
open Go.RowKit Go.Lib

theorem size30 : (Tryd.prog.info? 30).map (·.size) = some 17 := by kernel_rfl
theorem size47 : (Tryd.prog.info? 47).map (·.size) = some 6 := by kernel_rfl
abbrev fileZ : Obj := .cells #[.int .u32 0, .int .u32 0, .int .u32 0, .int .u32 0, .int .u32 0, .int .u32 0, .int .u32 0, .int .u32 0, .int .u32 0, .int .u32 0, .int .u32 0, .int .u32 0, .int .u32 0, .int .u32 0, .int .u32 0, .int .u32 0, .int .u64 0] 30
def pFirst (b : Int) : Option Nat := if tHas b 2048 then some 11 else if tHas b 8 then some 3 else if tHas b 128 then some 7 else if tHas b 512 then some 9 else if tHas b 2 then some 1 else if tHas b 32 then some 5 else none
def pTell (h l : Int) : Int × Bool := match pFirst h with
  | some n => (bits .or .u32 2147483648 n, true)
  | none => match pFirst l with
    | some n => (bits .or .u32 2147483648 n, true)
    | none => (0, false)
def sAsks (s : St) : Int := bits .and .u32 s.x4 s.x3
def sHigh (s : St) : Int := if s.p != 3 || tHas s.x0 8 then bits .andNot .u32 (sAsks s) s.x2 else 0
def sLow (s : St) : Int := if s.p == 0 || (s.p == 1 && tHas s.x0 2) then bits .and .u32 (sAsks s) s.x2 else 0
def sPend (s : St) : Int × Bool := pTell (sHigh s) (sLow s)
theorem ix46_0 (h l : Value) : ∀ w, (Instr.index 46 (.agg #[h, l]) (.int .i64 0)).run Tryd.prog w = .ok h w := fun _ => by kernel_rfl
theorem ix46_1 (h l : Value) : ∀ w, (Instr.index 46 (.agg #[h, l]) (.int .i64 1)).run Tryd.prog w = .ok l w := fun _ => by kernel_rfl
theorem ix47_0 : ∀ w, (Instr.index 47 (.agg ordC) (.int .i64 0)).run Tryd.prog w = .ok (.int .u32 11) w := fun _ => by kernel_rfl
theorem ix47_1 : ∀ w, (Instr.index 47 (.agg ordC) (.int .i64 1)).run Tryd.prog w = .ok (.int .u32 3) w := fun _ => by kernel_rfl
theorem ix47_2 : ∀ w, (Instr.index 47 (.agg ordC) (.int .i64 2)).run Tryd.prog w = .ok (.int .u32 7) w := fun _ => by kernel_rfl
theorem ix47_3 : ∀ w, (Instr.index 47 (.agg ordC) (.int .i64 3)).run Tryd.prog w = .ok (.int .u32 9) w := fun _ => by kernel_rfl
theorem ix47_4 : ∀ w, (Instr.index 47 (.agg ordC) (.int .i64 4)).run Tryd.prog w = .ok (.int .u32 1) w := fun _ => by kernel_rfl
theorem ix47_5 : ∀ w, (Instr.index 47 (.agg ordC) (.int .i64 5)).run Tryd.prog w = .ok (.int .u32 5) w := fun _ => by kernel_rfl
theorem results_two {fn : Func} {p q : Tmp} (h : fn.results = #[.tmp p, .tmp q]) (tmps : Array Value) (P : Program) (w : World) : (results fn tmps).run P w = .ok (.tuple #[tmps.getD p undef, tmps.getD q undef]) w := by
  simp only [results, h]
  simp [Sem.run_bind, Result.andThen]
end Go.Proofs.YtkebphpfedgokaaDoor
