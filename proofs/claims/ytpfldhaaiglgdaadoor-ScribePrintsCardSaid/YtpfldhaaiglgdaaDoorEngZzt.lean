import Derived.Test.YtpfldhaaiglgdaaDoorEngA
import Derived.Laws.LoneSync
import Derived.Laws.Tables
set_option linter.unusedSimpArgs false
set_option linter.unusedVariables false
set_option linter.unusedSectionVars false
namespace Go.Proofs.YtpfldhaaiglgdaaDoor
open Go.RowKit
/-- A function without a text, which the model stands in for. -/
structure ExtF (P : Program) (f : FuncId) (fn : Func) : Prop where
  hf : P.funcs[f]? = some fn
  nm : (fn.name == "runtime.NumGoroutine") = false
  bd : fn.body.isNone = true
  nx : Extern.findNext fn = none
end Go.Proofs.YtpfldhaaiglgdaaDoor
