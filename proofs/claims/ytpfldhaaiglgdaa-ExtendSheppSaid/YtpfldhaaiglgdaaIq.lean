import Derived.Test.YtpfldhaaiglgdaaIo
import Derived.Test.YtpfldhaaiglgdaaFm
import Derived.Test.YtpfldhaaiglgdaaEngZj
set_option linter.unusedSimpArgs false
set_option linter.unusedVariables false
set_option linter.unusedSectionVars false
set_option maxRecDepth 20000
namespace Go.Proofs.Ytpfldhaaiglgdaa
attribute [local irreducible] QOp aL aC qL
def czIq (m j : List (List Int)) (k : Nat) : Nat := if k = 0 then 0 else if k = 1 then m.length else m.length + j.length
def cc (m j : List (List Int)) (k : Nat) : List (List Int) := if k = 0 then [] else if k = 1 then m else m ++ j
def badLn (N : Int) (r : List Int) : Bool := decide ((r.length : Int) ≠ N)
end Go.Proofs.Ytpfldhaaiglgdaa
