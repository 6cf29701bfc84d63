import Derived.Test.YtpfldhaaiglgdaaDoorKa
import Derived.Test.YtpfldhaaiglgdaaDoorEngR
import Derived.Test.YtpfldhaaiglgdaaDoorCards
import Derived.Test.YtpfldhaaiglgdaaDoorTie
import Derived.Lib.LaidTab
import Derived.MakeChecks
import Derived.Stop.LaidErr
import Derived.LaidMore
set_option linter.unusedSimpArgs false
set_option linter.unusedVariables false
set_option linter.unusedSectionVars false
set_option maxRecDepth 20000
namespace Go.Proofs.YtpfldhaaiglgdaaDoor
abbrev tabL : List (String × DataW Unit) := [("math/bits.deBruijn32tab", Rows.laid_math_bits_deBruijn32tab), ("math/bits.deBruijn64tab", Rows.laid_math_bits_deBruijn64tab)]
end Go.Proofs.YtpfldhaaiglgdaaDoor
