/- The law CompileRaw on values. No conditions. -/
import Derived.Test.YtjlocofimlgaoaaDoorCwE
import Derived.Test.YtjlocofimlgaoaaDoorRaD
import Derived.Test.YtjlocofimlgaoaaDoorCom
namespace Go.Proofs.YtjlocofimlgaoaaDoor
set_option linter.unusedVariables false
set_option linter.unusedSimpArgs false
set_option linter.unusedSectionVars false
open Go.RowKit
end Go.Proofs.YtjlocofimlgaoaaDoor
