/- The reference's functions in the words of Val. -/
import Derived.Test.YthmnohecmmknpaaDoorValN
import Derived.Lib.SplitLaws
namespace Go.Proofs.YthmnohecmmknpaaDoor.Val
open Go.RowKit Go.Proofs.YthmnohecmmknpaaDoorW.PrintWords Go.Proofs.YthmnohecmmknpaaDoorW.PrintLast Go.Proofs.YthmnohecmmknpaaDoor.Given Go.Proofs.YthmnohecmmknpaaDoor.PA
set_option linter.unusedVariables false
set_option linter.unusedSimpArgs false
end Go.Proofs.YthmnohecmmknpaaDoor.Val
