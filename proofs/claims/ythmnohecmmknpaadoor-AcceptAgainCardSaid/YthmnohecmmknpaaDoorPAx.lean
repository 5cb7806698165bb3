/- A text of this claim. -/
import Derived.Test.YthmnohecmmknpaaDoorPAx0
import Derived.Test.YthmnohecmmknpaaDoorPAx1
import Derived.Test.YthmnohecmmknpaaDoorPAx2
import Derived.Test.YthmnohecmmknpaaDoorPAx3
import Derived.Test.YthmnohecmmknpaaDoorPAx4
import Derived.Test.YthmnohecmmknpaaDoorPAx5
import Derived.Test.YthmnohecmmknpaaDoorPAx6
namespace Go.Proofs.YthmnohecmmknpaaDoor.PA
open Go.RowKit Go.Proofs.YthmnohecmmknpaaDoor.Given Go.Proofs.YthmnohecmmknpaaDoorW.PrintWords Go.Proofs.YthmnohecmmknpaaDoorW.PrintLast Go.Proofs.YthmnohecmmknpaaDoorW.PrintMore
attribute [local go_sem] max2_int min2_int max_two min_two max_three min_three max_four min_four
set_option linter.unusedVariables false
set_option linter.unusedSimpArgs false
end Go.Proofs.YthmnohecmmknpaaDoor.PA
