-- Written for this seat by wip/myprint.py (the kit's print program, with functions given that this session has proved by hand). Lean checks it.
import Derived.Test.YtjacpmmlkgcjjaaDoorPBx0
import Derived.Test.YtjacpmmlkgcjjaaDoorPBx1
namespace Go.Proofs.YtjacpmmlkgcjjaaDoor.PB
open Go.RowKit Go.Proofs.YtjacpmmlkgcjjaaDoor.Given Go.Proofs.YtjacpmmlkgcjjaaDoorW.PrintWords Go.Proofs.YtjacpmmlkgcjjaaDoorW.PrintLast Go.Proofs.YtjacpmmlkgcjjaaDoorW.PrintMore
attribute [local go_sem] max2_int min2_int max_two min_two max_three min_three max_four min_four   -- for this text's walks alone
set_option linter.unusedVariables false
set_option linter.unusedSimpArgs false

end Go.Proofs.YtjacpmmlkgcjjaaDoor.PB
