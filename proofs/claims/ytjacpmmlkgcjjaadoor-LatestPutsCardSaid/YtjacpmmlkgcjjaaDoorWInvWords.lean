/- A text of this claim. -/
import Derived.Test.YtjacpmmlkgcjjaaDoorWInv
import Derived.Test.YtjacpmmlkgcjjaaDoorWFootNe
namespace Go.Proofs.YtjacpmmlkgcjjaaDoorW.PrintWords
open Go.RowKit
end Go.Proofs.YtjacpmmlkgcjjaaDoorW.PrintWords
namespace Go.Proofs.YtjacpmmlkgcjjaaDoorW.PrintLast
section
variable {ops : Array Oper} {a : Act} {o og : Oper} {g : Nat} {t : Tmp} {u : Bool}
end
end Go.Proofs.YtjacpmmlkgcjjaaDoorW.PrintLast
