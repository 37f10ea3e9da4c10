-- Words of the print, those that this seat's texts use (struck by wip/tools/trim.py).
import Derived.Test.YtdagdoiedibpgaaDoorWInv
import Derived.Test.YtdagdoiedibpgaaDoorWFootNe
namespace Go.Proofs.YtdagdoiedibpgaaDoorW.PrintWords
open Go.RowKit
end Go.Proofs.YtdagdoiedibpgaaDoorW.PrintWords
namespace Go.Proofs.YtdagdoiedibpgaaDoorW.PrintLast
section
variable {ops : Array Oper} {a : Act} {o og : Oper} {g : Nat} {t : Tmp} {u : Bool}
end
end Go.Proofs.YtdagdoiedibpgaaDoorW.PrintLast
