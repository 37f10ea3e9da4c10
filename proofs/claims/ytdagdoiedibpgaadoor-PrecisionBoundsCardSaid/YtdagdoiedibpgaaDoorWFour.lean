-- Words of the print, those that this seat's texts use (struck by wip/tools/trim.py).
import Derived.Test.YtdagdoiedibpgaaDoorWTab
/-! ### 56. Four, five, six operations that may come up next, in any order -/
namespace Go.Proofs.YtdagdoiedibpgaaDoorW.PrintLast
section
variable {P : Program} {ops : Array Oper} {Q : Exit → Act → World → Prop} {md : Region.Mode} {S : World → Prop} {ds : List Nat} {T : Bool × List (List Nat × List Nat)}
end
end Go.Proofs.YtdagdoiedibpgaaDoorW.PrintLast
