-- Written by wip/ext.py, a driver over the kit's print, with texts of this session's own.
import Derived.Test.YtdagdoiedibpgaaDoorPrt0
import Derived.Test.YtdagdoiedibpgaaDoorTryI
namespace Go.Proofs.YtdagdoiedibpgaaDoor.Prt
open Go.RowKit Go.Proofs.YtdagdoiedibpgaaDoorW.PrintWords Go.Proofs.YtdagdoiedibpgaaDoorW.PrintLast Go.Proofs.YtdagdoiedibpgaaDoorW.PrintMore
attribute [local go_sem] max2_int min2_int max_two min_two max_three min_three max_four min_four   -- for this text's walks alone
set_option linter.unusedVariables false
set_option linter.unusedSimpArgs false

-- EXT edges.in
-- EXTIMPORT Derived.Test.YtdagdoiedibpgaaDoorTryI
def grid_Edges.f (a0 : Int) : Option ((List (S69)) × Int) := if 1 ≤ a0 ∧ a0 ≤ 8 then some (edgesS a0.toNat, (0 : Int)) else some (([] : List S69), (1 : Int))
theorem grid_Edges.calls (a0 : Int) (r1 : List (S69)) (r2 : Int) (w : World) (hG : CornersAt w) (h : grid_Edges.f a0 = some (r1, r2)) :
    Calls Tryd.prog 40 #[.int .i64 a0] w fun e w' => ∃ v0_ : Value, e = .returned (.tuple #[v0_, .int .i64 r2]) ∧ Kd.R k69 69 w' w.heap.size (fun _ => True) v0_ r1 ∧ Below w.heap.size w w' := edges_walk a0 r1 r2 w hG h

end Go.Proofs.YtdagdoiedibpgaaDoor.Prt
