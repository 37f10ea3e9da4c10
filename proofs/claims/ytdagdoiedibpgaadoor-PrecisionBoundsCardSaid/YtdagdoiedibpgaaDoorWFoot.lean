-- Words of the print, those that this seat's texts use (struck by wip/tools/trim.py).
import Derived.Test.YtdagdoiedibpgaaDoorWApart
import Derived.Test.YtdagdoiedibpgaaDoorWArr
/-! ### 43. What is read beside a state: it stays read whatever the state's calls turn ('∀ W', KeepBut w W' g none → d.C W' A n xs') -/
namespace Go.Proofs.YtdagdoiedibpgaaDoorW.PrintWords
open Go.RowKit
namespace Kd
/-- What a kind reads lies in the blocks: nothing else of the world is looked at. -/
structure Heap {α : Type} (d : Kd α) : Prop where
section
variable {α : Type} {d : Kd α} {e base g n c : Nat} {ok : Nat → Prop} {w w0 W : World} {A : Option Addr} {xs : List α}
end
end Kd
end Go.Proofs.YtdagdoiedibpgaaDoorW.PrintWords
