/- The tied card of PrecisionBounds: the row's statement (proved), tied to the program's text. -/
import Derived.Test.YtdagdoiedibpgaaDoorLawBounds
import Derived.Test.YtdagdoiedibpgaaDoorTie
import Derived.Test.YtdagdoiedibpgaaDoorCards
import Derived.SevenTiedAt
namespace Go.Proofs.YtdagdoiedibpgaaDoor.precisionBounds
set_option linter.unusedVariables false
set_option linter.unusedSimpArgs false
open Go
theorem card_holds : Rows.PrecisionBoundsCardSaid :=
  Claim7.holds_tied_plain_at .later [] [.data] true (true, "e937c6061deca2689ef248f068aebbba0dbb050c80558bc1040f9f2728dc3fc6") false
    proved (fun _ h => by cases h) (by kernel_rfl) (fun _ h => by cases h) precisionBounds_row_tie rfl ⟨rfl, rfl⟩ (by kernel_rfl) rfl
    (fun f fn hf hfn => by
      obtain rfl : f = 7 := Option.some.inj ((show Tryd.prog.funcNamed "synoptic/synopticlaw22.PrecisionBounds" = some 7 by kernel_rfl).symm.trans hf) |>.symm
      obtain rfl : fn = Tryd.f7 := (Option.some.inj (Tryd.func7.symm.trans hfn)).symm
      exact ⟨by kernel_rfl, fun j t ht => by
        rw [Tryd.params7] at ht
        have hm : t ∈ [32, 3] := by simpa using Array.mem_of_getElem? ht
        have hall : ([32, 3].all fun u => !Tryd.prog.wantsStandIn u) = true := by kernel_rfl
        exact (show Tryd.prog.wantsStandIn t = false by simpa using List.all_eq_true.1 hall t hm)⟩)
    (by kernel_rfl)
#print axioms card_holds
end Go.Proofs.YtdagdoiedibpgaaDoor.precisionBounds
