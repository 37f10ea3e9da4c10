/-
  DERIVED. GIVEN WITH THE SEED: THE CARDS: each row of YtdagdoiedibpgaaDoorRows.lean that lists a variable, with what it lists TIED to the program's text (the seventh form; the later family's looks); each row that meets fmt, with fmt's text TOLD by the authors' own Lean function (tested against real Go, not proved from fmt's source: count such statements apart). THE CARD IS WHAT COUNTS. Prove the row's statement (the work); the ties are given (YtdagdoiedibpgaaDoorTie.lean); close each card by the builder's one call (the guide's Derived/Test/ToyasCard.lean, 'card_holds'). Laid BY PROGRAM, IN A SANDBOX (cutbox-door.mjs). By AI agents, Wed Nov 11 2026. No macro, syntax, notation, axiom, sorry.
-/
import Derived.Test.YtdagdoiedibpgaaDoorRows
import GoSem.ClaimSeven
namespace Go.Proofs.YtdagdoiedibpgaaDoor
namespace Rows

/-- THE TIED CARD OF 'synopticlaw22.PrecisionRing'. -/
def precisionRingCard : Claim7 := { stood := { row := precisionRingRow, standIns := [], harness := (true, "e937c6061deca2689ef248f068aebbba0dbb050c80558bc1040f9f2728dc3fc6"), looks := false }, kinds := [], alts := [], laidByText := true, laidKinds := [.data], laidTests := true, laidLooks := .later }
def PrecisionRingCardSaid : Prop := Claim7.holds Tryd.pinned (.plain (OpenSpec.ofChange precisionRingSpec)) precisionRingCard

/-- THE TIED CARD OF 'synopticlaw22.PrecisionLinear'. -/
def precisionLinearCard : Claim7 := { stood := { row := precisionLinearRow, standIns := [], harness := (true, "e937c6061deca2689ef248f068aebbba0dbb050c80558bc1040f9f2728dc3fc6"), looks := false }, kinds := [], alts := [], laidByText := true, laidKinds := [.data], laidTests := true, laidLooks := .later }
def PrecisionLinearCardSaid : Prop := Claim7.holds Tryd.pinned (.plain (OpenSpec.ofChange precisionLinearSpec)) precisionLinearCard

/-- THE TIED CARD OF 'synopticlaw22.PrecisionWide'. -/
def precisionWideCard : Claim7 := { stood := { row := precisionWideRow, standIns := [], harness := (true, "e937c6061deca2689ef248f068aebbba0dbb050c80558bc1040f9f2728dc3fc6"), looks := false }, kinds := [], alts := [], laidByText := true, laidKinds := [.data], laidTests := true, laidLooks := .later }
def PrecisionWideCardSaid : Prop := Claim7.holds Tryd.pinned (.plain (OpenSpec.ofChange precisionWideSpec)) precisionWideCard

/-- THE TIED CARD OF 'synopticlaw22.PrecisionDefinite'. -/
def precisionDefiniteCard : Claim7 := { stood := { row := precisionDefiniteRow, standIns := [], harness := (true, "e937c6061deca2689ef248f068aebbba0dbb050c80558bc1040f9f2728dc3fc6"), looks := false }, kinds := [], alts := [], laidByText := true, laidKinds := [.data], laidTests := true, laidLooks := .later }
def PrecisionDefiniteCardSaid : Prop := Claim7.holds Tryd.pinned (.plain (OpenSpec.ofChange precisionDefiniteSpec)) precisionDefiniteCard

/-- THE TIED CARD OF 'synopticlaw22.PrecisionBounds'. -/
def precisionBoundsCard : Claim7 := { stood := { row := precisionBoundsRow, standIns := [], harness := (true, "e937c6061deca2689ef248f068aebbba0dbb050c80558bc1040f9f2728dc3fc6"), looks := false }, kinds := [], alts := [], laidByText := true, laidKinds := [.data], laidTests := true, laidLooks := .later }
def PrecisionBoundsCardSaid : Prop := Claim7.holds Tryd.pinned (.plain (OpenSpec.ofChange precisionBoundsSpec)) precisionBoundsCard

/-- THE SECOND FORM's CARD OF 'synopticlaw22.PrecisionRing'. -/
def precisionRingUptoCard : Claim7 := { stood := { row := precisionRingUptoRow, standIns := [], harness := (true, "e937c6061deca2689ef248f068aebbba0dbb050c80558bc1040f9f2728dc3fc6"), looks := false }, kinds := [], alts := [], laidByText := true, laidKinds := [.data], laidTests := true, laidLooks := .later }
def PrecisionRingUptoCardSaid : Prop := Claim7.holds Tryd.pinned (.plain (OpenSpec.upto precisionRingSpec)) precisionRingUptoCard

/-- THE SECOND FORM's CARD OF 'synopticlaw22.PrecisionLinear'. -/
def precisionLinearUptoCard : Claim7 := { stood := { row := precisionLinearUptoRow, standIns := [], harness := (true, "e937c6061deca2689ef248f068aebbba0dbb050c80558bc1040f9f2728dc3fc6"), looks := false }, kinds := [], alts := [], laidByText := true, laidKinds := [.data], laidTests := true, laidLooks := .later }
def PrecisionLinearUptoCardSaid : Prop := Claim7.holds Tryd.pinned (.plain (OpenSpec.upto precisionLinearSpec)) precisionLinearUptoCard

/-- THE SECOND FORM's CARD OF 'synopticlaw22.PrecisionWide'. -/
def precisionWideUptoCard : Claim7 := { stood := { row := precisionWideUptoRow, standIns := [], harness := (true, "e937c6061deca2689ef248f068aebbba0dbb050c80558bc1040f9f2728dc3fc6"), looks := false }, kinds := [], alts := [], laidByText := true, laidKinds := [.data], laidTests := true, laidLooks := .later }
def PrecisionWideUptoCardSaid : Prop := Claim7.holds Tryd.pinned (.plain (OpenSpec.upto precisionWideSpec)) precisionWideUptoCard

/-- THE SECOND FORM's CARD OF 'synopticlaw22.PrecisionDefinite'. -/
def precisionDefiniteUptoCard : Claim7 := { stood := { row := precisionDefiniteUptoRow, standIns := [], harness := (true, "e937c6061deca2689ef248f068aebbba0dbb050c80558bc1040f9f2728dc3fc6"), looks := false }, kinds := [], alts := [], laidByText := true, laidKinds := [.data], laidTests := true, laidLooks := .later }
def PrecisionDefiniteUptoCardSaid : Prop := Claim7.holds Tryd.pinned (.plain (OpenSpec.upto precisionDefiniteSpec)) precisionDefiniteUptoCard

/-- THE SECOND FORM's CARD OF 'synopticlaw22.PrecisionBounds'. -/
def precisionBoundsUptoCard : Claim7 := { stood := { row := precisionBoundsUptoRow, standIns := [], harness := (true, "e937c6061deca2689ef248f068aebbba0dbb050c80558bc1040f9f2728dc3fc6"), looks := false }, kinds := [], alts := [], laidByText := true, laidKinds := [.data], laidTests := true, laidLooks := .later }
def PrecisionBoundsUptoCardSaid : Prop := Claim7.holds Tryd.pinned (.plain (OpenSpec.upto precisionBoundsSpec)) precisionBoundsUptoCard
end Rows
end Go.Proofs.YtdagdoiedibpgaaDoor
