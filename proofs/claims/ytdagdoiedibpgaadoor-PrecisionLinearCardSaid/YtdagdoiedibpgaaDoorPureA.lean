import Derived.Test.YtdagdoiedibpgaaDoorPrt4
namespace Go.Proofs.YtdagdoiedibpgaaDoor.Prt
set_option linter.unusedVariables false
set_option linter.unusedSimpArgs false
open Go.RowKit
/-- The edges of the grid of frequency 1. -/
def lit1 : List (Int × Int) := [(0, 1), (0, 2), (0, 3), (0, 6), (0, 7), (1, 2), (1, 5), (1, 6), (1, 10), (2, 3), (2, 4), (2, 5), (3, 4), (3, 7), (3, 8), (4, 5), (4, 8), (4, 9), (5, 9), (5, 10), (6, 7), (6, 10), (6, 11), (7, 8), (7, 11), (8, 9), (8, 11), (9, 10), (9, 11), (10, 11)]
set_option maxRecDepth 1000000 in
theorem mem1 : (∀ x ∈ edgesOf ((cellsTo 1 840 20 0 0).map toI), x ∈ lit1) ∧ ∀ x ∈ lit1, x ∈ edgesOf ((cellsTo 1 840 20 0 0).map toI) := by decide +kernel
theorem edgesI1 : edgesI 1 = lit1 := by
  refine sorted_unique (edgesI_spec 1).1 (by decide +kernel) (fun x => ((edgesI_spec 1).2 x).trans ⟨mem1.1 x, mem1.2 x⟩)
theorem grid1 : grid_Edges.f 1 = some (lit1.map (fun x => (⟨x.1, x.2⟩ : S69)), 0) := by
  show (if (1 : Int) ≤ 1 ∧ (1 : Int) ≤ 8 then some (edgesS 1, (0 : Int)) else _) = _
  rw [if_pos (by decide), edgesS, edgesI1]
set_option maxRecDepth 1000000 in
theorem awake1 : synopticlaw22_awake.f 60 = some true := by
  unfold synopticlaw22_awake.f precision_Apply.f
  simp only [grid1]
  decide +kernel
theorem awakeK (j : Nat) : synopticlaw22_awake.f (60 + j) = some true := by
  induction j with
  | zero => exact awake1
  | succ j ih => exact synopticlaw22_awake.mono (60 + j) _ ih
end Go.Proofs.YtdagdoiedibpgaaDoor.Prt
