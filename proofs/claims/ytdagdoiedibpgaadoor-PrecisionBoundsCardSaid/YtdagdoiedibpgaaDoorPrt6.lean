-- Written by wip/ext.py, a driver over the kit's print, with texts of this session's own.
import Derived.Test.YtdagdoiedibpgaaDoorPrt0
import Derived.Test.YtdagdoiedibpgaaDoorPrt5
namespace Go.Proofs.YtdagdoiedibpgaaDoor.Prt
open Go.RowKit Go.Proofs.YtdagdoiedibpgaaDoorW.PrintWords Go.Proofs.YtdagdoiedibpgaaDoorW.PrintLast Go.Proofs.YtdagdoiedibpgaaDoorW.PrintMore
attribute [local go_sem] max2_int min2_int max_two min_two max_three min_three max_four min_four   -- for this text's walks alone
set_option linter.unusedVariables false
set_option linter.unusedSimpArgs false

-- EXT add.in
/-- Add: the low words' sum, and the high words' with the carry. -/
def precision_Add.f (a0_0 : Int) (a0_1 : Int) (a1_0 : Int) (a1_1 : Int) : Option (Int × Int) :=
  if 0 ≤ a0_1 ∧ 0 ≤ a1_1 then some (wrap64 (wrap64 (a0_0 + a1_0) + wrap64 ((a0_1 + a1_1 + 0) / M64)), (a0_1 + a1_1 + 0) % M64) else none
theorem precision_Add_walk (a0_0 a0_1 a1_0 a1_1 lo cy : Int) (w : World) (hadd : ∀ W, (callFunc 32 #[.int .u64 a0_1, .int .u64 a1_1, .int .u64 0]).run Tryd.prog W = .ok (.value (.tuple #[.int .u64 lo, .int .u64 cy])) W) :
    Calls Tryd.prog 9 #[.agg #[.int .i64 a0_0, .int .u64 a0_1], .agg #[.int .i64 a1_0, .int .u64 a1_1]] w fun e w' => e = .returned (.agg #[.int .i64 (wrap64 (wrap64 (a0_0 + a1_0) + wrap64 cy)), .int .u64 lo]) ∧ Below w.heap.size w w' := by
  have hu25 := Tryd.underlying25
  go_enter Tryd.func9, Tryd.ntmps9
  go_wp2
  refine bodyPost_ret (v := .agg #[.int .i64 (wrap64 (wrap64 (a0_0 + a1_0) + wrap64 cy)), .int .u64 lo]) (by simp [results, Tryd.results9, go_sem]) rfl ⟨rfl, ?_⟩
  exact below_alloc (below_alloc (below_alloc (Below.refl _ _) _) _) _
theorem precision_Add.calls (a0_0 : Int) (a0_1 : Int) (a1_0 : Int) (a1_1 : Int) (r1 : Int) (r2 : Int) (w : World) (h : precision_Add.f a0_0 a0_1 a1_0 a1_1 = some (r1, r2)) :
    Calls Tryd.prog 9 #[.agg #[.int .i64 a0_0, .int .u64 a0_1], .agg #[.int .i64 a1_0, .int .u64 a1_1]] w fun e w' => e = .returned (.agg #[.int .i64 r1, .int .u64 r2]) ∧ Below w.heap.size w w' := by
  unfold precision_Add.f at h
  split at h
  · rename_i hc
    obtain ⟨h1, h2⟩ := hc
    have h := Option.some.inj h
    simp only [Prod.mk.injEq] at h
    obtain ⟨rfl, rfl⟩ := h
    exact precision_Add_walk a0_0 a0_1 a1_0 a1_1 _ _ w (run_Add64 a0_1 a1_1 0 h1 h2 (by omega) (by omega))
  · cases h

end Go.Proofs.YtdagdoiedibpgaaDoor.Prt
