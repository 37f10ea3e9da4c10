-- Written by wip/ext.py, a driver over the kit's print, with texts of this session's own.
import Derived.Test.YtdagdoiedibpgaaDoorPrt0
import Derived.Test.YtdagdoiedibpgaaDoorPrt5
namespace Go.Proofs.YtdagdoiedibpgaaDoor.Prt
open Go.RowKit Go.Proofs.YtdagdoiedibpgaaDoorW.PrintWords Go.Proofs.YtdagdoiedibpgaaDoorW.PrintLast Go.Proofs.YtdagdoiedibpgaaDoorW.PrintMore
attribute [local go_sem] max2_int min2_int max_two min_two max_three min_three max_four min_four   -- for this text's walks alone
set_option linter.unusedVariables false
set_option linter.unusedSimpArgs false

-- EXT addref.in
/-- The reference's Add: the low words' sum, and the high words' with the carry. -/
def synopticref22_Add.f (a0_0 : Int) (a0_1 : Int) (a1_0 : Int) (a1_1 : Int) : Option (Int × Int) :=
  if 0 ≤ a0_1 ∧ 0 ≤ a1_1 ∧ (a0_1 + a1_1 + 0) / M64 ≤ 1 then some (wrap64 ((IntKind.u64.wrap a0_0 + IntKind.u64.wrap a1_0 + (a0_1 + a1_1 + 0) / M64) % M64), (a0_1 + a1_1 + 0) % M64) else none
set_option maxRecDepth 100000 in
theorem synopticref22_Add_walk (a0_0 a0_1 a1_0 a1_1 lo cy u v hi cy2 : Int) (w : World) (hu : IntKind.u64.wrap a0_0 = u) (hv : IntKind.u64.wrap a1_0 = v)
    (hadd : ∀ W, (callFunc 32 #[.int .u64 a0_1, .int .u64 a1_1, .int .u64 0]).run Tryd.prog W = .ok (.value (.tuple #[.int .u64 lo, .int .u64 cy])) W)
    (hadd2 : ∀ W, (callFunc 32 #[.int .u64 u, .int .u64 v, .int .u64 cy]).run Tryd.prog W = .ok (.value (.tuple #[.int .u64 hi, .int .u64 cy2])) W) :
    Calls Tryd.prog 25 #[.agg #[.int .i64 a0_0, .int .u64 a0_1], .agg #[.int .i64 a1_0, .int .u64 a1_1]] w fun e w' => e = .returned (.agg #[.int .i64 (wrap64 hi), .int .u64 lo]) ∧ Below w.heap.size w w' := by
  have hu25 := Tryd.underlying25
  go_enter Tryd.func25, Tryd.ntmps25
  go_wp2
  refine bodyPost_ret (v := .agg #[.int .i64 (wrap64 hi), .int .u64 lo]) (by simp [results, Tryd.results25, go_sem]) rfl ⟨rfl, ?_⟩
  exact below_alloc (below_alloc (below_alloc (Below.refl _ _) _) _) _
theorem u64_nonneg (x : Int) : 0 ≤ IntKind.u64.wrap x := by
  simp only [IntKind.wrap, IntKind.signed, IntKind.bits]; simp; omega
theorem synopticref22_Add.calls (a0_0 : Int) (a0_1 : Int) (a1_0 : Int) (a1_1 : Int) (r1 : Int) (r2 : Int) (w : World) (h : synopticref22_Add.f a0_0 a0_1 a1_0 a1_1 = some (r1, r2)) :
    Calls Tryd.prog 25 #[.agg #[.int .i64 a0_0, .int .u64 a0_1], .agg #[.int .i64 a1_0, .int .u64 a1_1]] w fun e w' => e = .returned (.agg #[.int .i64 r1, .int .u64 r2]) ∧ Below w.heap.size w w' := by
  unfold synopticref22_Add.f at h
  split at h
  · rename_i hc
    obtain ⟨h1, h2, h3⟩ := hc
    have h := Option.some.inj h
    simp only [Prod.mk.injEq] at h
    obtain ⟨rfl, rfl⟩ := h
    have h4 : 0 ≤ (a0_1 + a1_1 + 0) / M64 := Int.ediv_nonneg (by omega) (by unfold M64; omega)
    exact synopticref22_Add_walk a0_0 a0_1 a1_0 a1_1 _ _ _ _ _ _ w rfl rfl (run_Add64 a0_1 a1_1 0 h1 h2 (by omega) (by omega)) (run_Add64 _ _ _ (u64_nonneg _) (u64_nonneg _) h4 h3)
  · cases h

end Go.Proofs.YtdagdoiedibpgaaDoor.Prt
