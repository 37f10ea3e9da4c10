-- Written by wip/ext.py, a driver over the kit's print, with texts of this session's own.
import Derived.Test.YtdagdoiedibpgaaDoorPrt0
import Derived.Test.YtdagdoiedibpgaaDoorPrt6
namespace Go.Proofs.YtdagdoiedibpgaaDoor.Prt
open Go.RowKit Go.Proofs.YtdagdoiedibpgaaDoorW.PrintWords Go.Proofs.YtdagdoiedibpgaaDoorW.PrintLast Go.Proofs.YtdagdoiedibpgaaDoorW.PrintMore
attribute [local go_sem] max2_int min2_int max_two min_two max_three min_three max_four min_four   -- for this text's walks alone
set_option linter.unusedVariables false
set_option linter.unusedSimpArgs false

-- EXT neg.in
/-- Negate: what is left of all ones, and one more. -/
def precision_Negate.f (a0_0 : Int) (a0_1 : Int) : Option (Int × Int) := precision_Add.f (Go.bits .xor .i64 (-1) a0_0) (Go.bits .xor .u64 IntKind.u64.max a0_1) 0 1
set_option maxRecDepth 100000 in
theorem precision_Negate.calls (a0_0 : Int) (a0_1 : Int) (r1 : Int) (r2 : Int) (w : World) (h : precision_Negate.f a0_0 a0_1 = some (r1, r2)) :
    Calls Tryd.prog 11 #[.agg #[.int .i64 a0_0, .int .u64 a0_1]] w fun e w' => e = .returned (.agg #[.int .i64 r1, .int .u64 r2]) ∧ Below w.heap.size w w' := by
  have hu25 := Tryd.underlying25
  unfold precision_Negate.f at h
  have H := Aside0.mk h
  clear h
  go_enter Tryd.func11, Tryd.ntmps11
  go_wp2_with (go_at_call 9; (with_reducible refine (precision_Add.calls _ _ _ _ r1 r2 _ H.out).mono ?_); rintro e w1 ⟨rfl, hb⟩; obtain ⟨hc, hf⟩ := bcell hb; have hz := hb.size)
  all_goals
    refine bodyPost_ret (v := .agg #[.int .i64 r1, .int .u64 r2]) ?_ rfl ⟨rfl, ?_⟩
    · simp [results, Tryd.results11, go_sem, hc]
    · exact (((below_alloc (below_alloc (Below.refl _ _) _) _).trans (hb.mono (by simp; omega))).setCell (by simp) _).setCell (by simp) _

end Go.Proofs.YtdagdoiedibpgaaDoor.Prt
