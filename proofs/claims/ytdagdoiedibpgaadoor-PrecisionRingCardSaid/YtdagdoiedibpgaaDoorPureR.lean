import Derived.Test.YtdagdoiedibpgaaDoorPureA
import Derived.Test.YtdagdoiedibpgaaDoorPureB
import Derived.Test.YtdagdoiedibpgaaDoorPrt10
namespace Go.Proofs.YtdagdoiedibpgaaDoor.Prt
set_option linter.unusedVariables false
set_option linter.unusedSimpArgs false
open Go.RowKit Go.Proofs.YtdagdoiedibpgaaDoorW.PrintWords
theorem wd_zero : wd 0 = (0, 0) := by simp [wd, wrap64]
theorem ring_j0 (a b c : Int) (ha : -9223372036854775808 ≤ a ∧ a ≤ 9223372036854775807) (hb : -4611686018427387904 ≤ b ∧ b ≤ 4611686018427387904) (hc : -4611686018427387904 ≤ c ∧ c ≤ 4611686018427387903) :
    synopticlaw22_PrecisionRing.j0 64 a b c (sgn a b) (wd (a * b + a * c)).1 (wd (a * b + a * c)).2 = some true := by
  have e1 : wrap64 (b + c) = b + c := by unfold wrap64; omega
  have e2 : wrap64 (-b) = -b := by unfold wrap64; omega
  have hsq : 0 ≤ a * a := by
    rcases Int.le_total 0 a with h | h
    · exact Int.mul_nonneg h h
    · exact Int.mul_nonneg_of_nonpos_of_nonpos h h
  have hsq2 : a * a ≤ 85070591730234615865843651857942052864 := by
    have : a.natAbs * a.natAbs ≤ 9223372036854775808 * 9223372036854775808 := Nat.mul_le_mul (by omega) (by omega)
    have h2 : ((a.natAbs * a.natAbs : Nat) : Int) = a * a := Int.natAbs_mul_self
    omega
  show (synopticlaw22_PrecisionRing.j0 (63 + 1) a b c (sgn a b) (wd (a * b + a * c)).1 (wd (a * b + a * c)).2) = _
  simp only [synopticlaw22_PrecisionRing.j0, e1, e2]
  rw [prod_eq a (b + c) ha (by omega), prod_eq a (-b) ha (by omega), prod_eq a b ha (by omega), prod_eq a a ha ha, wide_eq a ha, wide_eq b (by omega)]
  simp only [Option.bind_some, neg_eq, add_eq, Int.mul_add, Int.mul_neg, beq_self_eq_true, Bool.and_self, if_true]
  have hk : ∀ u v : Int, (-170141183460469231731687303715884105728 ≤ u ∧ u < 170141183460469231731687303715884105728) → (-170141183460469231731687303715884105728 ≤ v ∧ v < 170141183460469231731687303715884105728) → precision_Compare.f 63 (wd u).1 (wd u).2 (wd v).1 (wd v).2 = some (sgn u v) := fun u v hu hv => cmp_eq 60 u v hu hv
  have hz := hk (a * a) 0 (by omega) (by omega)
  rw [wd_zero] at hz
  rw [Int.add_right_neg, wd_zero, hk a b (by omega) (by omega)]
  simp only [Option.bind_some, beq_self_eq_true, Bool.and_self, if_true, hz]
  have hs : sgn (a * a) 0 ≥ 0 := by
    unfold sgn
    rw [if_neg (by omega)]
    split <;> decide
  exact congrArg some (decide_eq_true hs)
theorem td2 (a : Int) (h : -9223372036854775808 ≤ a ∧ a ≤ 9223372036854775807) : -4611686018427387904 ≤ Int.tdiv a 2 ∧ Int.tdiv a 2 ≤ 4611686018427387903 := by
  rcases Int.le_total 0 a with h0 | h0
  · rw [Int.tdiv_eq_ediv_of_nonneg h0]; omega
  · have e : Int.tdiv a 2 = -((-a) / 2) := by rw [← Int.tdiv_eq_ediv_of_nonneg (show 0 ≤ -a by omega), Int.neg_tdiv, Int.neg_neg]
    rw [e]; omega
theorem ring_pure : synopticlaw22_PrecisionRing.Pure := by
  intro a0 a1 a2 w0 w1 w2
  simp only [Lit.wf, IntKind.min, IntKind.max, IntKind.signed, IntKind.bits, Bool.and_eq_true, decide_eq_true_eq, if_true] at w0 w1 w2
  have t1 := td2 a1 (by omega)
  have t2 := td2 a2 (by omega)
  have hb : wrap64 (Int.tdiv a1 2) = Int.tdiv a1 2 := by unfold wrap64; omega
  have hc : wrap64 (Int.tdiv a2 2) = Int.tdiv a2 2 := by unfold wrap64; omega
  refine ⟨64, ?_⟩
  unfold synopticlaw22_PrecisionRing.f
  rw [awakeK 4, hb, hc]
  have hj := ring_j0 a0 (Int.tdiv a1 2) (Int.tdiv a2 2) (by omega) (by omega) (by omega)
  simp only [Option.bind_some, if_true]
  rw [prod_eq a0 _ (by omega) (by omega), prod_eq a0 (Int.tdiv a2 2) (by omega) (by omega)]
  simp only [Option.bind_some, add_eq]
  simp only [sgn] at hj
  by_cases h1 : a0 < Int.tdiv a1 2
  · rw [if_pos h1] at hj ⊢; exact hj
  · rw [if_neg h1] at hj ⊢
    by_cases h2 : a0 > Int.tdiv a1 2
    · rw [if_pos h2] at hj ⊢; exact hj
    · rw [if_neg h2] at hj ⊢; exact hj
end Go.Proofs.YtdagdoiedibpgaaDoor.Prt
