import Derived.Test.YtdagdoiedibpgaaDoorPrt9
import Derived.Test.YtdagdoiedibpgaaDoorPrt7
import Derived.Test.YtdagdoiedibpgaaDoorPrt8
import Derived.Laws.DeepNot64
import Derived.Lib.Mul64
import Derived.Lib.VarintBits
import Derived.Lib.EndianBits
namespace Go.Proofs.YtdagdoiedibpgaaDoor.Prt
set_option linter.unusedVariables false
set_option linter.unusedSimpArgs false
open Go.RowKit Go.Proofs.YtdagdoiedibpgaaDoorW.PrintWords
/-- The wide integer that stands for v. -/
def wd (v : Int) : Int × Int := (wrap64 (v / 18446744073709551616), v % 18446744073709551616)
theorem and_mask (x : Nat) (hx : x < 18446744073709551616) : Go.bits .and .u64 (x : Int) 4294967295 = ((x % 4294967296 : Nat) : Int) := by
  have := bits_mask .u64 64 (by decide) wraps_u64 32 (by decide) (x : Int) (by omega) (by omega)
  rw [Int.natCast_emod]
  exact this
theorem mul_eq (x y : Nat) (hx : x < 18446744073709551616) (hy : y < 18446744073709551616) : bits_Mul64.f x y = some (((x * y / 18446744073709551616 : Nat) : Int), ((x * y % 18446744073709551616 : Nat) : Int)) := by
  obtain ⟨h1, h2, h3, h4⟩ := Lib.mul64_hi x y hx hy
  have d : ∀ z : Nat, ((z : Int) / 4294967296) = ((z / 4294967296 : Nat) : Int) := fun z => by simp
  have m : ∀ a b : Nat, ((a : Int) * (b : Int)) = ((a * b : Nat) : Int) := fun a b => by simp
  have s : ∀ a b : Nat, ((a : Int) + (b : Int)) = ((a + b : Nat) : Int) := fun a b => by simp
  have u : ∀ a : Nat, a < 18446744073709551616 → IntKind.u64.wrap (a : Int) = (a : Int) := fun a ha => by rw [IntKind.wrap_u64]; omega
  have ha := Lib.half_mul_le (a := x / 4294967296) (b := y / 4294967296) (by omega) (by omega)
  have hb := Lib.half_mul_le (a := x / 4294967296) (b := y % 4294967296) (by omega) (by omega)
  have hc := Lib.half_mul_le (a := x % 4294967296) (b := y / 4294967296) (by omega) (by omega)
  have hd := Lib.half_mul_le (a := x % 4294967296) (b := y % 4294967296) (by omega) (by omega)
  unfold bits_Mul64.f
  rw [and_mask x hx, and_mask y hy, d x, d y]
  simp only [m]
  rw [u _ (show (x / 4294967296) * (y / 4294967296) < 18446744073709551616 by omega), u _ (show (x / 4294967296) * (y % 4294967296) < 18446744073709551616 by omega), u _ h1, u _ (show (x % 4294967296) * (y / 4294967296) < 18446744073709551616 by omega)]
  rw [d, s, u _ h2, and_mask _ h2, d, s, s, u _ h3, d, u _ (by omega), s, u _ (by omega), h4, IntKind.wrap_u64]
  simp
theorem wrap_mod (x : Int) (k : Int) : wrap64 (x + 18446744073709551616 * k) = wrap64 x := by unfold wrap64; omega
/-- Product: the wide integer of a * b. -/
theorem prod_eq (a b : Int) (ha : -9223372036854775808 ≤ a ∧ a ≤ 9223372036854775807) (hb : -9223372036854775808 ≤ b ∧ b ≤ 9223372036854775807) : precision_Product.f a b = some (wd (a * b)) := by
  obtain ⟨x, hx, hx2⟩ : ∃ x : Nat, IntKind.u64.wrap a = x ∧ x < 18446744073709551616 := ⟨(IntKind.u64.wrap a).toNat, by rw [IntKind.wrap_u64]; omega, by rw [IntKind.wrap_u64]; omega⟩
  obtain ⟨y, hy, hy2⟩ : ∃ y : Nat, IntKind.u64.wrap b = y ∧ y < 18446744073709551616 := ⟨(IntKind.u64.wrap b).toNat, by rw [IntKind.wrap_u64]; omega, by rw [IntKind.wrap_u64]; omega⟩
  have hxa : (x : Int) = a ∨ (x : Int) = a + 18446744073709551616 ∧ a < 0 := by rw [← hx, IntKind.wrap_u64]; omega
  have hyb : (y : Int) = b ∨ (y : Int) = b + 18446744073709551616 ∧ b < 0 := by rw [← hy, IntKind.wrap_u64]; omega
  have hm : ((x * y : Nat) : Int) = (x : Int) * (y : Int) := Int.natCast_mul x y
  unfold precision_Product.f
  rw [hx, hy, mul_eq x y hx2 hy2]
  simp only [Option.bind_some, wd]
  have e1 : ((x * y / 18446744073709551616 : Nat) : Int) = (x : Int) * (y : Int) / 18446744073709551616 := by rw [Int.natCast_ediv, hm]; rfl
  have e2 : ((x * y % 18446744073709551616 : Nat) : Int) = (x : Int) * (y : Int) % 18446744073709551616 := by rw [Int.natCast_emod, hm]; rfl
  rw [e1, e2]
  clear e1 e2 hm hx hy
  by_cases ha0 : a < 0
  · have hxx : (x : Int) = a + 18446744073709551616 := by omega
    by_cases hb0 : b < 0
    · have hyy : (y : Int) = b + 18446744073709551616 := by omega
      rw [if_pos ha0, if_pos hb0]
      have hp : (x : Int) * (y : Int) = a * b + 18446744073709551616 * (a + b + 18446744073709551616) := by rw [hxx, hyy, Int.add_mul, Int.mul_add, Int.mul_add, Int.mul_add, Int.mul_add]; omega
      rw [hp, IntKind.wrap_u64, IntKind.wrap_u64]
      generalize a * b = p
      congr 2
      · unfold wrap64; omega
      · omega
    · have hyy : (y : Int) = b := by omega
      rw [if_pos ha0, if_neg hb0]
      have hp : (x : Int) * (y : Int) = a * b + 18446744073709551616 * b := by rw [hxx, hyy, Int.add_mul]
      rw [hp, IntKind.wrap_u64]
      generalize a * b = p
      congr 2
      · unfold wrap64; omega
      · omega
  · have hxx : (x : Int) = a := by omega
    by_cases hb0 : b < 0
    · have hyy : (y : Int) = b + 18446744073709551616 := by omega
      rw [if_neg ha0, if_pos hb0]
      have hp : (x : Int) * (y : Int) = a * b + 18446744073709551616 * a := by rw [hxx, hyy, Int.mul_add]; omega
      rw [hp, IntKind.wrap_u64]
      generalize a * b = p
      congr 2
      · unfold wrap64; omega
      · omega
    · have hyy : (y : Int) = b := by omega
      rw [if_neg ha0, if_neg hb0, hxx, hyy]
theorem add_eq (u v : Int) : precision_Add.f (wd u).1 (wd u).2 (wd v).1 (wd v).2 = some (wd (u + v)) := by
  unfold precision_Add.f
  rw [if_pos (by simp only [wd]; omega)]
  simp only [wd, M64, wrap64]
  congr 2
  · omega
  · omega
theorem wide_eq (a : Int) (ha : -9223372036854775808 ≤ a ∧ a ≤ 9223372036854775807) : precision_Wide.f a = some (wd a) := by
  unfold precision_Wide.f
  rw [IntKind.wrap_u64]
  simp only [wd, wrap64]
  congr 2
  omega
theorem not_i64 (x : Int) (hx : -9223372036854775808 ≤ x ∧ x ≤ 9223372036854775807) : Go.bits .xor .i64 (-1) x = -1 - x := by
  show IntKind.i64.wrap ((BitVec.ofInt 64 (-1) ^^^ BitVec.ofInt 64 x).toNat : Int) = _
  have h1 : BitVec.ofInt 64 (-1) = BitVec.allOnes 64 := by decide
  rw [h1, BitVec.allOnes_xor, BitVec.toNat_not, BitVec.toNat_ofInt]
  have h2 : ∀ z : Int, IntKind.i64.wrap z = wrap64 z := fun z => by unfold wrap64; exact IntKind.wrap_i64 z
  rw [h2]
  unfold wrap64
  omega
theorem not_u64 (x : Int) (hx : 0 ≤ x ∧ x < 18446744073709551616) : Go.bits .xor .u64 IntKind.u64.max x = 18446744073709551615 - x := by
  show IntKind.u64.wrap ((BitVec.ofInt 64 IntKind.u64.max ^^^ BitVec.ofInt 64 x).toNat : Int) = _
  have h1 : BitVec.ofInt 64 IntKind.u64.max = BitVec.allOnes 64 := by decide
  rw [h1, BitVec.allOnes_xor, BitVec.toNat_not, BitVec.toNat_ofInt, IntKind.wrap_u64]
  omega
theorem neg_eq (v : Int) : precision_Negate.f (wd v).1 (wd v).2 = some (wd (-v)) := by
  unfold precision_Negate.f
  rw [not_i64 _ (by simp only [wd, wrap64]; omega), not_u64 _ (by simp only [wd]; omega)]
  unfold precision_Add.f
  rw [if_pos (by simp only [wd]; omega)]
  simp only [wd, M64, wrap64]
  congr 2
  · omega
  · omega
/-- Compare: the sign of the difference. -/
def sgn (u v : Int) : Int := if u < v then -1 else if v < u then 1 else 0
theorem cmpI_eq (a b : Int) : cmp_Compare_int.f a b = some (sgn a b) := by
  simp only [cmp_Compare_int.f, cmp_isNaN_int.f, Option.bind_some, bne_self_eq_false, Bool.false_eq_true, if_false, sgn]
  by_cases h1 : a < b
  · rw [if_pos h1, if_pos h1]
  · by_cases h : a > b
    · rw [if_neg h1, if_neg h1, if_pos h, if_pos h]
    · rw [if_neg h1, if_neg h1, if_neg h, if_neg h]
theorem cmpU_eq (a b : Int) : cmp_Compare_uint64.f a b = some (sgn a b) := by
  simp only [cmp_Compare_uint64.f, cmp_isNaN_uint64.f, Option.bind_some, bne_self_eq_false, Bool.false_eq_true, if_false, sgn]
  by_cases h1 : a < b
  · rw [if_pos h1, if_pos h1]
  · by_cases h : a > b
    · rw [if_neg h1, if_neg h1, if_pos h, if_pos h]
    · rw [if_neg h1, if_neg h1, if_neg h, if_neg h]
def or0 (a b : Int) : Int := if a = 0 then b else a
theorem or2_eq (a b : Int) (k : Nat) : cmp_Or_int.f (k + 3) [a, b] = some (or0 a b) := by
  unfold cmp_Or_int.f
  simp only [cmp_Or_int.l0, or0]
  have r0 : rd [a, b] 0 = a := rfl
  have r1 : rd [a, b] 1 = b := rfl
  have r2 : wrap64 (0 + 1) = 1 := by unfold wrap64; omega
  have r3 : wrap64 (1 + 1) = 2 := by unfold wrap64; omega
  simp only [r0, r1, r2, r3, List.length_cons, List.length_nil]
  by_cases ha : a = 0
  · subst ha
    by_cases hb : b = 0
    · subst hb; simp
    · simp [hb]
  · simp [ha]
theorem cmp_eq (k : Nat) (u v : Int) (hu : -170141183460469231731687303715884105728 ≤ u ∧ u < 170141183460469231731687303715884105728) (hv : -170141183460469231731687303715884105728 ≤ v ∧ v < 170141183460469231731687303715884105728) :
    precision_Compare.f (k + 3) (wd u).1 (wd u).2 (wd v).1 (wd v).2 = some (sgn u v) := by
  unfold precision_Compare.f
  rw [cmpI_eq, cmpU_eq]
  simp only [Option.bind_some, or2_eq, Option.some.injEq]
  simp only [or0, sgn, wd, wrap64]
  repeat' split
  all_goals omega
end Go.Proofs.YtdagdoiedibpgaaDoor.Prt
