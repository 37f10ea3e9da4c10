/- PrecisionLinear's plain law. -/
import Derived.Test.YtdagdoiedibpgaaDoorPureP
import Derived.Test.YtdagdoiedibpgaaDoorPureE
import Derived.Test.YtdagdoiedibpgaaDoorPrt15
namespace Go.Proofs.YtdagdoiedibpgaaDoor.Prt
set_option linter.unusedVariables false
set_option linter.unusedSimpArgs false
open Go.RowKit Go.Proofs.YtdagdoiedibpgaaDoorW.PrintWords
theorem sz_drop {l : List Int} {i : Nat} (h : i < l.length) : sz (l.drop i) = gt l i + sz (l.drop (i + 1)) := by
  rw [List.drop_eq_getElem_cons h, gt_lt h]; rfl
theorem linear_l0 {x a : List Int} {f S A u0 u1 : Int} {n : Nat} (hn : n ≤ 1000) (hx : x.length = n) (ha : a.length = n) (bx : bd 1048576 x) (ba : bd 1000000000000000 a) (hA : 0 ≤ A ∧ A ≤ 1000000) :
    ∀ (d i : Nat) (s t : Int) (k : Nat), i + d = n → -(i * 1000000000000000) ≤ s ∧ s ≤ i * 1000000000000000 → -(i * 1048576) ≤ t ∧ t ≤ i * 1048576 → d < k → s + sz (a.drop i) = A * (t + sz (x.drop i)) →
    synopticlaw22_PrecisionLinear.l0 k x a 0 0 s t (a.length : Int) (i : Int) f S A u0 u1 u0 u1 = some true := by
  intro d
  induction d with
  | zero =>
    intro i s t k hi hs ht hk he
    obtain ⟨k, rfl⟩ : ∃ j, k = j + 1 := ⟨k - 1, by omega⟩
    simp only [synopticlaw22_PrecisionLinear.l0]
    rw [List.drop_of_length_le (by omega), List.drop_of_length_le (by omega)] at he
    simp only [sz, Int.add_zero] at he
    have hm := mul_bd hA.1 hA.2 (u := t) (Q := 1048576000) (by omega) (by omega)
    rw [if_neg (by omega), if_pos trivial, if_pos trivial, if_pos (by simp), w64 (by omega), he]
    simp
  | succ d ih =>
    intro i s t k hi hs ht hk he
    obtain ⟨k, rfl⟩ : ∃ j, k = j + 1 := ⟨k - 1, by omega⟩
    simp only [synopticlaw22_PrecisionLinear.l0]
    have h1 := bd_gt bx (by omega) i
    have h2 := bd_gt ba (by omega) i
    rw [sz_drop (l := a) (i := i) (by omega), sz_drop (l := x) (i := i) (by omega)] at he
    rw [if_pos (by omega), if_pos (by omega), if_pos (by omega), if_pos (by omega), rd_gt, rd_gt, w64 (n := s + gt a i) (by omega), w64 (n := t + gt x i) (by omega), w64 (n := (i : Int) + 1) (by omega), show (i : Int) + 1 = ((i + 1 : Nat) : Int) by omega]
    refine ih (i + 1) _ _ k (by omega) (by omega) (by omega) (by omega) ?_
    rw [Int.add_assoc, Int.add_assoc]; exact he
theorem apZ_bd {S A : Int} {E : List S69} {x : List Int} (hE : E.length ≤ 120) (bx : bd 1048576 x) (hS : 0 ≤ S ∧ S ≤ 1000000) (hA : 0 ≤ A ∧ A ≤ 1000000) : bd 1000000000000000 (apZ S A (E.map en) x) := by
  have h := appE_bd (S := S) (M := 1048576) (D := 2097152000000) (x := x) (fun i => bd_gt bx (by omega) i) (fun u h1 h2 => by have := mul_bd hS.1 hS.2 (u := u) (Q := 2097152) (by omega) (by omega); omega) (by omega) (E.map en) 1048576000000 (x.map (A * ·)) (by omega) (by
    intro v hv
    obtain ⟨u, hu, rfl⟩ := List.mem_map.1 hv
    have h := bx u hu
    have := mul_bd hA.1 hA.2 (u := u) (Q := 1048576) (by omega) (by omega)
    omega)
  refine bd_mono h ?_
  rw [List.length_map]
  omega
theorem wf_u8 {l : List Int} (h : ∀ x ∈ l, (Lit.int .u8 x).wf = true) : ∀ x ∈ l, 0 ≤ x ∧ x ≤ 255 := by
  intro x hx
  have := h x hx
  simp only [Lit.wf, IntKind.min, IntKind.max, IntKind.signed, IntKind.bits, Bool.and_eq_true, decide_eq_true_eq] at this
  simp at this
  omega
theorem linear_pure : synopticlaw22_PrecisionLinear.Pure := by
  intro l0 _ _ hw
  obtain ⟨l, e1, r0⟩ := new_eq (m := 160) (wf_u8 hw) (by omega)
  obtain ⟨f, S, A, p1, e2, ⟨hf, hS1, hS2, hA1, hA2⟩, r1⟩ := precision_eq r0
  obtain ⟨x0, p2, e3, lx0, bx0, r2⟩ := for_eq r1 hf (s := S) (a := A) (k := 400) (by omega)
  obtain ⟨y0, p3, e4, ly0, by0, r3⟩ := for_eq r2 hf (s := S) (a := A) (k := 400) (by omega)
  have hnd := nd_le f
  obtain ⟨x, e5, lx, bx⟩ := halves_eq (m := 524288) (by omega) bx0 (by omega) (k := 400) (by omega)
  obtain ⟨y, e6, ly, by_⟩ := halves_eq (m := 524288) (by omega) by0 (by omega) (k := 400) (by omega)
  obtain ⟨E, eE, hE, hE2⟩ := edges_of hf
  have hf8 : 1 ≤ f ∧ f ≤ 8 := by omega
  have hxy : x.length = y.length := by omega
  have lxn : x.length = nd f := by omega
  have lyn : y.length = nd f := by omega
  have bz := bd_zw hxy bx by_
  have a1 := apply_eq hf8 ⟨hS1, hS2⟩ ⟨hA1, hA2⟩ (count_nd hf) eE lxn hE (by omega) (bd_mono bx (by omega)) (k := 400) (by omega)
  have a2 := apply_eq hf8 ⟨hS1, hS2⟩ ⟨hA1, hA2⟩ (count_nd hf) eE lyn hE (by omega) (bd_mono by_ (by omega)) (k := 400) (by omega)
  have a3 := apply_eq (x := zw x y) hf8 ⟨hS1, hS2⟩ ⟨hA1, hA2⟩ (count_nd hf) eE (by rw [zw_len hxy]; exact lxn) hE (by omega) bz (k := 400) (by omega)
  rw [apZ_zw hxy] at a3
  have b1 := apZ_bd (S := S) (A := A) hE2 (bd_mono bx (by omega)) ⟨hS1, hS2⟩ (by omega)
  have b2 := apZ_bd (S := S) (A := A) hE2 (bd_mono by_ (by omega)) ⟨hS1, hS2⟩ (by omega)
  have l1 := apZ_len S A (E.map en) x
  have l2 := apZ_len S A (E.map en) y
  have s1 := sum_eq (m := 524288) (by omega) bx by_ hxy (by omega) (k := 400) (by omega)
  have s2 := sum_eq (m := 1000000000000000) (by omega) b1 b2 (by omega) (by omega) (k := 400) (by omega)
  have hsym := apZ_sym (S := S) (A := A) (E := E.map en) (x := x) (y := y) (by rw [lxn]; exact hE.nat) hxy
  have hsum := apZ_sum (S := S) (A := A) (E := E.map en) (x := x) (by rw [lxn]; exact hE.nat)
  have d1 := dot_eq (l := apZ S A (E.map en) x) (m := y) (by omega) (by omega) (bd_i64 b1 (by omega)) (bd_i64 by_ (by omega))
  have d2 := dot_eq (l := x) (m := apZ S A (E.map en) y) (by omega) (by omega) (bd_i64 bx (by omega)) (bd_i64 b2 (by omega))
  rw [← hsym] at d2
  generalize apZ S A (E.map en) x = a at *
  generalize apZ S A (E.map en) y = b at *
  have hi := ints_self (x := zw a b) (by rw [zw_len (by omega)]; omega) (k := 400) (by rw [zw_len (by omega)]; omega)
  refine ⟨400, ?_⟩
  unfold synopticlaw22_PrecisionLinear.f
  rw [show (400 : Nat) = 60 + 340 from rfl, awakeK 340, show (60 + 340 : Nat) = 400 from rfl, show (160 : Int) = ((160 : Nat) : Int) from rfl, e1]
  simp only [Option.bind_some, if_true, e2, e3, e4, e5, e6, a1, a2, s1, a3, s2, hi, Bool.not_true]
  rw [if_pos (by omega), if_pos (by omega)]
  show synopticlaw22_PrecisionLinear.j0 (399 + 1) x y a b false f S A = some true
  simp only [synopticlaw22_PrecisionLinear.j0]
  rw [if_neg (by simp), d1, d2]
  simp only [Option.bind_some]
  refine linear_l0 (n := nd f) (by omega) lxn (by omega) (bd_mono bx (by omega)) b1 (by omega) (nd f) 0 0 0 399 (by omega) (by omega) (by omega) (by omega) ?_
  simp only [List.drop_zero, Int.zero_add]
  exact hsum
end Go.Proofs.YtdagdoiedibpgaaDoor.Prt
