/- What the readers of choices, the vectors made of them and the product of a precision answer. -/
import Derived.Test.YtdagdoiedibpgaaDoorPureM
import Derived.Test.YtdagdoiedibpgaaDoorPrt2
import Derived.Test.YtdagdoiedibpgaaDoorPrt11
import Derived.Test.YtdagdoiedibpgaaDoorPrt12
namespace Go.Proofs.YtdagdoiedibpgaaDoor.Prt
set_option linter.unusedVariables false
set_option linter.unusedSimpArgs false
open Go.RowKit Go.Proofs.YtdagdoiedibpgaaDoorW.PrintWords
theorem w64 {n : Int} (h : -9223372036854775808 ≤ n ∧ n ≤ 9223372036854775807) : wrap64 n = n := by unfold wrap64; omega
theorem rd_gt (xs : List Int) (i : Nat) : rd xs (i : Int) = gt xs i := by simp [rd, gt]
theorem rd_gt' (xs : List Int) {i : Int} (_ : 0 ≤ i) : rd xs i = gt xs i.toNat := rfl
/-- A reader of choices. -/
def Rdy (l : List Int) (p : Int) : Prop := l.length ≤ 1000000 ∧ 0 ≤ p ∧ p ≤ l.length ∧ ∀ x ∈ l, 0 ≤ x ∧ x ≤ 255

theorem next_eq {l : List Int} {p n : Int} (h : Rdy l p) (hn : 1 ≤ n) : ∃ v p', synopticfield_Codes_Next.f l p n = some (v, p') ∧ 0 ≤ v ∧ v < n ∧ Rdy l p' := by
  obtain ⟨hl, h0, h1, hx⟩ := h
  unfold synopticfield_Codes_Next.f synopticfield_Codes_Left.f
  simp only [Option.bind_some]
  by_cases hp : p < (l.length : Int)
  · rw [if_pos (decide_eq_true hp), if_neg (by omega)]
    have e1 : wrap64 (wrap64 (p + 1) - 1) = p := by rw [w64 (n := p + 1) (by omega), w64 (by omega)]; omega
    rw [e1, if_pos h0, if_pos hp, if_neg (by omega), w64 (n := p + 1) (by omega)]
    have hm := hx (gt l p.toNat) (gt_mem (by omega))
    rw [rd_gt' l h0, w64 (by omega), Int.tmod_eq_emod_of_nonneg hm.1]
    exact ⟨_, _, rfl, Int.emod_nonneg _ (by omega), Int.emod_lt_of_pos _ (by omega), hl, by omega, by omega, hx⟩
  · rw [if_neg (by simpa using hp)]
    exact ⟨0, p, rfl, by omega, by omega, hl, h0, h1, hx⟩
theorem new_eq {l : List Int} {m : Nat} (hx : ∀ x ∈ l, 0 ≤ x ∧ x ≤ 255) (hm : m ≤ 1000000) : ∃ l', synopticfield_New.f l (m : Int) = some (l', 0) ∧ Rdy l' 0 := by
  unfold synopticfield_New.f
  by_cases h : (l.length : Int) > m
  · rw [if_pos h, if_pos (by omega), if_pos (by omega)]
    refine ⟨_, rfl, by rw [List.length_take]; omega, by omega, by omega, fun x hx' => hx x (List.mem_of_mem_take hx')⟩
  · rw [if_neg h]
    exact ⟨l, rfl, by omega, by omega, by omega, hx⟩
theorem freq_eq {l : List Int} {p : Int} (h : Rdy l p) : ∃ v p', synopticfield_Codes_Frequency.f l p = some (v, p') ∧ (v = 1 ∨ v = 2) ∧ Rdy l p' := by
  obtain ⟨v, p', e, h0, h1, h'⟩ := next_eq (n := 5) h (by omega)
  unfold synopticfield_Codes_Frequency.f
  simp only [Option.bind_some, e]
  have hv : v = 0 ∨ v = 1 ∨ v = 2 ∨ v = 3 ∨ v = 4 := by omega
  rcases hv with rfl | rfl | rfl | rfl | rfl <;> exact ⟨_, p', rfl, by decide, h'⟩
/-- A precision that the statements draw. -/
def PrecOK (f s a : Int) : Prop := (f = 1 ∨ f = 2) ∧ 0 ≤ s ∧ s ≤ 1000000 ∧ 1 ≤ a ∧ a ≤ 1000000
theorem precision_eq {l : List Int} {p : Int} (h : Rdy l p) : ∃ f s a p', synopticfield_Codes_Precision.f l p = some (f, s, a, p') ∧ PrecOK f s a ∧ Rdy l p' := by
  obtain ⟨f, p1, e1, hf, h1⟩ := freq_eq h
  obtain ⟨u, p2, e2, hu0, hu1, h2⟩ := next_eq (n := 5) h1 (by omega)
  obtain ⟨v, p3, e3, hv0, hv1, h3⟩ := next_eq (n := 5) h2 (by omega)
  unfold synopticfield_Codes_Precision.f
  simp only [Option.bind_some, e1, e2]
  rw [if_pos hu0, if_pos (by simpa using hu1)]
  simp only [e3]
  rw [Option.bind_some]
  rw [if_pos hv0, if_pos (by simpa using hv1)]
  refine ⟨_, _, _, _, rfl, ⟨hf, ?_⟩, h3⟩
  have hu : u = 0 ∨ u = 1 ∨ u = 2 ∨ u = 3 ∨ u = 4 := by omega
  have hv : v = 0 ∨ v = 1 ∨ v = 2 ∨ v = 3 ∨ v = 4 := by omega
  rcases hu with rfl | rfl | rfl | rfl | rfl <;> rcases hv with rfl | rfl | rfl | rfl | rfl <;> (dsimp only; decide)
theorem or_i64 {a b : Int} (ha : 0 ≤ a ∧ a < 16777216) (hb : 0 ≤ b ∧ b < 16777216) : 0 ≤ Go.bits .or .i64 a b ∧ Go.bits .or .i64 a b < 16777216 := by
  show 0 ≤ IntKind.i64.wrap ((BitVec.ofInt 64 a ||| BitVec.ofInt 64 b).toNat : Int) ∧ IntKind.i64.wrap ((BitVec.ofInt 64 a ||| BitVec.ofInt 64 b).toNat : Int) < 16777216
  have h1 : (BitVec.ofInt 64 a).toNat < 2 ^ 24 := by rw [BitVec.toNat_ofInt]; omega
  have h2 : (BitVec.ofInt 64 b).toNat < 2 ^ 24 := by rw [BitVec.toNat_ofInt]; omega
  have h3 := Nat.or_lt_two_pow h1 h2
  rw [BitVec.toNat_or]
  generalize (BitVec.ofInt 64 a).toNat ||| (BitVec.ofInt 64 b).toNat = z at *
  rw [IntKind.wrap_i64]
  omega
theorem or_u8 {a b c : Int} (ha : 0 ≤ a ∧ a < 256) (hb : 0 ≤ b ∧ b < 256) (hc : 0 ≤ c ∧ c < 256) : 0 ≤ Go.bits .or .i64 (Go.bits .or .i64 (wrap64 (a * 65536)) (wrap64 (b * 256))) c :=
  (or_i64 (or_i64 (by rw [w64 (by omega)]; omega) (by rw [w64 (by omega)]; omega)) (by omega)).1
theorem signed_eq {l : List Int} {p m : Int} (h : Rdy l p) (hm : 0 ≤ m ∧ m ≤ 1000000000) : ∃ v p', synopticfield_Codes_Signed.f l p m = some (v, p') ∧ -m ≤ v ∧ v ≤ m ∧ Rdy l p' := by
  obtain ⟨a, p1, e1, ha0, ha1, h1⟩ := next_eq (n := 256) h (by omega)
  obtain ⟨b, p2, e2, hb0, hb1, h2⟩ := next_eq (n := 256) h1 (by omega)
  obtain ⟨c, p3, e3, hc0, hc1, h3⟩ := next_eq (n := 256) h2 (by omega)
  obtain ⟨d, p4, e4, hd0, hd1, h4⟩ := next_eq (n := 2) h3 (by omega)
  have hor := or_u8 ⟨ha0, ha1⟩ ⟨hb0, hb1⟩ ⟨hc0, hc1⟩
  unfold synopticfield_Codes_Signed.f
  simp only [Option.bind_some, e1, e2, e3]
  rw [w64 (n := m + 1) (by omega), if_neg (by omega)]
  simp only [e4, Option.bind_some]
  generalize Go.bits .or .i64 (Go.bits .or .i64 (wrap64 (a * 65536)) (wrap64 (b * 256))) c = z at *
  rw [Int.tmod_eq_emod_of_nonneg hor]
  have z0 := Int.emod_nonneg z (show m + 1 ≠ 0 by omega)
  have z1 := Int.emod_lt_of_pos z (show 0 < m + 1 by omega)
  by_cases hd : d = 1
  · rw [if_pos hd, w64 (by omega)]
    exact ⟨_, _, rfl, by omega, by omega, h4⟩
  · rw [if_neg hd]
    exact ⟨_, _, rfl, by omega, by omega, h4⟩
theorem vector_l0 {l : List Int} {n : Nat} {m : Int} {c7 : List Int} (hn : n ≤ 1000000) (hc : c7.length = 7) (hb : bd m c7) : ∀ (d i : Nat) (p : Int) (o : List Int) (k : Nat), i + d = n → o.length = i → bd m o → Rdy l p → d < k →
    ∃ x p', synopticfield_Codes_Vector.l0 k (n : Int) c7 o (i : Int) l p = some (x, p') ∧ x.length = n ∧ bd m x ∧ Rdy l p' := by
  intro d
  induction d with
  | zero =>
    intro i p o k hi ho hob hr hk
    obtain ⟨k, rfl⟩ : ∃ j, k = j + 1 := ⟨k - 1, by omega⟩
    simp only [synopticfield_Codes_Vector.l0]
    rw [if_neg (by omega)]
    exact ⟨_, _, rfl, by omega, hob, hr⟩
  | succ d ih =>
    intro i p o k hi ho hob hr hk
    obtain ⟨k, rfl⟩ : ∃ j, k = j + 1 := ⟨k - 1, by omega⟩
    obtain ⟨v, p', e, h0, h1, hr'⟩ := next_eq (n := 7) hr (by omega)
    simp only [synopticfield_Codes_Vector.l0]
    rw [if_pos (by omega), e]
    simp only [Option.bind_some]
    rw [if_pos h0, if_pos (by omega), if_pos (by omega), w64 (by omega), show (i : Int) + 1 = ((i + 1 : Nat) : Int) by omega]
    refine ih (i + 1) p' _ k (by omega) (by simp [ho]) ?_ hr' (by omega)
    intro u hu
    rcases List.mem_append.1 hu with hu | hu
    · exact hob u hu
    · obtain rfl := List.mem_singleton.1 hu
      rw [rd_gt' _ h0]
      exact hb _ (gt_mem (by omega))
theorem vector_eq {l : List Int} {p : Int} (h : Rdy l p) {n : Nat} {m : Int} (hn : n ≤ 1000000) (hm : 9 ≤ m ∧ m ≤ 1000000000) {k : Nat} (hk : n < k) :
    ∃ x p', synopticfield_Codes_Vector.f k l p (n : Int) m = some (x, p') ∧ x.length = n ∧ bd m x ∧ Rdy l p' := by
  obtain ⟨a, p1, e1, ha0, ha1, h1⟩ := signed_eq (m := m) h (by omega)
  obtain ⟨b, p2, e2, hb0, hb1, h2⟩ := signed_eq (m := m) h1 (by omega)
  obtain ⟨c, p3, e3, hc0, hc1, h3⟩ := signed_eq (m := m) h2 (by omega)
  obtain ⟨d, p4, e4, hd0, hd1, h4⟩ := signed_eq (m := 9) h3 (by omega)
  unfold synopticfield_Codes_Vector.f
  simp only [e1, e2, e3, e4, Option.bind_some]
  rw [w64 (n := -m) (by omega)]
  refine vector_l0 hn rfl ?_ n 0 p4 [] k (by omega) rfl (by intro v hv; cases hv) h4 hk
  intro v hv
  simp only [List.mem_cons, List.not_mem_nil, or_false] at hv
  rcases hv with rfl | rfl | rfl | rfl | rfl | rfl | rfl <;> omega
theorem nodes_eq {f : Int} (h : f = 1 ∨ f = 2) : ∃ n : Nat, synopticref22_Nodes.f f = some (n : Int) ∧ (f = 1 ∧ n = 12 ∨ f = 2 ∧ n = 42) := by
  rcases h with rfl | rfl
  · exact ⟨12, by decide +kernel, by omega⟩
  · exact ⟨42, by decide +kernel, by omega⟩
/-- The number of nodes of the two frequencies. -/
def nd (f : Int) : Nat := if f = 1 then 12 else 42
theorem nodes_nd {f : Int} (h : f = 1 ∨ f = 2) : synopticref22_Nodes.f f = some ((nd f : Nat) : Int) := by
  rcases h with rfl | rfl <;> decide +kernel
theorem nd_le (f : Int) : nd f ≤ 42 ∧ 12 ≤ nd f := by unfold nd; split <;> omega
theorem for_eq {l : List Int} {p : Int} (h : Rdy l p) {f s a : Int} (hf : f = 1 ∨ f = 2) {k : Nat} (hk : 42 < k) :
    ∃ x p', synopticfield_Codes_For.f k l p f s a = some (x, p') ∧ x.length = nd f ∧ bd 1048576 x ∧ Rdy l p' := by
  obtain ⟨v, p1, e1, h0, h1, hr⟩ := next_eq (n := 3) h (by omega)
  have hnd := nd_le f
  unfold synopticfield_Codes_For.f
  rw [nodes_nd hf]
  simp only [Option.bind_some, e1]
  rw [if_pos h0, if_pos (by simpa using h1)]
  have hm : 9 ≤ rd [20, 1000, 1048576] v ∧ rd [20, 1000, 1048576] v ≤ 1048576 := by
    have hv : v = 0 ∨ v = 1 ∨ v = 2 := by omega
    rcases hv with rfl | rfl | rfl <;> decide
  obtain ⟨x, p', e, hx, hb, hr'⟩ := vector_eq (n := nd f) (m := rd [20, 1000, 1048576] v) hr (by omega) (by omega) (k := k) (by omega)
  rw [e]
  exact ⟨x, p', rfl, hx, bd_mono hb hm.2, hr'⟩
theorem halves_l0 {x : List Int} {m : Int} (hm : 0 ≤ m ∧ m ≤ 1000000000) (hx : bd (2 * m) x) (hl : x.length ≤ 1000000) : ∀ (d i : Nat) (o : List Int) (k : Nat), i + d = x.length → o.length = i → bd m o → d < k →
    ∃ y, synopticlaw22_halves.l0 k o x (x.length : Int) (i : Int) = some y ∧ y.length = x.length ∧ bd m y := by
  intro d
  induction d with
  | zero =>
    intro i o k hi ho hob hk
    obtain ⟨k, rfl⟩ : ∃ j, k = j + 1 := ⟨k - 1, by omega⟩
    simp only [synopticlaw22_halves.l0]
    rw [if_neg (by omega)]
    exact ⟨_, rfl, by omega, hob⟩
  | succ d ih =>
    intro i o k hi ho hob hk
    obtain ⟨k, rfl⟩ : ∃ j, k = j + 1 := ⟨k - 1, by omega⟩
    simp only [synopticlaw22_halves.l0]
    rw [if_pos (by omega), if_pos (by omega), if_pos (by omega), if_pos (by omega), w64 (n := (i : Int) + 1) (by omega), show (i : Int) + 1 = ((i + 1 : Nat) : Int) by omega]
    refine ih (i + 1) _ k (by omega) (by simp [ho]) ?_ (by omega)
    intro u hu
    rcases List.mem_append.1 hu with hu | hu
    · exact hob u hu
    · obtain rfl := List.mem_singleton.1 hu
      have h := hx _ (gt_mem (o := x) (i := i) (by omega))
      rw [rd_gt]
      generalize gt x i = z at *
      have ht : -m ≤ Int.tdiv z 2 ∧ Int.tdiv z 2 ≤ m := by
        rcases Int.le_total 0 z with h0 | h0
        · rw [Int.tdiv_eq_ediv_of_nonneg h0]; omega
        · have e : Int.tdiv z 2 = -((-z) / 2) := by rw [← Int.tdiv_eq_ediv_of_nonneg (show 0 ≤ -z by omega), Int.neg_tdiv, Int.neg_neg]
          rw [e]; omega
      rw [w64 (by omega)]
      exact ht
theorem halves_eq {x : List Int} {m : Int} (hm : 0 ≤ m ∧ m ≤ 1000000000) (hx : bd (2 * m) x) (hl : x.length ≤ 1000000) {k : Nat} (hk : x.length < k) : ∃ y, synopticlaw22_halves.f k x = some y ∧ y.length = x.length ∧ bd m y :=
  halves_l0 hm hx hl x.length 0 [] k (by omega) rfl (by intro v hv; cases hv) hk
theorem take_zw {x y : List Int} (h : x.length = y.length) {i : Nat} (hi : i < x.length) : (zw x y).take (i + 1) = (zw x y).take i ++ [gt x i + gt y i] := by
  have hz : i < (zw x y).length := by rw [zw_len h]; exact hi
  rw [List.take_succ_eq_append_getElem hz, ← gt_zw h, gt_lt hz]
theorem sum_l0 {x y : List Int} {m : Int} (hm : m ≤ 4000000000000000000) (hx : bd m x) (hy : bd m y) (h : x.length = y.length) (hl : x.length ≤ 1000000) : ∀ (d i : Nat) (k : Nat), i + d = x.length → d < k →
    synopticlaw22_sum.l0 k x y ((zw x y).take i) (x.length : Int) (i : Int) = some (zw x y) := by
  intro d
  induction d with
  | zero =>
    intro i k hi hk
    obtain ⟨k, rfl⟩ : ∃ j, k = j + 1 := ⟨k - 1, by omega⟩
    simp only [synopticlaw22_sum.l0]
    rw [if_neg (by omega), List.take_of_length_le (by rw [zw_len h]; omega)]
  | succ d ih =>
    intro i k hi hk
    obtain ⟨k, rfl⟩ : ∃ j, k = j + 1 := ⟨k - 1, by omega⟩
    have h1 := hx _ (gt_mem (o := x) (i := i) (by omega))
    have h2 := hy _ (gt_mem (o := y) (i := i) (by omega))
    simp only [synopticlaw22_sum.l0]
    rw [if_pos (by omega), if_pos (by omega), if_pos (by omega), if_pos (by omega), if_pos (by rw [List.length_take]; omega), rd_gt, rd_gt, w64 (n := gt x i + gt y i) (by omega), w64 (n := (i : Int) + 1) (by omega), ← take_zw h (by omega), show (i : Int) + 1 = ((i + 1 : Nat) : Int) by omega]
    exact ih (i + 1) k (by omega) (by omega)
theorem sum_eq {x y : List Int} {m : Int} (hm : m ≤ 4000000000000000000) (hx : bd m x) (hy : bd m y) (h : x.length = y.length) (hl : x.length ≤ 1000000) {k : Nat} (hk : x.length < k) : synopticlaw22_sum.f k x y = some (zw x y) :=
  sum_l0 hm hx hy h hl x.length 0 k (by omega) hk
theorem bd_zw {m : Int} {x y : List Int} (h : x.length = y.length) (hx : bd m x) (hy : bd m y) : bd (2 * m) (zw x y) := by
  intro v hv
  obtain ⟨i, hi, rfl⟩ := List.getElem_of_mem hv
  rw [← gt_lt hi, gt_zw h]
  have hi' : i < x.length := by rw [← zw_len h]; exact hi
  have h1 := hx _ (gt_mem hi')
  have h2 := hy _ (gt_mem (show i < y.length by omega))
  omega
theorem ints_l0 {x : List Int} (hl : x.length ≤ 1000000) : ∀ (d i : Nat) (k : Nat), i + d = x.length → d < k → synoptickeep_Ints.l0 k x x (i : Int) = some true := by
  intro d
  induction d with
  | zero =>
    intro i k hi hk
    obtain ⟨k, rfl⟩ : ∃ j, k = j + 1 := ⟨k - 1, by omega⟩
    simp only [synoptickeep_Ints.l0]
    rw [if_neg (by omega)]
  | succ d ih =>
    intro i k hi hk
    obtain ⟨k, rfl⟩ : ∃ j, k = j + 1 := ⟨k - 1, by omega⟩
    simp only [synoptickeep_Ints.l0]
    rw [if_pos (by omega), if_pos (by omega), if_pos (by omega), if_pos trivial, w64 (by omega), show (i : Int) + 1 = ((i + 1 : Nat) : Int) by omega]
    exact ih (i + 1) k (by omega) (by omega)
theorem ints_self {x : List Int} (hl : x.length ≤ 1000000) {k : Nat} (hk : x.length < k) : synoptickeep_Ints.f k x x = some true := by
  unfold synoptickeep_Ints.f
  rw [if_pos rfl]
  exact ints_l0 hl x.length 0 k (by omega) hk
end Go.Proofs.YtdagdoiedibpgaaDoor.Prt
