import Derived.RowKit
import Derived.Test.YtdagdoiedibpgaaDoorPrt2
import Derived.Test.YtdagdoiedibpgaaDoorPrt11
import Derived.Test.YtdagdoiedibpgaaDoorPrt12
import Derived.Test.YtdagdoiedibpgaaDoorPrt9
import Derived.Test.YtdagdoiedibpgaaDoorPrt7
import Derived.Test.YtdagdoiedibpgaaDoorPrt8
import Derived.Laws.DeepNot64
import Derived.Lib.Mul64
import Derived.Lib.VarintBits
import Derived.Lib.EndianBits
import Derived.Test.YtdagdoiedibpgaaDoorPrt4
import Derived.Test.YtdagdoiedibpgaaDoorPrt14
import Derived.Test.YtdagdoiedibpgaaDoorPrt21
import Derived.Test.YtdagdoiedibpgaaDoorPrt20
import Derived.Test.YtdagdoiedibpgaaDoorPrt23
/- Plain laws on vectors, edges and the form that a precision makes of them. No program in sight. -/
namespace Go.Proofs.YtdagdoiedibpgaaDoor.Prt
set_option linter.unusedVariables false
set_option linter.unusedSimpArgs false
open Go.RowKit
/-- Element i, 0 beyond the end. -/
def gt (o : List Int) (i : Nat) : Int := o.getD i 0
theorem gt_lt {o : List Int} {i : Nat} (h : i < o.length) : gt o i = o[i] := by simp [gt, List.getD, h]
theorem gt_mem {o : List Int} {i : Nat} (h : i < o.length) : gt o i ∈ o := by rw [gt_lt h]; exact List.getElem_mem h
theorem gt_cons_succ (a : Int) (o : List Int) (i : Nat) : gt (a :: o) (i + 1) = gt o i := by simp [gt, List.getD]
theorem gt_cons_zero (a : Int) (o : List Int) : gt (a :: o) 0 = a := rfl
theorem gt_set {o : List Int} {i j : Nat} {v : Int} (h : i < o.length) : gt (o.set i v) j = if j = i then v else gt o j := by
  by_cases e : j = i
  · subst e; rw [if_pos rfl, gt_lt (by simpa using h)]; simp
  · rw [if_neg e]; simp only [gt, List.getD]; rw [List.getElem?_set_ne (fun x => e x.symm)]
/-- All absolute values are at most B. -/
def bd (B : Int) (o : List Int) : Prop := ∀ v ∈ o, -B ≤ v ∧ v ≤ B
theorem bd_gt {B : Int} {o : List Int} (h : bd B o) (hB : 0 ≤ B) (i : Nat) : -B ≤ gt o i ∧ gt o i ≤ B := by
  by_cases hi : i < o.length
  · exact h _ (gt_mem hi)
  · have : gt o i = 0 := by simp only [gt, List.getD]; rw [List.getElem?_eq_none (by omega)]; rfl
    omega
theorem bd_mono {B C : Int} {o : List Int} (h : bd B o) (hC : B ≤ C) : bd C o := fun v hv => by have := h v hv; omega
theorem bd_set {B : Int} {o : List Int} (h : bd B o) {i : Nat} {v : Int} (h1 : -B ≤ v) (h2 : v ≤ B) : bd B (o.set i v) := by
  intro u hu
  rcases List.mem_or_eq_of_mem_set hu with hu | rfl
  · exact h u hu
  · exact ⟨h1, h2⟩
theorem mul_bd {s u P Q : Int} (hs : 0 ≤ s) (hP : s ≤ P) (h1 : -Q ≤ u) (h2 : u ≤ Q) : -(P * Q) ≤ s * u ∧ s * u ≤ P * Q := by
  have hQ : 0 ≤ Q := by omega
  have a : s * u ≤ s * Q := Int.mul_le_mul_of_nonneg_left h2 hs
  have b : s * -Q ≤ s * u := Int.mul_le_mul_of_nonneg_left h1 hs
  have c : s * Q ≤ P * Q := Int.mul_le_mul_of_nonneg_right hP hQ
  rw [Int.mul_neg] at b
  omega
/-- One edge of the product. -/
def stp (S : Int) (x o : List Int) (a b : Nat) : List Int :=
  (o.set a (gt o a + S * (gt x a - gt x b))).set b (gt (o.set a (gt o a + S * (gt x a - gt x b))) b - S * (gt x a - gt x b))
theorem stp_len (S : Int) (x o : List Int) (a b : Nat) : (stp S x o a b).length = o.length := by simp [stp]
/-- The edges of the product. -/
def appE (S : Int) (x : List Int) : List (Nat × Nat) → List Int → List Int
  | [], o => o
  | e :: E, o => appE S x E (stp S x o e.1 e.2)
theorem appE_len (S : Int) (x : List Int) (E : List (Nat × Nat)) (o : List Int) : (appE S x E o).length = o.length := by
  induction E generalizing o with
  | nil => rfl
  | cons e E ih => simp only [appE]; rw [ih, stp_len]
/-- The sum of the products. -/
def dz : List Int → List Int → Int
  | a :: l, b :: m => a * b + dz l m
  | _, _ => 0
theorem dz_comm (l m : List Int) : dz l m = dz m l := by
  induction l generalizing m with
  | nil => cases m <;> rfl
  | cons a l ih => cases m with
    | nil => rfl
    | cons b m => simp only [dz]; rw [ih, Int.mul_comm]
theorem dz_set {o y : List Int} {i : Nat} {v : Int} (h : i < o.length) (hl : o.length = y.length) : dz (o.set i v) y = dz o y + (v - gt o i) * gt y i := by
  induction o generalizing y i with
  | nil => simp at h
  | cons a o ih => cases y with
    | nil => simp at hl
    | cons b y => cases i with
      | zero => simp only [List.set_cons_zero, dz, gt_cons_zero]; rw [Int.sub_mul]; omega
      | succ i =>
        simp only [List.set_cons_succ, dz, gt_cons_succ]
        rw [ih (by simpa using h) (by simpa using hl)]; omega
theorem dz_map (A : Int) (x y : List Int) : dz (x.map (A * ·)) y = A * dz x y := by
  induction x generalizing y with
  | nil => simp [dz]
  | cons a x ih => cases y with
    | nil => simp [dz]
    | cons b y => simp only [List.map_cons, dz]; rw [ih, Int.mul_add, Int.mul_assoc]
/-- The form of the edges. -/
def frm (S : Int) (x y : List Int) : List (Nat × Nat) → Int
  | [] => 0
  | e :: E => S * (gt x e.1 - gt x e.2) * (gt y e.1 - gt y e.2) + frm S x y E
theorem frm_comm (S : Int) (x y : List Int) (E : List (Nat × Nat)) : frm S x y E = frm S y x E := by
  induction E with
  | nil => rfl
  | cons e E ih => simp only [frm]; rw [ih, Int.mul_right_comm]
theorem dz_stp {S : Int} {x o y : List Int} {a b : Nat} (ha : a < o.length) (hb : b < o.length) (hl : o.length = y.length) :
    dz (stp S x o a b) y = dz o y + S * (gt x a - gt x b) * (gt y a - gt y b) := by
  unfold stp
  rw [dz_set (by simpa using hb) (by simpa using hl), dz_set ha hl]
  generalize S * (gt x a - gt x b) = d
  rw [show gt o a + d - gt o a = d by omega, show gt (o.set a (gt o a + d)) b - d - gt (o.set a (gt o a + d)) b = -d by omega, Int.neg_mul, Int.mul_sub]
  omega
theorem dz_appE {S : Int} {x y : List Int} {E : List (Nat × Nat)} {o : List Int} (hE : ∀ e ∈ E, e.1 < o.length ∧ e.2 < o.length) (hl : o.length = y.length) :
    dz (appE S x E o) y = dz o y + frm S x y E := by
  induction E generalizing o with
  | nil => simp [appE, frm]
  | cons e E ih =>
    simp only [appE, frm]
    have he := hE e (by simp)
    rw [ih (fun e' h => by rw [stp_len]; exact hE e' (by simp [h])) (by rw [stp_len]; exact hl), dz_stp he.1 he.2 hl]
    omega
/-- The sum of two vectors. -/
def zw (x y : List Int) : List Int := List.zipWith (· + ·) x y
theorem zw_len {x y : List Int} (h : x.length = y.length) : (zw x y).length = x.length := by simp [zw, h]
theorem gt_zw {x y : List Int} (h : x.length = y.length) (i : Nat) : gt (zw x y) i = gt x i + gt y i := by
  by_cases hi : i < x.length
  · rw [gt_lt (show i < (zw x y).length by rw [zw_len h]; exact hi), gt_lt hi, gt_lt (show i < y.length from h ▸ hi)]; simp [zw]
  · simp only [gt, List.getD]
    rw [List.getElem?_eq_none (by rw [zw_len h]; omega), List.getElem?_eq_none (by omega), List.getElem?_eq_none (by omega)]; rfl
theorem ext_gt {o p : List Int} (hl : o.length = p.length) (h : ∀ i, i < o.length → gt o i = gt p i) : o = p := by
  refine List.ext_getElem hl fun i h1 h2 => ?_
  rw [← gt_lt h1, ← gt_lt h2]; exact h i h1
theorem zw_set {o p : List Int} (h : o.length = p.length) {i : Nat} (u v : Int) : zw (o.set i u) (p.set i v) = (zw o p).set i (u + v) := by
  by_cases hi : i < o.length
  · refine ext_gt (by simp [zw]) fun j hj => ?_
    rw [gt_zw (by simpa using h), gt_set hi, gt_set (show i < p.length from h ▸ hi), gt_set (show i < (zw o p).length by rw [zw_len h]; exact hi), gt_zw h]
    split <;> rfl
  · rw [List.set_eq_of_length_le (by omega), List.set_eq_of_length_le (by omega), List.set_eq_of_length_le (by rw [zw_len h]; omega)]
theorem stp_zw {S : Int} {x y o p : List Int} {a b : Nat} (hx : x.length = y.length) (ho : o.length = p.length) : stp S (zw x y) (zw o p) a b = zw (stp S x o a b) (stp S y p a b) := by
  unfold stp
  rw [zw_set (by simpa using ho), zw_set ho, gt_zw hx, gt_zw hx, gt_zw ho]
  have e1 : gt o a + gt p a + S * (gt x a + gt y a - (gt x b + gt y b)) = gt o a + S * (gt x a - gt x b) + (gt p a + S * (gt y a - gt y b)) := by
    rw [show gt x a + gt y a - (gt x b + gt y b) = (gt x a - gt x b) + (gt y a - gt y b) by omega, Int.mul_add]; omega
  rw [e1, ← zw_set ho, gt_zw (by simpa using ho)]
  congr 1
  rw [show gt x a + gt y a - (gt x b + gt y b) = (gt x a - gt x b) + (gt y a - gt y b) by omega, Int.mul_add]; omega
theorem appE_zw {S : Int} {x y : List Int} {E : List (Nat × Nat)} {o p : List Int} (hx : x.length = y.length) (ho : o.length = p.length) : appE S (zw x y) E (zw o p) = zw (appE S x E o) (appE S y E p) := by
  induction E generalizing o p with
  | nil => rfl
  | cons e E ih => simp only [appE]; rw [stp_zw hx ho, ih (by rw [stp_len, stp_len]; exact ho)]
theorem map_zw (A : Int) {x y : List Int} (h : x.length = y.length) : (zw x y).map (A * ·) = zw (x.map (A * ·)) (y.map (A * ·)) := by
  refine ext_gt (by simp [zw]) fun j hj => ?_
  have hj' : j < x.length := by simpa [zw, h] using hj
  rw [gt_lt hj, gt_zw (by simpa using h), gt_lt (by simpa using hj'), gt_lt (by simpa using h ▸ hj')]
  simp [zw, Int.mul_add]
/-- The product of a precision and a vector, without wrapping. -/
def apZ (S A : Int) (E : List (Nat × Nat)) (x : List Int) : List Int := appE S x E (x.map (A * ·))
theorem apZ_len (S A : Int) (E : List (Nat × Nat)) (x : List Int) : (apZ S A E x).length = x.length := by simp [apZ, appE_len]
theorem apZ_dz {S A : Int} {E : List (Nat × Nat)} {x y : List Int} (hE : ∀ e ∈ E, e.1 < x.length ∧ e.2 < x.length) (hl : x.length = y.length) : dz (apZ S A E x) y = A * dz x y + frm S x y E := by
  unfold apZ
  rw [dz_appE (by simpa using hE) (by simpa using hl), dz_map]
theorem apZ_sym {S A : Int} {E : List (Nat × Nat)} {x y : List Int} (hE : ∀ e ∈ E, e.1 < x.length ∧ e.2 < x.length) (hl : x.length = y.length) : dz (apZ S A E x) y = dz x (apZ S A E y) := by
  rw [apZ_dz hE hl, dz_comm x (apZ S A E y), apZ_dz (by rw [← hl]; exact hE) hl.symm, dz_comm y x, frm_comm]
theorem apZ_zw {S A : Int} {E : List (Nat × Nat)} {x y : List Int} (hl : x.length = y.length) : apZ S A E (zw x y) = zw (apZ S A E x) (apZ S A E y) := by
  unfold apZ
  rw [map_zw A hl, appE_zw hl (by simpa using hl)]
/-- The sum of the elements. -/
def sz : List Int → Int
  | [] => 0
  | a :: l => a + sz l
theorem dz_ones (x : List Int) : dz x (List.replicate x.length 1) = sz x := by
  induction x with
  | nil => rfl
  | cons a x ih => simp only [List.length_cons, List.replicate_succ, dz, sz]; rw [ih]; omega
theorem gt_rep {n i : Nat} {v : Int} (h : i < n) : gt (List.replicate n v) i = v := by rw [gt_lt (by simpa using h)]; simp
theorem frm_const {S : Int} {x : List Int} {n : Nat} {v : Int} {E : List (Nat × Nat)} (hE : ∀ e ∈ E, e.1 < n ∧ e.2 < n) : frm S x (List.replicate n v) E = 0 := by
  induction E with
  | nil => rfl
  | cons e E ih =>
    have he := hE e (by simp)
    simp only [frm]
    rw [ih (fun e' h => hE e' (by simp [h])), gt_rep he.1, gt_rep he.2]; simp
theorem apZ_sum {S A : Int} {E : List (Nat × Nat)} {x : List Int} (hE : ∀ e ∈ E, e.1 < x.length ∧ e.2 < x.length) : sz (apZ S A E x) = A * sz x := by
  rw [← dz_ones (apZ S A E x), ← dz_ones x, apZ_len, apZ_dz hE (by simp), frm_const hE]; omega
/-- The sum of the squares is not negative; and is 0 of the vector 0 alone. -/
theorem sq_nonneg (a : Int) : 0 ≤ a * a := by
  rcases Int.le_total 0 a with h | h
  · exact Int.mul_nonneg h h
  · exact Int.mul_nonneg_of_nonpos_of_nonpos h h
theorem dz_self_nonneg (x : List Int) : 0 ≤ dz x x := by
  induction x with
  | nil => simp [dz]
  | cons a x ih => simp only [dz]; have := sq_nonneg a; omega
theorem sq_zero {a : Int} (h : a * a ≤ 0) : a = 0 := by
  have := sq_nonneg a
  have h0 : a * a = 0 := by omega
  rcases Int.mul_eq_zero.1 h0 with h | h <;> exact h
theorem dz_self_zero {x : List Int} (h : dz x x ≤ 0) : ∀ v ∈ x, v = 0 := by
  induction x with
  | nil => simp
  | cons a x ih =>
    simp only [dz] at h
    have h1 := sq_nonneg a
    have h2 := dz_self_nonneg x
    intro v hv
    rcases List.mem_cons.1 hv with rfl | hv
    · exact sq_zero (by omega)
    · exact ih (by omega) v hv
theorem frm_self_nonneg {S : Int} (hS : 0 ≤ S) (x : List Int) (E : List (Nat × Nat)) : 0 ≤ frm S x x E := by
  induction E with
  | nil => simp [frm]
  | cons e E ih =>
    simp only [frm]
    rw [Int.mul_assoc]
    have := Int.mul_nonneg hS (sq_nonneg (gt x e.1 - gt x e.2))
    omega
theorem frm_self_zero {S : Int} (hS : 0 < S) {x : List Int} {E : List (Nat × Nat)} (h : frm S x x E ≤ 0) : ∀ e ∈ E, gt x e.1 = gt x e.2 := by
  induction E with
  | nil => simp
  | cons e E ih =>
    simp only [frm] at h
    rw [Int.mul_assoc] at h
    have h1 := Int.mul_nonneg (Int.le_of_lt hS) (sq_nonneg (gt x e.1 - gt x e.2))
    have h2 := frm_self_nonneg (Int.le_of_lt hS) x E
    intro e' he'
    rcases List.mem_cons.1 he' with rfl | he'
    · have h0 : S * ((gt x e'.1 - gt x e'.2) * (gt x e'.1 - gt x e'.2)) = 0 := by omega
      rcases Int.mul_eq_zero.1 h0 with h | h
      · omega
      · have := sq_zero (a := gt x e'.1 - gt x e'.2) (by omega); omega
    · exact ih (by omega) e' he'
theorem frm_zero (x y : List Int) (E : List (Nat × Nat)) : frm 0 x y E = 0 := by
  induction E with
  | nil => rfl
  | cons e E ih => simp only [frm]; rw [ih]; simp
theorem frm_flat {S : Int} {x y : List Int} {E : List (Nat × Nat)} (h : ∀ e ∈ E, gt x e.1 = gt x e.2) : frm S x y E = 0 := by
  induction E with
  | nil => rfl
  | cons e E ih => simp only [frm]; rw [ih (fun e' he => h e' (by simp [he])), h e (by simp)]; simp
/-- Bounds of the product. -/
theorem stp_bd {S M B D : Int} {x o : List Int} {a b : Nat} (hx : ∀ i, -M ≤ gt x i ∧ gt x i ≤ M) (hD : ∀ u, -(2 * M) ≤ u → u ≤ 2 * M → -D ≤ S * u ∧ S * u ≤ D) (hD0 : 0 ≤ D) (hB : 0 ≤ B) (ho : bd B o) :
    bd (B + D) (o.set a (gt o a + S * (gt x a - gt x b))) ∧ bd (B + 2 * D) (stp S x o a b) := by
  have h1 := hx a
  have h2 := hx b
  have hd := hD (gt x a - gt x b) (by omega) (by omega)
  have ha := bd_gt ho hB a
  have hb1 : bd (B + D) (o.set a (gt o a + S * (gt x a - gt x b))) := bd_set (bd_mono ho (by omega)) (by omega) (by omega)
  have hb2 := bd_gt hb1 (by omega) b
  exact ⟨hb1, bd_set (bd_mono hb1 (by omega)) (by omega) (by omega)⟩
theorem appE_bd {S M D : Int} {x : List Int} (hx : ∀ i, -M ≤ gt x i ∧ gt x i ≤ M) (hD : ∀ u, -(2 * M) ≤ u → u ≤ 2 * M → -D ≤ S * u ∧ S * u ≤ D) (hD0 : 0 ≤ D) (E : List (Nat × Nat)) :
    ∀ (B : Int) (o : List Int), 0 ≤ B → bd B o → bd (B + E.length * (2 * D)) (appE S x E o) := by
  induction E with
  | nil => intro B o _ h; simpa [appE] using h
  | cons e E ih =>
    intro B o hB h
    simp only [appE, List.length_cons]
    have := ih (B + 2 * D) _ (by omega) (stp_bd (a := e.1) (b := e.2) hx hD hD0 hB h).2
    refine bd_mono this ?_
    rw [Int.natCast_add, Int.add_mul]; omega
end Go.Proofs.YtdagdoiedibpgaaDoor.Prt
/- What the readers of choices, the vectors made of them and the product of a precision answer. -/
namespace Go.Proofs.YtdagdoiedibpgaaDoor.Prt
set_option linter.unusedVariables false
set_option linter.unusedSimpArgs false
open Go.RowKit Go.Proofs.YtdagdoiedibpgaaDoorW.PrintWords
theorem w64 {n : Int} (h : -9223372036854775808 ≤ n ∧ n ≤ 9223372036854775807) : wrap64 n = n := by unfold wrap64; omega
theorem rd_gt (xs : List Int) (i : Nat) : rd xs (i : Int) = gt xs i := by simp [rd, gt]
theorem rd_gt' (xs : List Int) {i : Int} (_ : 0 ≤ i) : rd xs i = gt xs i.toNat := rfl
/-- A reader of choices. -/
def Rdy (l : List Int) (p : Int) : Prop := l.length ≤ 1000000 ∧ 0 ≤ p ∧ p ≤ l.length ∧ ∀ x ∈ l, 0 ≤ x ∧ x ≤ 255

theorem next_eq {l : List Int} {p n : Int} (h : Rdy l p) (hn : 1 ≤ n) : ∃ v p', synopticfield_Codes_Next.f l p n = some (v, p') ∧ 0 ≤ v ∧ v < n ∧ Rdy l p' := by
  obtain ⟨hl, h0, h1, hx⟩ := h
  unfold synopticfield_Codes_Next.f synopticfield_Codes_Left.f
  simp only [Option.bind_some]
  by_cases hp : p < (l.length : Int)
  · rw [if_pos (decide_eq_true hp), if_neg (by omega)]
    have e1 : wrap64 (wrap64 (p + 1) - 1) = p := by rw [w64 (n := p + 1) (by omega), w64 (by omega)]; omega
    rw [e1, if_pos h0, if_pos hp, if_neg (by omega), w64 (n := p + 1) (by omega)]
    have hm := hx (gt l p.toNat) (gt_mem (by omega))
    rw [rd_gt' l h0, w64 (by omega), Int.tmod_eq_emod_of_nonneg hm.1]
    exact ⟨_, _, rfl, Int.emod_nonneg _ (by omega), Int.emod_lt_of_pos _ (by omega), hl, by omega, by omega, hx⟩
  · rw [if_neg (by simpa using hp)]
    exact ⟨0, p, rfl, by omega, by omega, hl, h0, h1, hx⟩
theorem new_eq {l : List Int} {m : Nat} (hx : ∀ x ∈ l, 0 ≤ x ∧ x ≤ 255) (hm : m ≤ 1000000) : ∃ l', synopticfield_New.f l (m : Int) = some (l', 0) ∧ Rdy l' 0 := by
  unfold synopticfield_New.f
  by_cases h : (l.length : Int) > m
  · rw [if_pos h, if_pos (by omega), if_pos (by omega)]
    refine ⟨_, rfl, by rw [List.length_take]; omega, by omega, by omega, fun x hx' => hx x (List.mem_of_mem_take hx')⟩
  · rw [if_neg h]
    exact ⟨l, rfl, by omega, by omega, by omega, hx⟩
theorem freq_eq {l : List Int} {p : Int} (h : Rdy l p) : ∃ v p', synopticfield_Codes_Frequency.f l p = some (v, p') ∧ (v = 1 ∨ v = 2) ∧ Rdy l p' := by
  obtain ⟨v, p', e, h0, h1, h'⟩ := next_eq (n := 5) h (by omega)
  unfold synopticfield_Codes_Frequency.f
  simp only [Option.bind_some, e]
  have hv : v = 0 ∨ v = 1 ∨ v = 2 ∨ v = 3 ∨ v = 4 := by omega
  rcases hv with rfl | rfl | rfl | rfl | rfl <;> exact ⟨_, p', rfl, by decide, h'⟩
/-- A precision that the statements draw. -/
def PrecOK (f s a : Int) : Prop := (f = 1 ∨ f = 2) ∧ 0 ≤ s ∧ s ≤ 1000000 ∧ 1 ≤ a ∧ a ≤ 1000000
theorem precision_eq {l : List Int} {p : Int} (h : Rdy l p) : ∃ f s a p', synopticfield_Codes_Precision.f l p = some (f, s, a, p') ∧ PrecOK f s a ∧ Rdy l p' := by
  obtain ⟨f, p1, e1, hf, h1⟩ := freq_eq h
  obtain ⟨u, p2, e2, hu0, hu1, h2⟩ := next_eq (n := 5) h1 (by omega)
  obtain ⟨v, p3, e3, hv0, hv1, h3⟩ := next_eq (n := 5) h2 (by omega)
  unfold synopticfield_Codes_Precision.f
  simp only [Option.bind_some, e1, e2]
  rw [if_pos hu0, if_pos (by simpa using hu1)]
  simp only [e3]
  rw [Option.bind_some]
  rw [if_pos hv0, if_pos (by simpa using hv1)]
  refine ⟨_, _, _, _, rfl, ⟨hf, ?_⟩, h3⟩
  have hu : u = 0 ∨ u = 1 ∨ u = 2 ∨ u = 3 ∨ u = 4 := by omega
  have hv : v = 0 ∨ v = 1 ∨ v = 2 ∨ v = 3 ∨ v = 4 := by omega
  rcases hu with rfl | rfl | rfl | rfl | rfl <;> rcases hv with rfl | rfl | rfl | rfl | rfl <;> (dsimp only; decide)
theorem or_i64 {a b : Int} (ha : 0 ≤ a ∧ a < 16777216) (hb : 0 ≤ b ∧ b < 16777216) : 0 ≤ Go.bits .or .i64 a b ∧ Go.bits .or .i64 a b < 16777216 := by
  show 0 ≤ IntKind.i64.wrap ((BitVec.ofInt 64 a ||| BitVec.ofInt 64 b).toNat : Int) ∧ IntKind.i64.wrap ((BitVec.ofInt 64 a ||| BitVec.ofInt 64 b).toNat : Int) < 16777216
  have h1 : (BitVec.ofInt 64 a).toNat < 2 ^ 24 := by rw [BitVec.toNat_ofInt]; omega
  have h2 : (BitVec.ofInt 64 b).toNat < 2 ^ 24 := by rw [BitVec.toNat_ofInt]; omega
  have h3 := Nat.or_lt_two_pow h1 h2
  rw [BitVec.toNat_or]
  generalize (BitVec.ofInt 64 a).toNat ||| (BitVec.ofInt 64 b).toNat = z at *
  rw [IntKind.wrap_i64]
  omega
theorem or_u8 {a b c : Int} (ha : 0 ≤ a ∧ a < 256) (hb : 0 ≤ b ∧ b < 256) (hc : 0 ≤ c ∧ c < 256) : 0 ≤ Go.bits .or .i64 (Go.bits .or .i64 (wrap64 (a * 65536)) (wrap64 (b * 256))) c :=
  (or_i64 (or_i64 (by rw [w64 (by omega)]; omega) (by rw [w64 (by omega)]; omega)) (by omega)).1
theorem signed_eq {l : List Int} {p m : Int} (h : Rdy l p) (hm : 0 ≤ m ∧ m ≤ 1000000000) : ∃ v p', synopticfield_Codes_Signed.f l p m = some (v, p') ∧ -m ≤ v ∧ v ≤ m ∧ Rdy l p' := by
  obtain ⟨a, p1, e1, ha0, ha1, h1⟩ := next_eq (n := 256) h (by omega)
  obtain ⟨b, p2, e2, hb0, hb1, h2⟩ := next_eq (n := 256) h1 (by omega)
  obtain ⟨c, p3, e3, hc0, hc1, h3⟩ := next_eq (n := 256) h2 (by omega)
  obtain ⟨d, p4, e4, hd0, hd1, h4⟩ := next_eq (n := 2) h3 (by omega)
  have hor := or_u8 ⟨ha0, ha1⟩ ⟨hb0, hb1⟩ ⟨hc0, hc1⟩
  unfold synopticfield_Codes_Signed.f
  simp only [Option.bind_some, e1, e2, e3]
  rw [w64 (n := m + 1) (by omega), if_neg (by omega)]
  simp only [e4, Option.bind_some]
  generalize Go.bits .or .i64 (Go.bits .or .i64 (wrap64 (a * 65536)) (wrap64 (b * 256))) c = z at *
  rw [Int.tmod_eq_emod_of_nonneg hor]
  have z0 := Int.emod_nonneg z (show m + 1 ≠ 0 by omega)
  have z1 := Int.emod_lt_of_pos z (show 0 < m + 1 by omega)
  by_cases hd : d = 1
  · rw [if_pos hd, w64 (by omega)]
    exact ⟨_, _, rfl, by omega, by omega, h4⟩
  · rw [if_neg hd]
    exact ⟨_, _, rfl, by omega, by omega, h4⟩
theorem vector_l0 {l : List Int} {n : Nat} {m : Int} {c7 : List Int} (hn : n ≤ 1000000) (hc : c7.length = 7) (hb : bd m c7) : ∀ (d i : Nat) (p : Int) (o : List Int) (k : Nat), i + d = n → o.length = i → bd m o → Rdy l p → d < k →
    ∃ x p', synopticfield_Codes_Vector.l0 k (n : Int) c7 o (i : Int) l p = some (x, p') ∧ x.length = n ∧ bd m x ∧ Rdy l p' := by
  intro d
  induction d with
  | zero =>
    intro i p o k hi ho hob hr hk
    obtain ⟨k, rfl⟩ : ∃ j, k = j + 1 := ⟨k - 1, by omega⟩
    simp only [synopticfield_Codes_Vector.l0]
    rw [if_neg (by omega)]
    exact ⟨_, _, rfl, by omega, hob, hr⟩
  | succ d ih =>
    intro i p o k hi ho hob hr hk
    obtain ⟨k, rfl⟩ : ∃ j, k = j + 1 := ⟨k - 1, by omega⟩
    obtain ⟨v, p', e, h0, h1, hr'⟩ := next_eq (n := 7) hr (by omega)
    simp only [synopticfield_Codes_Vector.l0]
    rw [if_pos (by omega), e]
    simp only [Option.bind_some]
    rw [if_pos h0, if_pos (by omega), if_pos (by omega), w64 (by omega), show (i : Int) + 1 = ((i + 1 : Nat) : Int) by omega]
    refine ih (i + 1) p' _ k (by omega) (by simp [ho]) ?_ hr' (by omega)
    intro u hu
    rcases List.mem_append.1 hu with hu | hu
    · exact hob u hu
    · obtain rfl := List.mem_singleton.1 hu
      rw [rd_gt' _ h0]
      exact hb _ (gt_mem (by omega))
theorem vector_eq {l : List Int} {p : Int} (h : Rdy l p) {n : Nat} {m : Int} (hn : n ≤ 1000000) (hm : 9 ≤ m ∧ m ≤ 1000000000) {k : Nat} (hk : n < k) :
    ∃ x p', synopticfield_Codes_Vector.f k l p (n : Int) m = some (x, p') ∧ x.length = n ∧ bd m x ∧ Rdy l p' := by
  obtain ⟨a, p1, e1, ha0, ha1, h1⟩ := signed_eq (m := m) h (by omega)
  obtain ⟨b, p2, e2, hb0, hb1, h2⟩ := signed_eq (m := m) h1 (by omega)
  obtain ⟨c, p3, e3, hc0, hc1, h3⟩ := signed_eq (m := m) h2 (by omega)
  obtain ⟨d, p4, e4, hd0, hd1, h4⟩ := signed_eq (m := 9) h3 (by omega)
  unfold synopticfield_Codes_Vector.f
  simp only [e1, e2, e3, e4, Option.bind_some]
  rw [w64 (n := -m) (by omega)]
  refine vector_l0 hn rfl ?_ n 0 p4 [] k (by omega) rfl (by intro v hv; cases hv) h4 hk
  intro v hv
  simp only [List.mem_cons, List.not_mem_nil, or_false] at hv
  rcases hv with rfl | rfl | rfl | rfl | rfl | rfl | rfl <;> omega
theorem nodes_eq {f : Int} (h : f = 1 ∨ f = 2) : ∃ n : Nat, synopticref22_Nodes.f f = some (n : Int) ∧ (f = 1 ∧ n = 12 ∨ f = 2 ∧ n = 42) := by
  rcases h with rfl | rfl
  · exact ⟨12, by decide +kernel, by omega⟩
  · exact ⟨42, by decide +kernel, by omega⟩
/-- The number of nodes of the two frequencies. -/
def nd (f : Int) : Nat := if f = 1 then 12 else 42
theorem nodes_nd {f : Int} (h : f = 1 ∨ f = 2) : synopticref22_Nodes.f f = some ((nd f : Nat) : Int) := by
  rcases h with rfl | rfl <;> decide +kernel
theorem nd_le (f : Int) : nd f ≤ 42 ∧ 12 ≤ nd f := by unfold nd; split <;> omega
theorem for_eq {l : List Int} {p : Int} (h : Rdy l p) {f s a : Int} (hf : f = 1 ∨ f = 2) {k : Nat} (hk : 42 < k) :
    ∃ x p', synopticfield_Codes_For.f k l p f s a = some (x, p') ∧ x.length = nd f ∧ bd 1048576 x ∧ Rdy l p' := by
  obtain ⟨v, p1, e1, h0, h1, hr⟩ := next_eq (n := 3) h (by omega)
  have hnd := nd_le f
  unfold synopticfield_Codes_For.f
  rw [nodes_nd hf]
  simp only [Option.bind_some, e1]
  rw [if_pos h0, if_pos (by simpa using h1)]
  have hm : 9 ≤ rd [20, 1000, 1048576] v ∧ rd [20, 1000, 1048576] v ≤ 1048576 := by
    have hv : v = 0 ∨ v = 1 ∨ v = 2 := by omega
    rcases hv with rfl | rfl | rfl <;> decide
  obtain ⟨x, p', e, hx, hb, hr'⟩ := vector_eq (n := nd f) (m := rd [20, 1000, 1048576] v) hr (by omega) (by omega) (k := k) (by omega)
  rw [e]
  exact ⟨x, p', rfl, hx, bd_mono hb hm.2, hr'⟩
theorem halves_l0 {x : List Int} {m : Int} (hm : 0 ≤ m ∧ m ≤ 1000000000) (hx : bd (2 * m) x) (hl : x.length ≤ 1000000) : ∀ (d i : Nat) (o : List Int) (k : Nat), i + d = x.length → o.length = i → bd m o → d < k →
    ∃ y, synopticlaw22_halves.l0 k o x (x.length : Int) (i : Int) = some y ∧ y.length = x.length ∧ bd m y := by
  intro d
  induction d with
  | zero =>
    intro i o k hi ho hob hk
    obtain ⟨k, rfl⟩ : ∃ j, k = j + 1 := ⟨k - 1, by omega⟩
    simp only [synopticlaw22_halves.l0]
    rw [if_neg (by omega)]
    exact ⟨_, rfl, by omega, hob⟩
  | succ d ih =>
    intro i o k hi ho hob hk
    obtain ⟨k, rfl⟩ : ∃ j, k = j + 1 := ⟨k - 1, by omega⟩
    simp only [synopticlaw22_halves.l0]
    rw [if_pos (by omega), if_pos (by omega), if_pos (by omega), if_pos (by omega), w64 (n := (i : Int) + 1) (by omega), show (i : Int) + 1 = ((i + 1 : Nat) : Int) by omega]
    refine ih (i + 1) _ k (by omega) (by simp [ho]) ?_ (by omega)
    intro u hu
    rcases List.mem_append.1 hu with hu | hu
    · exact hob u hu
    · obtain rfl := List.mem_singleton.1 hu
      have h := hx _ (gt_mem (o := x) (i := i) (by omega))
      rw [rd_gt]
      generalize gt x i = z at *
      have ht : -m ≤ Int.tdiv z 2 ∧ Int.tdiv z 2 ≤ m := by
        rcases Int.le_total 0 z with h0 | h0
        · rw [Int.tdiv_eq_ediv_of_nonneg h0]; omega
        · have e : Int.tdiv z 2 = -((-z) / 2) := by rw [← Int.tdiv_eq_ediv_of_nonneg (show 0 ≤ -z by omega), Int.neg_tdiv, Int.neg_neg]
          rw [e]; omega
      rw [w64 (by omega)]
      exact ht
theorem halves_eq {x : List Int} {m : Int} (hm : 0 ≤ m ∧ m ≤ 1000000000) (hx : bd (2 * m) x) (hl : x.length ≤ 1000000) {k : Nat} (hk : x.length < k) : ∃ y, synopticlaw22_halves.f k x = some y ∧ y.length = x.length ∧ bd m y :=
  halves_l0 hm hx hl x.length 0 [] k (by omega) rfl (by intro v hv; cases hv) hk
theorem take_zw {x y : List Int} (h : x.length = y.length) {i : Nat} (hi : i < x.length) : (zw x y).take (i + 1) = (zw x y).take i ++ [gt x i + gt y i] := by
  have hz : i < (zw x y).length := by rw [zw_len h]; exact hi
  rw [List.take_succ_eq_append_getElem hz, ← gt_zw h, gt_lt hz]
theorem sum_l0 {x y : List Int} {m : Int} (hm : m ≤ 4000000000000000000) (hx : bd m x) (hy : bd m y) (h : x.length = y.length) (hl : x.length ≤ 1000000) : ∀ (d i : Nat) (k : Nat), i + d = x.length → d < k →
    synopticlaw22_sum.l0 k x y ((zw x y).take i) (x.length : Int) (i : Int) = some (zw x y) := by
  intro d
  induction d with
  | zero =>
    intro i k hi hk
    obtain ⟨k, rfl⟩ : ∃ j, k = j + 1 := ⟨k - 1, by omega⟩
    simp only [synopticlaw22_sum.l0]
    rw [if_neg (by omega), List.take_of_length_le (by rw [zw_len h]; omega)]
  | succ d ih =>
    intro i k hi hk
    obtain ⟨k, rfl⟩ : ∃ j, k = j + 1 := ⟨k - 1, by omega⟩
    have h1 := hx _ (gt_mem (o := x) (i := i) (by omega))
    have h2 := hy _ (gt_mem (o := y) (i := i) (by omega))
    simp only [synopticlaw22_sum.l0]
    rw [if_pos (by omega), if_pos (by omega), if_pos (by omega), if_pos (by omega), if_pos (by rw [List.length_take]; omega), rd_gt, rd_gt, w64 (n := gt x i + gt y i) (by omega), w64 (n := (i : Int) + 1) (by omega), ← take_zw h (by omega), show (i : Int) + 1 = ((i + 1 : Nat) : Int) by omega]
    exact ih (i + 1) k (by omega) (by omega)
theorem sum_eq {x y : List Int} {m : Int} (hm : m ≤ 4000000000000000000) (hx : bd m x) (hy : bd m y) (h : x.length = y.length) (hl : x.length ≤ 1000000) {k : Nat} (hk : x.length < k) : synopticlaw22_sum.f k x y = some (zw x y) :=
  sum_l0 hm hx hy h hl x.length 0 k (by omega) hk
theorem bd_zw {m : Int} {x y : List Int} (h : x.length = y.length) (hx : bd m x) (hy : bd m y) : bd (2 * m) (zw x y) := by
  intro v hv
  obtain ⟨i, hi, rfl⟩ := List.getElem_of_mem hv
  rw [← gt_lt hi, gt_zw h]
  have hi' : i < x.length := by rw [← zw_len h]; exact hi
  have h1 := hx _ (gt_mem hi')
  have h2 := hy _ (gt_mem (show i < y.length by omega))
  omega
theorem ints_l0 {x : List Int} (hl : x.length ≤ 1000000) : ∀ (d i : Nat) (k : Nat), i + d = x.length → d < k → synoptickeep_Ints.l0 k x x (i : Int) = some true := by
  intro d
  induction d with
  | zero =>
    intro i k hi hk
    obtain ⟨k, rfl⟩ : ∃ j, k = j + 1 := ⟨k - 1, by omega⟩
    simp only [synoptickeep_Ints.l0]
    rw [if_neg (by omega)]
  | succ d ih =>
    intro i k hi hk
    obtain ⟨k, rfl⟩ : ∃ j, k = j + 1 := ⟨k - 1, by omega⟩
    simp only [synoptickeep_Ints.l0]
    rw [if_pos (by omega), if_pos (by omega), if_pos (by omega), if_pos trivial, w64 (by omega), show (i : Int) + 1 = ((i + 1 : Nat) : Int) by omega]
    exact ih (i + 1) k (by omega) (by omega)
theorem ints_self {x : List Int} (hl : x.length ≤ 1000000) {k : Nat} (hk : x.length < k) : synoptickeep_Ints.f k x x = some true := by
  unfold synoptickeep_Ints.f
  rw [if_pos rfl]
  exact ints_l0 hl x.length 0 k (by omega) hk
end Go.Proofs.YtdagdoiedibpgaaDoor.Prt
namespace Go.Proofs.YtdagdoiedibpgaaDoor.Prt
set_option linter.unusedVariables false
set_option linter.unusedSimpArgs false
open Go.RowKit Go.Proofs.YtdagdoiedibpgaaDoorW.PrintWords
/-- The wide integer that stands for v. -/
def wd (v : Int) : Int × Int := (wrap64 (v / 18446744073709551616), v % 18446744073709551616)
theorem and_mask (x : Nat) (hx : x < 18446744073709551616) : Go.bits .and .u64 (x : Int) 4294967295 = ((x % 4294967296 : Nat) : Int) := by
  have := bits_mask .u64 64 (by decide) wraps_u64 32 (by decide) (x : Int) (by omega) (by omega)
  rw [Int.natCast_emod]
  exact this
theorem mul_eq (x y : Nat) (hx : x < 18446744073709551616) (hy : y < 18446744073709551616) : bits_Mul64.f x y = some (((x * y / 18446744073709551616 : Nat) : Int), ((x * y % 18446744073709551616 : Nat) : Int)) := by
  obtain ⟨h1, h2, h3, h4⟩ := Lib.mul64_hi x y hx hy
  have d : ∀ z : Nat, ((z : Int) / 4294967296) = ((z / 4294967296 : Nat) : Int) := fun z => by simp
  have m : ∀ a b : Nat, ((a : Int) * (b : Int)) = ((a * b : Nat) : Int) := fun a b => by simp
  have s : ∀ a b : Nat, ((a : Int) + (b : Int)) = ((a + b : Nat) : Int) := fun a b => by simp
  have u : ∀ a : Nat, a < 18446744073709551616 → IntKind.u64.wrap (a : Int) = (a : Int) := fun a ha => by rw [IntKind.wrap_u64]; omega
  have ha := Lib.half_mul_le (a := x / 4294967296) (b := y / 4294967296) (by omega) (by omega)
  have hb := Lib.half_mul_le (a := x / 4294967296) (b := y % 4294967296) (by omega) (by omega)
  have hc := Lib.half_mul_le (a := x % 4294967296) (b := y / 4294967296) (by omega) (by omega)
  have hd := Lib.half_mul_le (a := x % 4294967296) (b := y % 4294967296) (by omega) (by omega)
  unfold bits_Mul64.f
  rw [and_mask x hx, and_mask y hy, d x, d y]
  simp only [m]
  rw [u _ (show (x / 4294967296) * (y / 4294967296) < 18446744073709551616 by omega), u _ (show (x / 4294967296) * (y % 4294967296) < 18446744073709551616 by omega), u _ h1, u _ (show (x % 4294967296) * (y / 4294967296) < 18446744073709551616 by omega)]
  rw [d, s, u _ h2, and_mask _ h2, d, s, s, u _ h3, d, u _ (by omega), s, u _ (by omega), h4, IntKind.wrap_u64]
  simp
theorem wrap_mod (x : Int) (k : Int) : wrap64 (x + 18446744073709551616 * k) = wrap64 x := by unfold wrap64; omega
/-- Product: the wide integer of a * b. -/
theorem prod_eq (a b : Int) (ha : -9223372036854775808 ≤ a ∧ a ≤ 9223372036854775807) (hb : -9223372036854775808 ≤ b ∧ b ≤ 9223372036854775807) : precision_Product.f a b = some (wd (a * b)) := by
  obtain ⟨x, hx, hx2⟩ : ∃ x : Nat, IntKind.u64.wrap a = x ∧ x < 18446744073709551616 := ⟨(IntKind.u64.wrap a).toNat, by rw [IntKind.wrap_u64]; omega, by rw [IntKind.wrap_u64]; omega⟩
  obtain ⟨y, hy, hy2⟩ : ∃ y : Nat, IntKind.u64.wrap b = y ∧ y < 18446744073709551616 := ⟨(IntKind.u64.wrap b).toNat, by rw [IntKind.wrap_u64]; omega, by rw [IntKind.wrap_u64]; omega⟩
  have hxa : (x : Int) = a ∨ (x : Int) = a + 18446744073709551616 ∧ a < 0 := by rw [← hx, IntKind.wrap_u64]; omega
  have hyb : (y : Int) = b ∨ (y : Int) = b + 18446744073709551616 ∧ b < 0 := by rw [← hy, IntKind.wrap_u64]; omega
  have hm : ((x * y : Nat) : Int) = (x : Int) * (y : Int) := Int.natCast_mul x y
  unfold precision_Product.f
  rw [hx, hy, mul_eq x y hx2 hy2]
  simp only [Option.bind_some, wd]
  have e1 : ((x * y / 18446744073709551616 : Nat) : Int) = (x : Int) * (y : Int) / 18446744073709551616 := by rw [Int.natCast_ediv, hm]; rfl
  have e2 : ((x * y % 18446744073709551616 : Nat) : Int) = (x : Int) * (y : Int) % 18446744073709551616 := by rw [Int.natCast_emod, hm]; rfl
  rw [e1, e2]
  clear e1 e2 hm hx hy
  by_cases ha0 : a < 0
  · have hxx : (x : Int) = a + 18446744073709551616 := by omega
    by_cases hb0 : b < 0
    · have hyy : (y : Int) = b + 18446744073709551616 := by omega
      rw [if_pos ha0, if_pos hb0]
      have hp : (x : Int) * (y : Int) = a * b + 18446744073709551616 * (a + b + 18446744073709551616) := by rw [hxx, hyy, Int.add_mul, Int.mul_add, Int.mul_add, Int.mul_add, Int.mul_add]; omega
      rw [hp, IntKind.wrap_u64, IntKind.wrap_u64]
      generalize a * b = p
      congr 2
      · unfold wrap64; omega
      · omega
    · have hyy : (y : Int) = b := by omega
      rw [if_pos ha0, if_neg hb0]
      have hp : (x : Int) * (y : Int) = a * b + 18446744073709551616 * b := by rw [hxx, hyy, Int.add_mul]
      rw [hp, IntKind.wrap_u64]
      generalize a * b = p
      congr 2
      · unfold wrap64; omega
      · omega
  · have hxx : (x : Int) = a := by omega
    by_cases hb0 : b < 0
    · have hyy : (y : Int) = b + 18446744073709551616 := by omega
      rw [if_neg ha0, if_pos hb0]
      have hp : (x : Int) * (y : Int) = a * b + 18446744073709551616 * a := by rw [hxx, hyy, Int.mul_add]; omega
      rw [hp, IntKind.wrap_u64]
      generalize a * b = p
      congr 2
      · unfold wrap64; omega
      · omega
    · have hyy : (y : Int) = b := by omega
      rw [if_neg ha0, if_neg hb0, hxx, hyy]
theorem add_eq (u v : Int) : precision_Add.f (wd u).1 (wd u).2 (wd v).1 (wd v).2 = some (wd (u + v)) := by
  unfold precision_Add.f
  rw [if_pos (by simp only [wd]; omega)]
  simp only [wd, M64, wrap64]
  congr 2
  · omega
  · omega
theorem wide_eq (a : Int) (ha : -9223372036854775808 ≤ a ∧ a ≤ 9223372036854775807) : precision_Wide.f a = some (wd a) := by
  unfold precision_Wide.f
  rw [IntKind.wrap_u64]
  simp only [wd, wrap64]
  congr 2
  omega
theorem not_i64 (x : Int) (hx : -9223372036854775808 ≤ x ∧ x ≤ 9223372036854775807) : Go.bits .xor .i64 (-1) x = -1 - x := by
  show IntKind.i64.wrap ((BitVec.ofInt 64 (-1) ^^^ BitVec.ofInt 64 x).toNat : Int) = _
  have h1 : BitVec.ofInt 64 (-1) = BitVec.allOnes 64 := by decide
  rw [h1, BitVec.allOnes_xor, BitVec.toNat_not, BitVec.toNat_ofInt]
  have h2 : ∀ z : Int, IntKind.i64.wrap z = wrap64 z := fun z => by unfold wrap64; exact IntKind.wrap_i64 z
  rw [h2]
  unfold wrap64
  omega
theorem not_u64 (x : Int) (hx : 0 ≤ x ∧ x < 18446744073709551616) : Go.bits .xor .u64 IntKind.u64.max x = 18446744073709551615 - x := by
  show IntKind.u64.wrap ((BitVec.ofInt 64 IntKind.u64.max ^^^ BitVec.ofInt 64 x).toNat : Int) = _
  have h1 : BitVec.ofInt 64 IntKind.u64.max = BitVec.allOnes 64 := by decide
  rw [h1, BitVec.allOnes_xor, BitVec.toNat_not, BitVec.toNat_ofInt, IntKind.wrap_u64]
  omega
theorem neg_eq (v : Int) : precision_Negate.f (wd v).1 (wd v).2 = some (wd (-v)) := by
  unfold precision_Negate.f
  rw [not_i64 _ (by simp only [wd, wrap64]; omega), not_u64 _ (by simp only [wd]; omega)]
  unfold precision_Add.f
  rw [if_pos (by simp only [wd]; omega)]
  simp only [wd, M64, wrap64]
  congr 2
  · omega
  · omega
/-- Compare: the sign of the difference. -/
def sgn (u v : Int) : Int := if u < v then -1 else if v < u then 1 else 0
theorem cmpI_eq (a b : Int) : cmp_Compare_int.f a b = some (sgn a b) := by
  simp only [cmp_Compare_int.f, cmp_isNaN_int.f, Option.bind_some, bne_self_eq_false, Bool.false_eq_true, if_false, sgn]
  by_cases h1 : a < b
  · rw [if_pos h1, if_pos h1]
  · by_cases h : a > b
    · rw [if_neg h1, if_neg h1, if_pos h, if_pos h]
    · rw [if_neg h1, if_neg h1, if_neg h, if_neg h]
theorem cmpU_eq (a b : Int) : cmp_Compare_uint64.f a b = some (sgn a b) := by
  simp only [cmp_Compare_uint64.f, cmp_isNaN_uint64.f, Option.bind_some, bne_self_eq_false, Bool.false_eq_true, if_false, sgn]
  by_cases h1 : a < b
  · rw [if_pos h1, if_pos h1]
  · by_cases h : a > b
    · rw [if_neg h1, if_neg h1, if_pos h, if_pos h]
    · rw [if_neg h1, if_neg h1, if_neg h, if_neg h]
def or0 (a b : Int) : Int := if a = 0 then b else a
theorem or2_eq (a b : Int) (k : Nat) : cmp_Or_int.f (k + 3) [a, b] = some (or0 a b) := by
  unfold cmp_Or_int.f
  simp only [cmp_Or_int.l0, or0]
  have r0 : rd [a, b] 0 = a := rfl
  have r1 : rd [a, b] 1 = b := rfl
  have r2 : wrap64 (0 + 1) = 1 := by unfold wrap64; omega
  have r3 : wrap64 (1 + 1) = 2 := by unfold wrap64; omega
  simp only [r0, r1, r2, r3, List.length_cons, List.length_nil]
  by_cases ha : a = 0
  · subst ha
    by_cases hb : b = 0
    · subst hb; simp
    · simp [hb]
  · simp [ha]
theorem cmp_eq (k : Nat) (u v : Int) (hu : -170141183460469231731687303715884105728 ≤ u ∧ u < 170141183460469231731687303715884105728) (hv : -170141183460469231731687303715884105728 ≤ v ∧ v < 170141183460469231731687303715884105728) :
    precision_Compare.f (k + 3) (wd u).1 (wd u).2 (wd v).1 (wd v).2 = some (sgn u v) := by
  unfold precision_Compare.f
  rw [cmpI_eq, cmpU_eq]
  simp only [Option.bind_some, or2_eq, Option.some.injEq]
  simp only [or0, sgn, wd, wrap64]
  repeat' split
  all_goals omega
end Go.Proofs.YtdagdoiedibpgaaDoor.Prt
/- The product of a precision and a vector; the sum of the products: what the program computes is what the plain laws speak of. -/
namespace Go.Proofs.YtdagdoiedibpgaaDoor.Prt
set_option linter.unusedVariables false
set_option linter.unusedSimpArgs false
open Go.RowKit Go.Proofs.YtdagdoiedibpgaaDoorW.PrintWords
/-- An edge's nodes. -/
def en (e : S69) : Nat × Nat := (e.f0.toNat, e.f1.toNat)
/-- Edges between n nodes. -/
def EdOK (n : Nat) (E : List S69) : Prop := E.length ≤ 2000 ∧ ∀ e ∈ E, 0 ≤ e.f0 ∧ e.f0 < n ∧ 0 ≤ e.f1 ∧ e.f1 < n
theorem EdOK.nat {n : Nat} {E : List S69} (h : EdOK n E) : ∀ e ∈ E.map en, e.1 < n ∧ e.2 < n := by
  intro e he
  obtain ⟨x, hx, rfl⟩ := List.mem_map.1 he
  have := h.2 x hx
  simp only [en]; omega
theorem vector_l0ok {x : List Int} (hb : bd 1048576 x) (hl : x.length ≤ 1000000) : ∀ (d i k : Nat), i + d = x.length → d < k → precision_Vector.l0 k x (x.length : Int) (i : Int) = some 0 := by
  intro d
  induction d with
  | zero =>
    intro i k hi hk
    obtain ⟨k, rfl⟩ : ∃ j, k = j + 1 := ⟨k - 1, by omega⟩
    simp only [precision_Vector.l0]
    rw [if_neg (by omega)]
  | succ d ih =>
    intro i k hi hk
    obtain ⟨k, rfl⟩ : ∃ j, k = j + 1 := ⟨k - 1, by omega⟩
    have h1 := hb _ (gt_mem (o := x) (i := i) (by omega))
    simp only [precision_Vector.l0, precision_within.f]
    rw [if_pos (by omega), if_pos (by omega), if_pos (by omega), rd_gt, if_pos h1.1]
    simp only [Option.bind_some]
    rw [if_pos (decide_eq_true h1.2), w64 (by omega), show (i : Int) + 1 = ((i + 1 : Nat) : Int) by omega]
    exact ih (i + 1) k (by omega) (by omega)
theorem count_nd {f : Int} (h : f = 1 ∨ f = 2) : grid_Count.f f = some ((nd f : Nat) : Int) := by
  rcases h with rfl | rfl <;> decide +kernel
theorem check_ok {f s a : Int} (hf : 1 ≤ f ∧ f ≤ 8) (hs : 0 ≤ s ∧ s ≤ 1000000) (ha : 1 ≤ a ∧ a ≤ 1000000) : precision_Check.f f s a = some 0 := by
  unfold precision_Check.f precision_within.f
  simp [hf, hs, ha]
theorem vector_ok {f s a : Int} {x : List Int} {n : Nat} (hf : 1 ≤ f ∧ f ≤ 8) (hs : 0 ≤ s ∧ s ≤ 1000000) (ha : 1 ≤ a ∧ a ≤ 1000000) (hn : grid_Count.f f = some (n : Int)) (hx : x.length = n) (hb : bd 1048576 x) (hl : n ≤ 1000000) {k : Nat} (hk : n < k) : precision_Vector.f k f s a x = some 0 := by
  unfold precision_Vector.f
  rw [check_ok hf hs ha]
  simp only [Option.bind_some, if_true, hn]
  rw [if_pos (by omega)]
  exact vector_l0ok hb (by omega) x.length 0 k (by omega) (by omega)
theorem rdT_lt {E : List S69} {i : Nat} (h : i < E.length) : rd_T69 E (i : Int) = E[i] := by simp [rd_T69, List.getD, h]
theorem apply_l1 {S A f : Int} {x : List Int} {E : List S69} {n : Nat} (hx : x.length = n) (hE : EdOK n E) (hn : n ≤ 1000) (hb : bd 1048576 x) (hS : 0 ≤ S ∧ S ≤ 1000000) :
    ∀ (d i : Nat) (o : List Int) (B : Int) (k : Nat), i + d = E.length → o.length = n → bd B o → 0 ≤ B → B + d * 4194304000000 ≤ 9000000000000000000 → d < k →
    precision_Apply.l1 k x o E (E.length : Int) (i : Int) f S A = some (appE S x ((E.drop i).map en) o, 0) := by
  intro d
  induction d with
  | zero =>
    intro i o B k hi ho hB h0 hBd hk
    obtain ⟨k, rfl⟩ : ∃ j, k = j + 1 := ⟨k - 1, by omega⟩
    simp only [precision_Apply.l1]
    rw [if_neg (by omega), List.drop_of_length_le (by omega)]
    rfl
  | succ d ih =>
    intro i o B k hi ho hB h0 hBd hk
    obtain ⟨k, rfl⟩ : ∃ j, k = j + 1 := ⟨k - 1, by omega⟩
    have hlt : i < E.length := by omega
    have hE1 := hE.1
    rw [List.drop_eq_getElem_cons hlt]
    simp only [precision_Apply.l1, rdT_lt hlt, List.map_cons, appE]
    have he := hE.2 E[i] (List.getElem_mem hlt)
    generalize E[i] = e at *
    obtain ⟨a, ha⟩ : ∃ a : Nat, e.f0 = a := ⟨e.f0.toNat, by omega⟩
    obtain ⟨b, hb'⟩ : ∃ b : Nat, e.f1 = b := ⟨e.f1.toNat, by omega⟩
    have hen : en e = (a, b) := by simp [en, ha, hb']
    rw [hen, ha, hb']
    rw [ha, hb'] at he
    have hxa := bd_gt hb (by omega) a
    have hxb := bd_gt hb (by omega) b
    have hd := mul_bd hS.1 hS.2 (u := gt x a - gt x b) (Q := 2097152) (by omega) (by omega)
    have hst := stp_bd (S := S) (M := 1048576) (B := B) (D := 2097152000000) (x := x) (o := o) (a := a) (b := b) (fun i => bd_gt hb (by omega) i) (fun u h1 h2 => by have := mul_bd hS.1 hS.2 (u := u) (Q := 2097152) (by omega) (by omega); omega) (by omega) h0 hB
    have hoa := bd_gt hB h0 a
    have hob := bd_gt hst.1 (by omega) b
    rw [if_pos (by omega), if_pos (by omega), if_pos (by omega), if_pos (by omega), if_pos (by omega), if_pos (by omega), if_pos (by omega), if_pos (by omega)]
    simp only [Option.bind_some, rd_gt, Int.toNat_natCast]
    rw [w64 (n := gt x a - gt x b) (by omega)]
    rw [w64 (n := S * (gt x a - gt x b)) (by omega)]
    rw [w64 (n := gt o a + S * (gt x a - gt x b)) (by omega)]
    rw [if_pos (by first | omega | (rw [List.length_set]; omega))]
    rw [w64 (n := gt (o.set a (gt o a + S * (gt x a - gt x b))) b - S * (gt x a - gt x b)) (by omega)]
    rw [w64 (n := (i : Int) + 1) (by omega), show (i : Int) + 1 = ((i + 1 : Nat) : Int) by omega]
    exact ih (i + 1) (stp S x o a b) (B + 4194304000000) k (by omega) (by rw [stp_len]; exact ho) hst.2 (by omega) (by omega) (by omega)
theorem apply_l0 {S A f : Int} {x : List Int} {E : List S69} {n : Nat} (hx : x.length = n) (hE : EdOK n E) (hn : n ≤ 1000) (hb : bd 1048576 x) (hS : 0 ≤ S ∧ S ≤ 1000000) (hA : 0 ≤ A ∧ A ≤ 1000000) :
    ∀ (d i : Nat) (o : List Int) (k : Nat), i + d = n → o.length = n → (∀ j, j < i → gt o j = A * gt x j) → d + E.length + 1 < k →
    precision_Apply.l0 k x E o x (x.length : Int) (i : Int) f S A = some (apZ S A (E.map en) x, 0) := by
  intro d
  induction d with
  | zero =>
    intro i o k hi ho hj hk
    obtain ⟨k, rfl⟩ : ∃ j, k = j + 1 := ⟨k - 1, by omega⟩
    simp only [precision_Apply.l0]
    rw [if_neg (by omega)]
    have hE1 := hE.1
    have e : o = x.map (A * ·) := ext_gt (by simp [ho, hx]) fun j h => by
      rw [hj j (by omega), gt_lt (show j < (x.map (A * ·)).length by simp; omega), gt_lt (show j < x.length by omega)]
      simp
    subst e
    have hbd : bd 1048576000000 (x.map (A * ·)) := by
      intro v hv
      obtain ⟨u, hu, rfl⟩ := List.mem_map.1 hv
      have h := hb u hu
      have := mul_bd hA.1 hA.2 (u := u) (Q := 1048576) (by omega) (by omega)
      omega
    have := apply_l1 (A := A) (f := f) hx hE hn hb hS E.length 0 _ 1048576000000 k (by omega) ho hbd (by omega) (by omega) (by omega)
    simpa [apZ] using this
  | succ d ih =>
    intro i o k hi ho hj hk
    obtain ⟨k, rfl⟩ : ∃ j, k = j + 1 := ⟨k - 1, by omega⟩
    simp only [precision_Apply.l0]
    have h := bd_gt hb (by omega) i
    have hm := mul_bd hA.1 hA.2 (u := gt x i) (Q := 1048576) (by omega) (by omega)
    rw [if_pos (by omega), if_pos (by omega), if_pos (by omega), if_pos (by omega), rd_gt, w64 (n := A * gt x i) (by omega), w64 (n := (i : Int) + 1) (by omega), show (i : Int) + 1 = ((i + 1 : Nat) : Int) by omega, Int.toNat_natCast]
    refine ih (i + 1) _ k (by omega) (by simpa using ho) (fun j hj' => ?_) (by omega)
    rw [gt_set (by omega)]
    by_cases hji : j = i
    · rw [if_pos hji, hji]
    · rw [if_neg hji]; exact hj j (by omega)
theorem apply_eq {S A f : Int} {x : List Int} {E : List S69} {n : Nat} (hf : 1 ≤ f ∧ f ≤ 8) (hS : 0 ≤ S ∧ S ≤ 1000000) (hA : 1 ≤ A ∧ A ≤ 1000000) (hc : grid_Count.f f = some (n : Int)) (hg : grid_Edges.f f = some (E, 0)) (hx : x.length = n) (hE : EdOK n E) (hn : n ≤ 1000) (hb : bd 1048576 x)
    {k : Nat} (hk : n + E.length + 1 < k) : precision_Apply.f k f S A x = some (apZ S A (E.map en) x, 0) := by
  unfold precision_Apply.f
  rw [vector_ok hf hS hA hc hx hb (by omega) (by omega)]
  simp only [Option.bind_some, if_true, hg]
  rw [if_pos (by omega), if_pos (by omega)]
  refine apply_l0 hx hE hn hb hS (by omega) n 0 _ k (by omega) (by simp [hx]) (fun j hj => by omega) hk
theorem wdz : wd 0 = (0, 0) := by simp [wd, wrap64]
theorem accF_eq (u a b : Int) (ha : -9223372036854775808 ≤ a ∧ a ≤ 9223372036854775807) (hb : -9223372036854775808 ≤ b ∧ b ≤ 9223372036854775807) : accF (wd u) a b = some (wd (u + a * b)) := by
  unfold accF
  rw [prod_eq a b ha hb]
  simp only [Option.bind_some, add_eq]
/-- Numbers of 64 bits. -/
def i64s (l : List Int) : Prop := ∀ v ∈ l, -9223372036854775808 ≤ v ∧ v ≤ 9223372036854775807
theorem bd_i64 {B : Int} {l : List Int} (h : bd B l) (hB : B ≤ 9223372036854775807) : i64s l := fun v hv => by have := h v hv; omega
theorem dotL_eq : ∀ (l m : List Int) (s : Int), i64s l → i64s m → dotL l m (wd s) = some (wd (s + dz l m)) := by
  intro l
  induction l with
  | nil => intro m s _ _; simp [dotL, dz]
  | cons a l ih =>
    intro m s hl hm
    cases m with
    | nil => simp [dotL, dz]
    | cons b m =>
      simp only [dotL, dz]
      rw [accF_eq s a b (hl a (by simp)) (hm b (by simp))]
      simp only [Option.bind_some]
      rw [ih m (s + a * b) (fun v hv => hl v (by simp [hv])) (fun v hv => hm v (by simp [hv])), Int.add_assoc]
theorem dot_eq {l m : List Int} (h : l.length = m.length) (hl : l.length ≤ 1000000) (h1 : i64s l) (h2 : i64s m) : precision_Dot.f l m = some ((wd (dz l m)).1, (wd (dz l m)).2, 0) := by
  unfold precision_Dot.f
  rw [if_pos h, if_pos hl, ← wdz, accF_eq 0 0 0 (by omega) (by omega)]
  simp only [Option.bind_some]
  rw [dotL_eq l m _ h1 h2]
  simp
end Go.Proofs.YtdagdoiedibpgaaDoor.Prt
namespace Go.Proofs.YtdagdoiedibpgaaDoor.Prt
set_option linter.unusedVariables false
set_option linter.unusedSimpArgs false
open Go.RowKit
/-- The edges of the grid of frequency 1. -/
def lit1 : List (Int × Int) := [(0, 1), (0, 2), (0, 3), (0, 6), (0, 7), (1, 2), (1, 5), (1, 6), (1, 10), (2, 3), (2, 4), (2, 5), (3, 4), (3, 7), (3, 8), (4, 5), (4, 8), (4, 9), (5, 9), (5, 10), (6, 7), (6, 10), (6, 11), (7, 8), (7, 11), (8, 9), (8, 11), (9, 10), (9, 11), (10, 11)]
set_option maxRecDepth 1000000 in
theorem mem1 : (∀ x ∈ edgesOf ((cellsTo 1 840 20 0 0).map toI), x ∈ lit1) ∧ ∀ x ∈ lit1, x ∈ edgesOf ((cellsTo 1 840 20 0 0).map toI) := by decide +kernel
theorem edgesI1 : edgesI 1 = lit1 := by
  refine sorted_unique (edgesI_spec 1).1 (by decide +kernel) (fun x => ((edgesI_spec 1).2 x).trans ⟨mem1.1 x, mem1.2 x⟩)
theorem grid1 : grid_Edges.f 1 = some (lit1.map (fun x => (⟨x.1, x.2⟩ : S69)), 0) := by
  show (if (1 : Int) ≤ 1 ∧ (1 : Int) ≤ 8 then some (edgesS 1, (0 : Int)) else _) = _
  rw [if_pos (by decide), edgesS, edgesI1]
set_option maxRecDepth 1000000 in
theorem awake1 : synopticlaw22_awake.f 60 = some true := by
  unfold synopticlaw22_awake.f precision_Apply.f
  simp only [grid1]
  decide +kernel
theorem awakeK (j : Nat) : synopticlaw22_awake.f (60 + j) = some true := by
  induction j with
  | zero => exact awake1
  | succ j ih => exact synopticlaw22_awake.mono (60 + j) _ ih
end Go.Proofs.YtdagdoiedibpgaaDoor.Prt
/- The edges of the grids of the frequencies 1 and 2. -/
namespace Go.Proofs.YtdagdoiedibpgaaDoor.Prt
set_option linter.unusedVariables false
set_option linter.unusedSimpArgs false
open Go.RowKit
/-- The edges of the grid of frequency 2. -/
def lit2 : List (Int × Int) := [(0, 1), (0, 3), (0, 7), (0, 16), (0, 21), (1, 2), (1, 3), (1, 4), (1, 16), (1, 18), (2, 4), (2, 15), (2, 18), (2, 28), (3, 4), (3, 5), (3, 7), (3, 8), (4, 5), (4, 14), (4, 15), (5, 8), (5, 11), (5, 14), (6, 7), (6, 8), (6, 10), (6, 19), (6, 24), (7, 8), (7, 19), (7, 21), (8, 10), (8, 11), (9, 10), (9, 11), (9, 13), (9, 22), (9, 27), (10, 11), (10, 22), (10, 24), (11, 13), (11, 14), (12, 13), (12, 14), (12, 15), (12, 25), (12, 30), (13, 14), (13, 25), (13, 27), (14, 15), (15, 28), (15, 30), (16, 17), (16, 18), (16, 21), (16, 31), (17, 18), (17, 31), (17, 35), (17, 36), (18, 28), (18, 35), (19, 20), (19, 21), (19, 24), (19, 32), (20, 21), (20, 31), (20, 32), (20, 37), (21, 31), (22, 23), (22, 24), (22, 27), (22, 33), (23, 24), (23, 32), (23, 33), (23, 39), (24, 32), (25, 26), (25, 27), (25, 30), (25, 34), (26, 27), (26, 33), (26, 34), (26, 40), (27, 33), (28, 29), (28, 30), (28, 35), (29, 30), (29, 34), (29, 35), (29, 41), (30, 34), (31, 36), (31, 37), (32, 37), (32, 39), (33, 39), (33, 40), (34, 40), (34, 41), (35, 36), (35, 41), (36, 37), (36, 38), (36, 41), (37, 38), (37, 39), (38, 39), (38, 40), (38, 41), (39, 40), (40, 41)]
set_option maxRecDepth 1000000 in
theorem mem2 : (∀ x ∈ edgesOf ((cellsTo 2 420 20 0 0).map toI), x ∈ lit2) ∧ ∀ x ∈ lit2, x ∈ edgesOf ((cellsTo 2 420 20 0 0).map toI) := by decide +kernel
set_option maxRecDepth 1000000 in
theorem edgesI2 : edgesI 2 = lit2 := by
  refine sorted_unique (edgesI_spec 2).1 (by decide +kernel) (fun x => ((edgesI_spec 2).2 x).trans ⟨mem2.1 x, mem2.2 x⟩)
theorem grid2 : grid_Edges.f 2 = some (lit2.map (fun x => (⟨x.1, x.2⟩ : S69)), 0) := by
  show (if (1 : Int) ≤ 2 ∧ (2 : Int) ≤ 8 then some (edgesS 2, (0 : Int)) else _) = _
  rw [if_pos (by decide), edgesS, edgesI2]
/-- The grid's edges as a list of edges. -/
def edS (f : Int) : List S69 := (if f = 1 then lit1 else lit2).map (fun x => (⟨x.1, x.2⟩ : S69))
set_option maxRecDepth 1000000 in
theorem lit_ok : (lit1.length ≤ 120 ∧ ∀ x ∈ lit1, 0 ≤ x.1 ∧ x.1 < 12 ∧ 0 ≤ x.2 ∧ x.2 < 12) ∧ lit2.length ≤ 120 ∧ ∀ x ∈ lit2, 0 ≤ x.1 ∧ x.1 < 42 ∧ 0 ≤ x.2 ∧ x.2 < 42 := by decide +kernel
/-- Each of the nodes has an edge to one before it. -/
def reach (E : List (Nat × Nat)) : List Nat → List Nat → Bool
  | _, [] => true
  | acc, j :: r => (acc.any fun i => E.contains (i, j) || E.contains (j, i)) && reach E (j :: acc) r
theorem reach_all {E : List (Nat × Nat)} {x : List Int} {v : Int} (hE : ∀ e ∈ E, gt x e.1 = gt x e.2) : ∀ (r acc : List Nat), reach E acc r = true → (∀ i ∈ acc, gt x i = v) → ∀ j ∈ r, gt x j = v := by
  intro r
  induction r with
  | nil => intro acc _ _ j hj; cases hj
  | cons k r ih =>
    intro acc h ha
    simp only [reach, Bool.and_eq_true] at h
    obtain ⟨i, hi, h1⟩ := List.any_eq_true.1 h.1
    have hk : gt x k = v := by
      rw [Bool.or_eq_true] at h1
      rcases h1 with h1 | h1
      · have := hE _ (List.contains_iff_mem.1 h1); rw [← this]; exact ha i hi
      · have := hE _ (List.contains_iff_mem.1 h1); rw [this]; exact ha i hi
    intro j hj
    rcases List.mem_cons.1 hj with rfl | hj
    · exact hk
    · exact ih (k :: acc) h.2 (fun i hi => by rcases List.mem_cons.1 hi with rfl | hi; exact hk; exact ha i hi) j hj
def ord1 : List Nat := [1, 2, 3, 6, 7, 5, 10, 4, 8, 11, 9]
def ord2 : List Nat := [1, 3, 7, 16, 21, 2, 4, 18, 5, 8, 6, 19, 17, 31, 20, 15, 28, 14, 35, 11, 10, 24, 32, 36, 37, 12, 30, 29, 13, 41, 9, 22, 23, 39, 38, 25, 34, 27, 40, 33, 26]
/-- The edges as pairs of nodes. -/
def edN (f : Int) : List (Nat × Nat) := (if f = 1 then lit1 else lit2).map (fun x => (x.1.toNat, x.2.toNat))
set_option maxRecDepth 1000000 in
theorem ords : (reach (edN 1) [0] ord1 = true ∧ ∀ j, j < 12 → j = 0 ∨ j ∈ ord1) ∧ reach (edN 2) [0] ord2 = true ∧ ∀ j, j < 42 → j = 0 ∨ j ∈ ord2 := by decide +kernel
theorem hang_all {f : Int} (h : f = 1 ∨ f = 2) {x : List Int} (hE : ∀ e ∈ edN f, gt x e.1 = gt x e.2) : ∀ j, j < nd f → gt x j = gt x 0 := by
  intro j hj
  rcases h with rfl | rfl
  · rcases ords.1.2 j hj with rfl | h
    · rfl
    · exact reach_all hE _ _ ords.1.1 (fun i hi => by rw [List.mem_singleton.1 hi]) j h
  · rcases ords.2.2 j hj with rfl | h
    · rfl
    · exact reach_all hE _ _ ords.2.1 (fun i hi => by rw [List.mem_singleton.1 hi]) j h
theorem edS_en {f : Int} : (edS f).map en = edN f := by simp only [edS, edN, List.map_map]; rfl
theorem edges_edS {f : Int} (h : f = 1 ∨ f = 2) : grid_Edges.f f = some (edS f, 0) ∧ EdOK (nd f) (edS f) ∧ (edS f).length ≤ 120 := by
  rcases h with rfl | rfl
  · refine ⟨grid1, ⟨by rw [edS, List.length_map]; have := lit_ok.1.1; simp only [if_true]; omega, fun e he => ?_⟩, by rw [edS, List.length_map]; exact lit_ok.1.1⟩
    obtain ⟨x, hx, rfl⟩ := List.mem_map.1 he
    exact lit_ok.1.2 x hx
  · refine ⟨grid2, ⟨by rw [edS, List.length_map]; have := lit_ok.2.1; show lit2.length ≤ 2000; omega, fun e he => ?_⟩, by rw [edS, List.length_map]; exact lit_ok.2.1⟩
    obtain ⟨x, hx, rfl⟩ := List.mem_map.1 he
    exact lit_ok.2.2 x hx
theorem edges_of {f : Int} (h : f = 1 ∨ f = 2) : ∃ E, grid_Edges.f f = some (E, 0) ∧ EdOK (nd f) E ∧ E.length ≤ 120 := ⟨_, edges_edS h⟩
end Go.Proofs.YtdagdoiedibpgaaDoor.Prt
/- The energy: what the program computes is Anchor times the sum of the squares and the form of the edges. -/
namespace Go.Proofs.YtdagdoiedibpgaaDoor.Prt
set_option linter.unusedVariables false
set_option linter.unusedSimpArgs false
open Go.RowKit Go.Proofs.YtdagdoiedibpgaaDoorW.PrintWords
theorem enxL_eq {A : Int} (hA : 0 ≤ A ∧ A ≤ 1000000) : ∀ (l : List Int) (s : Int), bd 1048576 l → enxL A l (wd s) = some (wd (s + A * dz l l)) := by
  intro l
  induction l with
  | nil => intro s _; simp [enxL, dz]
  | cons v l ih =>
    intro s h
    have hv := h v (by simp)
    have hm := mul_bd hA.1 hA.2 (u := v) (Q := 1048576) (by omega) (by omega)
    simp only [enxL, dz]
    rw [w64 (n := A * v) (by omega), accF_eq s (A * v) v (by omega) (by omega)]
    simp only [Option.bind_some]
    rw [ih _ (fun u hu => h u (by simp [hu])), Int.mul_add, Int.mul_assoc, Int.add_assoc]
theorem eneL_eq {S : Int} (hS : 0 ≤ S ∧ S ≤ 1000000) {x : List Int} (hb : bd 1048576 x) : ∀ (E : List S69) (s : Int), (∀ e ∈ E, 0 ≤ e.f0 ∧ e.f0 < x.length ∧ 0 ≤ e.f1 ∧ e.f1 < x.length) → eneL S x E (wd s) = some (wd (s + frm S x x (E.map en))) := by
  intro E
  induction E with
  | nil => intro s _; simp [eneL, frm]
  | cons e E ih =>
    intro s h
    have he := h e (by simp)
    simp only [eneL, frm, List.map_cons]
    have h0 := bd_gt hb (by omega) e.f0.toNat
    have h1 := bd_gt hb (by omega) e.f1.toNat
    rw [if_pos he, rd_gt' x he.1, rd_gt' x he.2.2.1]
    have hm := mul_bd hS.1 hS.2 (u := gt x e.f0.toNat - gt x e.f1.toNat) (Q := 2097152) (by omega) (by omega)
    rw [w64 (n := gt x e.f0.toNat - gt x e.f1.toNat) (by omega), w64 (n := S * (gt x e.f0.toNat - gt x e.f1.toNat)) (by omega), accF_eq s _ _ (by omega) (by omega)]
    simp only [Option.bind_some]
    rw [ih _ (fun u hu => h u (by simp [hu])), Int.add_assoc]
    rfl
/-- The energy. -/
def enZ (S A : Int) (E : List (Nat × Nat)) (x : List Int) : Int := A * dz x x + frm S x x E
theorem energy_eq {S A f : Int} {x : List Int} {E : List S69} {n : Nat} (hf : 1 ≤ f ∧ f ≤ 8) (hS : 0 ≤ S ∧ S ≤ 1000000) (hA : 1 ≤ A ∧ A ≤ 1000000) (hc : grid_Count.f f = some (n : Int)) (hg : grid_Edges.f f = some (E, 0)) (hx : x.length = n) (hE : EdOK n E) (hn : n ≤ 1000) (hb : bd 1048576 x) :
    precision_Energy.f f S A x = some ((wd (enZ S A (E.map en) x)).1, (wd (enZ S A (E.map en) x)).2, 0) := by
  unfold precision_Energy.f
  rw [vector_ok hf hS hA hc hx hb (by omega) (by omega)]
  have h1 := hE.1
  simp only [Option.bind_some, if_true, hg]
  rw [if_pos (by omega), ← wdz, accF_eq 0 0 0 (by omega) (by omega)]
  simp only [Option.bind_some]
  rw [enxL_eq (by omega) x _ hb]
  simp only [Option.bind_some]
  rw [eneL_eq hS hb E _ (by rw [hx]; exact hE.2)]
  simp [enZ]
theorem sq_le {a M : Int} (h : -M ≤ a ∧ a ≤ M) : a * a ≤ M * M := by
  have := mul_bd (s := M) (u := a) (P := M) (Q := M) (by omega) (by omega) (by omega) (by omega)
  rcases Int.le_total 0 a with h0 | h0
  · exact Int.le_trans (Int.mul_le_mul_of_nonneg_right h.2 h0) this.2
  · have h2 : -a * a ≥ M * a := Int.mul_le_mul_of_nonpos_right (by omega) h0
    have h3 : a * a ≤ -(M * a) := by rw [Int.neg_mul] at h2; omega
    omega
theorem dz_le {M : Int} {x : List Int} (h : bd M x) : dz x x ≤ x.length * (M * M) := by
  induction x with
  | nil => simp [dz]
  | cons a x ih =>
    simp only [dz, List.length_cons]
    have h1 := sq_le (h a (by simp))
    have h2 := ih (fun v hv => h v (by simp [hv]))
    rw [Int.natCast_add, Int.add_mul]; omega
theorem frm_le {S : Int} (hS : 0 ≤ S ∧ S ≤ 1000000) {x : List Int} (hb : bd 1048576 x) (E : List (Nat × Nat)) : frm S x x E ≤ E.length * (1000000 * 4398046511104) := by
  induction E with
  | nil => simp [frm]
  | cons e E ih =>
    simp only [frm, List.length_cons]
    have h0 := bd_gt hb (by omega) e.1
    have h1 := bd_gt hb (by omega) e.2
    have h2 := sq_le (a := gt x e.1 - gt x e.2) (M := 2097152) (by omega)
    have h3 := sq_nonneg (gt x e.1 - gt x e.2)
    have h4 := mul_bd hS.1 hS.2 (u := (gt x e.1 - gt x e.2) * (gt x e.1 - gt x e.2)) (Q := 4398046511104) (by omega) (by omega)
    rw [Int.mul_assoc, Int.natCast_add, Int.add_mul]; omega
/-- Where the wide integer is exact. -/
def wok (v : Int) : Prop := 0 ≤ v ∧ v ≤ 10000000000000000000000000000000000
theorem wd_inj {u v : Int} (hu : wok u) (hv : wok v) (h : (wd u).1 = (wd v).1 ∧ (wd u).2 = (wd v).2) : u = v := by
  simp only [wd, wrap64, wok] at *; omega
theorem least_wok {A : Int} {x : List Int} (hA : 1 ≤ A ∧ A ≤ 1000000) (hb : bd 1048576 x) (hn : x.length ≤ 1000) : wok (A * dz x x) := by
  have h1 := dz_self_nonneg x
  have h2 := dz_le hb
  have h3 := mul_bd (s := A) (u := dz x x) (P := 1000000) (Q := 1099511627776000) (by omega) (by omega) (by omega) (by omega)
  exact ⟨Int.mul_nonneg (by omega) h1, by omega⟩
theorem energy_wok {S A : Int} {x : List Int} {E : List (Nat × Nat)} (hS : 0 ≤ S ∧ S ≤ 1000000) (hA : 1 ≤ A ∧ A ≤ 1000000) (hb : bd 1048576 x) (hn : x.length ≤ 1000) (hE : E.length ≤ 2000) : wok (enZ S A E x) := by
  have h1 := least_wok hA hb hn
  have h2 := frm_self_nonneg hS.1 x E
  have h3 := frm_le hS hb E
  have h4 := mul_bd (s := A) (u := dz x x) (P := 1000000) (Q := 1099511627776000) (by omega) (by omega) (by have := dz_self_nonneg x; omega) (by have := dz_le hb; omega)
  simp only [enZ, wok] at *
  omega
end Go.Proofs.YtdagdoiedibpgaaDoor.Prt
/- Small laws that PrecisionDefinite and PrecisionBounds share. -/
namespace Go.Proofs.YtdagdoiedibpgaaDoor.Prt
set_option linter.unusedVariables false
set_option linter.unusedSimpArgs false
open Go.RowKit Go.Proofs.YtdagdoiedibpgaaDoorW.PrintWords
theorem wf_u8 {l : List Int} (h : ∀ x ∈ l, (Lit.int .u8 x).wf = true) : ∀ x ∈ l, 0 ≤ x ∧ x ≤ 255 := by
  intro x hx
  have := h x hx
  simp only [Lit.wf, IntKind.min, IntKind.max, IntKind.signed, IntKind.bits, Bool.and_eq_true, decide_eq_true_eq] at this
  simp at this
  omega
theorem wf_i64 {x : Int} (h : (Lit.int .i64 x).wf = true) : -9223372036854775808 ≤ x ∧ x ≤ 9223372036854775807 := by
  simp only [Lit.wf, IntKind.min, IntKind.max, IntKind.signed, IntKind.bits, Bool.and_eq_true, decide_eq_true_eq] at h
  simp at h
  omega
theorem mod_eq {a : Int} (h : -9223372036854775808 ≤ a ∧ a ≤ 9223372036854775807) : ∃ m, synopticfield_Mod.f a 2097153 = some m ∧ 0 ≤ m ∧ m ≤ 2097152 := by
  unfold synopticfield_Mod.f
  rw [if_neg (by omega), if_neg (by omega)]
  have h1 : -2097153 < Int.tmod a 2097153 ∧ Int.tmod a 2097153 < 2097153 := by
    rcases Int.le_total 0 a with h0 | h0
    · rw [Int.tmod_eq_emod_of_nonneg h0]; omega
    · have e : Int.tmod a 2097153 = -((-a) % 2097153) := by rw [← Int.tmod_eq_emod_of_nonneg (show 0 ≤ -a by omega), Int.neg_tmod, Int.neg_neg]
      rw [e]; omega
  by_cases h2 : Int.tmod a 2097153 < 0
  · rw [if_pos h2, w64 (by omega)]
    exact ⟨_, rfl, by omega, by omega⟩
  · rw [if_neg h2]
    exact ⟨_, rfl, by omega, by omega⟩
theorem stp_flat {S : Int} {x o : List Int} {a b : Nat} (h : gt x a = gt x b) : stp S x o a b = o := by
  have e : S * (gt x a - gt x b) = 0 := by rw [h]; simp
  unfold stp
  rw [e]
  have h1 : ∀ (q : List Int) (i : Nat) (z : Int), z = gt q i → q.set i z = q := by
    intro q i z hz
    by_cases hi : i < q.length
    · rw [hz, gt_lt hi]; exact List.set_getElem_self hi
    · exact List.set_eq_of_length_le (by omega)
  rw [h1 o a _ (by omega), h1 o b _ (by omega)]
theorem appE_flat {S : Int} {x : List Int} {E : List (Nat × Nat)} (h : ∀ e ∈ E, gt x e.1 = gt x e.2) : ∀ o, appE S x E o = o := by
  induction E with
  | nil => intro o; rfl
  | cons e E ih => intro o; simp only [appE]; rw [stp_flat (h e (by simp)), ih (fun e' he => h e' (by simp [he]))]
theorem apZ_rep {S A v : Int} {n : Nat} {E : List (Nat × Nat)} (hE : ∀ e ∈ E, e.1 < n ∧ e.2 < n) : apZ S A E (List.replicate n v) = List.replicate n (A * v) := by
  unfold apZ
  rw [appE_flat (fun e he => by rw [gt_rep (hE e he).1, gt_rep (hE e he).2]), List.map_replicate]
theorem energy_zero {S A : Int} {x : List Int} {E : List (Nat × Nat)} (hS : 0 ≤ S) (hA : 1 ≤ A) : enZ S A E x = 0 ↔ ∀ j, j < x.length → gt x j = 0 := by
  have h1 := frm_self_nonneg hS x E
  have h2 := dz_self_nonneg x
  constructor
  · intro h j hj
    have h3 : dz x x ≤ A * dz x x := by
      have := Int.mul_le_mul_of_nonneg_right hA h2
      omega
    exact dz_self_zero (by simp only [enZ] at h; omega) _ (gt_mem hj)
  · intro h
    have hx : x = List.replicate x.length 0 := ext_gt (by simp) fun j hj => by rw [h j hj, gt_rep hj]
    have hg : ∀ i, gt x i = 0 := fun i => by
      by_cases hi : i < x.length
      · exact h i hi
      · simp only [gt, List.getD]; rw [List.getElem?_eq_none (by omega)]; rfl
    have e1 : frm S x x E = 0 := frm_flat (fun e _ => by rw [hg, hg])
    have e2 : dz x x = 0 := by
      have : ∀ l : List Int, (∀ v ∈ l, v = 0) → dz l l = 0 := by
        intro l
        induction l with
        | nil => intro _; rfl
        | cons a l ih => intro hl; simp only [dz]; rw [hl a (by simp), ih (fun v hv => hl v (by simp [hv]))]; rfl
      exact this x (fun v hv => by obtain ⟨i, hi, rfl⟩ := List.getElem_of_mem hv; rw [← gt_lt hi]; exact hg i)
    simp [enZ, e1, e2]
end Go.Proofs.YtdagdoiedibpgaaDoor.Prt
/- The bound of the product. -/
namespace Go.Proofs.YtdagdoiedibpgaaDoor.Prt
set_option linter.unusedVariables false
set_option linter.unusedSimpArgs false
open Go.RowKit Go.Proofs.YtdagdoiedibpgaaDoorW.PrintWords
theorem apZ_bd {S A : Int} {E : List S69} {x : List Int} (hE : E.length ≤ 120) (bx : bd 1048576 x) (hS : 0 ≤ S ∧ S ≤ 1000000) (hA : 0 ≤ A ∧ A ≤ 1000000) : bd 1000000000000000 (apZ S A (E.map en) x) := by
  have h := appE_bd (S := S) (M := 1048576) (D := 2097152000000) (x := x) (fun i => bd_gt bx (by omega) i) (fun u h1 h2 => by have := mul_bd hS.1 hS.2 (u := u) (Q := 2097152) (by omega) (by omega); omega) (by omega) (E.map en) 1048576000000 (x.map (A * ·)) (by omega) (by
    intro v hv
    obtain ⟨u, hu, rfl⟩ := List.mem_map.1 hv
    have h := bx u hu
    have := mul_bd hA.1 hA.2 (u := u) (Q := 1048576) (by omega) (by omega)
    omega)
  refine bd_mono h ?_
  rw [List.length_map]
  omega
end Go.Proofs.YtdagdoiedibpgaaDoor.Prt
/- PrecisionBounds' plain law. -/
namespace Go.Proofs.YtdagdoiedibpgaaDoor.Prt
set_option linter.unusedVariables false
set_option linter.unusedSimpArgs false
open Go.RowKit Go.Proofs.YtdagdoiedibpgaaDoorW.PrintWords
theorem dz_take {x : List Int} {i : Nat} (h : i < x.length) : dz (x.take (i + 1)) (x.take (i + 1)) = dz (x.take i) (x.take i) + gt x i * gt x i := by
  induction x generalizing i with
  | nil => simp at h
  | cons a x ih => cases i with
    | zero => simp [dz, gt]
    | succ i =>
      simp only [List.take_succ_cons, dz, gt_cons_succ]
      rw [ih (by simpa using h)]; omega
theorem bounds_l1 {f S A : Int} {x : List Int} {n : Nat} {en ls : Int} {r : Option Bool} (hn : n ≤ 1000) (hx : x.length = n) (bx : bd 1048576 x) (hA : 1 ≤ A ∧ A ≤ 1000000)
    (hc : ∀ (k : Nat) (b : Bool), 3 ≤ k → (b = true ↔ ∀ j, j < n → gt x j = gt x 0) → ((precision_Compare.f k (wd en).1 (wd en).2 (wd (A * dz x x)).1 (wd (A * dz x x)).2).bind fun t428 => (if t428 ≥ 0 then (if b = true then (some (((wd en).1 == (wd (A * dz x x)).1 && ((wd en).2 == (wd (A * dz x x)).2)) == true)) else (some (((wd en).1 == (wd (A * dz x x)).1 && ((wd en).2 == (wd (A * dz x x)).2)) == (S == 0)))) else (some false))) = some true) :
    ∀ (d i : Nat) (b : Bool) (k : Nat), i + d = n → d + 3 < k → (b = true ↔ ∀ j, j < i → gt x j = gt x 0) →
    synopticlaw22_PrecisionBounds.l1 k x 0 0 0 b (x.length : Int) (i : Int) f S A (wd en).1 (wd en).2 (wd en).1 (wd en).2 (wd (A * dz (x.take i) (x.take i))).1 (wd (A * dz (x.take i) (x.take i))).2 = some true := by
  intro d
  induction d with
  | zero =>
    intro i b k hi hk hb
    obtain ⟨k, rfl⟩ : ∃ j, k = j + 1 := ⟨k - 1, by omega⟩
    simp only [synopticlaw22_PrecisionBounds.l1]
    rw [if_neg (by omega), if_pos trivial, if_pos trivial, if_pos trivial, if_pos (by simp), List.take_of_length_le (by omega)]
    exact hc k b (by omega) (by rw [hb, show i = n by omega])
  | succ d ih =>
    intro i b k hi hk hb
    obtain ⟨k, rfl⟩ : ∃ j, k = j + 1 := ⟨k - 1, by omega⟩
    simp only [synopticlaw22_PrecisionBounds.l1]
    have h0 := bd_gt bx (by omega) i
    have h1 := sq_le (a := gt x i) (M := 1048576) h0
    have h2 := sq_nonneg (gt x i)
    rw [if_pos (by omega), if_pos (by omega), if_pos (by omega), rd_gt, w64 (n := gt x i * gt x i) (by omega), prod_eq A _ (by omega) (by omega)]
    simp only [Option.bind_some, add_eq]
    rw [← Int.mul_add, ← dz_take (by omega), w64 (n := (i : Int) + 1) (by omega), show (i : Int) + 1 = ((i + 1 : Nat) : Int) by omega]
    have hs : (∀ j, j < i + 1 → gt x j = gt x 0) ↔ (∀ j, j < i → gt x j = gt x 0) ∧ gt x i = gt x 0 := by
      constructor
      · intro h; exact ⟨fun j hj => h j (by omega), h i (by omega)⟩
      · intro h j hj
        rcases Nat.lt_succ_iff_lt_or_eq.1 hj with h1 | h1
        · exact h.1 j h1
        · rw [h1]; exact h.2
    cases b
    · rw [if_neg (by simp)]
      exact ih (i + 1) false k (by omega) (by omega) ⟨fun h => (by cases h), fun h => hb.2 (hs.1 h).1⟩
    · rw [if_pos rfl, if_pos (by omega), show rd x 0 = gt x 0 from rfl]
      exact ih (i + 1) (gt x i == gt x 0) k (by omega) (by omega) ⟨fun h => hs.2 ⟨hb.1 rfl, by simpa using h⟩, fun h => by simpa using (hs.1 h).2⟩
theorem bounds_l0 {f S A v a1 m : Int} {n : Nat} {r : Option Bool} (hn : n ≤ 1000) (hm : synopticfield_Mod.f a1 2097153 = some m) (hv : wrap64 (m - 1048576) = v) (K : Nat)
    (hc : ∀ k, K ≤ k → synopticlaw22_PrecisionBounds.j1 k (List.replicate n v) f S A = r) :
    ∀ (d i : Nat) (o : List Int) (k : Nat), i + d = n → o.length = n → (∀ j, j < i → gt o j = v) → d + K < k → synopticlaw22_PrecisionBounds.l0 k a1 o (n : Int) (i : Int) f S A = r := by
  intro d
  induction d with
  | zero =>
    intro i o k hi ho hj hk
    obtain ⟨k, rfl⟩ : ∃ j, k = j + 1 := ⟨k - 1, by omega⟩
    have e : o = List.replicate n v := ext_gt (by simp [ho]) fun j h => by rw [hj j (by omega), gt_rep (by omega)]
    subst e
    simp only [synopticlaw22_PrecisionBounds.l0]
    rw [if_neg (by omega)]
    exact hc k (by omega)
  | succ d ih =>
    intro i o k hi ho hj hk
    obtain ⟨k, rfl⟩ : ∃ j, k = j + 1 := ⟨k - 1, by omega⟩
    simp only [synopticlaw22_PrecisionBounds.l0]
    rw [if_pos (by omega), hm]
    simp only [Option.bind_some]
    rw [if_pos (by omega), if_pos (by omega), hv, w64 (n := (i : Int) + 1) (by omega), show (i : Int) + 1 = ((i + 1 : Nat) : Int) by omega, Int.toNat_natCast]
    refine ih (i + 1) _ k (by omega) (by simpa using ho) (fun j hj' => ?_) (by omega)
    rw [gt_set (by omega)]
    split
    · rfl
    · exact hj j (by omega)
theorem bounds_j1 {f S A : Int} {x : List Int} (hf : f = 1 ∨ f = 2) (hS : 0 ≤ S ∧ S ≤ 1000000) (hA : 1 ≤ A ∧ A ≤ 1000000) (hx : x.length = nd f) (bx : bd 1048576 x) {k : Nat} (hk : 300 ≤ k) :
    synopticlaw22_PrecisionBounds.j1 k x f S A = some true := by
  obtain ⟨k, rfl⟩ : ∃ j, k = j + 1 := ⟨k - 1, by omega⟩
  have hnd := nd_le f
  obtain ⟨eE, hE, hE2⟩ := edges_edS hf
  have hf8 : 1 ≤ f ∧ f ≤ 8 := by omega
  have hN : ∀ e ∈ edN f, e.1 < nd f ∧ e.2 < nd f := by rw [← edS_en]; exact hE.nat
  have hlN : (edN f).length ≤ 2000 := by rw [← edS_en, List.length_map]; exact hE.1
  have hen := energy_eq hf8 hS hA (count_nd hf) eE hx hE (by omega) bx
  have hap := apply_eq hf8 hS hA (count_nd hf) eE hx hE (by omega) bx (k := k) (by omega)
  have b1 := apZ_bd (S := S) (A := A) hE2 bx hS (by omega)
  have l1 := apZ_len S A (edN f) x
  rw [edS_en] at hen hap b1
  have hd := dot_eq (l := x) (m := apZ S A (edN f) x) (by omega) (by omega) (bd_i64 bx (by omega)) (bd_i64 b1 (by omega))
  have hdz : dz x (apZ S A (edN f) x) = enZ S A (edN f) x := by rw [dz_comm, apZ_dz (by rw [hx]; exact hN) rfl]; rfl
  rw [hdz] at hd
  simp only [synopticlaw22_PrecisionBounds.j1]
  rw [hen]
  simp only [Option.bind_some]
  rw [hap]
  simp only [Option.bind_some]
  rw [hd]
  simp only [Option.bind_some]
  have hok := energy_wok (S := S) (A := A) (x := x) (E := edN f) hS hA bx (by omega) hlN
  have hlk := least_wok hA bx (by omega)
  have hfr := frm_self_nonneg hS.1 x (edN f)
  have h0 := bounds_l1 (f := f) (S := S) (A := A) (x := x) (en := enZ S A (edN f) x) (ls := 0) (r := none) (n := nd f) (by omega) hx bx hA (fun k b hk hb => by
    obtain ⟨k, rfl⟩ : ∃ j, k = j + 3 := ⟨k - 3, by omega⟩
    rw [cmp_eq k _ _ (by simp only [wok] at hok; omega) (by simp only [wok] at hlk; omega)]
    simp only [Option.bind_some]
    have hle : A * dz x x ≤ enZ S A (edN f) x := by simp only [enZ]; omega
    rw [if_pos (by unfold sgn; rw [if_neg (by omega)]; split <;> decide)]
    cases b
    · rw [if_neg (by simp)]
      by_cases hs : S = 0
      · have e : enZ S A (edN f) x = A * dz x x := by simp only [enZ]; rw [hs, frm_zero]; omega
        rw [e, hs]; simp
      · have hne : ¬ (frm S x x (edN f) ≤ 0) := fun h => by
          have h1 := frm_self_zero (by omega) h
          have := hb.2 (fun j hj => hang_all hf h1 j hj)
          cases this
        have hq : ((wd (enZ S A (edN f) x)).1 == (wd (A * dz x x)).1 && ((wd (enZ S A (edN f) x)).2 == (wd (A * dz x x)).2)) = false := by
          cases hq : ((wd (enZ S A (edN f) x)).1 == (wd (A * dz x x)).1 && ((wd (enZ S A (edN f) x)).2 == (wd (A * dz x x)).2))
          · rfl
          · simp only [Bool.and_eq_true, beq_iff_eq] at hq
            have := wd_inj hok hlk hq
            simp only [enZ] at this; omega
        rw [hq]
        have : (S == 0) = false := by simpa using hs
        rw [this]; rfl
    · rw [if_pos rfl]
      have hfl := hb.1 rfl
      have e : enZ S A (edN f) x = A * dz x x := by simp only [enZ]; rw [frm_flat (fun e he => by rw [hfl _ (hN e he).1, hfl _ (hN e he).2])]; omega
      rw [e]; simp) (nd f) 0 true k (by omega) (by omega) (by simp)
  simp only [List.take_zero, dz, Int.mul_zero, wdz] at h0
  exact h0
theorem bounds_pure : synopticlaw22_PrecisionBounds.Pure := by
  intro l0 a1 _ _ hw hw1
  obtain ⟨l, e1, r0⟩ := new_eq (m := 120) (wf_u8 hw) (by omega)
  obtain ⟨f, S, A, p1, e2, ⟨hf, hS1, hS2, hA1, hA2⟩, r1⟩ := precision_eq r0
  obtain ⟨x, p2, e3, lx, bx, r2⟩ := for_eq r1 hf (s := S) (a := A) (k := 1000) (by omega)
  obtain ⟨c, p3, e4, c0, c1, r3⟩ := next_eq (n := 4) r2 (by omega)
  obtain ⟨m, e5, m0, m1⟩ := mod_eq (a := a1) (wf_i64 hw1)
  have hnd := nd_le f
  refine ⟨1000, ?_⟩
  unfold synopticlaw22_PrecisionBounds.f
  rw [show (1000 : Nat) = 60 + 940 from rfl, awakeK 940, show (60 + 940 : Nat) = 1000 from rfl, show (120 : Int) = ((120 : Nat) : Int) from rfl, e1]
  simp only [Option.bind_some, if_true, e2, e3, e4]
  by_cases hc : c = 3
  · rw [if_pos hc, lx]
    refine bounds_l0 (n := nd f) (by omega) e5 (w64 (by omega)) 300 (fun k hk => ?_) (nd f) 0 x 1000 (by omega) lx (fun j hj => by omega) (by omega)
    exact bounds_j1 hf ⟨hS1, hS2⟩ ⟨hA1, hA2⟩ (by simp) (fun u hu => by rw [(List.mem_replicate.1 hu).2]; omega) hk
  · rw [if_neg hc]
    exact bounds_j1 hf ⟨hS1, hS2⟩ ⟨hA1, hA2⟩ lx bx (by omega)
end Go.Proofs.YtdagdoiedibpgaaDoor.Prt
