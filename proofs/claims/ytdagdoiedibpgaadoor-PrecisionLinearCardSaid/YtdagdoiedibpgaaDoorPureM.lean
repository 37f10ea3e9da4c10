/- Plain laws on vectors, edges and the form that a precision makes of them. No program in sight. -/
import Derived.RowKit
namespace Go.Proofs.YtdagdoiedibpgaaDoor.Prt
set_option linter.unusedVariables false
set_option linter.unusedSimpArgs false
open Go.RowKit
/-- Element i, 0 beyond the end. -/
def gt (o : List Int) (i : Nat) : Int := o.getD i 0
theorem gt_lt {o : List Int} {i : Nat} (h : i < o.length) : gt o i = o[i] := by simp [gt, List.getD, h]
theorem gt_mem {o : List Int} {i : Nat} (h : i < o.length) : gt o i ∈ o := by rw [gt_lt h]; exact List.getElem_mem h
theorem gt_cons_succ (a : Int) (o : List Int) (i : Nat) : gt (a :: o) (i + 1) = gt o i := by simp [gt, List.getD]
theorem gt_cons_zero (a : Int) (o : List Int) : gt (a :: o) 0 = a := rfl
theorem gt_set {o : List Int} {i j : Nat} {v : Int} (h : i < o.length) : gt (o.set i v) j = if j = i then v else gt o j := by
  by_cases e : j = i
  · subst e; rw [if_pos rfl, gt_lt (by simpa using h)]; simp
  · rw [if_neg e]; simp only [gt, List.getD]; rw [List.getElem?_set_ne (fun x => e x.symm)]
/-- All absolute values are at most B. -/
def bd (B : Int) (o : List Int) : Prop := ∀ v ∈ o, -B ≤ v ∧ v ≤ B
theorem bd_gt {B : Int} {o : List Int} (h : bd B o) (hB : 0 ≤ B) (i : Nat) : -B ≤ gt o i ∧ gt o i ≤ B := by
  by_cases hi : i < o.length
  · exact h _ (gt_mem hi)
  · have : gt o i = 0 := by simp only [gt, List.getD]; rw [List.getElem?_eq_none (by omega)]; rfl
    omega
theorem bd_mono {B C : Int} {o : List Int} (h : bd B o) (hC : B ≤ C) : bd C o := fun v hv => by have := h v hv; omega
theorem bd_set {B : Int} {o : List Int} (h : bd B o) {i : Nat} {v : Int} (h1 : -B ≤ v) (h2 : v ≤ B) : bd B (o.set i v) := by
  intro u hu
  rcases List.mem_or_eq_of_mem_set hu with hu | rfl
  · exact h u hu
  · exact ⟨h1, h2⟩
theorem mul_bd {s u P Q : Int} (hs : 0 ≤ s) (hP : s ≤ P) (h1 : -Q ≤ u) (h2 : u ≤ Q) : -(P * Q) ≤ s * u ∧ s * u ≤ P * Q := by
  have hQ : 0 ≤ Q := by omega
  have a : s * u ≤ s * Q := Int.mul_le_mul_of_nonneg_left h2 hs
  have b : s * -Q ≤ s * u := Int.mul_le_mul_of_nonneg_left h1 hs
  have c : s * Q ≤ P * Q := Int.mul_le_mul_of_nonneg_right hP hQ
  rw [Int.mul_neg] at b
  omega
/-- One edge of the product. -/
def stp (S : Int) (x o : List Int) (a b : Nat) : List Int :=
  (o.set a (gt o a + S * (gt x a - gt x b))).set b (gt (o.set a (gt o a + S * (gt x a - gt x b))) b - S * (gt x a - gt x b))
theorem stp_len (S : Int) (x o : List Int) (a b : Nat) : (stp S x o a b).length = o.length := by simp [stp]
/-- The edges of the product. -/
def appE (S : Int) (x : List Int) : List (Nat × Nat) → List Int → List Int
  | [], o => o
  | e :: E, o => appE S x E (stp S x o e.1 e.2)
theorem appE_len (S : Int) (x : List Int) (E : List (Nat × Nat)) (o : List Int) : (appE S x E o).length = o.length := by
  induction E generalizing o with
  | nil => rfl
  | cons e E ih => simp only [appE]; rw [ih, stp_len]
/-- The sum of the products. -/
def dz : List Int → List Int → Int
  | a :: l, b :: m => a * b + dz l m
  | _, _ => 0
theorem dz_comm (l m : List Int) : dz l m = dz m l := by
  induction l generalizing m with
  | nil => cases m <;> rfl
  | cons a l ih => cases m with
    | nil => rfl
    | cons b m => simp only [dz]; rw [ih, Int.mul_comm]
theorem dz_set {o y : List Int} {i : Nat} {v : Int} (h : i < o.length) (hl : o.length = y.length) : dz (o.set i v) y = dz o y + (v - gt o i) * gt y i := by
  induction o generalizing y i with
  | nil => simp at h
  | cons a o ih => cases y with
    | nil => simp at hl
    | cons b y => cases i with
      | zero => simp only [List.set_cons_zero, dz, gt_cons_zero]; rw [Int.sub_mul]; omega
      | succ i =>
        simp only [List.set_cons_succ, dz, gt_cons_succ]
        rw [ih (by simpa using h) (by simpa using hl)]; omega
theorem dz_map (A : Int) (x y : List Int) : dz (x.map (A * ·)) y = A * dz x y := by
  induction x generalizing y with
  | nil => simp [dz]
  | cons a x ih => cases y with
    | nil => simp [dz]
    | cons b y => simp only [List.map_cons, dz]; rw [ih, Int.mul_add, Int.mul_assoc]
/-- The form of the edges. -/
def frm (S : Int) (x y : List Int) : List (Nat × Nat) → Int
  | [] => 0
  | e :: E => S * (gt x e.1 - gt x e.2) * (gt y e.1 - gt y e.2) + frm S x y E
theorem frm_comm (S : Int) (x y : List Int) (E : List (Nat × Nat)) : frm S x y E = frm S y x E := by
  induction E with
  | nil => rfl
  | cons e E ih => simp only [frm]; rw [ih, Int.mul_right_comm]
theorem dz_stp {S : Int} {x o y : List Int} {a b : Nat} (ha : a < o.length) (hb : b < o.length) (hl : o.length = y.length) :
    dz (stp S x o a b) y = dz o y + S * (gt x a - gt x b) * (gt y a - gt y b) := by
  unfold stp
  rw [dz_set (by simpa using hb) (by simpa using hl), dz_set ha hl]
  generalize S * (gt x a - gt x b) = d
  rw [show gt o a + d - gt o a = d by omega, show gt (o.set a (gt o a + d)) b - d - gt (o.set a (gt o a + d)) b = -d by omega, Int.neg_mul, Int.mul_sub]
  omega
theorem dz_appE {S : Int} {x y : List Int} {E : List (Nat × Nat)} {o : List Int} (hE : ∀ e ∈ E, e.1 < o.length ∧ e.2 < o.length) (hl : o.length = y.length) :
    dz (appE S x E o) y = dz o y + frm S x y E := by
  induction E generalizing o with
  | nil => simp [appE, frm]
  | cons e E ih =>
    simp only [appE, frm]
    have he := hE e (by simp)
    rw [ih (fun e' h => by rw [stp_len]; exact hE e' (by simp [h])) (by rw [stp_len]; exact hl), dz_stp he.1 he.2 hl]
    omega
/-- The sum of two vectors. -/
def zw (x y : List Int) : List Int := List.zipWith (· + ·) x y
theorem zw_len {x y : List Int} (h : x.length = y.length) : (zw x y).length = x.length := by simp [zw, h]
theorem gt_zw {x y : List Int} (h : x.length = y.length) (i : Nat) : gt (zw x y) i = gt x i + gt y i := by
  by_cases hi : i < x.length
  · rw [gt_lt (show i < (zw x y).length by rw [zw_len h]; exact hi), gt_lt hi, gt_lt (show i < y.length from h ▸ hi)]; simp [zw]
  · simp only [gt, List.getD]
    rw [List.getElem?_eq_none (by rw [zw_len h]; omega), List.getElem?_eq_none (by omega), List.getElem?_eq_none (by omega)]; rfl
theorem ext_gt {o p : List Int} (hl : o.length = p.length) (h : ∀ i, i < o.length → gt o i = gt p i) : o = p := by
  refine List.ext_getElem hl fun i h1 h2 => ?_
  rw [← gt_lt h1, ← gt_lt h2]; exact h i h1
theorem zw_set {o p : List Int} (h : o.length = p.length) {i : Nat} (u v : Int) : zw (o.set i u) (p.set i v) = (zw o p).set i (u + v) := by
  by_cases hi : i < o.length
  · refine ext_gt (by simp [zw]) fun j hj => ?_
    rw [gt_zw (by simpa using h), gt_set hi, gt_set (show i < p.length from h ▸ hi), gt_set (show i < (zw o p).length by rw [zw_len h]; exact hi), gt_zw h]
    split <;> rfl
  · rw [List.set_eq_of_length_le (by omega), List.set_eq_of_length_le (by omega), List.set_eq_of_length_le (by rw [zw_len h]; omega)]
theorem stp_zw {S : Int} {x y o p : List Int} {a b : Nat} (hx : x.length = y.length) (ho : o.length = p.length) : stp S (zw x y) (zw o p) a b = zw (stp S x o a b) (stp S y p a b) := by
  unfold stp
  rw [zw_set (by simpa using ho), zw_set ho, gt_zw hx, gt_zw hx, gt_zw ho]
  have e1 : gt o a + gt p a + S * (gt x a + gt y a - (gt x b + gt y b)) = gt o a + S * (gt x a - gt x b) + (gt p a + S * (gt y a - gt y b)) := by
    rw [show gt x a + gt y a - (gt x b + gt y b) = (gt x a - gt x b) + (gt y a - gt y b) by omega, Int.mul_add]; omega
  rw [e1, ← zw_set ho, gt_zw (by simpa using ho)]
  congr 1
  rw [show gt x a + gt y a - (gt x b + gt y b) = (gt x a - gt x b) + (gt y a - gt y b) by omega, Int.mul_add]; omega
theorem appE_zw {S : Int} {x y : List Int} {E : List (Nat × Nat)} {o p : List Int} (hx : x.length = y.length) (ho : o.length = p.length) : appE S (zw x y) E (zw o p) = zw (appE S x E o) (appE S y E p) := by
  induction E generalizing o p with
  | nil => rfl
  | cons e E ih => simp only [appE]; rw [stp_zw hx ho, ih (by rw [stp_len, stp_len]; exact ho)]
theorem map_zw (A : Int) {x y : List Int} (h : x.length = y.length) : (zw x y).map (A * ·) = zw (x.map (A * ·)) (y.map (A * ·)) := by
  refine ext_gt (by simp [zw]) fun j hj => ?_
  have hj' : j < x.length := by simpa [zw, h] using hj
  rw [gt_lt hj, gt_zw (by simpa using h), gt_lt (by simpa using hj'), gt_lt (by simpa using h ▸ hj')]
  simp [zw, Int.mul_add]
/-- The product of a precision and a vector, without wrapping. -/
def apZ (S A : Int) (E : List (Nat × Nat)) (x : List Int) : List Int := appE S x E (x.map (A * ·))
theorem apZ_len (S A : Int) (E : List (Nat × Nat)) (x : List Int) : (apZ S A E x).length = x.length := by simp [apZ, appE_len]
theorem apZ_dz {S A : Int} {E : List (Nat × Nat)} {x y : List Int} (hE : ∀ e ∈ E, e.1 < x.length ∧ e.2 < x.length) (hl : x.length = y.length) : dz (apZ S A E x) y = A * dz x y + frm S x y E := by
  unfold apZ
  rw [dz_appE (by simpa using hE) (by simpa using hl), dz_map]
theorem apZ_sym {S A : Int} {E : List (Nat × Nat)} {x y : List Int} (hE : ∀ e ∈ E, e.1 < x.length ∧ e.2 < x.length) (hl : x.length = y.length) : dz (apZ S A E x) y = dz x (apZ S A E y) := by
  rw [apZ_dz hE hl, dz_comm x (apZ S A E y), apZ_dz (by rw [← hl]; exact hE) hl.symm, dz_comm y x, frm_comm]
theorem apZ_zw {S A : Int} {E : List (Nat × Nat)} {x y : List Int} (hl : x.length = y.length) : apZ S A E (zw x y) = zw (apZ S A E x) (apZ S A E y) := by
  unfold apZ
  rw [map_zw A hl, appE_zw hl (by simpa using hl)]
/-- The sum of the elements. -/
def sz : List Int → Int
  | [] => 0
  | a :: l => a + sz l
theorem dz_ones (x : List Int) : dz x (List.replicate x.length 1) = sz x := by
  induction x with
  | nil => rfl
  | cons a x ih => simp only [List.length_cons, List.replicate_succ, dz, sz]; rw [ih]; omega
theorem gt_rep {n i : Nat} {v : Int} (h : i < n) : gt (List.replicate n v) i = v := by rw [gt_lt (by simpa using h)]; simp
theorem frm_const {S : Int} {x : List Int} {n : Nat} {v : Int} {E : List (Nat × Nat)} (hE : ∀ e ∈ E, e.1 < n ∧ e.2 < n) : frm S x (List.replicate n v) E = 0 := by
  induction E with
  | nil => rfl
  | cons e E ih =>
    have he := hE e (by simp)
    simp only [frm]
    rw [ih (fun e' h => hE e' (by simp [h])), gt_rep he.1, gt_rep he.2]; simp
theorem apZ_sum {S A : Int} {E : List (Nat × Nat)} {x : List Int} (hE : ∀ e ∈ E, e.1 < x.length ∧ e.2 < x.length) : sz (apZ S A E x) = A * sz x := by
  rw [← dz_ones (apZ S A E x), ← dz_ones x, apZ_len, apZ_dz hE (by simp), frm_const hE]; omega
/-- The sum of the squares is not negative; and is 0 of the vector 0 alone. -/
theorem sq_nonneg (a : Int) : 0 ≤ a * a := by
  rcases Int.le_total 0 a with h | h
  · exact Int.mul_nonneg h h
  · exact Int.mul_nonneg_of_nonpos_of_nonpos h h
theorem dz_self_nonneg (x : List Int) : 0 ≤ dz x x := by
  induction x with
  | nil => simp [dz]
  | cons a x ih => simp only [dz]; have := sq_nonneg a; omega
theorem sq_zero {a : Int} (h : a * a ≤ 0) : a = 0 := by
  have := sq_nonneg a
  have h0 : a * a = 0 := by omega
  rcases Int.mul_eq_zero.1 h0 with h | h <;> exact h
theorem dz_self_zero {x : List Int} (h : dz x x ≤ 0) : ∀ v ∈ x, v = 0 := by
  induction x with
  | nil => simp
  | cons a x ih =>
    simp only [dz] at h
    have h1 := sq_nonneg a
    have h2 := dz_self_nonneg x
    intro v hv
    rcases List.mem_cons.1 hv with rfl | hv
    · exact sq_zero (by omega)
    · exact ih (by omega) v hv
theorem frm_self_nonneg {S : Int} (hS : 0 ≤ S) (x : List Int) (E : List (Nat × Nat)) : 0 ≤ frm S x x E := by
  induction E with
  | nil => simp [frm]
  | cons e E ih =>
    simp only [frm]
    rw [Int.mul_assoc]
    have := Int.mul_nonneg hS (sq_nonneg (gt x e.1 - gt x e.2))
    omega
theorem frm_self_zero {S : Int} (hS : 0 < S) {x : List Int} {E : List (Nat × Nat)} (h : frm S x x E ≤ 0) : ∀ e ∈ E, gt x e.1 = gt x e.2 := by
  induction E with
  | nil => simp
  | cons e E ih =>
    simp only [frm] at h
    rw [Int.mul_assoc] at h
    have h1 := Int.mul_nonneg (Int.le_of_lt hS) (sq_nonneg (gt x e.1 - gt x e.2))
    have h2 := frm_self_nonneg (Int.le_of_lt hS) x E
    intro e' he'
    rcases List.mem_cons.1 he' with rfl | he'
    · have h0 : S * ((gt x e'.1 - gt x e'.2) * (gt x e'.1 - gt x e'.2)) = 0 := by omega
      rcases Int.mul_eq_zero.1 h0 with h | h
      · omega
      · have := sq_zero (a := gt x e'.1 - gt x e'.2) (by omega); omega
    · exact ih (by omega) e' he'
theorem frm_zero (x y : List Int) (E : List (Nat × Nat)) : frm 0 x y E = 0 := by
  induction E with
  | nil => rfl
  | cons e E ih => simp only [frm]; rw [ih]; simp
theorem frm_flat {S : Int} {x y : List Int} {E : List (Nat × Nat)} (h : ∀ e ∈ E, gt x e.1 = gt x e.2) : frm S x y E = 0 := by
  induction E with
  | nil => rfl
  | cons e E ih => simp only [frm]; rw [ih (fun e' he => h e' (by simp [he])), h e (by simp)]; simp
/-- Bounds of the product. -/
theorem stp_bd {S M B D : Int} {x o : List Int} {a b : Nat} (hx : ∀ i, -M ≤ gt x i ∧ gt x i ≤ M) (hD : ∀ u, -(2 * M) ≤ u → u ≤ 2 * M → -D ≤ S * u ∧ S * u ≤ D) (hD0 : 0 ≤ D) (hB : 0 ≤ B) (ho : bd B o) :
    bd (B + D) (o.set a (gt o a + S * (gt x a - gt x b))) ∧ bd (B + 2 * D) (stp S x o a b) := by
  have h1 := hx a
  have h2 := hx b
  have hd := hD (gt x a - gt x b) (by omega) (by omega)
  have ha := bd_gt ho hB a
  have hb1 : bd (B + D) (o.set a (gt o a + S * (gt x a - gt x b))) := bd_set (bd_mono ho (by omega)) (by omega) (by omega)
  have hb2 := bd_gt hb1 (by omega) b
  exact ⟨hb1, bd_set (bd_mono hb1 (by omega)) (by omega) (by omega)⟩
theorem appE_bd {S M D : Int} {x : List Int} (hx : ∀ i, -M ≤ gt x i ∧ gt x i ≤ M) (hD : ∀ u, -(2 * M) ≤ u → u ≤ 2 * M → -D ≤ S * u ∧ S * u ≤ D) (hD0 : 0 ≤ D) (E : List (Nat × Nat)) :
    ∀ (B : Int) (o : List Int), 0 ≤ B → bd B o → bd (B + E.length * (2 * D)) (appE S x E o) := by
  induction E with
  | nil => intro B o _ h; simpa [appE] using h
  | cons e E ih =>
    intro B o hB h
    simp only [appE, List.length_cons]
    have := ih (B + 2 * D) _ (by omega) (stp_bd (a := e.1) (b := e.2) hx hD hD0 hB h).2
    refine bd_mono this ?_
    rw [Int.natCast_add, Int.add_mul]; omega
end Go.Proofs.YtdagdoiedibpgaaDoor.Prt
