/- The product of a precision and a vector; the sum of the products: what the program computes is what the plain laws speak of. -/
import Derived.Test.YtdagdoiedibpgaaDoorPureC
import Derived.Test.YtdagdoiedibpgaaDoorPureB
import Derived.Test.YtdagdoiedibpgaaDoorPrt4
import Derived.Test.YtdagdoiedibpgaaDoorPrt14
namespace Go.Proofs.YtdagdoiedibpgaaDoor.Prt
set_option linter.unusedVariables false
set_option linter.unusedSimpArgs false
open Go.RowKit Go.Proofs.YtdagdoiedibpgaaDoorW.PrintWords
/-- An edge's nodes. -/
def en (e : S69) : Nat × Nat := (e.f0.toNat, e.f1.toNat)
/-- Edges between n nodes. -/
def EdOK (n : Nat) (E : List S69) : Prop := E.length ≤ 2000 ∧ ∀ e ∈ E, 0 ≤ e.f0 ∧ e.f0 < n ∧ 0 ≤ e.f1 ∧ e.f1 < n
theorem EdOK.nat {n : Nat} {E : List S69} (h : EdOK n E) : ∀ e ∈ E.map en, e.1 < n ∧ e.2 < n := by
  intro e he
  obtain ⟨x, hx, rfl⟩ := List.mem_map.1 he
  have := h.2 x hx
  simp only [en]; omega
theorem vector_l0ok {x : List Int} (hb : bd 1048576 x) (hl : x.length ≤ 1000000) : ∀ (d i k : Nat), i + d = x.length → d < k → precision_Vector.l0 k x (x.length : Int) (i : Int) = some 0 := by
  intro d
  induction d with
  | zero =>
    intro i k hi hk
    obtain ⟨k, rfl⟩ : ∃ j, k = j + 1 := ⟨k - 1, by omega⟩
    simp only [precision_Vector.l0]
    rw [if_neg (by omega)]
  | succ d ih =>
    intro i k hi hk
    obtain ⟨k, rfl⟩ : ∃ j, k = j + 1 := ⟨k - 1, by omega⟩
    have h1 := hb _ (gt_mem (o := x) (i := i) (by omega))
    simp only [precision_Vector.l0, precision_within.f]
    rw [if_pos (by omega), if_pos (by omega), if_pos (by omega), rd_gt, if_pos h1.1]
    simp only [Option.bind_some]
    rw [if_pos (decide_eq_true h1.2), w64 (by omega), show (i : Int) + 1 = ((i + 1 : Nat) : Int) by omega]
    exact ih (i + 1) k (by omega) (by omega)
theorem count_nd {f : Int} (h : f = 1 ∨ f = 2) : grid_Count.f f = some ((nd f : Nat) : Int) := by
  rcases h with rfl | rfl <;> decide +kernel
theorem check_ok {f s a : Int} (hf : 1 ≤ f ∧ f ≤ 8) (hs : 0 ≤ s ∧ s ≤ 1000000) (ha : 1 ≤ a ∧ a ≤ 1000000) : precision_Check.f f s a = some 0 := by
  unfold precision_Check.f precision_within.f
  simp [hf, hs, ha]
theorem vector_ok {f s a : Int} {x : List Int} {n : Nat} (hf : 1 ≤ f ∧ f ≤ 8) (hs : 0 ≤ s ∧ s ≤ 1000000) (ha : 1 ≤ a ∧ a ≤ 1000000) (hn : grid_Count.f f = some (n : Int)) (hx : x.length = n) (hb : bd 1048576 x) (hl : n ≤ 1000000) {k : Nat} (hk : n < k) : precision_Vector.f k f s a x = some 0 := by
  unfold precision_Vector.f
  rw [check_ok hf hs ha]
  simp only [Option.bind_some, if_true, hn]
  rw [if_pos (by omega)]
  exact vector_l0ok hb (by omega) x.length 0 k (by omega) (by omega)
theorem rdT_lt {E : List S69} {i : Nat} (h : i < E.length) : rd_T69 E (i : Int) = E[i] := by simp [rd_T69, List.getD, h]
theorem apply_l1 {S A f : Int} {x : List Int} {E : List S69} {n : Nat} (hx : x.length = n) (hE : EdOK n E) (hn : n ≤ 1000) (hb : bd 1048576 x) (hS : 0 ≤ S ∧ S ≤ 1000000) :
    ∀ (d i : Nat) (o : List Int) (B : Int) (k : Nat), i + d = E.length → o.length = n → bd B o → 0 ≤ B → B + d * 4194304000000 ≤ 9000000000000000000 → d < k →
    precision_Apply.l1 k x o E (E.length : Int) (i : Int) f S A = some (appE S x ((E.drop i).map en) o, 0) := by
  intro d
  induction d with
  | zero =>
    intro i o B k hi ho hB h0 hBd hk
    obtain ⟨k, rfl⟩ : ∃ j, k = j + 1 := ⟨k - 1, by omega⟩
    simp only [precision_Apply.l1]
    rw [if_neg (by omega), List.drop_of_length_le (by omega)]
    rfl
  | succ d ih =>
    intro i o B k hi ho hB h0 hBd hk
    obtain ⟨k, rfl⟩ : ∃ j, k = j + 1 := ⟨k - 1, by omega⟩
    have hlt : i < E.length := by omega
    have hE1 := hE.1
    rw [List.drop_eq_getElem_cons hlt]
    simp only [precision_Apply.l1, rdT_lt hlt, List.map_cons, appE]
    have he := hE.2 E[i] (List.getElem_mem hlt)
    generalize E[i] = e at *
    obtain ⟨a, ha⟩ : ∃ a : Nat, e.f0 = a := ⟨e.f0.toNat, by omega⟩
    obtain ⟨b, hb'⟩ : ∃ b : Nat, e.f1 = b := ⟨e.f1.toNat, by omega⟩
    have hen : en e = (a, b) := by simp [en, ha, hb']
    rw [hen, ha, hb']
    rw [ha, hb'] at he
    have hxa := bd_gt hb (by omega) a
    have hxb := bd_gt hb (by omega) b
    have hd := mul_bd hS.1 hS.2 (u := gt x a - gt x b) (Q := 2097152) (by omega) (by omega)
    have hst := stp_bd (S := S) (M := 1048576) (B := B) (D := 2097152000000) (x := x) (o := o) (a := a) (b := b) (fun i => bd_gt hb (by omega) i) (fun u h1 h2 => by have := mul_bd hS.1 hS.2 (u := u) (Q := 2097152) (by omega) (by omega); omega) (by omega) h0 hB
    have hoa := bd_gt hB h0 a
    have hob := bd_gt hst.1 (by omega) b
    rw [if_pos (by omega), if_pos (by omega), if_pos (by omega), if_pos (by omega), if_pos (by omega), if_pos (by omega), if_pos (by omega), if_pos (by omega)]
    simp only [Option.bind_some, rd_gt, Int.toNat_natCast]
    rw [w64 (n := gt x a - gt x b) (by omega)]
    rw [w64 (n := S * (gt x a - gt x b)) (by omega)]
    rw [w64 (n := gt o a + S * (gt x a - gt x b)) (by omega)]
    rw [if_pos (by first | omega | (rw [List.length_set]; omega))]
    rw [w64 (n := gt (o.set a (gt o a + S * (gt x a - gt x b))) b - S * (gt x a - gt x b)) (by omega)]
    rw [w64 (n := (i : Int) + 1) (by omega), show (i : Int) + 1 = ((i + 1 : Nat) : Int) by omega]
    exact ih (i + 1) (stp S x o a b) (B + 4194304000000) k (by omega) (by rw [stp_len]; exact ho) hst.2 (by omega) (by omega) (by omega)
theorem apply_l0 {S A f : Int} {x : List Int} {E : List S69} {n : Nat} (hx : x.length = n) (hE : EdOK n E) (hn : n ≤ 1000) (hb : bd 1048576 x) (hS : 0 ≤ S ∧ S ≤ 1000000) (hA : 0 ≤ A ∧ A ≤ 1000000) :
    ∀ (d i : Nat) (o : List Int) (k : Nat), i + d = n → o.length = n → (∀ j, j < i → gt o j = A * gt x j) → d + E.length + 1 < k →
    precision_Apply.l0 k x E o x (x.length : Int) (i : Int) f S A = some (apZ S A (E.map en) x, 0) := by
  intro d
  induction d with
  | zero =>
    intro i o k hi ho hj hk
    obtain ⟨k, rfl⟩ : ∃ j, k = j + 1 := ⟨k - 1, by omega⟩
    simp only [precision_Apply.l0]
    rw [if_neg (by omega)]
    have hE1 := hE.1
    have e : o = x.map (A * ·) := ext_gt (by simp [ho, hx]) fun j h => by
      rw [hj j (by omega), gt_lt (show j < (x.map (A * ·)).length by simp; omega), gt_lt (show j < x.length by omega)]
      simp
    subst e
    have hbd : bd 1048576000000 (x.map (A * ·)) := by
      intro v hv
      obtain ⟨u, hu, rfl⟩ := List.mem_map.1 hv
      have h := hb u hu
      have := mul_bd hA.1 hA.2 (u := u) (Q := 1048576) (by omega) (by omega)
      omega
    have := apply_l1 (A := A) (f := f) hx hE hn hb hS E.length 0 _ 1048576000000 k (by omega) ho hbd (by omega) (by omega) (by omega)
    simpa [apZ] using this
  | succ d ih =>
    intro i o k hi ho hj hk
    obtain ⟨k, rfl⟩ : ∃ j, k = j + 1 := ⟨k - 1, by omega⟩
    simp only [precision_Apply.l0]
    have h := bd_gt hb (by omega) i
    have hm := mul_bd hA.1 hA.2 (u := gt x i) (Q := 1048576) (by omega) (by omega)
    rw [if_pos (by omega), if_pos (by omega), if_pos (by omega), if_pos (by omega), rd_gt, w64 (n := A * gt x i) (by omega), w64 (n := (i : Int) + 1) (by omega), show (i : Int) + 1 = ((i + 1 : Nat) : Int) by omega, Int.toNat_natCast]
    refine ih (i + 1) _ k (by omega) (by simpa using ho) (fun j hj' => ?_) (by omega)
    rw [gt_set (by omega)]
    by_cases hji : j = i
    · rw [if_pos hji, hji]
    · rw [if_neg hji]; exact hj j (by omega)
theorem apply_eq {S A f : Int} {x : List Int} {E : List S69} {n : Nat} (hf : 1 ≤ f ∧ f ≤ 8) (hS : 0 ≤ S ∧ S ≤ 1000000) (hA : 1 ≤ A ∧ A ≤ 1000000) (hc : grid_Count.f f = some (n : Int)) (hg : grid_Edges.f f = some (E, 0)) (hx : x.length = n) (hE : EdOK n E) (hn : n ≤ 1000) (hb : bd 1048576 x)
    {k : Nat} (hk : n + E.length + 1 < k) : precision_Apply.f k f S A x = some (apZ S A (E.map en) x, 0) := by
  unfold precision_Apply.f
  rw [vector_ok hf hS hA hc hx hb (by omega) (by omega)]
  simp only [Option.bind_some, if_true, hg]
  rw [if_pos (by omega), if_pos (by omega)]
  refine apply_l0 hx hE hn hb hS (by omega) n 0 _ k (by omega) (by simp [hx]) (fun j hj => by omega) hk
theorem wdz : wd 0 = (0, 0) := by simp [wd, wrap64]
theorem accF_eq (u a b : Int) (ha : -9223372036854775808 ≤ a ∧ a ≤ 9223372036854775807) (hb : -9223372036854775808 ≤ b ∧ b ≤ 9223372036854775807) : accF (wd u) a b = some (wd (u + a * b)) := by
  unfold accF
  rw [prod_eq a b ha hb]
  simp only [Option.bind_some, add_eq]
/-- Numbers of 64 bits. -/
def i64s (l : List Int) : Prop := ∀ v ∈ l, -9223372036854775808 ≤ v ∧ v ≤ 9223372036854775807
theorem bd_i64 {B : Int} {l : List Int} (h : bd B l) (hB : B ≤ 9223372036854775807) : i64s l := fun v hv => by have := h v hv; omega
theorem dotL_eq : ∀ (l m : List Int) (s : Int), i64s l → i64s m → dotL l m (wd s) = some (wd (s + dz l m)) := by
  intro l
  induction l with
  | nil => intro m s _ _; simp [dotL, dz]
  | cons a l ih =>
    intro m s hl hm
    cases m with
    | nil => simp [dotL, dz]
    | cons b m =>
      simp only [dotL, dz]
      rw [accF_eq s a b (hl a (by simp)) (hm b (by simp))]
      simp only [Option.bind_some]
      rw [ih m (s + a * b) (fun v hv => hl v (by simp [hv])) (fun v hv => hm v (by simp [hv])), Int.add_assoc]
theorem dot_eq {l m : List Int} (h : l.length = m.length) (hl : l.length ≤ 1000000) (h1 : i64s l) (h2 : i64s m) : precision_Dot.f l m = some ((wd (dz l m)).1, (wd (dz l m)).2, 0) := by
  unfold precision_Dot.f
  rw [if_pos h, if_pos hl, ← wdz, accF_eq 0 0 0 (by omega) (by omega)]
  simp only [Option.bind_some]
  rw [dotL_eq l m _ h1 h2]
  simp
end Go.Proofs.YtdagdoiedibpgaaDoor.Prt
