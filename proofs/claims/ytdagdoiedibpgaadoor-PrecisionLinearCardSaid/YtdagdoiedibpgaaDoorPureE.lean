/- The edges of the grids of the frequencies 1 and 2. -/
import Derived.Test.YtdagdoiedibpgaaDoorPureP
import Derived.Test.YtdagdoiedibpgaaDoorPureA
namespace Go.Proofs.YtdagdoiedibpgaaDoor.Prt
set_option linter.unusedVariables false
set_option linter.unusedSimpArgs false
open Go.RowKit
/-- The edges of the grid of frequency 2. -/
def lit2 : List (Int × Int) := [(0, 1), (0, 3), (0, 7), (0, 16), (0, 21), (1, 2), (1, 3), (1, 4), (1, 16), (1, 18), (2, 4), (2, 15), (2, 18), (2, 28), (3, 4), (3, 5), (3, 7), (3, 8), (4, 5), (4, 14), (4, 15), (5, 8), (5, 11), (5, 14), (6, 7), (6, 8), (6, 10), (6, 19), (6, 24), (7, 8), (7, 19), (7, 21), (8, 10), (8, 11), (9, 10), (9, 11), (9, 13), (9, 22), (9, 27), (10, 11), (10, 22), (10, 24), (11, 13), (11, 14), (12, 13), (12, 14), (12, 15), (12, 25), (12, 30), (13, 14), (13, 25), (13, 27), (14, 15), (15, 28), (15, 30), (16, 17), (16, 18), (16, 21), (16, 31), (17, 18), (17, 31), (17, 35), (17, 36), (18, 28), (18, 35), (19, 20), (19, 21), (19, 24), (19, 32), (20, 21), (20, 31), (20, 32), (20, 37), (21, 31), (22, 23), (22, 24), (22, 27), (22, 33), (23, 24), (23, 32), (23, 33), (23, 39), (24, 32), (25, 26), (25, 27), (25, 30), (25, 34), (26, 27), (26, 33), (26, 34), (26, 40), (27, 33), (28, 29), (28, 30), (28, 35), (29, 30), (29, 34), (29, 35), (29, 41), (30, 34), (31, 36), (31, 37), (32, 37), (32, 39), (33, 39), (33, 40), (34, 40), (34, 41), (35, 36), (35, 41), (36, 37), (36, 38), (36, 41), (37, 38), (37, 39), (38, 39), (38, 40), (38, 41), (39, 40), (40, 41)]
set_option maxRecDepth 1000000 in
theorem mem2 : (∀ x ∈ edgesOf ((cellsTo 2 420 20 0 0).map toI), x ∈ lit2) ∧ ∀ x ∈ lit2, x ∈ edgesOf ((cellsTo 2 420 20 0 0).map toI) := by decide +kernel
set_option maxRecDepth 1000000 in
theorem edgesI2 : edgesI 2 = lit2 := by
  refine sorted_unique (edgesI_spec 2).1 (by decide +kernel) (fun x => ((edgesI_spec 2).2 x).trans ⟨mem2.1 x, mem2.2 x⟩)
theorem grid2 : grid_Edges.f 2 = some (lit2.map (fun x => (⟨x.1, x.2⟩ : S69)), 0) := by
  show (if (1 : Int) ≤ 2 ∧ (2 : Int) ≤ 8 then some (edgesS 2, (0 : Int)) else _) = _
  rw [if_pos (by decide), edgesS, edgesI2]
/-- The grid's edges as a list of edges. -/
def edS (f : Int) : List S69 := (if f = 1 then lit1 else lit2).map (fun x => (⟨x.1, x.2⟩ : S69))
set_option maxRecDepth 1000000 in
theorem lit_ok : (lit1.length ≤ 120 ∧ ∀ x ∈ lit1, 0 ≤ x.1 ∧ x.1 < 12 ∧ 0 ≤ x.2 ∧ x.2 < 12) ∧ lit2.length ≤ 120 ∧ ∀ x ∈ lit2, 0 ≤ x.1 ∧ x.1 < 42 ∧ 0 ≤ x.2 ∧ x.2 < 42 := by decide +kernel
/-- Each of the nodes has an edge to one before it. -/
def reach (E : List (Nat × Nat)) : List Nat → List Nat → Bool
  | _, [] => true
  | acc, j :: r => (acc.any fun i => E.contains (i, j) || E.contains (j, i)) && reach E (j :: acc) r
theorem reach_all {E : List (Nat × Nat)} {x : List Int} {v : Int} (hE : ∀ e ∈ E, gt x e.1 = gt x e.2) : ∀ (r acc : List Nat), reach E acc r = true → (∀ i ∈ acc, gt x i = v) → ∀ j ∈ r, gt x j = v := by
  intro r
  induction r with
  | nil => intro acc _ _ j hj; cases hj
  | cons k r ih =>
    intro acc h ha
    simp only [reach, Bool.and_eq_true] at h
    obtain ⟨i, hi, h1⟩ := List.any_eq_true.1 h.1
    have hk : gt x k = v := by
      rw [Bool.or_eq_true] at h1
      rcases h1 with h1 | h1
      · have := hE _ (List.contains_iff_mem.1 h1); rw [← this]; exact ha i hi
      · have := hE _ (List.contains_iff_mem.1 h1); rw [this]; exact ha i hi
    intro j hj
    rcases List.mem_cons.1 hj with rfl | hj
    · exact hk
    · exact ih (k :: acc) h.2 (fun i hi => by rcases List.mem_cons.1 hi with rfl | hi; exact hk; exact ha i hi) j hj
def ord1 : List Nat := [1, 2, 3, 6, 7, 5, 10, 4, 8, 11, 9]
def ord2 : List Nat := [1, 3, 7, 16, 21, 2, 4, 18, 5, 8, 6, 19, 17, 31, 20, 15, 28, 14, 35, 11, 10, 24, 32, 36, 37, 12, 30, 29, 13, 41, 9, 22, 23, 39, 38, 25, 34, 27, 40, 33, 26]
/-- The edges as pairs of nodes. -/
def edN (f : Int) : List (Nat × Nat) := (if f = 1 then lit1 else lit2).map (fun x => (x.1.toNat, x.2.toNat))
set_option maxRecDepth 1000000 in
theorem ords : (reach (edN 1) [0] ord1 = true ∧ ∀ j, j < 12 → j = 0 ∨ j ∈ ord1) ∧ reach (edN 2) [0] ord2 = true ∧ ∀ j, j < 42 → j = 0 ∨ j ∈ ord2 := by decide +kernel
theorem hang_all {f : Int} (h : f = 1 ∨ f = 2) {x : List Int} (hE : ∀ e ∈ edN f, gt x e.1 = gt x e.2) : ∀ j, j < nd f → gt x j = gt x 0 := by
  intro j hj
  rcases h with rfl | rfl
  · rcases ords.1.2 j hj with rfl | h
    · rfl
    · exact reach_all hE _ _ ords.1.1 (fun i hi => by rw [List.mem_singleton.1 hi]) j h
  · rcases ords.2.2 j hj with rfl | h
    · rfl
    · exact reach_all hE _ _ ords.2.1 (fun i hi => by rw [List.mem_singleton.1 hi]) j h
theorem edS_en {f : Int} : (edS f).map en = edN f := by simp only [edS, edN, List.map_map]; rfl
theorem edges_edS {f : Int} (h : f = 1 ∨ f = 2) : grid_Edges.f f = some (edS f, 0) ∧ EdOK (nd f) (edS f) ∧ (edS f).length ≤ 120 := by
  rcases h with rfl | rfl
  · refine ⟨grid1, ⟨by rw [edS, List.length_map]; have := lit_ok.1.1; simp only [if_true]; omega, fun e he => ?_⟩, by rw [edS, List.length_map]; exact lit_ok.1.1⟩
    obtain ⟨x, hx, rfl⟩ := List.mem_map.1 he
    exact lit_ok.1.2 x hx
  · refine ⟨grid2, ⟨by rw [edS, List.length_map]; have := lit_ok.2.1; show lit2.length ≤ 2000; omega, fun e he => ?_⟩, by rw [edS, List.length_map]; exact lit_ok.2.1⟩
    obtain ⟨x, hx, rfl⟩ := List.mem_map.1 he
    exact lit_ok.2.2 x hx
theorem edges_of {f : Int} (h : f = 1 ∨ f = 2) : ∃ E, grid_Edges.f f = some (E, 0) ∧ EdOK (nd f) E ∧ E.length ≤ 120 := ⟨_, edges_edS h⟩
end Go.Proofs.YtdagdoiedibpgaaDoor.Prt
