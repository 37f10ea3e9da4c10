import Derived.Test.YtdagdoiedibpgaaDoorPrt0
import Derived.Outline
import Derived.RegionTactic
import Derived.Deep.RegionHeld3
import Derived.Laws.Rows
import Derived.Deep.LoopGhost
import Derived.DeepKeys4
import Derived.Maps.Own
import Derived.Maps.OwnOps
import Derived.Maps.Views
import Derived.Deep.RegionLaw
import Derived.Deep.RegionLawGrows
import Derived.BigRegion
import Derived.IntWalk
namespace Go.Proofs.YtdagdoiedibpgaaDoor.Prt
set_option linter.unusedVariables false
set_option linter.unusedSimpArgs false
open Go.RowKit Go.Proofs.YtdagdoiedibpgaaDoorW.PrintWords Go.Proofs.YtdagdoiedibpgaaDoorW.PrintLast Go.Proofs.YtdagdoiedibpgaaDoorW.PrintMore
/-- The weight of a vertex. -/
def wgt (c0 c1 c2 : Nat) (a b c : Int) (i : Nat) : Int := if c2 = i then c else if c1 = i then b else if c0 = i then a else 0
theorem wgt_cells (c0 c1 c2 : Nat) (a b c : Int) : (((#[.int .i64 0, .int .i64 0, .int .i64 0, .int .i64 0, .int .i64 0, .int .i64 0, .int .i64 0, .int .i64 0, .int .i64 0, .int .i64 0, .int .i64 0, .int .i64 0] : Array Value).setIfInBounds c0 (.int .i64 a)).setIfInBounds c1 (.int .i64 b)).setIfInBounds c2 (.int .i64 c) =
    #[.int .i64 (wgt c0 c1 c2 a b c 0), .int .i64 (wgt c0 c1 c2 a b c 1), .int .i64 (wgt c0 c1 c2 a b c 2), .int .i64 (wgt c0 c1 c2 a b c 3), .int .i64 (wgt c0 c1 c2 a b c 4), .int .i64 (wgt c0 c1 c2 a b c 5), .int .i64 (wgt c0 c1 c2 a b c 6), .int .i64 (wgt c0 c1 c2 a b c 7), .int .i64 (wgt c0 c1 c2 a b c 8), .int .i64 (wgt c0 c1 c2 a b c 9), .int .i64 (wgt c0 c1 c2 a b c 10), .int .i64 (wgt c0 c1 c2 a b c 11)] := by
  apply Array.ext_getElem?
  intro i
  simp only [Array.getElem?_setIfInBounds, wgt]
  by_cases h : i < 12
  · match i, h with
    | 0, _ | 1, _ | 2, _ | 3, _ | 4, _ | 5, _ | 6, _ | 7, _ | 8, _ | 9, _ | 10, _ | 11, _ => simp; (repeat' split) <;> first | rfl | omega
  · have h2 : ¬ c2 = i ∨ ¬ c2 < 12 := by omega
    have h1 : ¬ c1 = i ∨ ¬ c1 < 12 := by omega
    have h0 : ¬ c0 = i ∨ ¬ c0 < 12 := by omega
    rw [Array.getElem?_eq_none (by simp; omega), Array.getElem?_eq_none (by simp; omega)]
    (repeat' split) <;> first | rfl | (exfalso; simp at *; omega)
def zero12 : Array Value := #[.int .i64 0, .int .i64 0, .int .i64 0, .int .i64 0, .int .i64 0, .int .i64 0, .int .i64 0, .int .i64 0, .int .i64 0, .int .i64 0, .int .i64 0, .int .i64 0]
set_option maxHeartbeats 4000000 in
set_option maxRecDepth 100000 in
theorem of_walk (f c0 c1 c2 : Nat) (a b c : Int) (w : World) (hf : f < 20) (g0 : w.cell? ⟨0, f * 3, none⟩ = some (.int .i64 c0)) (g1 : w.cell? ⟨0, f * 3 + 1, none⟩ = some (.int .i64 c1)) (g2 : w.cell? ⟨0, f * 3 + 2, none⟩ = some (.int .i64 c2))
    (h0 : c0 < 12) (h1 : c1 < 12) (h2 : c2 < 12) (n01 : c0 ≠ c1) (n02 : c0 ≠ c2) (n12 : c1 ≠ c2) :
    Calls Tryd.prog 71 #[.agg #[.int .i64 f, .int .i64 a, .int .i64 b, .int .i64 c]] w fun e w' => e = .returned (.agg #[.int .i64 (wgt c0 c1 c2 a b c 0), .int .i64 (wgt c0 c1 c2 a b c 1), .int .i64 (wgt c0 c1 c2 a b c 2), .int .i64 (wgt c0 c1 c2 a b c 3), .int .i64 (wgt c0 c1 c2 a b c 4), .int .i64 (wgt c0 c1 c2 a b c 5), .int .i64 (wgt c0 c1 c2 a b c 6), .int .i64 (wgt c0 c1 c2 a b c 7), .int .i64 (wgt c0 c1 c2 a b c 8), .int .i64 (wgt c0 c1 c2 a b c 9), .int .i64 (wgt c0 c1 c2 a b c 10), .int .i64 (wgt c0 c1 c2 a b c 11)]) ∧ Below w.heap.size w w' := by
  have hz : 0 < w.heap.size := World.block_lt_of_cell? w _ g0
  have i0 : (0 : Int) ≤ (f : Int) := by omega
  have i1 : (f : Int) < 20 := by omega
  have j0 : (c0 : Int) < 12 := by omega
  have j1 : (c1 : Int) < 12 := by omega
  have j2 : (c2 : Int) < 12 := by omega
  have k0 : (0 : Int) ≤ (c0 : Int) := by omega
  have k1 : (0 : Int) ≤ (c1 : Int) := by omega
  have k2 : (0 : Int) ≤ (c2 : Int) := by omega
  go_enter Tryd.func71, Tryd.ntmps71
  go_wp2_with fail
  have hX := blk_alloc (blk_new ((w.alloc (Obj.cells #[Value.int IntKind.i64 f, Value.int IntKind.i64 a, Value.int IntKind.i64 b, Value.int IntKind.i64 c] 85)).alloc (.cells zero12 106)) (.cells zero12 106)) (.cells #[.int .i64 c0, .int .i64 c1, .int .i64 c2] 110)
  have hC := blk_new (((w.alloc (Obj.cells #[Value.int IntKind.i64 f, Value.int IntKind.i64 a, Value.int IntKind.i64 b, Value.int IntKind.i64 c] 85)).alloc (.cells zero12 106)).alloc (.cells zero12 106)) (.cells #[.int .i64 c0, .int .i64 c1, .int .i64 c2] 110)
  have hR := blk_alloc (blk_alloc (blk_new (w.alloc (Obj.cells #[Value.int IntKind.i64 f, Value.int IntKind.i64 a, Value.int IntKind.i64 b, Value.int IntKind.i64 c] 85)) (.cells zero12 106)) (.cells zero12 106)) (.cells #[.int .i64 c0, .int .i64 c1, .int .i64 c2] 110)
  have hP := blk_alloc (blk_alloc (blk_alloc (blk_new w (Obj.cells #[Value.int IntKind.i64 f, Value.int IntKind.i64 a, Value.int IntKind.i64 b, Value.int IntKind.i64 c] 85)) (.cells zero12 106)) (.cells zero12 106)) (.cells #[.int .i64 c0, .int .i64 c1, .int .i64 c2] 110)
  have hB : Below w.heap.size w ((((w.alloc (Obj.cells #[Value.int IntKind.i64 f, Value.int IntKind.i64 a, Value.int IntKind.i64 b, Value.int IntKind.i64 c] 85)).alloc (.cells zero12 106)).alloc (.cells zero12 106)).alloc (.cells #[.int .i64 c0, .int .i64 c1, .int .i64 c2] 110)) := below_alloc (below_alloc (below_alloc (below_alloc (Below.refl _ _) _) _) _) _
  simp only [World.size_alloc] at hX hC hR hP
  simp only [zero12] at hX hC hR hP hB
  generalize ((((w.alloc (Obj.cells #[Value.int IntKind.i64 f, Value.int IntKind.i64 a, Value.int IntKind.i64 b, Value.int IntKind.i64 c] 85)).alloc (.cells _ 106)).alloc (.cells _ 106)).alloc (.cells #[.int .i64 c0, .int .i64 c1, .int .i64 c2] 110)) = W at hX hC hR hP hB ⊢
  have p1 := (blk_cell hP 1).trans (show _ = some (Value.int .i64 a) from rfl)
  have p2 := (blk_cell hP 2).trans (show _ = some (Value.int .i64 b) from rfl)
  have p3 := (blk_cell hP 3).trans (show _ = some (Value.int .i64 c) from rfl)
  have q0 := (blk_cell hC 0).trans (show _ = some (Value.int .i64 c0) from rfl)
  have q1 := (blk_cell hC 1).trans (show _ = some (Value.int .i64 c1) from rfl)
  have q2 := (blk_cell hC 2).trans (show _ = some (Value.int .i64 c2) from rfl)
  have s0 : W.cell? ⟨w.heap.size + 1 + 1, c0, none⟩ = some (.int .i64 0) := (blk_cell hX c0).trans (by match c0, h0 with | 0, _ | 1, _ | 2, _ | 3, _ | 4, _ | 5, _ | 6, _ | 7, _ | 8, _ | 9, _ | 10, _ | 11, _ => rfl)
  have s1 : W.cell? ⟨w.heap.size + 1 + 1, c1, none⟩ = some (.int .i64 0) := (blk_cell hX c1).trans (by match c1, h1 with | 0, _ | 1, _ | 2, _ | 3, _ | 4, _ | 5, _ | 6, _ | 7, _ | 8, _ | 9, _ | 10, _ | 11, _ => rfl)
  have s2 : W.cell? ⟨w.heap.size + 1 + 1, c2, none⟩ = some (.int .i64 0) := (blk_cell hX c2).trans (by match c2, h2 with | 0, _ | 1, _ | 2, _ | 3, _ | 4, _ | 5, _ | 6, _ | 7, _ | 8, _ | 9, _ | 10, _ | 11, _ => rfl)
  have t0 := blk_frozen hX c0
  have t1 := blk_frozen hX c1
  have t2 := blk_frozen hX c2
  have HX := Aside0.mk hX
  have HR := Aside0.mk hR
  have HB := Aside0.mk hB
  clear hX hC hR hP hB
  have e1 : ¬ (w.heap.size = w.heap.size + 1 + 1) := by omega
  have e2 : ¬ (w.heap.size + 1 + 1 + 1 = w.heap.size + 1 + 1) := by omega
  have e1' : ¬ (w.heap.size + 1 + 1 = w.heap.size) := by omega
  have e2' : ¬ (w.heap.size + 1 + 1 = w.heap.size + 1 + 1 + 1) := by omega
  have e3 : w.heap.size ≤ w.heap.size + 1 + 1 := by omega
  have e4 : w.heap.size ≤ w.heap.size + 1 := by omega
  have e5 : ¬ (w.heap.size + 1 = w.heap.size + 1 + 1) := by omega
  have E := Aside0.mk (And.intro e3 (And.intro e4 e5))
  clear e3 e4 e5
  generalize w.heap.size + 1 + 1 + 1 = C at *
  generalize w.heap.size + 1 + 1 = X at *
  generalize w.heap.size + 1 = R at *
  go_region_held3 (fun w' => w'.cell? ⟨w.heap.size, 1, none⟩ = some (.int .i64 a) ∧ w'.cell? ⟨w.heap.size, 2, none⟩ = some (.int .i64 b) ∧ w'.cell? ⟨w.heap.size, 3, none⟩ = some (.int .i64 c) ∧ w'.cell? ⟨C, 0, none⟩ = some (.int .i64 c0) ∧ w'.cell? ⟨C, 1, none⟩ = some (.int .i64 c1) ∧ w'.cell? ⟨C, 2, none⟩ = some (.int .i64 c2)) (first | go_keep) (fail)
  have W1 := blk_drew (blk_put (blk_set (blk_set HX.out c0 (.int .i64 a)) c1 (.int .i64 b)) c2 (.int .i64 c) (wgt_cells c0 c1 c2 a b c))
  have hRX := E.out.2.2
  have R1 := blk_drew (blk_far (blk_far (blk_far HR.out (p := ⟨X, c0, none⟩) hRX (.int .i64 a)) (p := ⟨X, c1, none⟩) hRX (.int .i64 b)) (p := ⟨X, c2, none⟩) hRX (.int .i64 c))
  have B1 := below_drew (((HB.out.setCell (p := ⟨X, c0, none⟩) E.out.1 (.int .i64 a)).setCell (p := ⟨X, c1, none⟩) E.out.1 (.int .i64 b)).setCell (p := ⟨X, c2, none⟩) E.out.1 (.int .i64 c))
  have hRw := E.out.2.1
  clear p1 p2 p3 q0 q1 q2 s0 s1 s2 t0 t1 t2 HX HR HB E hRX e1 e1' e2 e2'
  generalize (((W.setCell ⟨X, c0, none⟩ (.int .i64 a)).setCell ⟨X, c1, none⟩ (.int .i64 b)).setCell ⟨X, c2, none⟩ (.int .i64 c)).drew = V at *
  have x0 := (blk_cell W1 0).trans (show _ = some (Value.int .i64 (wgt c0 c1 c2 a b c 0)) from rfl)
  have x1 := (blk_cell W1 1).trans (show _ = some (Value.int .i64 (wgt c0 c1 c2 a b c 1)) from rfl)
  have x2 := (blk_cell W1 2).trans (show _ = some (Value.int .i64 (wgt c0 c1 c2 a b c 2)) from rfl)
  have x3 := (blk_cell W1 3).trans (show _ = some (Value.int .i64 (wgt c0 c1 c2 a b c 3)) from rfl)
  have x4 := (blk_cell W1 4).trans (show _ = some (Value.int .i64 (wgt c0 c1 c2 a b c 4)) from rfl)
  have x5 := (blk_cell W1 5).trans (show _ = some (Value.int .i64 (wgt c0 c1 c2 a b c 5)) from rfl)
  have x6 := (blk_cell W1 6).trans (show _ = some (Value.int .i64 (wgt c0 c1 c2 a b c 6)) from rfl)
  have x7 := (blk_cell W1 7).trans (show _ = some (Value.int .i64 (wgt c0 c1 c2 a b c 7)) from rfl)
  have x8 := (blk_cell W1 8).trans (show _ = some (Value.int .i64 (wgt c0 c1 c2 a b c 8)) from rfl)
  have x9 := (blk_cell W1 9).trans (show _ = some (Value.int .i64 (wgt c0 c1 c2 a b c 9)) from rfl)
  have x10 := (blk_cell W1 10).trans (show _ = some (Value.int .i64 (wgt c0 c1 c2 a b c 10)) from rfl)
  have x11 := (blk_cell W1 11).trans (show _ = some (Value.int .i64 (wgt c0 c1 c2 a b c 11)) from rfl)
  have y0 := (blk_cell R1 0).trans (show _ = some (Value.int .i64 0) from rfl)
  have z0 := blk_frozen R1 0
  have y1 := (blk_cell R1 1).trans (show _ = some (Value.int .i64 0) from rfl)
  have z1 := blk_frozen R1 1
  have y2 := (blk_cell R1 2).trans (show _ = some (Value.int .i64 0) from rfl)
  have z2 := blk_frozen R1 2
  have y3 := (blk_cell R1 3).trans (show _ = some (Value.int .i64 0) from rfl)
  have z3 := blk_frozen R1 3
  have y4 := (blk_cell R1 4).trans (show _ = some (Value.int .i64 0) from rfl)
  have z4 := blk_frozen R1 4
  have y5 := (blk_cell R1 5).trans (show _ = some (Value.int .i64 0) from rfl)
  have z5 := blk_frozen R1 5
  have y6 := (blk_cell R1 6).trans (show _ = some (Value.int .i64 0) from rfl)
  have z6 := blk_frozen R1 6
  have y7 := (blk_cell R1 7).trans (show _ = some (Value.int .i64 0) from rfl)
  have z7 := blk_frozen R1 7
  have y8 := (blk_cell R1 8).trans (show _ = some (Value.int .i64 0) from rfl)
  have z8 := blk_frozen R1 8
  have y9 := (blk_cell R1 9).trans (show _ = some (Value.int .i64 0) from rfl)
  have z9 := blk_frozen R1 9
  have y10 := (blk_cell R1 10).trans (show _ = some (Value.int .i64 0) from rfl)
  have z10 := blk_frozen R1 10
  have y11 := (blk_cell R1 11).trans (show _ = some (Value.int .i64 0) from rfl)
  have z11 := blk_frozen R1 11
  have B := Aside0.mk B1
  have HRw := Aside0.mk hRw
  clear W1 R1 B1 hRw
  go_wp2
  refine bodyPost_ret (v := .agg #[.int .i64 (wgt c0 c1 c2 a b c 0), .int .i64 (wgt c0 c1 c2 a b c 1), .int .i64 (wgt c0 c1 c2 a b c 2), .int .i64 (wgt c0 c1 c2 a b c 3), .int .i64 (wgt c0 c1 c2 a b c 4), .int .i64 (wgt c0 c1 c2 a b c 5), .int .i64 (wgt c0 c1 c2 a b c 6), .int .i64 (wgt c0 c1 c2 a b c 7), .int .i64 (wgt c0 c1 c2 a b c 8), .int .i64 (wgt c0 c1 c2 a b c 9), .int .i64 (wgt c0 c1 c2 a b c 10), .int .i64 (wgt c0 c1 c2 a b c 11)]) (by simp [results, Tryd.results71, go_sem, y0, y1, y2, y3, y4, y5, y6, y7, y8, y9, y10, y11]) rfl ⟨rfl, ?_⟩
  exact ((((((((((((B.out).setCell (p := ⟨R, 0, none⟩) HRw.out _).setCell (p := ⟨R, 1, none⟩) HRw.out _).setCell (p := ⟨R, 2, none⟩) HRw.out _).setCell (p := ⟨R, 3, none⟩) HRw.out _).setCell (p := ⟨R, 4, none⟩) HRw.out _).setCell (p := ⟨R, 5, none⟩) HRw.out _).setCell (p := ⟨R, 6, none⟩) HRw.out _).setCell (p := ⟨R, 7, none⟩) HRw.out _).setCell (p := ⟨R, 8, none⟩) HRw.out _).setCell (p := ⟨R, 9, none⟩) HRw.out _).setCell (p := ⟨R, 10, none⟩) HRw.out _).setCell (p := ⟨R, 11, none⟩) HRw.out _
theorem face_walk (f : Nat) (w : World) (hf : f < 20) : Calls Tryd.prog 101 #[.int .i64 f] w fun e w' => e = .returned (.bool true) ∧ w = w' := by
  have i0 : (0 : Int) ≤ (f : Int) := by omega
  have i1 : (f : Int) < 20 := by omega
  go_enter Tryd.func101, Tryd.ntmps101
  go_wp2
  go_ret
  exact ⟨rfl, rfl⟩
set_option maxHeartbeats 2000000 in
set_option maxRecDepth 100000 in
theorem valid_walk (f : Nat) (a b c : Int) (w : World) (hf : f < 20) (a0 : 0 ≤ a) (a1 : a ≤ 840) (b0 : 0 ≤ b) (b1 : b ≤ 840) (c0 : 0 ≤ c) (c1 : c ≤ 840) :
    Calls Tryd.prog 70 #[.agg #[.int .i64 f, .int .i64 a, .int .i64 b, .int .i64 c]] w fun e w' => e = .returned (.bool (a + b + c == 840)) ∧ Below w.heap.size w w' := by
  have x0 : ∀ w, (Instr.index 110 (.agg #[.int .i64 a, .int .i64 b, .int .i64 c]) (.int .i64 0)).run Tryd.prog w = .ok (.int .i64 a) w := fun _ => by kernel_rfl
  have x1 : ∀ w, (Instr.index 110 (.agg #[.int .i64 a, .int .i64 b, .int .i64 c]) (.int .i64 1)).run Tryd.prog w = .ok (.int .i64 b) w := fun _ => by kernel_rfl
  have x2 : ∀ w, (Instr.index 110 (.agg #[.int .i64 a, .int .i64 b, .int .i64 c]) (.int .i64 2)).run Tryd.prog w = .ok (.int .i64 c) w := fun _ => by kernel_rfl
  go_enter Tryd.func70, Tryd.ntmps70
  go_wp2_with fail
  refine wp_loop_rounds 4 ?_
  rw [rounds_succ]
  go_wp2_with (go_at_call 101; refine (face_walk f _ hf).mono ?_; rintro e w' ⟨rfl, rfl⟩)
  rw [rounds_succ]
  go_wp2_with (go_at_call 101; refine (face_walk f _ hf).mono ?_; rintro e w' ⟨rfl, rfl⟩)
  rw [rounds_succ]
  go_wp2_with (go_at_call 101; refine (face_walk f _ hf).mono ?_; rintro e w' ⟨rfl, rfl⟩)
  rw [rounds_succ]
  go_wp2_with (go_at_call 101; refine (face_walk f _ hf).mono ?_; rintro e w' ⟨rfl, rfl⟩)
  go_ret
  exact ⟨rfl, below_alloc (Below.refl _ _) _⟩

set_option maxHeartbeats 4000000 in
set_option maxRecDepth 100000 in
theorem on_walk (f c0 c1 c2 : Nat) (x : Nat → Int) (w : World) (hf : f < 20) (g0 : w.cell? ⟨0, f * 3, none⟩ = some (.int .i64 c0)) (g1 : w.cell? ⟨0, f * 3 + 1, none⟩ = some (.int .i64 c1)) (g2 : w.cell? ⟨0, f * 3 + 2, none⟩ = some (.int .i64 c2))
    (h0 : c0 < 12) (h1 : c1 < 12) (h2 : c2 < 12) (hx : ∀ i, 0 ≤ x i ∧ x i ≤ 840) :
    Calls Tryd.prog 72 #[.int .i64 f, .agg #[.int .i64 (x 0), .int .i64 (x 1), .int .i64 (x 2), .int .i64 (x 3), .int .i64 (x 4), .int .i64 (x 5), .int .i64 (x 6), .int .i64 (x 7), .int .i64 (x 8), .int .i64 (x 9), .int .i64 (x 10), .int .i64 (x 11)]] w fun e w' => e = .returned (.tuple #[.agg #[.int .i64 f, .int .i64 (x c0), .int .i64 (x c1), .int .i64 (x c2)], .bool (x c0 + x c1 + x c2 == 840)]) ∧ Below w.heap.size w w' := by
  have hz : 0 < w.heap.size := World.block_lt_of_cell? w _ g0
  have i0 : (0 : Int) ≤ (f : Int) := by omega
  have i1 : (f : Int) < 20 := by omega
  have j0 : (c0 : Int) < 12 := by omega
  have j1 : (c1 : Int) < 12 := by omega
  have j2 : (c2 : Int) < 12 := by omega
  have k0 : (0 : Int) ≤ (c0 : Int) := by omega
  have k1 : (0 : Int) ≤ (c1 : Int) := by omega
  have k2 : (0 : Int) ≤ (c2 : Int) := by omega
  have HX := Aside0.mk hx
  clear hx
  go_enter Tryd.func72, Tryd.ntmps72
  go_wp2_with fail
  have hP := blk_alloc (blk_alloc (blk_new w (.cells #[.int .i64 (x 0), .int .i64 (x 1), .int .i64 (x 2), .int .i64 (x 3), .int .i64 (x 4), .int .i64 (x 5), .int .i64 (x 6), .int .i64 (x 7), .int .i64 (x 8), .int .i64 (x 9), .int .i64 (x 10), .int .i64 (x 11)] 106)) (.cells #[.int .i64 0, .int .i64 0, .int .i64 0, .int .i64 0] 85)) (.cells #[.int .i64 c0, .int .i64 c1, .int .i64 c2] 110)
  have hR := blk_alloc (blk_new (w.alloc (.cells #[.int .i64 (x 0), .int .i64 (x 1), .int .i64 (x 2), .int .i64 (x 3), .int .i64 (x 4), .int .i64 (x 5), .int .i64 (x 6), .int .i64 (x 7), .int .i64 (x 8), .int .i64 (x 9), .int .i64 (x 10), .int .i64 (x 11)] 106)) (.cells #[.int .i64 0, .int .i64 0, .int .i64 0, .int .i64 0] 85)) (.cells #[.int .i64 c0, .int .i64 c1, .int .i64 c2] 110)
  have hC := blk_new ((w.alloc (.cells #[.int .i64 (x 0), .int .i64 (x 1), .int .i64 (x 2), .int .i64 (x 3), .int .i64 (x 4), .int .i64 (x 5), .int .i64 (x 6), .int .i64 (x 7), .int .i64 (x 8), .int .i64 (x 9), .int .i64 (x 10), .int .i64 (x 11)] 106)).alloc (.cells #[.int .i64 0, .int .i64 0, .int .i64 0, .int .i64 0] 85)) (.cells #[.int .i64 c0, .int .i64 c1, .int .i64 c2] 110)
  have hB := below_alloc (below_alloc (below_alloc (Below.refl w.heap.size w) (.cells #[.int .i64 (x 0), .int .i64 (x 1), .int .i64 (x 2), .int .i64 (x 3), .int .i64 (x 4), .int .i64 (x 5), .int .i64 (x 6), .int .i64 (x 7), .int .i64 (x 8), .int .i64 (x 9), .int .i64 (x 10), .int .i64 (x 11)] 106)) (.cells #[.int .i64 0, .int .i64 0, .int .i64 0, .int .i64 0] 85)) (.cells #[.int .i64 c0, .int .i64 c1, .int .i64 c2] 110)
  have hS : w.heap.size + 3 ≤ (((w.alloc (.cells #[.int .i64 (x 0), .int .i64 (x 1), .int .i64 (x 2), .int .i64 (x 3), .int .i64 (x 4), .int .i64 (x 5), .int .i64 (x 6), .int .i64 (x 7), .int .i64 (x 8), .int .i64 (x 9), .int .i64 (x 10), .int .i64 (x 11)] 106)).alloc (.cells #[.int .i64 0, .int .i64 0, .int .i64 0, .int .i64 0] 85)).alloc (.cells #[.int .i64 c0, .int .i64 c1, .int .i64 c2] 110)).heap.size := by simp
  simp only [World.size_alloc] at hP hR hC
  generalize (((w.alloc (.cells #[.int .i64 (x 0), .int .i64 (x 1), .int .i64 (x 2), .int .i64 (x 3), .int .i64 (x 4), .int .i64 (x 5), .int .i64 (x 6), .int .i64 (x 7), .int .i64 (x 8), .int .i64 (x 9), .int .i64 (x 10), .int .i64 (x 11)] 106)).alloc (.cells #[.int .i64 0, .int .i64 0, .int .i64 0, .int .i64 0] 85)).alloc (.cells #[.int .i64 c0, .int .i64 c1, .int .i64 c2] 110)) = W at hP hR hC hB hS ⊢
  have p0 : W.cell? ⟨w.heap.size, c0, none⟩ = some (.int .i64 (x c0)) := (blk_cell hP c0).trans (by match c0, h0 with | 0, _ | 1, _ | 2, _ | 3, _ | 4, _ | 5, _ | 6, _ | 7, _ | 8, _ | 9, _ | 10, _ | 11, _ => rfl)
  have p1 : W.cell? ⟨w.heap.size, c1, none⟩ = some (.int .i64 (x c1)) := (blk_cell hP c1).trans (by match c1, h1 with | 0, _ | 1, _ | 2, _ | 3, _ | 4, _ | 5, _ | 6, _ | 7, _ | 8, _ | 9, _ | 10, _ | 11, _ => rfl)
  have p2 : W.cell? ⟨w.heap.size, c2, none⟩ = some (.int .i64 (x c2)) := (blk_cell hP c2).trans (by match c2, h2 with | 0, _ | 1, _ | 2, _ | 3, _ | 4, _ | 5, _ | 6, _ | 7, _ | 8, _ | 9, _ | 10, _ | 11, _ => rfl)
  have q0 := (blk_cell hC 0).trans (show _ = some (Value.int .i64 c0) from rfl)
  have q1 := (blk_cell hC 1).trans (show _ = some (Value.int .i64 c1) from rfl)
  have q2 := (blk_cell hC 2).trans (show _ = some (Value.int .i64 c2) from rfl)
  have HR := Aside0.mk hR
  have HB := Aside0.mk hB
  have HS := Aside0.mk hS
  have HV := Aside0.mk (fun W => valid_walk f (x c0) (x c1) (x c2) W hf (HX.out c0).1 (HX.out c0).2 (HX.out c1).1 (HX.out c1).2 (HX.out c2).1 (HX.out c2).2)
  clear hP hC hR hB hS
  generalize ha_ : x c0 = a at *
  generalize hb_ : x c1 = b at *
  generalize hc_ : x c2 = c at *
  have EA := Aside0.mk (And.intro ha_ (And.intro hb_ hc_))
  clear ha_ hb_ hc_
  go_region_held3 (fun w' => w'.cell? ⟨w.heap.size, c0, none⟩ = some (.int .i64 a) ∧ w'.cell? ⟨w.heap.size, c1, none⟩ = some (.int .i64 b) ∧ w'.cell? ⟨w.heap.size, c2, none⟩ = some (.int .i64 c) ∧ w'.cell? ⟨w.heap.size + 1 + 1, 0, none⟩ = some (.int .i64 c0) ∧ w'.cell? ⟨w.heap.size + 1 + 1, 1, none⟩ = some (.int .i64 c1) ∧ w'.cell? ⟨w.heap.size + 1 + 1, 2, none⟩ = some (.int .i64 c2)) (first | go_keep) (fail)
  go_wp2_with fail
  have D1 := blk_drew (blk_new W (.cells #[.int .i64 f, .int .i64 a, .int .i64 b, .int .i64 c] 85))
  have R1 := blk_drew (blk_alloc HR.out (.cells #[.int .i64 f, .int .i64 a, .int .i64 b, .int .i64 c] 85))
  have B1 := below_drew (below_alloc HB.out (.cells #[.int .i64 f, .int .i64 a, .int .i64 b, .int .i64 c] 85))
  have S1 : W.heap.size + 1 ≤ (W.alloc (.cells #[.int .i64 f, .int .i64 a, .int .i64 b, .int .i64 c] 85)).drew.heap.size := by simp
  have e0 := HS.out
  clear p0 p1 p2 q0 q1 q2 HR HB HS
  generalize (W.alloc (.cells #[.int .i64 f, .int .i64 a, .int .i64 b, .int .i64 c] 85)).drew = V at *
  generalize W.heap.size = D at *
  have d0 := (blk_cell D1 0).trans (show _ = some (Value.int .i64 f) from rfl)
  have d1 := (blk_cell D1 1).trans (show _ = some (Value.int .i64 a) from rfl)
  have d2 := (blk_cell D1 2).trans (show _ = some (Value.int .i64 b) from rfl)
  have d3 := (blk_cell D1 3).trans (show _ = some (Value.int .i64 c) from rfl)
  have DD := Aside0.mk D1
  have RR := Aside0.mk R1
  have BB := Aside0.mk B1
  have e1 : ¬ (w.heap.size + 1 = D) := by omega
  have e2 : ¬ (D = w.heap.size + 1) := by omega
  clear D1 R1 B1
  go_region_held3 (fun w' => w'.cell? ⟨D, 0, none⟩ = some (.int .i64 f) ∧ w'.cell? ⟨D, 1, none⟩ = some (.int .i64 a) ∧ w'.cell? ⟨D, 2, none⟩ = some (.int .i64 b) ∧ w'.cell? ⟨D, 3, none⟩ = some (.int .i64 c))
    (first | go_keep | exact ⟨m0, m1, m2, m3⟩)
    (first | (go_at_call 70; refine (HV.out _).mono ?_; rintro e w1 ⟨rfl, hb⟩; have hb1 := bundrew hb; have m0 : w1.cell? ⟨D, 0, none⟩ = some (.int .i64 f) := ((bcell hb1).1 D 0 (blk_lt DD.out)).trans d0; have m1 : w1.cell? ⟨D, 1, none⟩ = some (.int .i64 a) := ((bcell hb1).1 D 1 (blk_lt DD.out)).trans d1; have m2 : w1.cell? ⟨D, 2, none⟩ = some (.int .i64 b) := ((bcell hb1).1 D 2 (blk_lt DD.out)).trans d2; have m3 : w1.cell? ⟨D, 3, none⟩ = some (.int .i64 c) := ((bcell hb1).1 D 3 (blk_lt DD.out)).trans d3; have rr := blk_below RR.out hb1; have n0 := (blk_cell rr 0).trans (show _ = some (Value.int .i64 0) from rfl); have n1 := (blk_cell rr 1).trans (show _ = some (Value.int .i64 0) from rfl); have n2 := (blk_cell rr 2).trans (show _ = some (Value.int .i64 0) from rfl); have n3 := (blk_cell rr 3).trans (show _ = some (Value.int .i64 0) from rfl); have o0 := blk_frozen rr 0; have o1 := blk_frozen rr 1; have o2 := blk_frozen rr 2; have o3 := blk_frozen rr 3; have BX := Aside0.mk ((bthen (BB.out.mono (Nat.le_refl _)) (hb1.mono (Nat.le_refl _)))); clear rr hb hb1))
  go_wp2
  refine bodyPost_ret (v := .tuple #[.agg #[.int .i64 f, .int .i64 a, .int .i64 b, .int .i64 c], .bool (a + b + c == 840)]) (by simp [results, Tryd.results72, go_sem, n0, n1, n2, n3]) rfl ⟨by rw [EA.out.1, EA.out.2.1, EA.out.2.2], ?_⟩
  have hR : w.heap.size ≤ w.heap.size + 1 := by omega
  exact ((((BX.out.setCell (p := ⟨w.heap.size + 1, 0, none⟩) hR _).setCell (p := ⟨w.heap.size + 1, 1, none⟩) hR _).setCell (p := ⟨w.heap.size + 1, 2, none⟩) hR _).setCell (p := ⟨w.heap.size + 1, 3, none⟩) hR _)
end Go.Proofs.YtdagdoiedibpgaaDoor.Prt
namespace Go.Proofs.YtdagdoiedibpgaaDoor.Prt
set_option linter.unusedVariables false
set_option linter.unusedSimpArgs false
open Go.RowKit Go.Proofs.YtdagdoiedibpgaaDoorW.PrintWords Go.Proofs.YtdagdoiedibpgaaDoorW.PrintLast Go.Proofs.YtdagdoiedibpgaaDoorW.PrintMore

/-- The first face from n on that has all the weights. -/
def firstOn (x : Nat → Int) : Nat → Nat → Option Nat
  | 0, _ => none
  | d + 1, n => if (x (crn n 0) + x (crn n 1) + x (crn n 2) == 840) = true then some n else firstOn x d (n + 1)
/-- The weights of a place. -/
def wof (f : Nat) (a b c : Int) : Nat → Int := wgt (crn f 0) (crn f 1) (crn f 2) a b c
/-- The normal place. -/
def norm (f : Nat) (a b c : Int) : Nat × Int × Int × Int :=
  match firstOn (wof f a b c) 20 0 with
  | some n => (n, wof f a b c (crn n 0), wof f a b c (crn n 1), wof f a b c (crn n 2))
  | none => (f, a, b, c)
theorem wof_range (f : Nat) (a b c : Int) (a0 : 0 ≤ a) (a1 : a ≤ 840) (b0 : 0 ≤ b) (b1 : b ≤ 840) (c0 : 0 ≤ c) (c1 : c ≤ 840) (i : Nat) : 0 ≤ wof f a b c i ∧ wof f a b c i ≤ 840 := by
  unfold wof wgt
  (repeat' split) <;> omega

set_option maxHeartbeats 4000000 in
set_option maxRecDepth 100000 in
theorem normal_core (f : Nat) (a b c : Int) (x : Nat → Int) (w : World) (hG : CornersAt w) (hf : f < 20) (a0 : 0 ≤ a) (a1 : a ≤ 840) (b0 : 0 ≤ b) (b1 : b ≤ 840) (c0 : 0 ≤ c) (c1 : c ≤ 840) (hs : (a + b + c == 840) = true)
    (hw : wof f a b c = x) :
    Calls Tryd.prog 61 #[.agg #[.int .i64 f, .int .i64 a, .int .i64 b, .int .i64 c]] w fun e w' => (∃ (n : Nat) (p q r : Int), e = .returned (.tuple #[.agg #[.int .i64 n, .int .i64 p, .int .i64 q, .int .i64 r], .int .i64 0]) ∧ norm f a b c = (n, p, q, r)) ∧ Below w.heap.size w w' := by
  have hx := wof_range f a b c a0 a1 b0 b1 c0 c1
  rw [hw] at hx
  have hof := fun (W : World) (hb : Below w.heap.size w W) => of_walk f (crn f 0) (crn f 1) (crn f 2) a b c W hf ((hG.below hb).crn f 0 hf (by omega)) ((hG.below hb).crn f 1 hf (by omega)) ((hG.below hb).crn f 2 hf (by omega)) (crn_all f hf).1 (crn_all f hf).2.1 (crn_all f hf).2.2.1 (crn_all f hf).2.2.2.1 (crn_all f hf).2.2.2.2.1 (crn_all f hf).2.2.2.2.2
  have hof2 : ∀ (W : World), Below w.heap.size w W → Calls Tryd.prog 71 #[.agg #[.int .i64 f, .int .i64 a, .int .i64 b, .int .i64 c]] W fun e w' => e = .returned (.agg #[.int .i64 (x 0), .int .i64 (x 1), .int .i64 (x 2), .int .i64 (x 3), .int .i64 (x 4), .int .i64 (x 5), .int .i64 (x 6), .int .i64 (x 7), .int .i64 (x 8), .int .i64 (x 9), .int .i64 (x 10), .int .i64 (x 11)]) ∧ Below W.heap.size W w' := by
    intro W hb
    have := hof W hb
    rw [← hw]
    exact this
  have hvl : ∀ W : World, Calls Tryd.prog 70 #[.agg #[.int .i64 f, .int .i64 a, .int .i64 b, .int .i64 c]] W fun e w' => e = .returned (.bool true) ∧ Below W.heap.size W w' := by
    intro W
    have := valid_walk f a b c W hf a0 a1 b0 b1 c0 c1
    rw [hs] at this
    exact this
  have hon := fun (W : World) (hb : Below w.heap.size w W) (n : Nat) (hn : n < 20) => on_walk n (crn n 0) (crn n 1) (crn n 2) x W hn ((hG.below hb).crn n 0 hn (by omega)) ((hG.below hb).crn n 1 hn (by omega)) ((hG.below hb).crn n 2 hn (by omega)) (crn_all n hn).1 (crn_all n hn).2.1 (crn_all n hn).2.2.1 hx
  have HOF := Aside0.mk hof2
  have HVL := Aside0.mk hvl
  have HON := Aside0.mk hon
  have HW := Aside0.mk hw
  have HS := Aside0.mk hs
  clear hof hof2 hvl hon hw hx hG
  go_enter Tryd.func61, Tryd.ntmps61
  go_wp2_with fail
  have P0 := blk_alloc (blk_new w (.cells #[.int .i64 f, .int .i64 a, .int .i64 b, .int .i64 c] 85)) (.cells #[.int .i64 0, .int .i64 0, .int .i64 0, .int .i64 0] 85)
  have R0 := blk_new (w.alloc (.cells #[.int .i64 f, .int .i64 a, .int .i64 b, .int .i64 c] 85)) (.cells #[.int .i64 0, .int .i64 0, .int .i64 0, .int .i64 0] 85)
  have B0 := below_alloc (below_alloc (Below.refl w.heap.size w) (.cells #[.int .i64 f, .int .i64 a, .int .i64 b, .int .i64 c] 85)) (.cells #[.int .i64 0, .int .i64 0, .int .i64 0, .int .i64 0] 85)
  have S0 : w.heap.size + 2 ≤ ((w.alloc (.cells #[.int .i64 f, .int .i64 a, .int .i64 b, .int .i64 c] 85)).alloc (.cells #[.int .i64 0, .int .i64 0, .int .i64 0, .int .i64 0] 85)).heap.size := by simp
  simp only [World.size_alloc] at P0 R0
  refine (HVL.out _).mono ?_
  rintro e w1 ⟨rfl, hb1⟩
  replace P0 := blk_below P0 hb1
  replace R0 := blk_below R0 hb1
  replace B0 := bthen B0 hb1
  replace S0 := Nat.le_trans S0 hb1.size
  clear hb1
  have P0c0 := (blk_cell P0 0).trans (show _ = some (Value.int .i64 f) from rfl)
  have P0c1 := (blk_cell P0 1).trans (show _ = some (Value.int .i64 a) from rfl)
  have P0c2 := (blk_cell P0 2).trans (show _ = some (Value.int .i64 b) from rfl)
  have P0c3 := (blk_cell P0 3).trans (show _ = some (Value.int .i64 c) from rfl)
  have PP := Aside0.mk P0
  have RR := Aside0.mk R0
  have BB := Aside0.mk B0
  have SS := Aside0.mk S0
  clear P0 R0 B0 S0
  go_wp2_with fail
  refine (HOF.out _ BB.out).mono ?_
  rintro e w2 ⟨rfl, hb2⟩
  have P1 := Aside0.mk (blk_alloc (blk_below PP.out hb2) (.cells #[.int .i64 (x 0), .int .i64 (x 1), .int .i64 (x 2), .int .i64 (x 3), .int .i64 (x 4), .int .i64 (x 5), .int .i64 (x 6), .int .i64 (x 7), .int .i64 (x 8), .int .i64 (x 9), .int .i64 (x 10), .int .i64 (x 11)] 106))
  have R1 := Aside0.mk (blk_alloc (blk_below RR.out hb2) (.cells #[.int .i64 (x 0), .int .i64 (x 1), .int .i64 (x 2), .int .i64 (x 3), .int .i64 (x 4), .int .i64 (x 5), .int .i64 (x 6), .int .i64 (x 7), .int .i64 (x 8), .int .i64 (x 9), .int .i64 (x 10), .int .i64 (x 11)] 106))
  have X1 := Aside0.mk (blk_new w2 (.cells #[.int .i64 (x 0), .int .i64 (x 1), .int .i64 (x 2), .int .i64 (x 3), .int .i64 (x 4), .int .i64 (x 5), .int .i64 (x 6), .int .i64 (x 7), .int .i64 (x 8), .int .i64 (x 9), .int .i64 (x 10), .int .i64 (x 11)] 106))
  have B1 := Aside0.mk (below_alloc (bthen BB.out hb2) (.cells #[.int .i64 (x 0), .int .i64 (x 1), .int .i64 (x 2), .int .i64 (x 3), .int .i64 (x 4), .int .i64 (x 5), .int .i64 (x 6), .int .i64 (x 7), .int .i64 (x 8), .int .i64 (x 9), .int .i64 (x 10), .int .i64 (x 11)] 106))
  have S1 := Aside0.mk (Nat.le_trans SS.out hb2.size)
  clear hb2 PP RR BB SS P0c0 P0c1 P0c2 P0c3
  go_wp2_with fail
  have hXg : w.heap.size + 2 ≤ w2.heap.size := S1.out
  generalize w2.heap.size = X at *
  go_loopw [14] (fun i wr => ∃ k : Nat, i = .int .i64 k ∧ k ≤ 20 ∧ Aside0 (firstOn (wof f a b c) 20 0 = firstOn (wof f a b c) (20 - k) k) ∧ Aside0 (wr.heap[w.heap.size]? = some (.cells #[.int .i64 f, .int .i64 a, .int .i64 b, .int .i64 c] 85 (0, 0))) ∧ Aside0 (wr.heap[w.heap.size + 1]? = some (.cells #[.int .i64 0, .int .i64 0, .int .i64 0, .int .i64 0] 85 (0, 0))) ∧
    Aside0 (wr.heap[X]? = some (.cells #[.int .i64 (x 0), .int .i64 (x 1), .int .i64 (x 2), .int .i64 (x 3), .int .i64 (x 4), .int .i64 (x 5), .int .i64 (x 6), .int .i64 (x 7), .int .i64 (x 8), .int .i64 (x 9), .int .i64 (x 10), .int .i64 (x 11)] 106 (0, 0))) ∧ Aside0 (Below w.heap.size w wr)) (fun i _ => 20 - (intOf i).toNat)
  case atStart => exact ⟨0, rfl, by omega, ⟨rfl⟩, P1, R1, X1, B1⟩
  case round =>
    clear P1 R1 X1 B1 S1
    obtain ⟨k, rfl, hk, HF, P1, R1, X1, B1⟩ := hrel
    by_cases hlt : k < 20
    · have k1 : (k : Int) < 20 := by omega
      have x0_ := (blk_cell X1.out 0).trans (show _ = some (Value.int .i64 (x 0)) from rfl)
      have x1_ := (blk_cell X1.out 1).trans (show _ = some (Value.int .i64 (x 1)) from rfl)
      have x2_ := (blk_cell X1.out 2).trans (show _ = some (Value.int .i64 (x 2)) from rfl)
      have x3_ := (blk_cell X1.out 3).trans (show _ = some (Value.int .i64 (x 3)) from rfl)
      have x4_ := (blk_cell X1.out 4).trans (show _ = some (Value.int .i64 (x 4)) from rfl)
      have x5_ := (blk_cell X1.out 5).trans (show _ = some (Value.int .i64 (x 5)) from rfl)
      have x6_ := (blk_cell X1.out 6).trans (show _ = some (Value.int .i64 (x 6)) from rfl)
      have x7_ := (blk_cell X1.out 7).trans (show _ = some (Value.int .i64 (x 7)) from rfl)
      have x8_ := (blk_cell X1.out 8).trans (show _ = some (Value.int .i64 (x 8)) from rfl)
      have x9_ := (blk_cell X1.out 9).trans (show _ = some (Value.int .i64 (x 9)) from rfl)
      have x10_ := (blk_cell X1.out 10).trans (show _ = some (Value.int .i64 (x 10)) from rfl)
      have x11_ := (blk_cell X1.out 11).trans (show _ = some (Value.int .i64 (x 11)) from rfl)
      go_wp2_with fail
      refine (HON.out _ B1.out k hlt).mono ?_
      rintro e w3 ⟨rfl, hb3⟩
      have P3 := Aside0.mk (blk_below P1.out hb3)
      have R3 := Aside0.mk (blk_below R1.out hb3)
      have X3 := Aside0.mk (blk_below X1.out hb3)
      have B3 := Aside0.mk (bthen B1.out hb3)
      clear hb3 P1 R1 X1 B1 x0_ x1_ x2_ x3_ x4_ x5_ x6_ x7_ x8_ x9_ x10_ x11_
      have hstep : firstOn (wof f a b c) (20 - k) k = if (x (crn k 0) + x (crn k 1) + x (crn k 2) == 840) = true then some k else firstOn (wof f a b c) (20 - (k + 1)) (k + 1) := by
        rw [show 20 - k = (20 - (k + 1)) + 1 by omega, firstOn, HW.out]
      have HT := Aside0.mk hstep
      clear hstep
      have EP := Aside0.mk (And.intro (congrFun HW.out (crn k 0)) (And.intro (congrFun HW.out (crn k 1)) (congrFun HW.out (crn k 2))))
      generalize x (crn k 0) = p at *
      generalize x (crn k 1) = q at *
      generalize x (crn k 2) = r at *
      by_cases hok : (p + q + r == 840) = true
      · have hnot : (p + q + r == 840) = true := hok
        have rc0 := (blk_cell R3.out 0).trans (show _ = some (Value.int .i64 0) from rfl)
        have rc1 := (blk_cell R3.out 1).trans (show _ = some (Value.int .i64 0) from rfl)
        have rc2 := (blk_cell R3.out 2).trans (show _ = some (Value.int .i64 0) from rfl)
        have rc3 := (blk_cell R3.out 3).trans (show _ = some (Value.int .i64 0) from rfl)
        have rf0 := blk_frozen R3.out 0
        have rf1 := blk_frozen R3.out 1
        have rf2 := blk_frozen R3.out 2
        have rf3 := blk_frozen R3.out 3
        have hRlt := blk_lt R3.out
        clear hok
        rw [hnot]
        go_wp2_with fail
        refine bodyPost_ret (v := .tuple #[.agg #[.int .i64 k, .int .i64 p, .int .i64 q, .int .i64 r], .int .i64 0]) (by simp [results, Tryd.results61, go_sem, rc0, rc1, rc2, rc3, hRlt]) rfl ⟨⟨k, p, q, r, rfl, ?_⟩, ?_⟩
        · unfold norm
          rw [HF.out, HT.out, if_pos hnot]
          simp only [EP.out.1, EP.out.2.1, EP.out.2.2]
        · have hR : w.heap.size ≤ w.heap.size + 1 := by omega
          exact below_alloc ((((B3.out.setCell (p := ⟨w.heap.size + 1, 0, none⟩) hR _).setCell (p := ⟨w.heap.size + 1, 1, none⟩) hR _).setCell (p := ⟨w.heap.size + 1, 2, none⟩) hR _).setCell (p := ⟨w.heap.size + 1, 3, none⟩) hR _) _
      · have hnot : (p + q + r == 840) = false := by simpa using hok
        clear hok
        rw [hnot]
        go_wp2_with fail
        go_roundw
        case rel => exact ⟨k + 1, by go_num, by omega, ⟨HF.out.trans (HT.out.trans (if_neg (by rw [hnot]; simp)))⟩, ⟨blk_alloc P3.out _⟩, ⟨blk_alloc R3.out _⟩, ⟨blk_alloc X3.out _⟩, ⟨below_alloc B3.out _⟩⟩
        case measure => simp [intOf]; omega
    · have hk2 : k = 20 := by omega
      have HF2 := HF.out
      rw [hk2] at HF2
      have HF3 := Aside0.mk HF2
      clear HF2 hk2
      have k1 : ¬ (k : Int) < 20 := by omega
      have pc0 := (blk_cell P1.out 0).trans (show _ = some (Value.int .i64 f) from rfl)
      have pc1 := (blk_cell P1.out 1).trans (show _ = some (Value.int .i64 a) from rfl)
      have pc2 := (blk_cell P1.out 2).trans (show _ = some (Value.int .i64 b) from rfl)
      have pc3 := (blk_cell P1.out 3).trans (show _ = some (Value.int .i64 c) from rfl)
      have rc0 := (blk_cell R1.out 0).trans (show _ = some (Value.int .i64 0) from rfl)
      have rc1 := (blk_cell R1.out 1).trans (show _ = some (Value.int .i64 0) from rfl)
      have rc2 := (blk_cell R1.out 2).trans (show _ = some (Value.int .i64 0) from rfl)
      have rc3 := (blk_cell R1.out 3).trans (show _ = some (Value.int .i64 0) from rfl)
      have rf0 := blk_frozen R1.out 0
      have rf1 := blk_frozen R1.out 1
      have rf2 := blk_frozen R1.out 2
      have rf3 := blk_frozen R1.out 3
      go_wp2_with fail
      refine bodyPost_ret (v := .tuple #[.agg #[.int .i64 f, .int .i64 a, .int .i64 b, .int .i64 c], .int .i64 0]) (by simp [results, Tryd.results61, go_sem, rc0, rc1, rc2, rc3]) rfl ⟨⟨f, a, b, c, rfl, ?_⟩, ?_⟩
      · unfold norm
        rw [HF3.out]
        rfl
      · have hR : w.heap.size ≤ w.heap.size + 1 := by omega
        exact ((((B1.out.setCell (p := ⟨w.heap.size + 1, 0, none⟩) hR _).setCell (p := ⟨w.heap.size + 1, 1, none⟩) hR _).setCell (p := ⟨w.heap.size + 1, 2, none⟩) hR _).setCell (p := ⟨w.heap.size + 1, 3, none⟩) hR _)
end Go.Proofs.YtdagdoiedibpgaaDoor.Prt
namespace Go.Proofs.YtdagdoiedibpgaaDoor.Prt
set_option linter.unusedVariables false
set_option linter.unusedSimpArgs false
open Go.RowKit Go.Maps Go.Proofs.YtdagdoiedibpgaaDoorW.PrintWords Go.Proofs.YtdagdoiedibpgaaDoorW.PrintLast Go.Proofs.YtdagdoiedibpgaaDoorW.PrintMore

/-- A place: its face and its coordinates. -/
abbrev Plc := Nat × Int × Int × Int
/-- As it stands in memory. -/
def plV (p : Plc) : Value := .agg #[.int .i64 p.1, .int .i64 p.2.1, .int .i64 p.2.2.1, .int .i64 p.2.2.2]
theorem laidOut_ : laidOutB Tryd.prog = true := by kernel_rfl
theorem row85 : (85 : TypeId) < Tryd.prog.types.size := of_decide_eq_true (by kernel_rfl)
theorem wide85 : (match Tryd.prog.underlying 85 with | some (.array _ _) | some (.struct _) => true | _ => false) = true := by kernel_rfl
theorem kta85 : Tryd.prog.keyTypeAt 2 85 = true := by kernel_rfl
set_option maxRecDepth 1000000 in
theorem plcLaw : WideMaps.KeyLaw Tryd.prog 85 := deep_law_laid laidOut_ (m := 2) (by omega) row85 kta85 wide85
theorem kt85 : Tryd.prog.keyType 85 = true := by kernel_rfl
theorem plcKeyed : Keyed Tryd.prog 85 := Keyed.of_law plcLaw
/-- Are the coordinates numbers of 64 bits? -/
def plOK (p : Plc) : Prop := (Lit.int .i64 p.1).wf = true ∧ (Lit.int .i64 p.2.1).wf = true ∧ (Lit.int .i64 p.2.2.1).wf = true ∧ (Lit.int .i64 p.2.2.2).wf = true
theorem types_size : Tryd.prog.types.size + 1 = 2 + (Tryd.prog.types.size - 1) := by have h : (85 : Nat) < Tryd.prog.types.size := row85; omega
theorem key_ex (p : Plc) (h : plOK p) : ∃ kl, keyOf Tryd.prog 85 (plV p) = some kl := by
  obtain ⟨h1, h2, h3, h4⟩ := h
  unfold keyOf
  rw [types_size]
  generalize Tryd.prog.types.size - 1 = m
  have c3 : Tryd.prog.cellsOf 3 = 1 := by kernel_rfl
  have c85 : Tryd.prog.cellsOf 85 = 4 := by kernel_rfl
  simp [plV, Tryd.underlying85, Value.formed, Program.keyLits, c3, c85, Value.cells, Nat.add_comm 2 m, kt85, Tryd.underlying3, h1, h2, h3, h4]
theorem plOK.wf0 {p : Plc} (h : plOK p) : (Lit.int .i64 p.1).wf = true := h.1
/-- A place's key. -/
@[irreducible] noncomputable def pkey (p : Plc) : Lit := (keyOf Tryd.prog 85 (plV p)).getD (.bool false)
theorem pkey_eq {p : Plc} (h : plOK p) : keyOf Tryd.prog 85 (plV p) = some (pkey p) := by
  obtain ⟨kl, hk⟩ := key_ex p h
  unfold pkey
  generalize keyOf Tryd.prog 85 (plV p) = o at hk ⊢
  subst hk
  rfl
theorem plV_inj {p q : Plc} (h : plV p = plV q) : p = q := by
  obtain ⟨a, b, c, d⟩ := p
  obtain ⟨a', b', c', d'⟩ := q
  simp [plV] at h
  obtain ⟨h1, h2, h3, h4⟩ := h
  have : a = a' := by omega
  subst this h2 h3 h4
  rfl
theorem pkey_inj {p q : Plc} (hp : plOK p) (hq : plOK q) (h : pkey p = pkey q) : p = q := by
  have h1 := pkey_eq hp
  have h2 := pkey_eq hq
  rw [← h] at h2
  exact plV_inj (plcKeyed.inj h1 h2)
theorem snoc_ind {α : Type} {M : List α → Prop} (h0 : M []) (h1 : ∀ xs x, M xs → M (xs ++ [x])) (xs : List α) : M xs := by
  have : ∀ n (xs : List α), xs.length = n → M xs := by
    intro n
    induction n with
    | zero => intro xs h; rw [List.length_eq_zero_iff.1 h]; exact h0
    | succ n ih =>
      intro xs h
      have hne : xs ≠ [] := by intro e; subst e; simp at h
      rw [← List.dropLast_concat_getLast hne]
      exact h1 _ _ (ih _ (by simp; omega))
  exact this _ xs rfl
def idxGo : List Plc → Nat → Nat → Plc → Nat
  | [], _, acc, _ => acc
  | p :: l, i, acc, q => idxGo l (i + 1) (if p = q then i else acc) q
/-- The last place of q in a list; 0 if it isn't there. -/
def idxF (xs : List Plc) (q : Plc) : Nat := idxGo xs 0 0 q
noncomputable def dGo : List Plc → Nat → DataW Unit → DataW Unit
  | [], _, D => D
  | p :: l, i, D => dGo l (i + 1) (D.put (pkey p) (.lit (.int .i64 i)))
/-- The map from places to their numbers. -/
noncomputable def mapD (xs : List Plc) : DataW Unit := dGo xs 0 (.map [])
theorem idxGo_snoc (p q : Plc) : ∀ (l : List Plc) (i acc : Nat), idxGo (l ++ [p]) i acc q = if p = q then i + l.length else idxGo l i acc q
  | [], i, acc => by simp [idxGo]
  | x :: l, i, acc => by
    simp only [List.cons_append, idxGo]
    rw [idxGo_snoc p q l (i + 1)]
    simp only [List.length_cons]
    split
    · omega
    · rfl
theorem dGo_snoc (p : Plc) : ∀ (l : List Plc) (i : Nat) (D : DataW Unit), dGo (l ++ [p]) i D = (dGo l i D).put (pkey p) (.lit (.int .i64 ((i + l.length : Nat) : Int)))
  | [], i, D => by simp [dGo]
  | x :: l, i, D => by
    simp only [List.cons_append, dGo]
    rw [dGo_snoc p l (i + 1)]
    simp only [List.length_cons]
    rw [show i + 1 + l.length = i + (l.length + 1) by omega]
theorem idxF_snoc (xs : List Plc) (p q : Plc) : idxF (xs ++ [p]) q = if p = q then xs.length else idxF xs q := by
  unfold idxF
  rw [idxGo_snoc, Nat.zero_add]
theorem mapD_snoc (xs : List Plc) (p : Plc) : mapD (xs ++ [p]) = (mapD xs).put (pkey p) (.lit (.int .i64 (xs.length : Int))) := by
  unfold mapD
  rw [dGo_snoc, Nat.zero_add]
theorem mapD_isMap (xs : List Plc) : IsMap (mapD xs) := by
  induction xs using snoc_ind with
  | h0 => exact isMap_empty
  | h1 xs p ih => rw [mapD_snoc]; exact ih.put _ _
theorem mapD_at (xs : List Plc) (q : Plc) (hx : ∀ p ∈ xs, plOK p) (hq : plOK q) : (mapD xs).atKey (pkey q) (.lit (.int .i64 0)) = .lit (.int .i64 (idxF xs q : Int)) := by
  induction xs using snoc_ind with
  | h0 => rfl
  | h1 xs p ih =>
    have hp := hx p (by simp)
    rw [mapD_snoc, idxF_snoc]
    by_cases e : p = q
    · subst e
      rw [if_pos rfl, atKey_put_same (mapD_isMap xs) (plcKeyed.key (pkey_eq hp))]
    · rw [if_neg e, atKey_put_other (show pkey q ≠ pkey p from fun h => e (pkey_inj hp hq h.symm))]
      exact ih (fun p hp => hx p (by simp [hp]))
end Go.Proofs.YtdagdoiedibpgaaDoor.Prt
namespace Go.Proofs.YtdagdoiedibpgaaDoor.Prt
set_option linter.unusedVariables false
set_option linter.unusedSimpArgs false
open Go.RowKit Go.Maps Go.Proofs.YtdagdoiedibpgaaDoorW.PrintWords Go.Proofs.YtdagdoiedibpgaaDoorW.PrintLast Go.Proofs.YtdagdoiedibpgaaDoorW.PrintMore

/-- A place's cells. -/
def plC (p : Plc) : List Value := [.int .i64 p.1, .int .i64 p.2.1, .int .i64 p.2.2.1, .int .i64 p.2.2.2]
/-- The net, its nodes xs so far. -/
structure PtsInv (g B : Nat) (n h : Int) (xs : List Plc) (v : Value) (w0 wr : World) : Prop where
  blk : wr.heap[g]? = some (.cells #[.int .i64 n, .int .i64 h, v, .map (some B), .slice none 0 0, .slice none 0 0, .slice none 0 0] 80 (0, 0))
  own : wr.ownsRow w0.heap.size 85 4 v xs.length (xs.flatMap plC)
  map : wr.ownsMap Tryd.prog 85 (plainElem Tryd.prog 3) B xs.length (mapD xs)
  bel : Below w0.heap.size w0 wr
  ok : ∀ p ∈ xs, plOK p
  hg : w0.heap.size ≤ g
  hB : w0.heap.size ≤ B
/-- The place at a, b of a face. -/
def plAt (n h f a b : Nat) : Plc := (f, (a * h : Nat), (b * h : Nat), ((n - a - b) * h : Nat))
/-- Is a place its own normal place? -/
def isN (p : Plc) : Bool := decide (norm p.1 p.2.1 p.2.2.1 p.2.2.2 = p)
def rowL (n h f a : Nat) : List Plc := (List.range (n + 1 - a)).map (plAt n h f a)
def faceL (n h f : Nat) : List Plc := (List.range (n + 1)).flatMap (rowL n h f)
/-- The nodes ahead of face f, row a, number b. -/
def nodesTo (n h f a b : Nat) : List Plc := ((List.range f).flatMap (faceL n h) ++ (List.range a).flatMap (rowL n h f) ++ (rowL n h f a).take b).filter isN

theorem rowL_len (n h f a : Nat) : (rowL n h f a).length = n + 1 - a := by simp [rowL]
theorem nodesTo_succ (n h f a b : Nat) (hb : a + b ≤ n) : nodesTo n h f a (b + 1) = nodesTo n h f a b ++ (if isN (plAt n h f a b) then [plAt n h f a b] else []) := by
  unfold nodesTo
  have hl : b < (rowL n h f a).length := by rw [rowL_len]; omega
  rw [List.take_succ_eq_append_getElem hl, ← List.append_assoc, List.filter_append]
  congr 1
  have e : (rowL n h f a)[b] = plAt n h f a b := by simp [rowL]
  rw [e]
  cases hb : isN (plAt n h f a b) <;> simp [hb]
theorem nodesTo_row (n h f a b : Nat) (ha : a ≤ n) (hb : a + b = n + 1) : nodesTo n h f a b = nodesTo n h f (a + 1) 0 := by
  unfold nodesTo
  rw [List.take_of_length_le (by rw [rowL_len]; omega), List.range_succ, List.flatMap_append]
  simp
theorem nodesTo_face (n h f : Nat) : nodesTo n h f (n + 1) 0 = nodesTo n h (f + 1) 0 0 := by
  unfold nodesTo
  rw [List.range_succ (n := f), List.flatMap_append]
  simp [faceL]
theorem flat_len {α : Type} (F : Nat → List α) (c : Nat) (hF : ∀ i, (F i).length ≤ c) : ∀ m, ((List.range m).flatMap F).length ≤ m * c
  | 0 => by simp
  | m + 1 => by
    rw [List.range_succ, List.flatMap_append, List.length_append]
    have := flat_len F c hF m
    have h2 := hF m
    simp only [List.flatMap_cons, List.flatMap_nil, List.append_nil]
    rw [Nat.add_mul]
    omega
theorem nodesTo_len (n h f a b : Nat) (hn : n ≤ 8) (hf : f ≤ 20) (ha : a ≤ 9) : (nodesTo n h f a b).length ≤ 100000 := by
  unfold nodesTo
  refine Nat.le_trans (List.length_filter_le _ _) ?_
  rw [List.length_append, List.length_append]
  have h1 : ∀ f a, (rowL n h f a).length ≤ 9 := fun f a => by rw [rowL_len]; omega
  have h2 : ∀ f, (faceL n h f).length ≤ 81 := fun f => by
    have := flat_len (rowL n h f) 9 (h1 f) (n + 1)
    unfold faceL
    omega
  have h3 := flat_len (faceL n h) 81 h2 f
  have h4 := flat_len (rowL n h f) 9 (h1 f) a
  have h5 : ((rowL n h f a).take b).length ≤ 9 := Nat.le_trans (by rw [List.length_take]; exact Nat.min_le_right _ _) (h1 f a)
  omega
theorem PtsInv.grown {g B : Nat} {n h : Int} {xs : List Plc} {v : Value} {w0 wr wr' : World} (H : PtsInv g B n h xs v w0 wr) (hg : wr.grownBy wr' none) : PtsInv g B n h xs v w0 wr' :=
  ⟨blk_grown H.blk hg (by simp), H.own.kept hg (by cases hv : v.ownBlock <;> simp), H.map.kept hg (by simp), H.bel.grown hg H.bel.size (by simp), H.ok, H.hg, H.hB⟩
theorem PtsInv.alloc {g B : Nat} {n h : Int} {xs : List Plc} {v : Value} {w0 wr : World} (H : PtsInv g B n h xs v w0 wr) (o : Obj) : PtsInv g B n h xs v w0 (wr.alloc o) := H.grown (gbA (gbR _ _) o)
theorem PtsInv.drew {g B : Nat} {n h : Int} {xs : List Plc} {v : Value} {w0 wr : World} (H : PtsInv g B n h xs v w0 wr) : PtsInv g B n h xs v w0 wr.drew := H.grown (gbD (gbR _ _))
theorem step_mapUpdate_own {H : Type} {P : Program} {w : World} {ops : Array Oper} {o : Oper} {a : Act} {K : Act → World → Prop} {Q : Exit → Act → World → Prop} {E : Prop}
    (hg : o.guard = none) (m x v : Operand) (t : TypeId) (hop : o.op = Op.mapUpdate t m x v)
    (k e : TypeId) (Kk : Keyed P k) (ht : P.underlying t = some (.map k e)) (R : Value → Option (DataW H × List MemPlace)) (b n : Nat) (D : DataW H)
    (hm : a.eval m = .map (some b)) (hown : w.ownsMap P k R b n D) (hn : n < maxLen) (key val : Value) (kl : Lit) (hx : a.eval x = key) (hv : a.eval v = val) (hkey : keyOf P k key = some kl)
    (d : DataW H) (ps : List MemPlace) (hval : R val = some (d, ps))
    (hK : ∀ w', w'.ownsMap P k R b (n + 1) (D.put kl d) → w.grownBy w' (some b) → K (a.put o.dst undef) w') :
    if Region.wanted o (yielded ops a.tmps) = true then Oper.wp P o a w K Q else E := by
  have hw : Region.wanted o (yielded ops a.tmps) = true := by simp [Region.wanted, hg]
  rw [if_pos hw]
  obtain ⟨w', hrun, r1, r2⟩ := hown.update Kk ht hn hkey hval
  unfold Oper.wp
  simp [execOp, hop, hm, hx, hv, hrun, Result.andThen]
  exact hK w' r1 r2
theorem eqA85 (d : Nat) (w : World) (x0 y0 x1 y1 x2 y2 x3 y3 : Int) :
    (Op.equalIn (d + 2) 85 (.agg #[.int .i64 x0, .int .i64 x1, .int .i64 x2, .int .i64 x3]) (.agg #[.int .i64 y0, .int .i64 y1, .int .i64 y2, .int .i64 y3])).run Tryd.prog w = .ok (x0 == y0 && (x1 == y1 && (x2 == y2 && (x3 == y3)))) w := by
  refine eqA_of Tryd.underlying85 (by kernel_rfl) ?_
  refine eqf_cons (by rfl) (by go_simp; rfl) (by go_simp; rfl) (by go_simp) ?_
  refine eqf_cons (by rfl) (by go_simp; rfl) (by go_simp; rfl) (by go_simp) ?_
  refine eqf_cons (by rfl) (by go_simp; rfl) (by go_simp; rfl) (by go_simp) ?_
  exact eqf_last (by rfl) (by go_simp; rfl) (by go_simp; rfl) (by go_simp)

theorem own_shape {w : World} {base : Nat} {e : TypeId} {size n : Nat} {v : Value} {xs : List Value} (h : w.ownsRow base e size v n xs) : ∃ A c, v = .slice A n c := by
  rcases h.2 with ⟨rfl, h0⟩ | ⟨g, cap, cur, rfl, _⟩
  · exact ⟨none, 0, by rw [h0]⟩
  · exact ⟨_, _, rfl⟩
theorem info85 : (Tryd.prog.info? 85).map (fun i => (i.zero, i.size, i.bytes)) = some (some (.agg #[.int .i64 0, .int .i64 0, .int .i64 0, .int .i64 0]), 4, 32) := by kernel_rfl
theorem plOK_mk (q a b c : Nat) (h0 : q < 20) (h1 : (a : Int) ≤ 840) (h2 : (b : Int) ≤ 840) (h3 : (c : Int) ≤ 840) : plOK (q, (a : Int), (b : Int), (c : Int)) := by
  refine ⟨WalkArith.wf_i64 ?_, WalkArith.wf_i64 ?_, WalkArith.wf_i64 ?_, WalkArith.wf_i64 ?_⟩ <;> (try dsimp only) <;> omega
theorem own_ne_map {H : Type} {P : Program} {w : World} {base : Nat} {e k : TypeId} {size n m b : Nat} {v : Value} {xs : List Value} {R : Value → Option (DataW H × List MemPlace)} {D : DataW H} (h : w.ownsRow base e size v n xs) (hm : w.ownsMap P k R b m D) : v.ownBlock ≠ some b := by
  intro hv
  obtain ⟨cells, hc⟩ := own_typed h b hv
  obtain ⟨es, clock, hb, _⟩ := hm
  rw [hc] at hb
  cases hb
theorem blk_ne_map {H : Type} {P : Program} {w : World} {k t : TypeId} {g m b : Nat} {cs : Array Value} {R : Value → Option (DataW H × List MemPlace)} {D : DataW H} (h : w.heap[g]? = some (.cells cs t (0, 0))) (hm : w.ownsMap P k R b m D) : g ≠ b := by
  intro hv
  subst hv
  obtain ⟨es, clock, hb, _⟩ := hm
  rw [h] at hb
  cases hb
theorem own_ne_blk {w : World} {base : Nat} {e t : TypeId} {size n g : Nat} {v : Value} {xs : List Value} {cs : Array Value} (h : w.ownsRow base e size v n xs) (hg : w.heap[g]? = some (.cells cs t (0, 0))) (ht : e ≠ t) : v.ownBlock ≠ some g := by
  intro hv
  obtain ⟨cells, hc⟩ := own_typed h g hv
  rw [hc] at hg
  cases hg
  exact ht rfl
/-- A round that adds a node. -/
theorem PtsInv.step {g B : Nat} {n h : Int} {xs : List Plc} {A : Option Addr} {cp gg cap : Nat} {w0 W4 W5 : World} {o : Obj} {p : Plc}
    (hblk : W5.heap[g]? = some (.cells #[.int .i64 n, .int .i64 h, .slice A xs.length cp, .map (some B), .slice none 0 0, .slice none 0 0, .slice none 0 0] 80 (0, 0)))
    (hmap : W4.ownsMap Tryd.prog 85 (plainElem Tryd.prog 3) B (xs.length + 1) ((mapD xs).put (pkey p) (.lit (.int .i64 (xs.length : Int)))))
    (hown4 : W4.ownsRow w0.heap.size 85 4 (.slice A xs.length cp) xs.length (xs.flatMap plC))
    (hbel : Below w0.heap.size w0 W4) (hok : ∀ q ∈ xs, plOK q) (hp : plOK p) (hg0 : w0.heap.size ≤ g) (hB0 : w0.heap.size ≤ B)
    (hown : W5.ownsRow w0.heap.size 85 4 (.slice (some ⟨gg, 0, none⟩) (xs.length + 1) cap) (xs.length + 1) (xs.flatMap plC ++ plC p))
    (hgr : (W4.alloc o).drew.grownBy W5 (Value.slice A xs.length cp).ownBlock) :
    PtsInv g B n h (xs ++ [p]) (.slice (some ⟨gg, 0, none⟩) (xs.length + 1) cap) w0 (W5.setCell ⟨g, 2, none⟩ (.slice (some ⟨gg, 0, none⟩) (xs.length + 1) cap)) := by
  have hgb : W5.grownBy (W5.setCell ⟨g, 2, none⟩ (.slice (some ⟨gg, 0, none⟩) (xs.length + 1) cap)) (some g) := gbS (gbR _ _) (.inr rfl) _
  have hm4 : ((W4.alloc o).drew).ownsMap Tryd.prog 85 (plainElem Tryd.prog 3) B (xs.length + 1) ((mapD xs).put (pkey p) (.lit (.int .i64 (xs.length : Int)))) := (hmap.alloc o).drew
  have hne : (Value.slice A xs.length cp).ownBlock ≠ some B := own_ne_map hown4 hmap
  have hm5 := hm4.kept hgr (fun e => hne e.symm)
  have hgB : g ≠ B := blk_ne_map hblk hm5
  refine ⟨blk_put hblk 2 _ rfl, ?_, ?_, ?_, ?_, hg0, hB0⟩
  · simp only [List.length_append, List.length_singleton, List.flatMap_append, List.flatMap_cons, List.flatMap_nil, List.append_nil]
    exact hown.kept hgb (.inr (own_ne_blk hown hblk (by decide)))
  · simp only [List.length_append, List.length_singleton]
    rw [mapD_snoc]
    exact hm5.kept hgb (fun e => hgB (Option.some.inj e).symm)
  · refine Below.setCell ?_ hg0 _
    exact (below_drew (below_alloc hbel o)).grown hgr (by have := hbel.size; simp; omega) (fun k e => (hown4.lt k e).1)
  · intro q hq
    rcases List.mem_append.1 hq with hq | hq
    · exact hok q hq
    · rw [List.mem_singleton.1 hq]; exact hp
/-- What Points comes to. -/
def PtsPost (n h : Nat) (w : World) (e : Ending) (w' : World) : Prop := ∃ (g B : Nat) (v : Value), e = .returned (.pointer (some ⟨g, 0, none⟩)) ∧ PtsInv g B n h (nodesTo n h 20 0 0) v w w'
attribute [local go_sem high] eqA85
set_option maxHeartbeats 4000000 in
set_option maxRecDepth 100000 in
theorem points_walk (n h : Nat) (w : World) (hG : CornersAt w) (hn : 1 ≤ n) (hn2 : n ≤ 8) (hnh : n * h = 840) :
    Calls Tryd.prog 53 #[.int .i64 n] w (PtsPost n h w) := by
  have i3 : (840 : Int) / (n : Int) = h := by
    have e : (840 : Int) = (n : Int) * (h : Int) := by rw [← Int.natCast_mul, hnh]; rfl
    rw [e]
    exact Int.mul_ediv_cancel_left _ (by omega)
  have hu85 := Tryd.underlying85
  have hu80 := Tryd.underlying80
  have hmm := @run_makeMap Tryd.prog
  have i1 : (1 : Int) ≤ (n : Int) := by omega
  have i2 : (n : Int) ≤ 8 := by omega
  have HNH := Aside0.mk hnh
  have HG := Aside0.mk hG
  clear hG hnh
  go_enter Tryd.func53, Tryd.ntmps53
  go_wp2_with fail
  clear i3
  have I0 : PtsInv (w.heap.size + 1) w.heap.size n h (nodesTo n h 0 0 0) (.slice none 0 0) w ((w.alloc (.map #[] 0)).alloc (.cells #[.int .i64 n, .int .i64 h, .slice none 0 0, .map (some w.heap.size), .slice none 0 0, .slice none 0 0, .slice none 0 0] 80)) := by
    refine ⟨?_, World.ownsRow_nil _ _ _ _, ?_, below_alloc (below_alloc (Below.refl _ _) _) _, by simp [nodesTo], by omega, Nat.le_refl _⟩
    · have := blk_new (w.alloc (.map #[] 0)) (.cells #[.int .i64 n, .int .i64 h, .slice none 0 0, .map (some w.heap.size), .slice none 0 0, .slice none 0 0, .slice none 0 0] 80)
      simpa using this
    · exact (World.ownsMap_made w Tryd.prog 85 (plainElem Tryd.prog 3)).alloc _
  go_loopw [16] (fun i wr => ∃ (f : Nat) (v : Value), i = .int .i64 f ∧ f ≤ 20 ∧ PtsInv (w.heap.size + 1) w.heap.size n h (nodesTo n h f 0 0) v w wr) (fun i _ => 20 - (intOf i).toNat)
  case atStart => exact ⟨0, _, rfl, by omega, I0⟩
  case round =>
    clear I0
    obtain ⟨f, v, rfl, hf, I1⟩ := hrel
    obtain ⟨wo, rfl⟩ : ∃ wo : World, wo = wr := ⟨_, rfl⟩
    by_cases hlt : f < 20
    · have f1 : (f : Int) < 20 := by omega
      go_wp2_with fail
      go_loopw [5] (fun i wr => ∃ (a : Nat) (v : Value), i = .int .i64 a ∧ a ≤ n + 1 ∧ PtsInv (w.heap.size + 1) w.heap.size n h (nodesTo n h f a 0) v w wr) (fun i _ => n + 1 - (intOf i).toNat)
      case atStart => exact ⟨0, _, rfl, by omega, I1⟩
      case round =>
        clear I1 v
        obtain ⟨a, v, rfl, ha, I2⟩ := hrel
        obtain ⟨wp, rfl⟩ : ∃ wo : World, wo = wr := ⟨_, rfl⟩
        by_cases hla : a ≤ n
        · have a1 : (a : Int) ≤ (n : Int) := by omega
          go_wp2_with fail
          go_loopw [6] (fun i wr => ∃ (b : Nat) (v : Value), i = .int .i64 b ∧ b ≤ n + 1 - a ∧ PtsInv (w.heap.size + 1) w.heap.size n h (nodesTo n h f a b) v w wr) (fun i _ => n + 1 - a - (intOf i).toNat)
          case atStart => exact ⟨0, _, rfl, by omega, I2⟩
          case round =>
            clear I2 v
            obtain ⟨b, v, rfl, hb, I3⟩ := hrel
            by_cases hlb : a + b ≤ n
            · have b1 : (a : Int) + (b : Int) ≤ (n : Int) := by omega
              obtain ⟨c, hc⟩ : ∃ c : Nat, a + b + c = n := ⟨n - a - b, by omega⟩
              have hmul : ∀ x : Nat, x ≤ n → x * h ≤ 840 := fun x hx => by rw [← HNH.out]; exact Nat.mul_le_mul_right h hx
              have hsum : a * h + b * h + c * h = 840 := by rw [← Nat.add_mul, ← Nat.add_mul, hc]; exact HNH.out
              obtain ⟨pa, hpa⟩ : ∃ pa : Nat, pa = a * h := ⟨_, rfl⟩
              obtain ⟨pb, hpb⟩ : ∃ pb : Nat, pb = b * h := ⟨_, rfl⟩
              obtain ⟨pc, hpc⟩ : ∃ pc : Nat, pc = c * h := ⟨_, rfl⟩
              have ha0 : (pa : Int) ≤ 840 := by have := hmul a (by omega); omega
              have hb0 : (pb : Int) ≤ 840 := by have := hmul b (by omega); omega
              have hc0 : (pc : Int) ≤ 840 := by have := hmul c (by omega); omega
              have hs0 : ((pa : Int) + (pb : Int) + (pc : Int) == 840) = true := by simp; omega
              have e1 : (a : Int) * (h : Int) = (pa : Int) := by rw [hpa, Int.natCast_mul]
              have e2 : (b : Int) * (h : Int) = (pb : Int) := by rw [hpb, Int.natCast_mul]
              have e3 : ((n : Int) - (a : Int) - (b : Int)) * (h : Int) = (pc : Int) := by rw [hpc, Int.natCast_mul]; congr 1; omega
              have hpl : plAt n h f a b = (f, (pa : Int), (pb : Int), (pc : Int)) := by
                simp only [plAt, hpa, hpb, hpc]
                rw [show n - a - b = c by omega]
              have u1 : IntKind.i64.wrap (pa : Int) = pa := IntWalk.i64_in _ (by omega)
              have u2 : IntKind.i64.wrap (pb : Int) = pb := IntWalk.i64_in _ (by omega)
              have u3 : IntKind.i64.wrap ((n : Int) - (a : Int)) = (n : Int) - (a : Int) := IntWalk.i64_in _ (by omega)
              have u4 : IntKind.i64.wrap ((n : Int) - (a : Int) - (b : Int)) = (n : Int) - (a : Int) - (b : Int) := IntWalk.i64_in _ (by omega)
              have u5 : IntKind.i64.wrap (pc : Int) = pc := IntWalk.i64_in _ (by omega)
              have u6 : wrap64 (pc : Int) = pc := IntWalk.wrap64_in _ (by omega)
              have HPL := Aside0.mk hpl
              have HS0 := Aside0.mk hs0
              have HC := Aside0.mk hc
              clear hmul hsum hpa hpb hpc hpl hs0 hc
              have g1 := (blk_cell I3.blk 1).trans (show _ = some (Value.int .i64 h) from rfl)
              go_wp2_with fail
              go_region_held3 (fun w' => w'.cell? ⟨w.heap.size + 1, 1, none⟩ = some (.int .i64 h)) (first | go_keep) (fail)
              have HVP := Aside0.mk (show v.ownBlock ≠ some wr.heap.size from fun e => by have := (I3.own.lt _ e).2; omega)
              have I4 := (I3.alloc (.cells #[.int .i64 f, .int .i64 pa, .int .i64 pb, .int .i64 pc] 85)).drew
              have hP := blk_drew (blk_new wr (.cells #[.int .i64 f, .int .i64 pa, .int .i64 pb, .int .i64 pc] 85))
              clear I3 g1 e1 e2 e3 u1 u2 u3 u4 u5 u6
              generalize wr.heap.size = P at *
              generalize (wr.alloc (.cells #[.int .i64 f, .int .i64 pa, .int .i64 pb, .int .i64 pc] 85)).drew = W1 at *
              have p0 := (blk_cell hP 0).trans (show _ = some (Value.int .i64 f) from rfl)
              have p1 := (blk_cell hP 1).trans (show _ = some (Value.int .i64 pa) from rfl)
              have p2 := (blk_cell hP 2).trans (show _ = some (Value.int .i64 pb) from rfl)
              have p3 := (blk_cell hP 3).trans (show _ = some (Value.int .i64 pc) from rfl)
              have HP := Aside0.mk hP
              clear hP
              go_wp2_with fail
              refine (normal_core f pa pb pc _ W1 (HG.out.below I4.bel) hlt (by omega) ha0 (by omega) hb0 (by omega) hc0 HS0.out rfl).mono ?_
              rintro e W2 ⟨⟨q0, q1, q2, q3, rfl, hq⟩, hb2⟩
              have I5 := I4.grown (grown_of_below hb2 none)
              have hP2 := blk_below HP.out hb2
              have HQ := Aside0.mk hq
              clear I4 HP hb2 hq p0 p1 p2 p3
              have hPlt := blk_lt hP2
              have I6 := I5.alloc (.cells #[.int .i64 q0, .int .i64 q1, .int .i64 q2, .int .i64 q3] 85)
              have hP3 := blk_alloc hP2 (.cells #[.int .i64 q0, .int .i64 q1, .int .i64 q2, .int .i64 q3] 85)
              have p0 := (blk_cell hP2 0).trans (show _ = some (Value.int .i64 f) from rfl)
              have p1 := (blk_cell hP2 1).trans (show _ = some (Value.int .i64 pa) from rfl)
              have p2 := (blk_cell hP2 2).trans (show _ = some (Value.int .i64 pb) from rfl)
              have p3 := (blk_cell hP2 3).trans (show _ = some (Value.int .i64 pc) from rfl)
              have HP := Aside0.mk hP3
              clear hP2 hP3 I5
              by_cases heq : (q0 : Int) = f ∧ q1 = pa ∧ q2 = pb ∧ q3 = pc
              · obtain ⟨h0, rfl, rfl, rfl⟩ := heq
                have h0' : q0 = f := by omega
                subst h0'
                clear h0
                go_wp2_with fail
                obtain ⟨A, cp, hv⟩ := own_shape I6.own
                subst hv
                have c2 := (blk_cell I6.blk 2).trans (show _ = some (Value.slice A _ cp) from rfl)
                have c3 := (blk_cell I6.blk 3).trans (show _ = some (Value.map (some w.heap.size)) from rfl)
                have p0' := (blk_cell HP.out 0).trans (show _ = some (Value.int .i64 q0) from rfl)
                have p1' := (blk_cell HP.out 1).trans (show _ = some (Value.int .i64 pa) from rfl)
                have p2' := (blk_cell HP.out 2).trans (show _ = some (Value.int .i64 pb) from rfl)
                have p3' := (blk_cell HP.out 3).trans (show _ = some (Value.int .i64 pc) from rfl)
                have hkey := pkey_eq (p := (q0, (pa : Int), (pb : Int), (pc : Int))) (plOK_mk _ _ _ _ hlt ha0 hb0 hc0)
                have HK := Aside0.mk hkey
                have HI := Aside0.mk I6
                clear I6 hkey p0 p1 p2 p3
                generalize W2.alloc (.cells #[.int .i64 q0, .int .i64 pa, .int .i64 pb, .int .i64 pc] 85) = W3 at *
                have hlen8 : (nodesTo n h q0 a b).length ≤ 100000 := nodesTo_len n h q0 a b hn2 (by omega) (by omega)
                generalize hxs : nodesTo n h q0 a b = xs at *
                have HXS := Aside0.mk hxs
                clear hxs
                obtain ⟨W4, hrun, hmap, hgrow⟩ := HI.out.drew.map.update plcKeyed Tryd.underlying76 (show xs.length < maxLen by unfold maxLen; omega) HK.out (plainElem_int (H := Unit) Tryd.underlying3 (a := (xs.length : Int)) (WalkArith.wf_i64 (by omega)))
                replace hrun : (Instr.mapUpdate 76 (.map (some w.heap.size)) (.agg #[.int .i64 q0, .int .i64 pa, .int .i64 pb, .int .i64 pc]) (.int .i64 xs.length)).run Tryd.prog W3.drew = .ok () W4 := hrun
                have HM := Aside0.mk hmap
                have HGR := Aside0.mk hgrow
                have hc2 := hgrow.cell (a := ⟨w.heap.size + 1, 2, none⟩) c2 (by simp)
                have hc3 := hgrow.cell (a := ⟨w.heap.size + 1, 3, none⟩) c3 (by simp)
                have hq0 := hgrow.cell (a := ⟨P, 0, none⟩) p0' (fun e => blk_ne_map HP.out HI.out.map (Option.some.inj e))
                have hq1 := hgrow.cell (a := ⟨P, 1, none⟩) p1' (fun e => blk_ne_map HP.out HI.out.map (Option.some.inj e))
                have hq2 := hgrow.cell (a := ⟨P, 2, none⟩) p2' (fun e => blk_ne_map HP.out HI.out.map (Option.some.inj e))
                have hq3 := hgrow.cell (a := ⟨P, 3, none⟩) p3' (fun e => blk_ne_map HP.out HI.out.map (Option.some.inj e))
                clear hmap hgrow
                go_region_held3 (fun w' => w'.cell? ⟨w.heap.size + 1, 2, none⟩ = some (.slice A xs.length cp) ∧ w'.cell? ⟨w.heap.size + 1, 3, none⟩ = some (.map (some w.heap.size)) ∧ w'.cell? ⟨P, 0, none⟩ = some (.int .i64 q0) ∧ w'.cell? ⟨P, 1, none⟩ = some (.int .i64 pa) ∧ w'.cell? ⟨P, 2, none⟩ = some (.int .i64 pb) ∧ w'.cell? ⟨P, 3, none⟩ = some (.int .i64 pc))
                  (first | go_keep)
                  (fail)
                have hbk : W4.heap[w.heap.size + 1]? = _ := blk_grown HI.out.drew.blk HGR.out (by simp)
                have hown : W4.ownsRow w.heap.size 85 4 (.slice A xs.length cp) xs.length (xs.flatMap plC) := HI.out.drew.own.kept HGR.out (.inr (own_ne_map HI.out.own HI.out.map))
                have hbel : Below w.heap.size w W4 := HI.out.drew.bel.grown HGR.out HI.out.bel.size (fun k e => by cases e; exact Nat.le_refl _)
                have hokk := HI.out.ok
                have hPlt2 : P < W4.heap.size := Nat.lt_of_lt_of_le (blk_lt HP.out) HGR.out.size
                have hgr := own_ne_blk hown hbk (by decide)
                have HOK := Aside0.mk hokk
                have HBK := Aside0.mk hbk
                have HOWN := Aside0.mk hown
                have HBEL := Aside0.mk hbel
                obtain ⟨i0, hi0, hz0, hz1, hz2⟩ := info_parts info85
                have f2 := blk_frozen hbk 2
                have hgl := blk_lt hbk
                have HNE := Aside0.mk hgr
                clear HI HP hokk hbk hown hbel hrun c2 c3 p0' p1' p2' p3' hgr
                go_wp2_with fail
                go_region_law ((refine step_append_lies _ (by rfl) _ _ _ (by rfl) w.heap.size 85 i0 _ 4 32 Tryd.underlying75 hi0 hz0 hz1 hz2 rfl (by omega) (.slice A xs.length cp) xs.length (xs.flatMap plC) (by rfl) ((HOWN.out.alloc _).drew) ⟨W4.heap.size, 0, none⟩ 1 1 [.int .i64 q0, .int .i64 pa, .int .i64 pb, .int .i64 pc] (by rfl) (by rfl) (World.news_of_block (cs := #[.int .i64 q0, .int .i64 pa, .int .i64 pb, .int .i64 pc]) (t := 85) (fr := (0, 0)) (heap_alloc_new W4 _)) (by simp [Value.oneCell']) (by omega) (by unfold maxLen; omega) (by omega) (by have := HBEL.out.size; simp; omega) (W4.heap.size + 1) (by simp) ?_; intro gg cap W5 hown1 hgrow hat hlt5; have b5 := blk_grown (blk_drew (blk_alloc HBK.out (.cells #[.int .i64 q0, .int .i64 pa, .int .i64 pb, .int .i64 pc] 85))) hgrow (fun e => HNE.out e.symm); have s2 := (blk_cell b5 2).trans (show _ = some (Value.slice A xs.length cp) from rfl); have s3 := blk_frozen b5 2; have B5 := Aside0.mk b5; have O5 := Aside0.mk hown1; have G5 := Aside0.mk hgrow; have A5 := Aside0.mk hat; clear b5 hown1 hgrow hat))
                all_goals
                  go_wp2_with fail
                  go_roundw
                  case rel =>
                    refine ⟨b + 1, .slice (some ⟨gg, 0, none⟩) (xs.length + 1) cap, by go_num, by omega, ?_⟩
                    rw [nodesTo_succ n h q0 a b hlb, HXS.out, if_pos (by rw [HPL.out]; simp only [isN, HQ.out]; simp), HPL.out]
                    exact PtsInv.step (p := (q0, (pa : Int), (pb : Int), (pc : Int))) B5.out HM.out HOWN.out HBEL.out HOK.out (plOK_mk _ _ _ _ hlt ha0 hb0 hc0) (by omega) (Nat.le_refl _) O5.out G5.out
                  case measure => simp [intOf]; omega
              · have hbq : ((q0 : Int) == (f : Int) && (q1 == (pa : Int) && (q2 == (pb : Int) && (q3 == (pc : Int))))) = false := by
                  simp only [Bool.and_eq_false_iff, beq_eq_false_iff_ne]
                  omega
                have HEQ := Aside0.mk heq
                clear heq
                go_wp2_with fail
                go_roundw
                case rel => exact ⟨b + 1, v, by go_num, by omega, by rw [nodesTo_succ n h f a b hlb, if_neg (by rw [HPL.out]; simp only [isN, HQ.out]; intro hd; exact HEQ.out (by have hd := of_decide_eq_true hd; simp only [Prod.mk.injEq] at hd; omega)), List.append_nil]; exact I6⟩
                case measure => simp [intOf]; omega
            · have b1 : ¬ (a : Int) + (b : Int) ≤ (n : Int) := by omega
              go_wp2_with fail
              go_roundw
              case rel => exact ⟨a + 1, v, by go_num, by omega, by rw [← nodesTo_row n h f a b hla (by omega)]; exact I3⟩
              case measure => simp [intOf]; omega
        · have a1 : ¬ (a : Int) ≤ (n : Int) := by omega
          have ha2 : a = n + 1 := by omega
          go_wp2_with fail
          go_roundw
          case rel => exact ⟨f + 1, v, by go_num, by omega, by rw [← nodesTo_face n h f, ← ha2]; exact I2⟩
          case measure => simp [intOf]; omega
    · have f1 : ¬ (f : Int) < 20 := by omega
      have hf2 : f = 20 := by omega
      go_wp2_with fail
      go_ret
      exact ⟨w.heap.size + 1, w.heap.size, v, rfl, by rw [← hf2]; exact I1⟩
end Go.Proofs.YtdagdoiedibpgaaDoor.Prt
namespace Go.Proofs.YtdagdoiedibpgaaDoor.Prt
set_option linter.unusedVariables false
set_option linter.unusedSimpArgs false
open Go.RowKit Go.Maps Go.Proofs.YtdagdoiedibpgaaDoorW.PrintWords Go.Proofs.YtdagdoiedibpgaaDoorW.PrintLast Go.Proofs.YtdagdoiedibpgaaDoorW.PrintMore

/-- moved: the coordinates' sums. -/
theorem moved_walk (f a b c x y z : Int) (w : World) (h1 : -9000000 ≤ a + x ∧ a + x ≤ 9000000) (h2 : -9000000 ≤ b + y ∧ b + y ≤ 9000000) (h3 : -9000000 ≤ c + z ∧ c + z ≤ 9000000) :
    Calls Tryd.prog 65 #[.agg #[.int .i64 f, .int .i64 a, .int .i64 b, .int .i64 c], .int .i64 x, .int .i64 y, .int .i64 z] w fun e w' => e = .returned (.agg #[.int .i64 f, .int .i64 (a + x), .int .i64 (b + y), .int .i64 (c + z)]) ∧ Below w.heap.size w w' := by
  have hu85 := Tryd.underlying85
  obtain ⟨h1a, h1b⟩ := h1
  obtain ⟨h2a, h2b⟩ := h2
  obtain ⟨h3a, h3b⟩ := h3
  go_enter Tryd.func65, Tryd.ntmps65
  go_wp2
  refine bodyPost_ret (v := .agg #[.int .i64 f, .int .i64 (a + x), .int .i64 (b + y), .int .i64 (c + z)]) (by simp [results, Tryd.results65, go_sem]) rfl ⟨rfl, ?_⟩
  exact below_alloc (below_alloc (Below.refl _ _) _) _

/-- The index of a place's normal place. -/
def atF (n h : Nat) (p : Plc) : Nat := idxF (nodesTo n h 20 0 0) (norm p.1 p.2.1 p.2.2.1 p.2.2.2)

def AtPost (k : Nat) (w : World) (e : Ending) (w' : World) : Prop := e = .returned (.int .i64 k) ∧ Below w.heap.size w w'
set_option maxHeartbeats 4000000 in
set_option maxRecDepth 100000 in
theorem at_walk (g B f : Nat) (a b c : Nat) (D : DataW Unit) (m k : Nat) (v1 v2 v0 c4 c5 c6 : Value) (w : World) (hG : CornersAt w) (hg : w.heap[g]? = some (.cells #[v0, v1, v2, .map (some B), c4, c5, c6] 80 (0, 0)))
    (hm : w.ownsMap Tryd.prog 85 (plainElem Tryd.prog 3) B m D) (hf : f < 20) (ha : (a : Int) ≤ 840) (hb : (b : Int) ≤ 840) (hc : (c : Int) ≤ 840) (hs : a + b + c = 840)
    (hok : plOK (norm f a b c)) (hD : D.atKey (pkey (norm f a b c)) (.lit (.int .i64 0)) = .lit (.int .i64 k)) :
    Calls Tryd.prog 73 #[.pointer (some ⟨g, 0, none⟩), .agg #[.int .i64 f, .int .i64 a, .int .i64 b, .int .i64 c]] w (AtPost k w) := by
  have hu85 := Tryd.underlying85
  have hu80 := Tryd.underlying80
  have HG := Aside0.mk hG
  have HM := Aside0.mk hm
  have HBL := Aside0.mk hg
  have HOK := Aside0.mk hok
  have HD := Aside0.mk hD
  have hs2 : ((a : Int) + (b : Int) + (c : Int) == 840) = true := by simp; omega
  have HS := Aside0.mk hs2
  clear hG hm hg hok hD hs hs2
  go_enter Tryd.func73, Tryd.ntmps73
  go_wp2_with fail
  have hb0 := below_alloc (Below.refl w.heap.size w) (.cells #[.int .i64 f, .int .i64 a, .int .i64 b, .int .i64 c] 85)
  refine (normal_core f a b c _ _ (HG.out.below hb0) hf (by omega) ha (by omega) hb (by omega) hc HS.out rfl).mono ?_
  rintro e W2 ⟨⟨q0, q1, q2, q3, rfl, hq⟩, hb2⟩
  rw [hq] at HOK HD
  have hb3 := below_alloc (bthen hb0 hb2) (.cells #[.int .i64 q0, .int .i64 q1, .int .i64 q2, .int .i64 q3] 85)
  have HB3 := Aside0.mk hb3
  have hQ := blk_new W2 (.cells #[.int .i64 q0, .int .i64 q1, .int .i64 q2, .int .i64 q3] 85)
  clear hb0 hb2 hb3 hq
  have hbl3 := blk_below HBL.out HB3.out
  have hm3 := HM.out.kept (grown_of_below HB3.out none) (by simp)
  go_wp2_with fail
  generalize W2.alloc (.cells #[.int .i64 q0, .int .i64 q1, .int .i64 q2, .int .i64 q3] 85) = W3 at *
  generalize W2.heap.size = Q at *
  have p0 := (blk_cell hQ 0).trans (show _ = some (Value.int .i64 q0) from rfl)
  have p1 := (blk_cell hQ 1).trans (show _ = some (Value.int .i64 q1) from rfl)
  have p2 := (blk_cell hQ 2).trans (show _ = some (Value.int .i64 q2) from rfl)
  have p3 := (blk_cell hQ 3).trans (show _ = some (Value.int .i64 q3) from rfl)
  have c3 := (blk_cell hbl3 3).trans (show _ = some (Value.map (some B)) from rfl)
  have hz : ∀ W, (zeroValue 3).run Tryd.prog W = .ok (.int .i64 0) W := fun _ => by kernel_rfl
  obtain ⟨cc, hrun, hat, _⟩ := World.ownsMap.lookup_int hm3.drew plcKeyed Tryd.underlying76 Tryd.underlying3 (hz _) (pkey_eq HOK.out)
  replace hrun : (Instr.lookup 76 (.map (some B)) (.agg #[.int .i64 q0, .int .i64 q1, .int .i64 q2, .int .i64 q3]) false).run Tryd.prog W3.drew = .ok (.int .i64 cc) W3.drew := hrun
  have hcc : cc = k := by
    have := hat.symm.trans HD.out
    simpa using this
  subst hcc
  clear hbl3 hm3 hQ hz hat
  go_region_held3 (fun w' => w'.cell? ⟨g, 3, none⟩ = some (.map (some B)) ∧ w'.cell? ⟨Q, 0, none⟩ = some (.int .i64 q0) ∧ w'.cell? ⟨Q, 1, none⟩ = some (.int .i64 q1) ∧ w'.cell? ⟨Q, 2, none⟩ = some (.int .i64 q2) ∧ w'.cell? ⟨Q, 3, none⟩ = some (.int .i64 q3)) (first | go_keep) (fail)
  go_wp2_with fail
  go_ret
  exact ⟨rfl, below_drew HB3.out⟩
end Go.Proofs.YtdagdoiedibpgaaDoor.Prt
