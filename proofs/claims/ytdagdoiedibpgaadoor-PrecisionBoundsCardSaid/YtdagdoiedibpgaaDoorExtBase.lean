/- The condition on the table of the faces' corners, and that it stays. -/
import Derived.Test.YtdagdoiedibpgaaDoorProg
import Derived.Below
import Derived.Test.YtdagdoiedibpgaaDoorWWords
namespace Go.Proofs.YtdagdoiedibpgaaDoor.Prt
set_option linter.unusedVariables false
set_option linter.unusedSimpArgs false
open Go.RowKit Go.Proofs.YtdagdoiedibpgaaDoorW.PrintWords
/-- The corners of the faces, three a face. -/
def cornerN : List Nat := [0, 1, 2, 0, 2, 3, 0, 3, 4, 0, 4, 5, 0, 5, 1, 1, 6, 2, 2, 7, 3, 3, 8, 4, 4, 9, 5, 5, 10, 1, 6, 7, 2, 7, 8, 3, 8, 9, 4, 9, 10, 5, 10, 6, 1, 11, 7, 6, 11, 8, 7, 11, 9, 8, 11, 10, 9, 11, 6, 10]
/-- Corner i of face f. -/
def crn (f i : Nat) : Nat := cornerN.getD (f * 3 + i) 0
/-- The table holds them. -/
def CornersAt (w : World) : Prop := ∀ i, i < 60 → w.cell? ⟨0, i, none⟩ = some (.int .i64 ((cornerN.getD i 0 : Nat) : Int))
theorem CornersAt.crn {w : World} (h : CornersAt w) (f i : Nat) (hf : f < 20) (hi : i < 3) : w.cell? ⟨0, f * 3 + i, none⟩ = some (.int .i64 ((crn f i : Nat) : Int)) := h (f * 3 + i) (by omega)
theorem crn_all : ∀ f, f < 20 → crn f 0 < 12 ∧ crn f 1 < 12 ∧ crn f 2 < 12 ∧ crn f 0 ≠ crn f 1 ∧ crn f 0 ≠ crn f 2 ∧ crn f 1 ≠ crn f 2 := by decide
theorem CornersAt.below {w W : World} (h : CornersAt w) (hb : Below w.heap.size w W) : CornersAt W := fun i hi =>
  (hb.cell (p := ⟨0, i, none⟩) (World.block_lt_of_cell? w _ (h i hi))).trans (h i hi)
/-- What lay there lies there still: every cell, every mark. -/
theorem bcell {W w1 : World} (hb : Below W.heap.size W w1) : (∀ b o, b < W.heap.size → w1.cell? ⟨b, o, none⟩ = W.cell? ⟨b, o, none⟩) ∧ (∀ b o, b < W.heap.size → w1.frozen? ⟨b, o, none⟩ = W.frozen? ⟨b, o, none⟩) :=
  ⟨fun b o h => hb.cell (p := ⟨b, o, none⟩) h, fun b o h => hb.frozen (p := ⟨b, o, none⟩) h⟩
theorem bundrew {W w1 : World} (hb : Below W.drew.heap.size W.drew w1) : Below W.heap.size W w1 := ⟨hb.os, hb.tape, hb.output, hb.size, hb.block⟩
theorem bthen {W w1 w2 : World} (h1 : Below W.heap.size W w1) (h2 : Below w1.heap.size w1 w2) : Below W.heap.size W w2 := h1.trans (h2.mono h1.size)
/-! What grew, the one row apart. -/
theorem gbR (w : World) (row : Option Nat) : w.grownBy w row := grown_of_below (Below.refl _ w) row
theorem gbA {w W : World} {row : Option Nat} (h : w.grownBy W row) (o : Obj) : w.grownBy (W.alloc o) row :=
  ⟨h.os, h.tape, h.output, Nat.le_trans h.size (by simp), fun k hk hr => (Below.heap_alloc W o k (Nat.lt_of_lt_of_le hk h.size)).trans (h.block k hk hr)⟩
theorem gbD {w W : World} {row : Option Nat} (h : w.grownBy W row) : w.grownBy W.drew row := ⟨h.os, h.tape, h.output, h.size, h.block⟩
theorem gbDN {w W : World} {row : Option Nat} (h : w.grownBy W row) (n : Nat) : w.grownBy (W.drewN n) row := ⟨h.os, h.tape, h.output, h.size, h.block⟩
theorem gbS {w W : World} {row : Option Nat} (h : w.grownBy W row) {p : Addr} (hp : w.heap.size ≤ p.block ∨ some p.block = row) (u : Value) : w.grownBy (W.setCell p u) row :=
  ⟨h.os, h.tape, h.output, by simpa [World.setCell] using h.size, fun k hk hr => (Below.heap_setCell W p u k (fun e => hp.elim (fun hp => by omega) (fun hp => hr (e ▸ hp)))).trans (h.block k hk hr)⟩
theorem gbB {w W W1 : World} {row : Option Nat} (h : w.grownBy W row) (hb : Below W.heap.size W W1) : w.grownBy W1 row :=
  ⟨hb.os.trans h.os, hb.tape.trans h.tape, hb.output.trans h.output, Nat.le_trans h.size hb.size, fun k hk hr => (hb.block k (Nat.lt_of_lt_of_le hk h.size)).trans (h.block k hk hr)⟩
theorem gbG {w W W1 : World} {row row2 : Option Nat} (h : w.grownBy W row) (hb : W.grownBy W1 row2) (hr2 : ∀ k, row2 = some k → w.heap.size ≤ k ∨ some k = row) : w.grownBy W1 row :=
  ⟨hb.os.trans h.os, hb.tape.trans h.tape, hb.output.trans h.output, Nat.le_trans h.size hb.size, fun k hk hr => (hb.block k (Nat.lt_of_lt_of_le hk h.size) (fun e => (hr2 k e.symm).elim (fun h2 => by omega) (fun h2 => hr h2))).trans (h.block k hk hr)⟩
end Go.Proofs.YtdagdoiedibpgaaDoor.Prt
