import Derived.Test.YtdagdoiedibpgaaDoorRows
import Derived.Test.YtdagdoiedibpgaaDoorExtBase
import Derived.ProofKit
import Derived.LaidMore
import Derived.OpenShut
import Derived.Stop.Joined
namespace Go.Proofs.YtdagdoiedibpgaaDoor.Prt
set_option linter.unusedVariables false
set_option linter.unusedSimpArgs false
open Go.ChangeShapes Go.WideShapes Go.ChangeAt Go.RowKit
theorem gCorners : Tryd.prog.globalNamed "synoptic/place.corners" = some 0 := by kernel_rfl
theorem tCorners : (Tryd.prog.globals[0]?).map (·.type) = some 134 := by kernel_rfl
def cornerD {H : Type} : DataW H := .agg ((List.range 20).map fun f => .agg [.lit (.int .i64 (crn f 0)), .lit (.int .i64 (crn f 1)), .lit (.int .i64 (crn f 2))])
theorem laid_is {H : Type} : (Rows.laid_synoptic_place_corners : DataW H) = cornerD := rfl
set_option maxRecDepth 100000 in
theorem row3 {H : Type} {enc : TypeId × Value → H} {w : World} {base : Nat} {spare : Nat → Bool} {held : Bool} {fuel : Nat} {cs : List Value} {x : DataW H × List MemPlace} {a b c : Int}
    (h : DataW.trod enc Tryd.prog w base spare held fuel 110 cs = some x) (hx : x.1 = .agg [.lit (.int .i64 a), .lit (.int .i64 b), .lit (.int .i64 c)]) : cs = [.int .i64 a, .int .i64 b, .int .i64 c] := by
  have c3 : Tryd.prog.cellsOf 3 = 1 := by kernel_rfl
  have c110 : Tryd.prog.cellsOf 110 = 3 := by kernel_rfl
  obtain ⟨xs, m, rfl, rfl, hlen, hn, hel⟩ := DataW.trod_array Tryd.underlying110 h
  rw [c110] at hlen
  rw [c3] at hel
  have h0 := hel 0 (by decide)
  have h1 := hel 1 (by decide)
  have h2 := hel 2 (by decide)
  match xs, hn, hx, h0, h1, h2 with
  | [x0, x1, x2], _, hx, h0, h1, h2 =>
    obtain ⟨n0, e0, f0, _⟩ := DataW.trod_int Tryd.underlying3 h0
    obtain ⟨n1, e1, f1, _⟩ := DataW.trod_int Tryd.underlying3 h1
    obtain ⟨n2, e2, f2, _⟩ := DataW.trod_int Tryd.underlying3 h2
    match cs, hlen with
    | [y0, y1, y2], _ =>
      simp at e0 e1 e2
      subst f0 f1 f2
      simp at hx
      obtain ⟨rfl, rfl, rfl⟩ := hx
      rw [e0, e1, e2]
set_option maxRecDepth 100000 in
theorem of_laid {W : World} (h : laidMetH Tryd.prog [("synoptic/place.corners", Rows.laid_synoptic_place_corners)] W) : CornersAt W := by
  rw [MakeChecks.laidMetH_plain _ _ _ (by kernel_rfl)] at h
  rw [laid_is] at h
  obtain ⟨ps, ⟨g0, t0, cs0, f0, p0, q0, hg0, ht0, hv0, hd0, _, _⟩, _, _⟩ := h
  obtain rfl := Option.some.inj (gCorners.symm.trans hg0)
  obtain rfl := Option.some.inj (tCorners.symm.trans ht0)
  obtain ⟨xs, m, rfl, hx, hlen, hn, hel⟩ := DataW.trod_array Tryd.underlying134 hd0
  have c110 : Tryd.prog.cellsOf 110 = 3 := by kernel_rfl
  rw [c110] at hel
  simp only [Prod.mk.injEq] at hx
  have hx1 : (List.range 20).map (fun f => DataW.agg [.lit (.int .i64 (crn f 0)), .lit (.int .i64 (crn f 1)), .lit (.int .i64 (crn f 2))]) = xs.map (·.1) := DataW.agg.inj hx.1
  intro i hi
  have hf : i / 3 < 20 := by omega
  have h1 := hel (i / 3) hf
  rw [List.getElem?_eq_getElem (by omega)] at h1
  have h2 : (xs[i / 3]'(by omega)).1 = DataW.agg [.lit (.int .i64 (crn (i / 3) 0)), .lit (.int .i64 (crn (i / 3) 1)), .lit (.int .i64 (crn (i / 3) 2))] := by
    have := congrArg (·[i / 3]?) hx1
    simp [hf, show i / 3 < xs.length by omega] at this
    exact this.symm
  have h3 := row3 h1 h2
  have h4 := congrArg (·[i % 3]?) h3
  have hm : i % 3 < 3 := Nat.mod_lt _ (by omega)
  simp only [List.getElem?_take, if_pos hm, List.getElem?_drop, show i / 3 * 3 + i % 3 = i by omega] at h4
  rw [World.var?_cell hg0 hv0 i, ← Array.getElem?_toList, h4]
  have : i % 3 = 0 ∨ i % 3 = 1 ∨ i % 3 = 2 := by omega
  rcases this with e | e | e <;> rw [e] <;> simp only [List.getElem?_cons_zero, List.getElem?_cons_succ, crn] <;> congr 4 <;> omega
end Go.Proofs.YtdagdoiedibpgaaDoor.Prt
