-- Written by wip/ext.py, a driver over the kit's print, with texts of this session's own.
import Derived.Test.YtdagdoiedibpgaaDoorPrt0
import Derived.Test.YtdagdoiedibpgaaDoorPrt1
import Derived.Test.YtdagdoiedibpgaaDoorPrt4
import Derived.Test.YtdagdoiedibpgaaDoorPrt11
import Derived.Test.YtdagdoiedibpgaaDoorPrt12
import Derived.Test.YtdagdoiedibpgaaDoorPrt14
namespace Go.Proofs.YtdagdoiedibpgaaDoor.Prt
open Go.RowKit Go.Proofs.YtdagdoiedibpgaaDoorW.PrintWords Go.Proofs.YtdagdoiedibpgaaDoorW.PrintLast Go.Proofs.YtdagdoiedibpgaaDoorW.PrintMore
attribute [local go_sem] max2_int min2_int max_two min_two max_three min_three max_four min_four   -- for this text's walks alone
set_option linter.unusedVariables false
set_option linter.unusedSimpArgs false

attribute [local go_sem high] eqA25
/-! ### synopticlaw22_PrecisionLinear: function 4 -/
mutual
def synopticlaw22_PrecisionLinear.j0 : Nat → List Int → List Int → List Int → List Int → Bool → Int → Int → Int → Option (Bool)
  | 0, _, _, _, _, _, _, _, _ => none
  | k + 1, x5, x6, x7, x9, x83, x269000, x269001, x269002 => if x83 = true then (some false) else ((precision_Dot.f x7 x6).bind fun bt302 => ((precision_Dot.f x5 x9).bind fun bt306 => (synopticlaw22_PrecisionLinear.l0 k x5 x7 bt302.2.2 bt306.2.2 0 0 (x7.length : Int) 0 x269000 x269001 x269002 bt302.1 bt302.2.1 bt306.1 bt306.2.1)))
def synopticlaw22_PrecisionLinear.l0 : Nat → List Int → List Int → Int → Int → Int → Int → Int → Int → Int → Int → Int → Int → Int → Int → Int → Option (Bool)
  | 0, _, _, _, _, _, _, _, _, _, _, _, _, _, _, _ => none
  | k + 1, x5, x7, x8, x10, x15, x16, x97, x98, x269000, x269001, x269002, x306000, x306001, x310000, x310001 => if x98 < x97 then (if 0 ≤ x98 then (if x98 < (x7.length : Int) then (if x98 < (x5.length : Int) then (synopticlaw22_PrecisionLinear.l0 k x5 x7 x8 x10 (wrap64 (x15 + (rd x7 x98))) (wrap64 (x16 + (rd x5 x98))) x97 (wrap64 (x98 + 1)) x269000 x269001 x269002 x306000 x306001 x310000 x310001) else (none)) else (none)) else (none)) else (if x8 = 0 then (if x10 = 0 then (if (x306000 == x310000 && (x306001 == x310001)) = true then (some (x15 == (wrap64 (x269002 * x16)))) else (some false)) else (some false)) else (some false))
end
def synopticlaw22_PrecisionLinear.f (k : Nat) (l0 : List Int) : Option (Bool) := (synopticlaw22_awake.f k).bind fun t260 => (if t260 = true then ((synopticfield_New.f l0 160).bind fun bt261 => ((synopticfield_Codes_Precision.f bt261.1 bt261.2).bind fun bt264 => ((synopticfield_Codes_For.f k bt261.1 bt264.2.2.2 bt264.1 bt264.2.1 bt264.2.2.1).bind fun bt269 => ((synopticlaw22_halves.f k bt269.1).bind fun t273 => ((synopticfield_Codes_For.f k bt261.1 bt269.2 bt264.1 bt264.2.1 bt264.2.2.1).bind fun bt276 => ((synopticlaw22_halves.f k bt276.1).bind fun t280 => ((precision_Apply.f k bt264.1 bt264.2.1 bt264.2.2.1 t273).bind fun bt283 => ((precision_Apply.f k bt264.1 bt264.2.1 bt264.2.2.1 t280).bind fun bt287 => ((synopticlaw22_sum.f k t273 t280).bind fun t291 => ((precision_Apply.f k bt264.1 bt264.2.1 bt264.2.2.1 t291).bind fun bt294 => (if bt283.2 = 0 then (if bt287.2 = 0 then (if bt294.2 = 0 then (if (bt283.1.length : Int) = (t273.length : Int) then (if (bt287.1.length : Int) = (t273.length : Int) then ((synopticlaw22_sum.f k bt283.1 bt287.1).bind fun t298 => ((synoptickeep_Ints.f k bt294.1 t298).bind fun t301 => (synopticlaw22_PrecisionLinear.j0 k t273 t280 bt283.1 bt287.1 (!t301) bt264.1 bt264.2.1 bt264.2.2.1))) else (synopticlaw22_PrecisionLinear.j0 k t273 t280 bt283.1 bt287.1 true bt264.1 bt264.2.1 bt264.2.2.1)) else (synopticlaw22_PrecisionLinear.j0 k t273 t280 bt283.1 bt287.1 true bt264.1 bt264.2.1 bt264.2.2.1)) else (synopticlaw22_PrecisionLinear.j0 k t273 t280 bt283.1 bt287.1 true bt264.1 bt264.2.1 bt264.2.2.1)) else (synopticlaw22_PrecisionLinear.j0 k t273 t280 bt283.1 bt287.1 true bt264.1 bt264.2.1 bt264.2.2.1)) else (synopticlaw22_PrecisionLinear.j0 k t273 t280 bt283.1 bt287.1 true bt264.1 bt264.2.1 bt264.2.2.1)))))))))))) else (some false))
theorem synopticlaw22_PrecisionLinear.mono_l : ∀ k, (∀ y0 y1 y2 y3 y4 y5 y6 y7, LeO (synopticlaw22_PrecisionLinear.j0 k y0 y1 y2 y3 y4 y5 y6 y7) (synopticlaw22_PrecisionLinear.j0 (k + 1) y0 y1 y2 y3 y4 y5 y6 y7)) ∧ (∀ y0 y1 y2 y3 y4 y5 y6 y7 y8 y9 y10 y11 y12 y13 y14, LeO (synopticlaw22_PrecisionLinear.l0 k y0 y1 y2 y3 y4 y5 y6 y7 y8 y9 y10 y11 y12 y13 y14) (synopticlaw22_PrecisionLinear.l0 (k + 1) y0 y1 y2 y3 y4 y5 y6 y7 y8 y9 y10 y11 y12 y13 y14))
  | 0 => ⟨fun _ _ _ _ _ _ _ _ r h => by simp [synopticlaw22_PrecisionLinear.j0] at h, fun _ _ _ _ _ _ _ _ _ _ _ _ _ _ _ r h => by simp [synopticlaw22_PrecisionLinear.l0] at h⟩
  | k + 1 => by
    obtain ⟨ih0, ih1⟩ := synopticlaw22_PrecisionLinear.mono_l k
    refine ⟨?_, ?_⟩
    · intro y0 y1 y2 y3 y4 y5 y6 y7
      unfold synopticlaw22_PrecisionLinear.j0
      repeat' first
      | (with_reducible exact ih0 _ _ _ _ _ _ _ _)
      | (with_reducible exact ih1 _ _ _ _ _ _ _ _ _ _ _ _ _ _ _)
      | (with_reducible exact precision_Apply.mono _ _ _ _ _)
      | (with_reducible exact synopticfield_Codes_For.mono _ _ _ _ _ _)
      | (with_reducible exact synoptickeep_Ints.mono _ _ _)
      | (with_reducible exact synopticlaw22_awake.mono _)
      | (with_reducible exact synopticlaw22_halves.mono _ _)
      | (with_reducible exact synopticlaw22_sum.mono _ _ _)
      | (with_reducible exact LeO.refl _)
      | (with_reducible exact LeO.none _)
      | (with_reducible refine LeO.ite ?_ ?_)
      | (with_reducible refine LeO.bind ?_ (fun _ => ?_))
      | exact ih0 _ _ _ _ _ _ _ _
      | exact ih1 _ _ _ _ _ _ _ _ _ _ _ _ _ _ _
      | exact precision_Apply.mono _ _ _ _ _
      | exact synopticfield_Codes_For.mono _ _ _ _ _ _
      | exact synoptickeep_Ints.mono _ _ _
      | exact synopticlaw22_awake.mono _
      | exact synopticlaw22_halves.mono _ _
      | exact synopticlaw22_sum.mono _ _ _
      | exact LeO.none _
      | refine LeO.ite ?_ ?_
      | refine LeO.bind ?_ (fun _ => ?_)
    · intro y0 y1 y2 y3 y4 y5 y6 y7 y8 y9 y10 y11 y12 y13 y14
      unfold synopticlaw22_PrecisionLinear.l0
      repeat' first
      | (with_reducible exact ih0 _ _ _ _ _ _ _ _)
      | (with_reducible exact ih1 _ _ _ _ _ _ _ _ _ _ _ _ _ _ _)
      | (with_reducible exact precision_Apply.mono _ _ _ _ _)
      | (with_reducible exact synopticfield_Codes_For.mono _ _ _ _ _ _)
      | (with_reducible exact synoptickeep_Ints.mono _ _ _)
      | (with_reducible exact synopticlaw22_awake.mono _)
      | (with_reducible exact synopticlaw22_halves.mono _ _)
      | (with_reducible exact synopticlaw22_sum.mono _ _ _)
      | (with_reducible exact LeO.refl _)
      | (with_reducible exact LeO.none _)
      | (with_reducible refine LeO.ite ?_ ?_)
      | (with_reducible refine LeO.bind ?_ (fun _ => ?_))
      | exact ih0 _ _ _ _ _ _ _ _
      | exact ih1 _ _ _ _ _ _ _ _ _ _ _ _ _ _ _
      | exact precision_Apply.mono _ _ _ _ _
      | exact synopticfield_Codes_For.mono _ _ _ _ _ _
      | exact synoptickeep_Ints.mono _ _ _
      | exact synopticlaw22_awake.mono _
      | exact synopticlaw22_halves.mono _ _
      | exact synopticlaw22_sum.mono _ _ _
      | exact LeO.none _
      | refine LeO.ite ?_ ?_
      | refine LeO.bind ?_ (fun _ => ?_)
theorem synopticlaw22_PrecisionLinear.mono : ∀ a0 k, LeO (synopticlaw22_PrecisionLinear.f k a0) (synopticlaw22_PrecisionLinear.f (k + 1) a0) := by
  intro a0 k
  obtain ⟨ih0, ih1⟩ := synopticlaw22_PrecisionLinear.mono_l k
  unfold synopticlaw22_PrecisionLinear.f
  repeat' first
      | (with_reducible exact ih0 _ _ _ _ _ _ _ _)
      | (with_reducible exact ih1 _ _ _ _ _ _ _ _ _ _ _ _ _ _ _)
      | (with_reducible exact precision_Apply.mono _ _ _ _ _)
      | (with_reducible exact synopticfield_Codes_For.mono _ _ _ _ _ _)
      | (with_reducible exact synoptickeep_Ints.mono _ _ _)
      | (with_reducible exact synopticlaw22_awake.mono _)
      | (with_reducible exact synopticlaw22_halves.mono _ _)
      | (with_reducible exact synopticlaw22_sum.mono _ _ _)
      | (with_reducible exact LeO.refl _)
      | (with_reducible exact LeO.none _)
      | (with_reducible refine LeO.ite ?_ ?_)
      | (with_reducible refine LeO.bind ?_ (fun _ => ?_))
      | exact ih0 _ _ _ _ _ _ _ _
      | exact ih1 _ _ _ _ _ _ _ _ _ _ _ _ _ _ _
      | exact precision_Apply.mono _ _ _ _ _
      | exact synopticfield_Codes_For.mono _ _ _ _ _ _
      | exact synoptickeep_Ints.mono _ _ _
      | exact synopticlaw22_awake.mono _
      | exact synopticlaw22_halves.mono _ _
      | exact synopticlaw22_sum.mono _ _ _
      | exact LeO.none _
      | refine LeO.ite ?_ ?_
      | refine LeO.bind ?_ (fun _ => ?_)
def synopticlaw22_PrecisionLinear.T5 : Bool × List (List Nat × List Nat) := (true, [([], []), ([], []), ([0, 1], [0, 1]), ([2, 2], [2]), ([], []), ([], []), ([4, 5, 3], [4, 5]), ([6, 6], [6]), ([3, 7, 0, 1, 2, 3], [3]), ([7, 8, 0, 1, 2, 3, 4, 5, 6, 7, 8], [7])])
def synopticlaw22_PrecisionLinear.B5 : List Nat := [0, 0, 3, 7, 0, 0, 63, 127, 255, 511]
theorem synopticlaw22_PrecisionLinear.tab5 : rtab .any (opsOf Tryd.f4 5) = synopticlaw22_PrecisionLinear.T5 := by kernel_rfl
theorem synopticlaw22_PrecisionLinear.bits5 : waitsOk synopticlaw22_PrecisionLinear.T5.2 synopticlaw22_PrecisionLinear.B5 = true := by kernel_rfl
def synopticlaw22_PrecisionLinear.T8 : Bool × List (List Nat × List Nat) := (true, [([], []), ([], []), ([], []), ([1, 2], [1, 2]), ([0, 3, 3], [0, 3]), ([4], [4]), ([5], [5]), ([5], [5]), ([6, 4, 0, 1, 2, 3, 4, 5, 6], [6]), ([7, 8, 0, 1, 2, 3, 4, 5, 6, 7, 8], [7])])
def synopticlaw22_PrecisionLinear.B8 : List Nat := [0, 0, 0, 6, 15, 31, 63, 63, 127, 511]
theorem synopticlaw22_PrecisionLinear.tab8 : rtab .any (opsOf Tryd.f4 8) = synopticlaw22_PrecisionLinear.T8 := by kernel_rfl
theorem synopticlaw22_PrecisionLinear.bits8 : waitsOk synopticlaw22_PrecisionLinear.T8.2 synopticlaw22_PrecisionLinear.B8 = true := by kernel_rfl
def synopticlaw22_PrecisionLinear.T17 : Bool × List (List Nat × List Nat) := (true, [([], []), ([], []), ([], []), ([1, 2], [1, 2]), ([3], [3]), ([0, 4], [0, 4]), ([], []), ([], []), ([], []), ([7, 8], [7, 8]), ([9], [9]), ([6, 10], [6, 10]), ([5, 0, 1, 2, 3, 4, 5], [0, 5]), ([11, 12, 0, 1, 2, 3, 4, 5, 6, 7, 8, 9, 10, 11, 12], [6, 11])])
def synopticlaw22_PrecisionLinear.B17 : List Nat := [0, 0, 0, 6, 14, 31, 0, 0, 0, 384, 896, 1984, 63, 8191]
theorem synopticlaw22_PrecisionLinear.tab17 : rtab .any (opsOf Tryd.f4 17) = synopticlaw22_PrecisionLinear.T17 := by kernel_rfl
theorem synopticlaw22_PrecisionLinear.bits17 : waitsOk synopticlaw22_PrecisionLinear.T17.2 synopticlaw22_PrecisionLinear.B17 = true := by kernel_rfl
set_option maxHeartbeats 8000000 in
set_option maxRecDepth 100000 in
theorem synopticlaw22_PrecisionLinear.calls (k : Nat) (A0 : Option Addr) (c0 : Nat) (l0 : List Int) (r : Bool) (w : World) (hr0 : Kd.C (Kd.int .u8) w A0 l0.length l0) (hc0 : l0.length ≤ c0) (hG : CornersAt w) (h : synopticlaw22_PrecisionLinear.f k l0 = some r) :
    Calls Tryd.prog 4 #[.slice A0 l0.length c0] w fun e w' => e = .returned (.bool r) ∧ Below w.heap.size w w' := by
  have hu36 := Tryd.underlying36
  have hu25 := Tryd.underlying25
  have HR0 := Aside0.mk hr0
  have HC0 := Aside0.mk hc0
  clear hr0 hc0
  have HG := Aside0.mk hG
  clear hG
  have HB := Aside0.mk (Below.refl w.heap.size w)
  have H : ((synopticlaw22_awake.f k).bind fun t260 => (if t260 = true then ((synopticfield_New.f l0 160).bind fun bt261 => ((synopticfield_Codes_Precision.f bt261.1 bt261.2).bind fun bt264 => ((synopticfield_Codes_For.f k bt261.1 bt264.2.2.2 bt264.1 bt264.2.1 bt264.2.2.1).bind fun bt269 => ((synopticlaw22_halves.f k bt269.1).bind fun t273 => ((synopticfield_Codes_For.f k bt261.1 bt269.2 bt264.1 bt264.2.1 bt264.2.2.1).bind fun bt276 => ((synopticlaw22_halves.f k bt276.1).bind fun t280 => ((precision_Apply.f k bt264.1 bt264.2.1 bt264.2.2.1 t273).bind fun bt283 => ((precision_Apply.f k bt264.1 bt264.2.1 bt264.2.2.1 t280).bind fun bt287 => ((synopticlaw22_sum.f k t273 t280).bind fun t291 => ((precision_Apply.f k bt264.1 bt264.2.1 bt264.2.2.1 t291).bind fun bt294 => (if bt283.2 = 0 then (if bt287.2 = 0 then (if bt294.2 = 0 then (if (bt283.1.length : Int) = (t273.length : Int) then (if (bt287.1.length : Int) = (t273.length : Int) then ((synopticlaw22_sum.f k bt283.1 bt287.1).bind fun t298 => ((synoptickeep_Ints.f k bt294.1 t298).bind fun t301 => (synopticlaw22_PrecisionLinear.j0 k t273 t280 bt283.1 bt287.1 (!t301) bt264.1 bt264.2.1 bt264.2.2.1))) else (synopticlaw22_PrecisionLinear.j0 k t273 t280 bt283.1 bt287.1 true bt264.1 bt264.2.1 bt264.2.2.1)) else (synopticlaw22_PrecisionLinear.j0 k t273 t280 bt283.1 bt287.1 true bt264.1 bt264.2.1 bt264.2.2.1)) else (synopticlaw22_PrecisionLinear.j0 k t273 t280 bt283.1 bt287.1 true bt264.1 bt264.2.1 bt264.2.2.1)) else (synopticlaw22_PrecisionLinear.j0 k t273 t280 bt283.1 bt287.1 true bt264.1 bt264.2.1 bt264.2.2.1)) else (synopticlaw22_PrecisionLinear.j0 k t273 t280 bt283.1 bt287.1 true bt264.1 bt264.2.1 bt264.2.2.1)))))))))))) else (some false))) = some r := h
  clear h
  replace H := Option.bind_eq_some_iff.mp H
  obtain ⟨t260, A20, H⟩ := H
  replace H : (if t260 = true then ((synopticfield_New.f l0 160).bind fun bt261 => ((synopticfield_Codes_Precision.f bt261.1 bt261.2).bind fun bt264 => ((synopticfield_Codes_For.f k bt261.1 bt264.2.2.2 bt264.1 bt264.2.1 bt264.2.2.1).bind fun bt269 => ((synopticlaw22_halves.f k bt269.1).bind fun t273 => ((synopticfield_Codes_For.f k bt261.1 bt269.2 bt264.1 bt264.2.1 bt264.2.2.1).bind fun bt276 => ((synopticlaw22_halves.f k bt276.1).bind fun t280 => ((precision_Apply.f k bt264.1 bt264.2.1 bt264.2.2.1 t273).bind fun bt283 => ((precision_Apply.f k bt264.1 bt264.2.1 bt264.2.2.1 t280).bind fun bt287 => ((synopticlaw22_sum.f k t273 t280).bind fun t291 => ((precision_Apply.f k bt264.1 bt264.2.1 bt264.2.2.1 t291).bind fun bt294 => (if bt283.2 = 0 then (if bt287.2 = 0 then (if bt294.2 = 0 then (if (bt283.1.length : Int) = (t273.length : Int) then (if (bt287.1.length : Int) = (t273.length : Int) then ((synopticlaw22_sum.f k bt283.1 bt287.1).bind fun t298 => ((synoptickeep_Ints.f k bt294.1 t298).bind fun t301 => (synopticlaw22_PrecisionLinear.j0 k t273 t280 bt283.1 bt287.1 (!t301) bt264.1 bt264.2.1 bt264.2.2.1))) else (synopticlaw22_PrecisionLinear.j0 k t273 t280 bt283.1 bt287.1 true bt264.1 bt264.2.1 bt264.2.2.1)) else (synopticlaw22_PrecisionLinear.j0 k t273 t280 bt283.1 bt287.1 true bt264.1 bt264.2.1 bt264.2.2.1)) else (synopticlaw22_PrecisionLinear.j0 k t273 t280 bt283.1 bt287.1 true bt264.1 bt264.2.1 bt264.2.2.1)) else (synopticlaw22_PrecisionLinear.j0 k t273 t280 bt283.1 bt287.1 true bt264.1 bt264.2.1 bt264.2.2.1)) else (synopticlaw22_PrecisionLinear.j0 k t273 t280 bt283.1 bt287.1 true bt264.1 bt264.2.1 bt264.2.2.1)))))))))))) else (some false)) = some r := H
  have A2 := Aside0.mk A20
  clear A20
  by_cases c3 : t260 = true
  · subst c3
    have H1 : ((synopticfield_New.f l0 160).bind fun bt261 => ((synopticfield_Codes_Precision.f bt261.1 bt261.2).bind fun bt264 => ((synopticfield_Codes_For.f k bt261.1 bt264.2.2.2 bt264.1 bt264.2.1 bt264.2.2.1).bind fun bt269 => ((synopticlaw22_halves.f k bt269.1).bind fun t273 => ((synopticfield_Codes_For.f k bt261.1 bt269.2 bt264.1 bt264.2.1 bt264.2.2.1).bind fun bt276 => ((synopticlaw22_halves.f k bt276.1).bind fun t280 => ((precision_Apply.f k bt264.1 bt264.2.1 bt264.2.2.1 t273).bind fun bt283 => ((precision_Apply.f k bt264.1 bt264.2.1 bt264.2.2.1 t280).bind fun bt287 => ((synopticlaw22_sum.f k t273 t280).bind fun t291 => ((precision_Apply.f k bt264.1 bt264.2.1 bt264.2.2.1 t291).bind fun bt294 => (if bt283.2 = 0 then (if bt287.2 = 0 then (if bt294.2 = 0 then (if (bt283.1.length : Int) = (t273.length : Int) then (if (bt287.1.length : Int) = (t273.length : Int) then ((synopticlaw22_sum.f k bt283.1 bt287.1).bind fun t298 => ((synoptickeep_Ints.f k bt294.1 t298).bind fun t301 => (synopticlaw22_PrecisionLinear.j0 k t273 t280 bt283.1 bt287.1 (!t301) bt264.1 bt264.2.1 bt264.2.2.1))) else (synopticlaw22_PrecisionLinear.j0 k t273 t280 bt283.1 bt287.1 true bt264.1 bt264.2.1 bt264.2.2.1)) else (synopticlaw22_PrecisionLinear.j0 k t273 t280 bt283.1 bt287.1 true bt264.1 bt264.2.1 bt264.2.2.1)) else (synopticlaw22_PrecisionLinear.j0 k t273 t280 bt283.1 bt287.1 true bt264.1 bt264.2.1 bt264.2.2.1)) else (synopticlaw22_PrecisionLinear.j0 k t273 t280 bt283.1 bt287.1 true bt264.1 bt264.2.1 bt264.2.2.1)) else (synopticlaw22_PrecisionLinear.j0 k t273 t280 bt283.1 bt287.1 true bt264.1 bt264.2.1 bt264.2.2.1)))))))))))) = some r := by rw [if_pos rfl] at H; exact H
    clear H
    have H := H1
    clear H1
    replace H := Option.bind_eq_some_iff.mp H
    obtain ⟨⟨t261, t262⟩, A40, H⟩ := H
    replace H : ((synopticfield_Codes_Precision.f t261 t262).bind fun bt264 => ((synopticfield_Codes_For.f k t261 bt264.2.2.2 bt264.1 bt264.2.1 bt264.2.2.1).bind fun bt269 => ((synopticlaw22_halves.f k bt269.1).bind fun t273 => ((synopticfield_Codes_For.f k t261 bt269.2 bt264.1 bt264.2.1 bt264.2.2.1).bind fun bt276 => ((synopticlaw22_halves.f k bt276.1).bind fun t280 => ((precision_Apply.f k bt264.1 bt264.2.1 bt264.2.2.1 t273).bind fun bt283 => ((precision_Apply.f k bt264.1 bt264.2.1 bt264.2.2.1 t280).bind fun bt287 => ((synopticlaw22_sum.f k t273 t280).bind fun t291 => ((precision_Apply.f k bt264.1 bt264.2.1 bt264.2.2.1 t291).bind fun bt294 => (if bt283.2 = 0 then (if bt287.2 = 0 then (if bt294.2 = 0 then (if (bt283.1.length : Int) = (t273.length : Int) then (if (bt287.1.length : Int) = (t273.length : Int) then ((synopticlaw22_sum.f k bt283.1 bt287.1).bind fun t298 => ((synoptickeep_Ints.f k bt294.1 t298).bind fun t301 => (synopticlaw22_PrecisionLinear.j0 k t273 t280 bt283.1 bt287.1 (!t301) bt264.1 bt264.2.1 bt264.2.2.1))) else (synopticlaw22_PrecisionLinear.j0 k t273 t280 bt283.1 bt287.1 true bt264.1 bt264.2.1 bt264.2.2.1)) else (synopticlaw22_PrecisionLinear.j0 k t273 t280 bt283.1 bt287.1 true bt264.1 bt264.2.1 bt264.2.2.1)) else (synopticlaw22_PrecisionLinear.j0 k t273 t280 bt283.1 bt287.1 true bt264.1 bt264.2.1 bt264.2.2.1)) else (synopticlaw22_PrecisionLinear.j0 k t273 t280 bt283.1 bt287.1 true bt264.1 bt264.2.1 bt264.2.2.1)) else (synopticlaw22_PrecisionLinear.j0 k t273 t280 bt283.1 bt287.1 true bt264.1 bt264.2.1 bt264.2.2.1))))))))))) = some r := H
    have A4 := Aside0.mk A40
    clear A40
    replace H := Option.bind_eq_some_iff.mp H
    obtain ⟨⟨t264, t265, t266, t267⟩, A50, H⟩ := H
    replace H : ((synopticfield_Codes_For.f k t261 t267 t264 t265 t266).bind fun bt269 => ((synopticlaw22_halves.f k bt269.1).bind fun t273 => ((synopticfield_Codes_For.f k t261 bt269.2 t264 t265 t266).bind fun bt276 => ((synopticlaw22_halves.f k bt276.1).bind fun t280 => ((precision_Apply.f k t264 t265 t266 t273).bind fun bt283 => ((precision_Apply.f k t264 t265 t266 t280).bind fun bt287 => ((synopticlaw22_sum.f k t273 t280).bind fun t291 => ((precision_Apply.f k t264 t265 t266 t291).bind fun bt294 => (if bt283.2 = 0 then (if bt287.2 = 0 then (if bt294.2 = 0 then (if (bt283.1.length : Int) = (t273.length : Int) then (if (bt287.1.length : Int) = (t273.length : Int) then ((synopticlaw22_sum.f k bt283.1 bt287.1).bind fun t298 => ((synoptickeep_Ints.f k bt294.1 t298).bind fun t301 => (synopticlaw22_PrecisionLinear.j0 k t273 t280 bt283.1 bt287.1 (!t301) t264 t265 t266))) else (synopticlaw22_PrecisionLinear.j0 k t273 t280 bt283.1 bt287.1 true t264 t265 t266)) else (synopticlaw22_PrecisionLinear.j0 k t273 t280 bt283.1 bt287.1 true t264 t265 t266)) else (synopticlaw22_PrecisionLinear.j0 k t273 t280 bt283.1 bt287.1 true t264 t265 t266)) else (synopticlaw22_PrecisionLinear.j0 k t273 t280 bt283.1 bt287.1 true t264 t265 t266)) else (synopticlaw22_PrecisionLinear.j0 k t273 t280 bt283.1 bt287.1 true t264 t265 t266)))))))))) = some r := H
    have A5 := Aside0.mk A50
    clear A50
    replace H := Option.bind_eq_some_iff.mp H
    obtain ⟨⟨t269, t272⟩, A60, H⟩ := H
    replace H : ((synopticlaw22_halves.f k t269).bind fun t273 => ((synopticfield_Codes_For.f k t261 t272 t264 t265 t266).bind fun bt276 => ((synopticlaw22_halves.f k bt276.1).bind fun t280 => ((precision_Apply.f k t264 t265 t266 t273).bind fun bt283 => ((precision_Apply.f k t264 t265 t266 t280).bind fun bt287 => ((synopticlaw22_sum.f k t273 t280).bind fun t291 => ((precision_Apply.f k t264 t265 t266 t291).bind fun bt294 => (if bt283.2 = 0 then (if bt287.2 = 0 then (if bt294.2 = 0 then (if (bt283.1.length : Int) = (t273.length : Int) then (if (bt287.1.length : Int) = (t273.length : Int) then ((synopticlaw22_sum.f k bt283.1 bt287.1).bind fun t298 => ((synoptickeep_Ints.f k bt294.1 t298).bind fun t301 => (synopticlaw22_PrecisionLinear.j0 k t273 t280 bt283.1 bt287.1 (!t301) t264 t265 t266))) else (synopticlaw22_PrecisionLinear.j0 k t273 t280 bt283.1 bt287.1 true t264 t265 t266)) else (synopticlaw22_PrecisionLinear.j0 k t273 t280 bt283.1 bt287.1 true t264 t265 t266)) else (synopticlaw22_PrecisionLinear.j0 k t273 t280 bt283.1 bt287.1 true t264 t265 t266)) else (synopticlaw22_PrecisionLinear.j0 k t273 t280 bt283.1 bt287.1 true t264 t265 t266)) else (synopticlaw22_PrecisionLinear.j0 k t273 t280 bt283.1 bt287.1 true t264 t265 t266))))))))) = some r := H
    have A6 := Aside0.mk A60
    clear A60
    replace H := Option.bind_eq_some_iff.mp H
    obtain ⟨t273, A70, H⟩ := H
    replace H : ((synopticfield_Codes_For.f k t261 t272 t264 t265 t266).bind fun bt276 => ((synopticlaw22_halves.f k bt276.1).bind fun t280 => ((precision_Apply.f k t264 t265 t266 t273).bind fun bt283 => ((precision_Apply.f k t264 t265 t266 t280).bind fun bt287 => ((synopticlaw22_sum.f k t273 t280).bind fun t291 => ((precision_Apply.f k t264 t265 t266 t291).bind fun bt294 => (if bt283.2 = 0 then (if bt287.2 = 0 then (if bt294.2 = 0 then (if (bt283.1.length : Int) = (t273.length : Int) then (if (bt287.1.length : Int) = (t273.length : Int) then ((synopticlaw22_sum.f k bt283.1 bt287.1).bind fun t298 => ((synoptickeep_Ints.f k bt294.1 t298).bind fun t301 => (synopticlaw22_PrecisionLinear.j0 k t273 t280 bt283.1 bt287.1 (!t301) t264 t265 t266))) else (synopticlaw22_PrecisionLinear.j0 k t273 t280 bt283.1 bt287.1 true t264 t265 t266)) else (synopticlaw22_PrecisionLinear.j0 k t273 t280 bt283.1 bt287.1 true t264 t265 t266)) else (synopticlaw22_PrecisionLinear.j0 k t273 t280 bt283.1 bt287.1 true t264 t265 t266)) else (synopticlaw22_PrecisionLinear.j0 k t273 t280 bt283.1 bt287.1 true t264 t265 t266)) else (synopticlaw22_PrecisionLinear.j0 k t273 t280 bt283.1 bt287.1 true t264 t265 t266)))))))) = some r := H
    have A7 := Aside0.mk A70
    clear A70
    replace H := Option.bind_eq_some_iff.mp H
    obtain ⟨⟨t276, t279⟩, A80, H⟩ := H
    replace H : ((synopticlaw22_halves.f k t276).bind fun t280 => ((precision_Apply.f k t264 t265 t266 t273).bind fun bt283 => ((precision_Apply.f k t264 t265 t266 t280).bind fun bt287 => ((synopticlaw22_sum.f k t273 t280).bind fun t291 => ((precision_Apply.f k t264 t265 t266 t291).bind fun bt294 => (if bt283.2 = 0 then (if bt287.2 = 0 then (if bt294.2 = 0 then (if (bt283.1.length : Int) = (t273.length : Int) then (if (bt287.1.length : Int) = (t273.length : Int) then ((synopticlaw22_sum.f k bt283.1 bt287.1).bind fun t298 => ((synoptickeep_Ints.f k bt294.1 t298).bind fun t301 => (synopticlaw22_PrecisionLinear.j0 k t273 t280 bt283.1 bt287.1 (!t301) t264 t265 t266))) else (synopticlaw22_PrecisionLinear.j0 k t273 t280 bt283.1 bt287.1 true t264 t265 t266)) else (synopticlaw22_PrecisionLinear.j0 k t273 t280 bt283.1 bt287.1 true t264 t265 t266)) else (synopticlaw22_PrecisionLinear.j0 k t273 t280 bt283.1 bt287.1 true t264 t265 t266)) else (synopticlaw22_PrecisionLinear.j0 k t273 t280 bt283.1 bt287.1 true t264 t265 t266)) else (synopticlaw22_PrecisionLinear.j0 k t273 t280 bt283.1 bt287.1 true t264 t265 t266))))))) = some r := H
    have A8 := Aside0.mk A80
    clear A80
    replace H := Option.bind_eq_some_iff.mp H
    obtain ⟨t280, A90, H⟩ := H
    replace H : ((precision_Apply.f k t264 t265 t266 t273).bind fun bt283 => ((precision_Apply.f k t264 t265 t266 t280).bind fun bt287 => ((synopticlaw22_sum.f k t273 t280).bind fun t291 => ((precision_Apply.f k t264 t265 t266 t291).bind fun bt294 => (if bt283.2 = 0 then (if bt287.2 = 0 then (if bt294.2 = 0 then (if (bt283.1.length : Int) = (t273.length : Int) then (if (bt287.1.length : Int) = (t273.length : Int) then ((synopticlaw22_sum.f k bt283.1 bt287.1).bind fun t298 => ((synoptickeep_Ints.f k bt294.1 t298).bind fun t301 => (synopticlaw22_PrecisionLinear.j0 k t273 t280 bt283.1 bt287.1 (!t301) t264 t265 t266))) else (synopticlaw22_PrecisionLinear.j0 k t273 t280 bt283.1 bt287.1 true t264 t265 t266)) else (synopticlaw22_PrecisionLinear.j0 k t273 t280 bt283.1 bt287.1 true t264 t265 t266)) else (synopticlaw22_PrecisionLinear.j0 k t273 t280 bt283.1 bt287.1 true t264 t265 t266)) else (synopticlaw22_PrecisionLinear.j0 k t273 t280 bt283.1 bt287.1 true t264 t265 t266)) else (synopticlaw22_PrecisionLinear.j0 k t273 t280 bt283.1 bt287.1 true t264 t265 t266)))))) = some r := H
    have A9 := Aside0.mk A90
    clear A90
    replace H := Option.bind_eq_some_iff.mp H
    obtain ⟨⟨t283, t286⟩, A100, H⟩ := H
    replace H : ((precision_Apply.f k t264 t265 t266 t280).bind fun bt287 => ((synopticlaw22_sum.f k t273 t280).bind fun t291 => ((precision_Apply.f k t264 t265 t266 t291).bind fun bt294 => (if t286 = 0 then (if bt287.2 = 0 then (if bt294.2 = 0 then (if (t283.length : Int) = (t273.length : Int) then (if (bt287.1.length : Int) = (t273.length : Int) then ((synopticlaw22_sum.f k t283 bt287.1).bind fun t298 => ((synoptickeep_Ints.f k bt294.1 t298).bind fun t301 => (synopticlaw22_PrecisionLinear.j0 k t273 t280 t283 bt287.1 (!t301) t264 t265 t266))) else (synopticlaw22_PrecisionLinear.j0 k t273 t280 t283 bt287.1 true t264 t265 t266)) else (synopticlaw22_PrecisionLinear.j0 k t273 t280 t283 bt287.1 true t264 t265 t266)) else (synopticlaw22_PrecisionLinear.j0 k t273 t280 t283 bt287.1 true t264 t265 t266)) else (synopticlaw22_PrecisionLinear.j0 k t273 t280 t283 bt287.1 true t264 t265 t266)) else (synopticlaw22_PrecisionLinear.j0 k t273 t280 t283 bt287.1 true t264 t265 t266))))) = some r := H
    have A10 := Aside0.mk A100
    clear A100
    replace H := Option.bind_eq_some_iff.mp H
    obtain ⟨⟨t287, t290⟩, A110, H⟩ := H
    replace H : ((synopticlaw22_sum.f k t273 t280).bind fun t291 => ((precision_Apply.f k t264 t265 t266 t291).bind fun bt294 => (if t286 = 0 then (if t290 = 0 then (if bt294.2 = 0 then (if (t283.length : Int) = (t273.length : Int) then (if (t287.length : Int) = (t273.length : Int) then ((synopticlaw22_sum.f k t283 t287).bind fun t298 => ((synoptickeep_Ints.f k bt294.1 t298).bind fun t301 => (synopticlaw22_PrecisionLinear.j0 k t273 t280 t283 t287 (!t301) t264 t265 t266))) else (synopticlaw22_PrecisionLinear.j0 k t273 t280 t283 t287 true t264 t265 t266)) else (synopticlaw22_PrecisionLinear.j0 k t273 t280 t283 t287 true t264 t265 t266)) else (synopticlaw22_PrecisionLinear.j0 k t273 t280 t283 t287 true t264 t265 t266)) else (synopticlaw22_PrecisionLinear.j0 k t273 t280 t283 t287 true t264 t265 t266)) else (synopticlaw22_PrecisionLinear.j0 k t273 t280 t283 t287 true t264 t265 t266)))) = some r := H
    have A11 := Aside0.mk A110
    clear A110
    replace H := Option.bind_eq_some_iff.mp H
    obtain ⟨t291, A120, H⟩ := H
    replace H : ((precision_Apply.f k t264 t265 t266 t291).bind fun bt294 => (if t286 = 0 then (if t290 = 0 then (if bt294.2 = 0 then (if (t283.length : Int) = (t273.length : Int) then (if (t287.length : Int) = (t273.length : Int) then ((synopticlaw22_sum.f k t283 t287).bind fun t298 => ((synoptickeep_Ints.f k bt294.1 t298).bind fun t301 => (synopticlaw22_PrecisionLinear.j0 k t273 t280 t283 t287 (!t301) t264 t265 t266))) else (synopticlaw22_PrecisionLinear.j0 k t273 t280 t283 t287 true t264 t265 t266)) else (synopticlaw22_PrecisionLinear.j0 k t273 t280 t283 t287 true t264 t265 t266)) else (synopticlaw22_PrecisionLinear.j0 k t273 t280 t283 t287 true t264 t265 t266)) else (synopticlaw22_PrecisionLinear.j0 k t273 t280 t283 t287 true t264 t265 t266)) else (synopticlaw22_PrecisionLinear.j0 k t273 t280 t283 t287 true t264 t265 t266))) = some r := H
    have A12 := Aside0.mk A120
    clear A120
    replace H := Option.bind_eq_some_iff.mp H
    obtain ⟨⟨t294, t297⟩, A130, H⟩ := H
    replace H : (if t286 = 0 then (if t290 = 0 then (if t297 = 0 then (if (t283.length : Int) = (t273.length : Int) then (if (t287.length : Int) = (t273.length : Int) then ((synopticlaw22_sum.f k t283 t287).bind fun t298 => ((synoptickeep_Ints.f k t294 t298).bind fun t301 => (synopticlaw22_PrecisionLinear.j0 k t273 t280 t283 t287 (!t301) t264 t265 t266))) else (synopticlaw22_PrecisionLinear.j0 k t273 t280 t283 t287 true t264 t265 t266)) else (synopticlaw22_PrecisionLinear.j0 k t273 t280 t283 t287 true t264 t265 t266)) else (synopticlaw22_PrecisionLinear.j0 k t273 t280 t283 t287 true t264 t265 t266)) else (synopticlaw22_PrecisionLinear.j0 k t273 t280 t283 t287 true t264 t265 t266)) else (synopticlaw22_PrecisionLinear.j0 k t273 t280 t283 t287 true t264 t265 t266)) = some r := H
    have A13 := Aside0.mk A130
    clear A130
    have HC14 := Aside0.mk H
    clear H
    go_enter Tryd.func4, Tryd.ntmps4
    try go_wp2_with (first | ((with_reducible refine gate_callee (f := 8) rfl ?_); refine goesL_ (some 18) rfl rfl Tryd.func8 (by kernel_rfl) rfl #[] rfl (by (try simp only [List.map_toArray, List.map_cons, List.map_nil]); first | done | rfl | (simp only [List.length_drop, List.length_take]; rfl)) ?_; (with_reducible refine (synopticlaw22_awake.calls k  true _ ?side1 A2.out).mono ?_); (case side1 => exact CornersAt.below HG.out (by repeat (first | (with_reducible first | exact HB.out | apply below_alloc | apply pw_below_drewN | apply below_drew1) | exact HB.out))); rintro e w15 ⟨rfl, hb⟩; refine ⟨_, rfl, ?_⟩; have n0_ := Aside0.mk (below_step (by repeat (first | (with_reducible first | exact HB.out | apply below_alloc | apply pw_below_drewN | apply below_drew1) | exact HB.out)) hb); clear HB; have HB := n0_; clear n0_; (try clear hb); (try clear hb2); (try clear hk); (try clear hi)) | ((with_reducible refine gate_callee (f := 14) rfl ?_); refine goesL_ (some 21) rfl rfl Tryd.func14 (by kernel_rfl) rfl #[.slice A0 l0.length c0, .int .i64 160] rfl (by (try simp only [List.map_toArray, List.map_cons, List.map_nil]); first | done | rfl | (simp only [List.length_drop, List.length_take]; rfl)) ?_; (with_reducible refine (synopticfield_New.calls _ _ l0 160 t261 t262 w _ ?side1 ?side2 ?side3 A4.out).mono ?_); (case side1 => repeat (first | (with_reducible first | exact HB.out | apply below_alloc | apply pw_below_drewN | apply below_drew1) | exact HB.out)); (case side2 => exact HR0.out); (case side3 => exact HC0.out); rintro e w16 ⟨g263, rfl, hi, hb, hb2⟩; refine ⟨_, rfl, ?_⟩; have n0_ := Aside0.mk (hb); have n1_ := Aside0.mk (hi); clear HB; have HB := n0_; have HI263 := n1_; clear n0_ n1_; (try clear hb); (try clear hb2); (try clear hk); (try clear hi)) | ((with_reducible refine gate_callee (f := 15) rfl ?_); refine goesL_ (some 23) rfl rfl Tryd.func15 (by kernel_rfl) rfl #[.pointer (some ⟨g263, 0, none⟩)] rfl (by (try simp only [List.map_toArray, List.map_cons, List.map_nil]); first | done | rfl | (simp only [List.length_drop, List.length_take]; rfl)) ?_; (with_reducible refine (synopticfield_Codes_Precision.calls g263 t261 t262 t264 t265 t266 t267 w _ ?side1 ?side2 A5.out).mono ?_); (case side1 => repeat (first | (with_reducible first | exact HI263.out | apply IsS61.alloc | apply IsS61.drewN | apply IsS61.drew | apply IsS61.set_1) | exact HI263.out)); (case side2 => repeat (first | (with_reducible first | exact HB.out | apply below_alloc | apply pw_below_drewN | apply below_drew1 | refine below_set ?_ (IsS61.ge HI263.out)) | exact HB.out)); rintro e w17 ⟨rfl, hi, hb, hk⟩; refine ⟨_, rfl, ?_⟩; have n0_ := Aside0.mk (hb); have n1_ := Aside0.mk (hi); clear HB; clear HI263; have HB := n0_; have HI263 := n1_; clear n0_ n1_; (try clear hb); (try clear hb2); (try clear hk); (try clear hi)) | ((with_reducible refine gate_dst (N := 4) rfl ?_); (try (refine gate_guard (by rfl) ?_; dsimp only)); refine box_event ?hg (N := 4) ?hd (cs := #[.int .i64 0, .int .i64 0, .int .i64 0]) (t := 36) ?hr ?_; (case hd => rfl); (case hg => rfl); (case hr => first | (go_simp; done) | (go_simp; rfl)); intro gb268 hg w18 hbox hb; have n0_ := Aside0.mk (IsS61.below (by repeat (first | (with_reducible first | exact HI263.out | apply IsS61.alloc | apply IsS61.drewN | apply IsS61.drew | apply IsS61.set_1) | exact HI263.out)) hb); have n1_ := Aside0.mk (below_step (by repeat (first | (with_reducible first | exact HB.out | apply below_alloc | apply pw_below_drewN | apply below_drew1 | refine below_set ?_ (IsS61.ge HI263.out)) | exact HB.out)) hb); have n2_ := Aside0.mk (hbox); have n3_ := Aside0.mk ((by rw [hg]; exact (below_size (by repeat (first | (with_reducible first | exact HB.out | apply below_alloc | apply pw_below_drewN | apply below_drew1 | refine below_set ?_ (IsS61.ge HI263.out)) | exact HB.out))) : w.heap.size ≤ gb268)); have n4_ := Aside0.mk ((by rw [hg]; exact (below_size (by repeat (first | (with_reducible first | exact HB.out | apply below_alloc | apply pw_below_drewN | apply below_drew1 | refine below_set ?_ (IsS61.ge HI263.out)) | exact HB.out))) : w.heap.size ≤ gb268)); have n5_ := Aside0.mk ((by rw [hg]; exact Nat.ne_of_lt (IsS61.lt (show IsS61 w _ g263 t261 t267 from by repeat (first | (with_reducible first | exact HI263.out | apply IsS61.alloc | apply IsS61.drewN | apply IsS61.drew | apply IsS61.set_1) | exact HI263.out))) : g263 ≠ gb268)); have n6_ := Aside0.mk ((by rw [hg]; exact Nat.ne_of_gt (IsS61.lt (show IsS61 w _ g263 t261 t267 from by repeat (first | (with_reducible first | exact HI263.out | apply IsS61.alloc | apply IsS61.drewN | apply IsS61.drew | apply IsS61.set_1) | exact HI263.out))) : gb268 ≠ g263)); clear HI263; clear HB; have HI263 := n0_; have HB := n1_; have BK268 := n2_; have GW268 := n3_; have GE268 := n4_; have NB263_268 := n5_; have NB268_263 := n6_; clear n0_ n1_ n2_ n3_ n4_ n5_ n6_; clear hb hbox hg; have hnb19 := NB268_263.out; have hnc19 := NB263_268.out; have hcz20_0 : w18.cell? ⟨gb268, 0, none⟩ = some (.int .i64 0) := (blk_cell BK268.out 0).trans rfl; have hcz20_1 : w18.cell? ⟨gb268, 1, none⟩ = some (.int .i64 0) := (blk_cell BK268.out 1).trans rfl; have hcz20_2 : w18.cell? ⟨gb268, 2, none⟩ = some (.int .i64 0) := (blk_cell BK268.out 2).trans rfl; have hfz20_0 := blk_frozen BK268.out 0; have hfz20_1 := blk_frozen BK268.out 1; have hfz20_2 := blk_frozen BK268.out 2))
    have n0_ : Aside0 ((((w18.setCell ⟨gb268, 0, none⟩ (.int .i64 t264)).setCell ⟨gb268, 1, none⟩ (.int .i64 t265)).setCell ⟨gb268, 2, none⟩ (.int .i64 t266)).heap[gb268]? = some (.cells #[.int .i64 t264, .int .i64 t265, .int .i64 t266] 36 (0, 0))) := ⟨by (with_reducible repeat (first | refine blk_drewN ?_ _ | refine blk_drew ?_ | refine blk_alloc ?_ _)); refine blk_put (cs := #[.int .i64 t264, .int .i64 t265, .int .i64 0]) ?_ 2 _ rfl; (with_reducible repeat (first | refine blk_drewN ?_ _ | refine blk_drew ?_ | refine blk_alloc ?_ _)); refine blk_put (cs := #[.int .i64 t264, .int .i64 0, .int .i64 0]) ?_ 1 _ rfl; (with_reducible repeat (first | refine blk_drewN ?_ _ | refine blk_drew ?_ | refine blk_alloc ?_ _)); refine blk_put (cs := #[.int .i64 0, .int .i64 0, .int .i64 0]) ?_ 0 _ rfl; (with_reducible repeat (first | refine blk_drewN ?_ _ | refine blk_drew ?_ | refine blk_alloc ?_ _)); exact BK268.out⟩
    have n1_ : Aside0 (IsS61 w (((w18.setCell ⟨gb268, 0, none⟩ (.int .i64 t264)).setCell ⟨gb268, 1, none⟩ (.int .i64 t265)).setCell ⟨gb268, 2, none⟩ (.int .i64 t266)) g263 t261 t267) := ⟨by repeat (first | (with_reducible first | exact HI263.out | apply IsS61.alloc | apply IsS61.drewN | apply IsS61.drew | apply IsS61.set_1 | refine IsS61.far ?_ NB263_268.out _) | exact HI263.out)⟩
    have n2_ : Aside0 (Below w.heap.size w (((w18.setCell ⟨gb268, 0, none⟩ (.int .i64 t264)).setCell ⟨gb268, 1, none⟩ (.int .i64 t265)).setCell ⟨gb268, 2, none⟩ (.int .i64 t266))) := ⟨by repeat (first | (with_reducible first | exact HB.out | apply below_alloc | apply pw_below_drewN | apply below_drew1 | refine below_set ?_ (IsS61.ge HI263.out) | refine below_set ?_ GE268.out) | exact HB.out)⟩
    (try clear BK268)
    (try clear HI263)
    (try clear HB)
    generalize (((w18.setCell ⟨gb268, 0, none⟩ (.int .i64 t264)).setCell ⟨gb268, 1, none⟩ (.int .i64 t265)).setCell ⟨gb268, 2, none⟩ (.int .i64 t266)) = w21 at n0_ n1_ n2_ ⊢
    have BK268 := n0_
    have HI263 := n1_
    have HB := n2_
    clear n0_ n1_ n2_
    have n0_ := Aside0.mk (blk_drew BK268.out)
    have n1_ := Aside0.mk (IsS61.drew HI263.out)
    have n2_ := Aside0.mk (below_drew1 HB.out)
    clear BK268
    clear HI263
    clear HB
    have BK268 := n0_
    have HI263 := n1_
    have HB := n2_
    clear n0_ n1_ n2_
    refine start_ (n := 10) (S := fun w' => w'.cell? ⟨gb268, 0, none⟩ = some (.int .i64 t264) ∧ w'.cell? ⟨gb268, 1, none⟩ = some (.int .i64 t265) ∧ w'.cell? ⟨gb268, 2, none⟩ = some (.int .i64 t266)) (ds := []) #[false, false, false, false, false, false, false, false, false, false] (by kernel_rfl) rfl rfl ⟨(blk_cell BK268.out 0).trans rfl, (blk_cell BK268.out 1).trans rfl, (blk_cell BK268.out 2).trans rfl⟩ (fun hHeld => ?_); refine with_tabW synopticlaw22_PrecisionLinear.tab5 synopticlaw22_PrecisionLinear.bits5 (fun HT_ HW_ => ?_)
    generalize w21.drew = w22 at BK268 HI263 HB hHeld ⊢
    refine pure_ (i := 0) (N := some 24) (v := ?_) (a' := ?_) #[true, false, false, false, false, false, false, false, false, false] rfl rfl (any_of HT_.out (by kernel_rfl)) (fun _ _ _ h => h) (Or.inl ⟨by rfl, ?_⟩) ?_ ?_
    rotate_left
    · intro w'
      go_simp
      with_reducible rfl
    rotate_left
    · simp only [Act.put, List.setIfInBounds_toArray, List.set_cons_zero, List.set_cons_succ, i64_w]
      rfl
    refine pure_ (i := 4) (N := some 28) (v := ?_) (a' := ?_) #[true, false, false, false, true, false, false, false, false, false] rfl rfl (any_of HT_.out (by kernel_rfl)) (fun _ _ _ h => h) (Or.inl ⟨by rfl, ?_⟩) ?_ ?_
    rotate_left
    · intro w'
      go_simp
      with_reducible rfl
    rotate_left
    · simp only [Act.put, List.setIfInBounds_toArray, List.set_cons_zero, List.set_cons_succ, i64_w]
      rfl
    refine take_ (i := 1) (N := some 25) (v := ?_) (a' := ?_) #[true, true, false, false, true, false, false, false, false, false] rfl rfl (take_ofW HT_.out HW_.out (by kernel_rfl)) (fun _ _ _ h => h) (Or.inl ⟨by rfl, ?_⟩) hHeld ?_ ?_
    rotate_left
    · rintro w' ⟨s0, s1, s2⟩
      go_simp
      with_reducible rfl
    rotate_left
    · simp only [Act.put, List.setIfInBounds_toArray, List.set_cons_zero, List.set_cons_succ, i64_w]
      rfl
    refine take_ (i := 5) (N := some 29) (v := ?_) (a' := ?_) #[true, true, false, false, true, true, false, false, false, false] rfl rfl (take_ofW HT_.out HW_.out (by kernel_rfl)) (fun _ _ _ h => h) (Or.inl ⟨by rfl, ?_⟩) hHeld ?_ ?_
    rotate_left
    · rintro w' ⟨s0, s1, s2⟩
      go_simp
      with_reducible rfl
    rotate_left
    · simp only [Act.put, List.setIfInBounds_toArray, List.set_cons_zero, List.set_cons_succ, i64_w]
      rfl
    refine one_ (i := 2) (N := some 26) #[true, true, true, false, true, true, false, false, false, false] rfl rfl (one_of HT_.out (by kernel_rfl)) (by decide) (fun K hK => ?_)
    refine goes_ Tryd.func17 (by kernel_rfl) rfl #[.pointer (some ⟨g263, 0, none⟩), .agg #[.int .i64 t264, .int .i64 t265, .int .i64 t266]] (by rfl) rfl rfl (by (try simp only [List.map_toArray, List.map_cons, List.map_nil]); first | done | rfl | (simp only [List.length_drop, List.length_take]; rfl)) ?_
    with_reducible refine (synopticfield_Codes_For.calls k g263 t261 t267 t264 t265 t266 t269 t272 w _ ?side1 ?side2 A6.out).mono ?_
    (case side1 => repeat (first | (with_reducible first | exact HI263.out | apply IsS61.alloc | apply IsS61.drewN | apply IsS61.drew | apply IsS61.set_1 | refine IsS61.far ?_ NB263_268.out _) | exact HI263.out))
    (case side2 => repeat (first | (with_reducible first | exact HB.out | apply below_alloc | apply pw_below_drewN | apply below_drew1 | refine below_set ?_ (IsS61.ge HI263.out) | refine below_set ?_ GE268.out) | exact HB.out))
    rintro e w23 ⟨v270, rfl, ho0, hi, hb, hk⟩
    refine ⟨_, rfl, ?_⟩
    have n0_ := Aside0.mk (KeepBut.blk hk (g' := gb268) (o := .cells #[.int .i64 t264, .int .i64 t265, .int .i64 t266] 36 (0, 0)) (by (with_reducible repeat (first | refine blk_drewN ?_ _ | refine blk_drew ?_ | refine blk_alloc ?_ _)); exact BK268.out) NB268_263.out (by simp))
    have n1_ := Aside0.mk (Kd.R_lower ho0 (below_size (by repeat (first | (with_reducible first | exact HB.out | apply below_alloc | apply pw_below_drewN | apply below_drew1 | refine below_set ?_ (IsS61.ge HI263.out) | refine below_set ?_ GE268.out) | exact HB.out))))
    have n2_ := Aside0.mk (hb)
    have n3_ := Aside0.mk (hi)
    clear BK268
    clear HB
    clear HI263
    have BK268 := n0_
    have HO271 := n1_
    have HB := n2_
    have HI263 := n3_
    clear n0_ n1_ n2_ n3_
    (try clear hb)
    (try clear hb2)
    (try clear hk)
    (try clear hi)
    (try clear ho0)
    obtain ⟨Ao24, co24, eo24⟩ := Kd.R_slice HO271.out
    (first | subst eo24 | (injection eo24 with f1_ f2_ f3_; have f4_ := f1_.symm; have f5_ := f3_.symm; clear f1_ f2_ f3_; subst f4_; subst f5_))
    refine hK.out _ _ ⟨(blk_cell BK268.out 0).trans rfl, (blk_cell BK268.out 1).trans rfl, (blk_cell BK268.out 2).trans rfl⟩ (fun hHeld => ?_)
    clear hK K
    refine norm_ (a' := ?_) ?_ ?_
    rotate_left
    · show Act.put _ (some 26) _ = _
      simp only [Act.put, List.setIfInBounds_toArray, List.set_cons_zero, List.set_cons_succ, i64_w]
      rfl
    refine one_ (i := 3) (N := some 27) #[true, true, true, true, true, true, false, false, false, false] rfl rfl (one_of HT_.out (by kernel_rfl)) (by decide) (fun K hK => ?_)
    refine goes_ Tryd.func16 (by kernel_rfl) rfl #[.slice Ao24 t269.length co24] (by rfl) rfl rfl (by (try simp only [List.map_toArray, List.map_cons, List.map_nil]); first | done | rfl | (simp only [List.length_drop, List.length_take]; rfl)) ?_
    with_reducible refine (synopticlaw22_halves.calls k _ _ t269 t273 _ ?side1 ?side2 A7.out).mono ?_
    (case side1 => repeat (first | exact (Kd.R_reads' HO271.out).2.2 | (with_reducible refine Kd.C_alloc ?_ _) | (with_reducible refine Kd.C_drewN ?_ _) | (with_reducible refine Kd.C_drew ?_)))
    (case side2 => exact (Kd.R_reads' HO271.out).2.1)
    rintro e w25 ⟨v274, rfl, ho0, hb⟩
    refine ⟨_, rfl, ?_⟩
    have n0_ := Aside0.mk (Kd.R_elder' (by (with_reducible repeat (first | apply Kd.R_alloc | apply Kd.R_drewN | apply Kd.R_drew)); exact HO271.out) (Kd.R_base ho0) hb)
    have n1_ := Aside0.mk (Kd.R_lower (Kd.R_new' ho0 (Kd.R_lt (by (with_reducible repeat (first | apply Kd.R_alloc | apply Kd.R_drewN | apply Kd.R_drew)); exact HO271.out))) (below_size (by repeat (first | (with_reducible first | exact HB.out | apply below_alloc | apply pw_below_drewN | apply below_drew1 | refine below_set ?_ (IsS61.ge HI263.out) | refine below_set ?_ GE268.out) | exact HB.out))))
    have n2_ := Aside0.mk (IsS61.below (by repeat (first | (with_reducible first | exact HI263.out | apply IsS61.alloc | apply IsS61.drewN | apply IsS61.drew | apply IsS61.set_1 | refine IsS61.far ?_ NB263_268.out _) | exact HI263.out)) hb)
    have n3_ := Aside0.mk (blk_below (g := gb268) (o := .cells #[.int .i64 t264, .int .i64 t265, .int .i64 t266] 36 (0, 0)) (by (with_reducible repeat (first | refine blk_drewN ?_ _ | refine blk_drew ?_ | refine blk_alloc ?_ _)); exact BK268.out) hb)
    have n4_ := Aside0.mk (below_step (by repeat (first | (with_reducible first | exact HB.out | apply below_alloc | apply pw_below_drewN | apply below_drew1 | refine below_set ?_ (IsS61.ge HI263.out) | refine below_set ?_ GE268.out) | exact HB.out)) hb)
    clear HO271
    clear HI263
    clear BK268
    clear HB
    have HO271 := n0_
    have HO275 := n1_
    have HI263 := n2_
    have BK268 := n3_
    have HB := n4_
    clear n0_ n1_ n2_ n3_ n4_
    (try clear hb)
    (try clear hb2)
    (try clear hk)
    (try clear hi)
    (try clear ho0)
    refine hK.out _ _ ⟨(blk_cell BK268.out 0).trans rfl, (blk_cell BK268.out 1).trans rfl, (blk_cell BK268.out 2).trans rfl⟩ (fun hHeld => ?_)
    clear hK K
    refine norm_ (a' := ?_) ?_ ?_
    rotate_left
    · show Act.put _ (some 27) _ = _
      simp only [Act.put, List.setIfInBounds_toArray, List.set_cons_zero, List.set_cons_succ, i64_w]
      rfl
    refine one_ (i := 6) (N := some 30) #[true, true, true, true, true, true, true, false, false, false] rfl rfl (one_of HT_.out (by kernel_rfl)) (by decide) (fun K hK => ?_)
    refine goes_ Tryd.func17 (by kernel_rfl) rfl #[.pointer (some ⟨g263, 0, none⟩), .agg #[.int .i64 t264, .int .i64 t265, .int .i64 t266]] (by rfl) rfl rfl (by (try simp only [List.map_toArray, List.map_cons, List.map_nil]); first | done | rfl | (simp only [List.length_drop, List.length_take]; rfl)) ?_
    with_reducible refine (synopticfield_Codes_For.calls k g263 t261 t272 t264 t265 t266 t276 t279 w _ ?side1 ?side2 A8.out).mono ?_
    (case side1 => repeat (first | (with_reducible first | exact HI263.out | apply IsS61.alloc | apply IsS61.drewN | apply IsS61.drew | apply IsS61.set_1 | refine IsS61.far ?_ NB263_268.out _) | exact HI263.out))
    (case side2 => repeat (first | (with_reducible first | exact HB.out | apply below_alloc | apply pw_below_drewN | apply below_drew1 | refine below_set ?_ (IsS61.ge HI263.out) | refine below_set ?_ GE268.out) | exact HB.out))
    rintro e w26 ⟨v277, rfl, ho0, hi, hb, hk⟩
    refine ⟨_, rfl, ?_⟩
    have n0_ := Aside0.mk (KeepBut.blk hk (g' := gb268) (o := .cells #[.int .i64 t264, .int .i64 t265, .int .i64 t266] 36 (0, 0)) (by (with_reducible repeat (first | refine blk_drewN ?_ _ | refine blk_drew ?_ | refine blk_alloc ?_ _)); exact BK268.out) NB268_263.out (by simp))
    have n1_ := Aside0.mk (Kd.R_mono (Kd.R_told (Kd.R_oldK (IsS61.apart (show IsS61 w _ g263 t261 t272 from by repeat (first | (with_reducible first | exact HI263.out | apply IsS61.alloc | apply IsS61.drewN | apply IsS61.drew | apply IsS61.set_1 | refine IsS61.far ?_ NB263_268.out _) | exact HI263.out)) (by (with_reducible repeat (first | apply Kd.R_alloc | apply Kd.R_drewN | apply Kd.R_drew)); exact HO271.out) (by decide)) hk) (Kd.R_base ho0)) (fun _ h_ => h_.1))
    have n2_ := Aside0.mk (Kd.R_mono (Kd.R_told (Kd.R_oldK (IsS61.apart (show IsS61 w _ g263 t261 t272 from by repeat (first | (with_reducible first | exact HI263.out | apply IsS61.alloc | apply IsS61.drewN | apply IsS61.drew | apply IsS61.set_1 | refine IsS61.far ?_ NB263_268.out _) | exact HI263.out)) (by (with_reducible repeat (first | apply Kd.R_alloc | apply Kd.R_drewN | apply Kd.R_drew)); exact HO275.out) (by decide)) hk) (Kd.R_base ho0)) (fun _ h_ => h_.1))
    have n3_ := Aside0.mk (Kd.R_lower (Kd.R_new' (Kd.R_new' ho0 (Kd.R_lt (by (with_reducible repeat (first | apply Kd.R_alloc | apply Kd.R_drewN | apply Kd.R_drew)); exact HO271.out))) (Kd.R_lt (by (with_reducible repeat (first | apply Kd.R_alloc | apply Kd.R_drewN | apply Kd.R_drew)); exact HO275.out))) (below_size (by repeat (first | (with_reducible first | exact HB.out | apply below_alloc | apply pw_below_drewN | apply below_drew1 | refine below_set ?_ (IsS61.ge HI263.out) | refine below_set ?_ GE268.out) | exact HB.out))))
    have n4_ := Aside0.mk (hb)
    have n5_ := Aside0.mk (hi)
    clear BK268
    clear HO271
    clear HO275
    clear HB
    clear HI263
    have BK268 := n0_
    have HO271 := n1_
    have HO275 := n2_
    have HO278 := n3_
    have HB := n4_
    have HI263 := n5_
    clear n0_ n1_ n2_ n3_ n4_ n5_
    (try clear hb)
    (try clear hb2)
    (try clear hk)
    (try clear hi)
    (try clear ho0)
    obtain ⟨Ao27, co27, eo27⟩ := Kd.R_slice HO278.out
    (first | subst eo27 | (injection eo27 with f1_ f2_ f3_; have f4_ := f1_.symm; have f5_ := f3_.symm; clear f1_ f2_ f3_; subst f4_; subst f5_))
    refine hK.out _ _ ⟨(blk_cell BK268.out 0).trans rfl, (blk_cell BK268.out 1).trans rfl, (blk_cell BK268.out 2).trans rfl⟩ (fun hHeld => ?_)
    clear hK K
    refine norm_ (a' := ?_) ?_ ?_
    rotate_left
    · show Act.put _ (some 30) _ = _
      simp only [Act.put, List.setIfInBounds_toArray, List.set_cons_zero, List.set_cons_succ, i64_w]
      rfl
    refine one_ (i := 7) (N := some 31) #[true, true, true, true, true, true, true, true, false, false] rfl rfl (one_of HT_.out (by kernel_rfl)) (by decide) (fun K hK => ?_)
    refine goes_ Tryd.func16 (by kernel_rfl) rfl #[.slice Ao27 t276.length co27] (by rfl) rfl rfl (by (try simp only [List.map_toArray, List.map_cons, List.map_nil]); first | done | rfl | (simp only [List.length_drop, List.length_take]; rfl)) ?_
    with_reducible refine (synopticlaw22_halves.calls k _ _ t276 t280 _ ?side1 ?side2 A9.out).mono ?_
    (case side1 => repeat (first | exact (Kd.R_reads' HO278.out).2.2 | (with_reducible refine Kd.C_alloc ?_ _) | (with_reducible refine Kd.C_drewN ?_ _) | (with_reducible refine Kd.C_drew ?_)))
    (case side2 => exact (Kd.R_reads' HO278.out).2.1)
    rintro e w28 ⟨v281, rfl, ho0, hb⟩
    refine ⟨_, rfl, ?_⟩
    have n0_ := Aside0.mk (Kd.R_elder' (by (with_reducible repeat (first | apply Kd.R_alloc | apply Kd.R_drewN | apply Kd.R_drew)); exact HO271.out) (Kd.R_base ho0) hb)
    have n1_ := Aside0.mk (Kd.R_elder' (by (with_reducible repeat (first | apply Kd.R_alloc | apply Kd.R_drewN | apply Kd.R_drew)); exact HO275.out) (Kd.R_base ho0) hb)
    have n2_ := Aside0.mk (Kd.R_elder' (by (with_reducible repeat (first | apply Kd.R_alloc | apply Kd.R_drewN | apply Kd.R_drew)); exact HO278.out) (Kd.R_base ho0) hb)
    have n3_ := Aside0.mk (Kd.R_lower (Kd.R_new' (Kd.R_new' (Kd.R_new' ho0 (Kd.R_lt (by (with_reducible repeat (first | apply Kd.R_alloc | apply Kd.R_drewN | apply Kd.R_drew)); exact HO271.out))) (Kd.R_lt (by (with_reducible repeat (first | apply Kd.R_alloc | apply Kd.R_drewN | apply Kd.R_drew)); exact HO275.out))) (Kd.R_lt (by (with_reducible repeat (first | apply Kd.R_alloc | apply Kd.R_drewN | apply Kd.R_drew)); exact HO278.out))) (below_size (by repeat (first | (with_reducible first | exact HB.out | apply below_alloc | apply pw_below_drewN | apply below_drew1 | refine below_set ?_ (IsS61.ge HI263.out) | refine below_set ?_ GE268.out) | exact HB.out))))
    have n4_ := Aside0.mk (IsS61.below (by repeat (first | (with_reducible first | exact HI263.out | apply IsS61.alloc | apply IsS61.drewN | apply IsS61.drew | apply IsS61.set_1 | refine IsS61.far ?_ NB263_268.out _) | exact HI263.out)) hb)
    have n5_ := Aside0.mk (blk_below (g := gb268) (o := .cells #[.int .i64 t264, .int .i64 t265, .int .i64 t266] 36 (0, 0)) (by (with_reducible repeat (first | refine blk_drewN ?_ _ | refine blk_drew ?_ | refine blk_alloc ?_ _)); exact BK268.out) hb)
    have n6_ := Aside0.mk (below_step (by repeat (first | (with_reducible first | exact HB.out | apply below_alloc | apply pw_below_drewN | apply below_drew1 | refine below_set ?_ (IsS61.ge HI263.out) | refine below_set ?_ GE268.out) | exact HB.out)) hb)
    clear HO271
    clear HO275
    clear HO278
    clear HI263
    clear BK268
    clear HB
    have HO271 := n0_
    have HO275 := n1_
    have HO278 := n2_
    have HO282 := n3_
    have HI263 := n4_
    have BK268 := n5_
    have HB := n6_
    clear n0_ n1_ n2_ n3_ n4_ n5_ n6_
    (try clear hb)
    (try clear hb2)
    (try clear hk)
    (try clear hi)
    (try clear ho0)
    refine hK.out _ _ ⟨(blk_cell BK268.out 0).trans rfl, (blk_cell BK268.out 1).trans rfl, (blk_cell BK268.out 2).trans rfl⟩ (fun hHeld => ?_)
    clear hK K
    refine norm_ (a' := ?_) ?_ ?_
    rotate_left
    · show Act.put _ (some 31) _ = _
      simp only [Act.put, List.setIfInBounds_toArray, List.set_cons_zero, List.set_cons_succ, i64_w]
      rfl
    refine pure_ (i := 8) (N := some 5) (v := ?_) (a' := ?_) #[true, true, true, true, true, true, true, true, true, false] rfl rfl (any_of HT_.out (by kernel_rfl)) (fun _ _ _ h => h) (Or.inl ⟨by rfl, ?_⟩) ?_ ?_
    rotate_left
    · intro w'
      go_simp
      with_reducible rfl
    rotate_left
    · simp only [Act.put, List.setIfInBounds_toArray, List.set_cons_zero, List.set_cons_succ, i64_w]
      rfl
    refine pure_ (i := 9) (N := some 6) (v := ?_) (a' := ?_) #[true, true, true, true, true, true, true, true, true, true] rfl rfl (any_of HT_.out (by kernel_rfl)) (fun _ _ _ h => h) (Or.inl ⟨by rfl, ?_⟩) ?_ ?_
    rotate_left
    · intro w'
      go_simp
      with_reducible rfl
    rotate_left
    · simp only [Act.put, List.setIfInBounds_toArray, List.set_cons_zero, List.set_cons_succ, i64_w]
      rfl
    refine done_ (done_of HT_.out (by kernel_rfl)) ?_
    have hcz29_0 : w28.cell? ⟨gb268, 0, none⟩ = some (.int .i64 t264) := (blk_cell BK268.out 0).trans rfl
    have hcz29_1 : w28.cell? ⟨gb268, 1, none⟩ = some (.int .i64 t265) := (blk_cell BK268.out 1).trans rfl
    have hcz29_2 : w28.cell? ⟨gb268, 2, none⟩ = some (.int .i64 t266) := (blk_cell BK268.out 2).trans rfl
    have hfz29_0 := blk_frozen BK268.out 0
    have hfz29_1 := blk_frozen BK268.out 1
    have hfz29_2 := blk_frozen BK268.out 2
    obtain ⟨Ao30, co30, eo30⟩ := Kd.R_slice HO275.out
    subst eo30
    try go_wp2_with (first | ((with_reducible refine gate_callee (f := 18) rfl ?_); refine goesL_ (some 35) rfl rfl Tryd.func18 (by kernel_rfl) rfl #[.agg #[.int .i64 t264, .int .i64 t265, .int .i64 t266], .slice Ao30 t273.length co30] rfl (by (try simp only [List.map_toArray, List.map_cons, List.map_nil]); first | done | rfl | (simp only [List.length_drop, List.length_take]; rfl)) ?_; (with_reducible refine (precision_Apply.calls k t264 t265 t266 _ _ t273 t283 t286 _ ?side1 ?side2 ?side3 A10.out).mono ?_); (case side1 => repeat (first | exact (Kd.R_reads' HO275.out).2.2 | (with_reducible refine Kd.C_alloc ?_ _) | (with_reducible refine Kd.C_drewN ?_ _) | (with_reducible refine Kd.C_drew ?_))); (case side2 => exact (Kd.R_reads' HO275.out).2.1); (case side3 => exact CornersAt.below HG.out (by repeat (first | (with_reducible first | exact HB.out | apply below_alloc | apply pw_below_drewN | apply below_drew1 | refine below_set ?_ (IsS61.ge HI263.out) | refine below_set ?_ GE268.out) | exact HB.out))); rintro e w31 ⟨v284, rfl, ho0, hb⟩; refine ⟨_, rfl, ?_⟩; have n0_ := Aside0.mk (Kd.R_elder' (by (with_reducible repeat (first | apply Kd.R_alloc | apply Kd.R_drewN | apply Kd.R_drew)); exact HO271.out) (Kd.R_base ho0) hb); have n1_ := Aside0.mk (Kd.R_elder' (by (with_reducible repeat (first | apply Kd.R_alloc | apply Kd.R_drewN | apply Kd.R_drew)); exact HO275.out) (Kd.R_base ho0) hb); have n2_ := Aside0.mk (Kd.R_elder' (by (with_reducible repeat (first | apply Kd.R_alloc | apply Kd.R_drewN | apply Kd.R_drew)); exact HO278.out) (Kd.R_base ho0) hb); have n3_ := Aside0.mk (Kd.R_elder' (by (with_reducible repeat (first | apply Kd.R_alloc | apply Kd.R_drewN | apply Kd.R_drew)); exact HO282.out) (Kd.R_base ho0) hb); have n4_ := Aside0.mk (Kd.R_lower (Kd.R_new' (Kd.R_new' (Kd.R_new' (Kd.R_new' ho0 (Kd.R_lt (by (with_reducible repeat (first | apply Kd.R_alloc | apply Kd.R_drewN | apply Kd.R_drew)); exact HO271.out))) (Kd.R_lt (by (with_reducible repeat (first | apply Kd.R_alloc | apply Kd.R_drewN | apply Kd.R_drew)); exact HO275.out))) (Kd.R_lt (by (with_reducible repeat (first | apply Kd.R_alloc | apply Kd.R_drewN | apply Kd.R_drew)); exact HO278.out))) (Kd.R_lt (by (with_reducible repeat (first | apply Kd.R_alloc | apply Kd.R_drewN | apply Kd.R_drew)); exact HO282.out))) (below_size (by repeat (first | (with_reducible first | exact HB.out | apply below_alloc | apply pw_below_drewN | apply below_drew1 | refine below_set ?_ (IsS61.ge HI263.out) | refine below_set ?_ GE268.out) | exact HB.out)))); have n5_ := Aside0.mk (IsS61.below (by repeat (first | (with_reducible first | exact HI263.out | apply IsS61.alloc | apply IsS61.drewN | apply IsS61.drew | apply IsS61.set_1 | refine IsS61.far ?_ NB263_268.out _) | exact HI263.out)) hb); have n6_ := Aside0.mk (blk_below (g := gb268) (o := .cells #[.int .i64 t264, .int .i64 t265, .int .i64 t266] 36 (0, 0)) (by (with_reducible repeat (first | refine blk_drewN ?_ _ | refine blk_drew ?_ | refine blk_alloc ?_ _)); exact BK268.out) hb); have n7_ := Aside0.mk (below_step (by repeat (first | (with_reducible first | exact HB.out | apply below_alloc | apply pw_below_drewN | apply below_drew1 | refine below_set ?_ (IsS61.ge HI263.out) | refine below_set ?_ GE268.out) | exact HB.out)) hb); clear HO271; clear HO275; clear HO278; clear HO282; clear HI263; clear BK268; clear HB; have HO271 := n0_; have HO275 := n1_; have HO278 := n2_; have HO282 := n3_; have HO285 := n4_; have HI263 := n5_; have BK268 := n6_; have HB := n7_; clear n0_ n1_ n2_ n3_ n4_ n5_ n6_ n7_; (try clear hb); (try clear hb2); (try clear hk); (try clear hi); (try clear ho0); have hcz32_0 : w31.cell? ⟨gb268, 0, none⟩ = some (.int .i64 t264) := (blk_cell BK268.out 0).trans rfl; have hcz32_1 : w31.cell? ⟨gb268, 1, none⟩ = some (.int .i64 t265) := (blk_cell BK268.out 1).trans rfl; have hcz32_2 : w31.cell? ⟨gb268, 2, none⟩ = some (.int .i64 t266) := (blk_cell BK268.out 2).trans rfl; have hfz32_0 := blk_frozen BK268.out 0; have hfz32_1 := blk_frozen BK268.out 1; have hfz32_2 := blk_frozen BK268.out 2; obtain ⟨Ao33, co33, eo33⟩ := Kd.R_slice HO282.out; subst eo33) | ((with_reducible refine gate_callee (f := 18) rfl ?_); refine goesL_ (some 41) rfl rfl Tryd.func18 (by kernel_rfl) rfl #[.agg #[.int .i64 t264, .int .i64 t265, .int .i64 t266], .slice Ao33 t280.length co33] rfl (by (try simp only [List.map_toArray, List.map_cons, List.map_nil]); first | done | rfl | (simp only [List.length_drop, List.length_take]; rfl)) ?_; (with_reducible refine (precision_Apply.calls k t264 t265 t266 _ _ t280 t287 t290 _ ?side1 ?side2 ?side3 A11.out).mono ?_); (case side1 => repeat (first | exact (Kd.R_reads' HO282.out).2.2 | (with_reducible refine Kd.C_alloc ?_ _) | (with_reducible refine Kd.C_drewN ?_ _) | (with_reducible refine Kd.C_drew ?_))); (case side2 => exact (Kd.R_reads' HO282.out).2.1); (case side3 => exact CornersAt.below HG.out (by repeat (first | (with_reducible first | exact HB.out | apply below_alloc | apply pw_below_drewN | apply below_drew1 | refine below_set ?_ (IsS61.ge HI263.out) | refine below_set ?_ GE268.out) | exact HB.out))); rintro e w34 ⟨v288, rfl, ho0, hb⟩; refine ⟨_, rfl, ?_⟩; have n0_ := Aside0.mk (Kd.R_elder' (by (with_reducible repeat (first | apply Kd.R_alloc | apply Kd.R_drewN | apply Kd.R_drew)); exact HO271.out) (Kd.R_base ho0) hb); have n1_ := Aside0.mk (Kd.R_elder' (by (with_reducible repeat (first | apply Kd.R_alloc | apply Kd.R_drewN | apply Kd.R_drew)); exact HO275.out) (Kd.R_base ho0) hb); have n2_ := Aside0.mk (Kd.R_elder' (by (with_reducible repeat (first | apply Kd.R_alloc | apply Kd.R_drewN | apply Kd.R_drew)); exact HO278.out) (Kd.R_base ho0) hb); have n3_ := Aside0.mk (Kd.R_elder' (by (with_reducible repeat (first | apply Kd.R_alloc | apply Kd.R_drewN | apply Kd.R_drew)); exact HO282.out) (Kd.R_base ho0) hb); have n4_ := Aside0.mk (Kd.R_elder' (by (with_reducible repeat (first | apply Kd.R_alloc | apply Kd.R_drewN | apply Kd.R_drew)); exact HO285.out) (Kd.R_base ho0) hb); have n5_ := Aside0.mk (Kd.R_lower (Kd.R_new' (Kd.R_new' (Kd.R_new' (Kd.R_new' (Kd.R_new' ho0 (Kd.R_lt (by (with_reducible repeat (first | apply Kd.R_alloc | apply Kd.R_drewN | apply Kd.R_drew)); exact HO271.out))) (Kd.R_lt (by (with_reducible repeat (first | apply Kd.R_alloc | apply Kd.R_drewN | apply Kd.R_drew)); exact HO275.out))) (Kd.R_lt (by (with_reducible repeat (first | apply Kd.R_alloc | apply Kd.R_drewN | apply Kd.R_drew)); exact HO278.out))) (Kd.R_lt (by (with_reducible repeat (first | apply Kd.R_alloc | apply Kd.R_drewN | apply Kd.R_drew)); exact HO282.out))) (Kd.R_lt (by (with_reducible repeat (first | apply Kd.R_alloc | apply Kd.R_drewN | apply Kd.R_drew)); exact HO285.out))) (below_size (by repeat (first | (with_reducible first | exact HB.out | apply below_alloc | apply pw_below_drewN | apply below_drew1 | refine below_set ?_ (IsS61.ge HI263.out) | refine below_set ?_ GE268.out) | exact HB.out)))); have n6_ := Aside0.mk (IsS61.below (by repeat (first | (with_reducible first | exact HI263.out | apply IsS61.alloc | apply IsS61.drewN | apply IsS61.drew | apply IsS61.set_1 | refine IsS61.far ?_ NB263_268.out _) | exact HI263.out)) hb); have n7_ := Aside0.mk (blk_below (g := gb268) (o := .cells #[.int .i64 t264, .int .i64 t265, .int .i64 t266] 36 (0, 0)) (by (with_reducible repeat (first | refine blk_drewN ?_ _ | refine blk_drew ?_ | refine blk_alloc ?_ _)); exact BK268.out) hb); have n8_ := Aside0.mk (below_step (by repeat (first | (with_reducible first | exact HB.out | apply below_alloc | apply pw_below_drewN | apply below_drew1 | refine below_set ?_ (IsS61.ge HI263.out) | refine below_set ?_ GE268.out) | exact HB.out)) hb); clear HO271; clear HO275; clear HO278; clear HO282; clear HO285; clear HI263; clear BK268; clear HB; have HO271 := n0_; have HO275 := n1_; have HO278 := n2_; have HO282 := n3_; have HO285 := n4_; have HO289 := n5_; have HI263 := n6_; have BK268 := n7_; have HB := n8_; clear n0_ n1_ n2_ n3_ n4_ n5_ n6_ n7_ n8_; (try clear hb); (try clear hb2); (try clear hk); (try clear hi); (try clear ho0)))
    have n0_ := Aside0.mk (Kd.R_drew HO271.out)
    have n1_ := Aside0.mk (Kd.R_drew HO275.out)
    have n2_ := Aside0.mk (Kd.R_drew HO278.out)
    have n3_ := Aside0.mk (Kd.R_drew HO282.out)
    have n4_ := Aside0.mk (Kd.R_drew HO285.out)
    have n5_ := Aside0.mk (Kd.R_drew HO289.out)
    have n6_ := Aside0.mk (blk_drew BK268.out)
    have n7_ := Aside0.mk (IsS61.drew HI263.out)
    have n8_ := Aside0.mk (below_drew1 HB.out)
    clear HO271
    clear HO275
    clear HO278
    clear HO282
    clear HO285
    clear HO289
    clear BK268
    clear HI263
    clear HB
    have HO271 := n0_
    have HO275 := n1_
    have HO278 := n2_
    have HO282 := n3_
    have HO285 := n4_
    have HO289 := n5_
    have BK268 := n6_
    have HI263 := n7_
    have HB := n8_
    clear n0_ n1_ n2_ n3_ n4_ n5_ n6_ n7_ n8_
    refine start_ (n := 10) (S := fun w' => w'.cell? ⟨gb268, 0, none⟩ = some (.int .i64 t264) ∧ w'.cell? ⟨gb268, 1, none⟩ = some (.int .i64 t265) ∧ w'.cell? ⟨gb268, 2, none⟩ = some (.int .i64 t266)) (ds := []) #[false, false, false, false, false, false, false, false, false, false] (by kernel_rfl) rfl rfl ⟨(blk_cell BK268.out 0).trans rfl, (blk_cell BK268.out 1).trans rfl, (blk_cell BK268.out 2).trans rfl⟩ (fun hHeld => ?_); refine with_tabW synopticlaw22_PrecisionLinear.tab8 synopticlaw22_PrecisionLinear.bits8 (fun HT_ HW_ => ?_)
    generalize w34.drew = w35 at HO271 HO275 HO278 HO282 HO285 HO289 BK268 HI263 HB hHeld ⊢
    refine pure_ (i := 1) (N := some 46) (v := ?_) (a' := ?_) #[false, true, false, false, false, false, false, false, false, false] rfl rfl (any_of HT_.out (by kernel_rfl)) (fun _ _ _ h => h) (Or.inl ⟨by rfl, ?_⟩) ?_ ?_
    rotate_left
    · intro w'
      go_simp
      with_reducible rfl
    rotate_left
    · simp only [Act.put, List.setIfInBounds_toArray, List.set_cons_zero, List.set_cons_succ, i64_w]
      rfl
    refine pure_ (i := 2) (N := some 47) (v := ?_) (a' := ?_) #[false, true, true, false, false, false, false, false, false, false] rfl rfl (any_of HT_.out (by kernel_rfl)) (fun _ _ _ h => h) (Or.inl ⟨by rfl, ?_⟩) ?_ ?_
    rotate_left
    · intro w'
      go_simp
      with_reducible rfl
    rotate_left
    · simp only [Act.put, List.setIfInBounds_toArray, List.set_cons_zero, List.set_cons_succ, i64_w]
      rfl
    refine take_ (i := 0) (N := some 45) (v := ?_) (a' := ?_) #[true, true, true, false, false, false, false, false, false, false] rfl rfl (take_ofW HT_.out HW_.out (by kernel_rfl)) (fun _ _ _ h => h) (Or.inl ⟨by rfl, ?_⟩) hHeld ?_ ?_
    rotate_left
    · rintro w' ⟨s0, s1, s2⟩
      go_simp
      with_reducible rfl
    rotate_left
    · simp only [Act.put, List.setIfInBounds_toArray, List.set_cons_zero, List.set_cons_succ, i64_w]
      rfl
    refine one_ (i := 3) (N := some 48) #[true, true, true, true, false, false, false, false, false, false] rfl rfl (one_of HT_.out (by kernel_rfl)) (by decide) (fun K hK => ?_)
    refine goes_ Tryd.func19 (by kernel_rfl) rfl #[.slice Ao30 t273.length co30, .slice Ao33 t280.length co33] (by rfl) rfl rfl (by (try simp only [List.map_toArray, List.map_cons, List.map_nil]); first | done | rfl | (simp only [List.length_drop, List.length_take]; rfl)) ?_
    with_reducible refine (synopticlaw22_sum.calls k _ _ t273 _ _ t280 t291 _ ?side1 ?side2 ?side3 ?side4 A12.out).mono ?_
    (case side1 => repeat (first | exact (Kd.R_reads' HO275.out).2.2 | (with_reducible refine Kd.C_alloc ?_ _) | (with_reducible refine Kd.C_drewN ?_ _) | (with_reducible refine Kd.C_drew ?_)))
    (case side2 => exact (Kd.R_reads' HO275.out).2.1)
    (case side3 => repeat (first | exact (Kd.R_reads' HO282.out).2.2 | (with_reducible refine Kd.C_alloc ?_ _) | (with_reducible refine Kd.C_drewN ?_ _) | (with_reducible refine Kd.C_drew ?_)))
    (case side4 => exact (Kd.R_reads' HO282.out).2.1)
    rintro e w36 ⟨v292, rfl, ho0, hb⟩
    refine ⟨_, rfl, ?_⟩
    have n0_ := Aside0.mk (Kd.R_elder' (by (with_reducible repeat (first | apply Kd.R_alloc | apply Kd.R_drewN | apply Kd.R_drew)); exact HO271.out) (Kd.R_base ho0) hb)
    have n1_ := Aside0.mk (Kd.R_elder' (by (with_reducible repeat (first | apply Kd.R_alloc | apply Kd.R_drewN | apply Kd.R_drew)); exact HO275.out) (Kd.R_base ho0) hb)
    have n2_ := Aside0.mk (Kd.R_elder' (by (with_reducible repeat (first | apply Kd.R_alloc | apply Kd.R_drewN | apply Kd.R_drew)); exact HO278.out) (Kd.R_base ho0) hb)
    have n3_ := Aside0.mk (Kd.R_elder' (by (with_reducible repeat (first | apply Kd.R_alloc | apply Kd.R_drewN | apply Kd.R_drew)); exact HO282.out) (Kd.R_base ho0) hb)
    have n4_ := Aside0.mk (Kd.R_elder' (by (with_reducible repeat (first | apply Kd.R_alloc | apply Kd.R_drewN | apply Kd.R_drew)); exact HO285.out) (Kd.R_base ho0) hb)
    have n5_ := Aside0.mk (Kd.R_elder' (by (with_reducible repeat (first | apply Kd.R_alloc | apply Kd.R_drewN | apply Kd.R_drew)); exact HO289.out) (Kd.R_base ho0) hb)
    have n6_ := Aside0.mk (Kd.R_lower (Kd.R_new' (Kd.R_new' (Kd.R_new' (Kd.R_new' (Kd.R_new' (Kd.R_new' ho0 (Kd.R_lt (by (with_reducible repeat (first | apply Kd.R_alloc | apply Kd.R_drewN | apply Kd.R_drew)); exact HO271.out))) (Kd.R_lt (by (with_reducible repeat (first | apply Kd.R_alloc | apply Kd.R_drewN | apply Kd.R_drew)); exact HO275.out))) (Kd.R_lt (by (with_reducible repeat (first | apply Kd.R_alloc | apply Kd.R_drewN | apply Kd.R_drew)); exact HO278.out))) (Kd.R_lt (by (with_reducible repeat (first | apply Kd.R_alloc | apply Kd.R_drewN | apply Kd.R_drew)); exact HO282.out))) (Kd.R_lt (by (with_reducible repeat (first | apply Kd.R_alloc | apply Kd.R_drewN | apply Kd.R_drew)); exact HO285.out))) (Kd.R_lt (by (with_reducible repeat (first | apply Kd.R_alloc | apply Kd.R_drewN | apply Kd.R_drew)); exact HO289.out))) (below_size (by repeat (first | (with_reducible first | exact HB.out | apply below_alloc | apply pw_below_drewN | apply below_drew1 | refine below_set ?_ (IsS61.ge HI263.out) | refine below_set ?_ GE268.out) | exact HB.out))))
    have n7_ := Aside0.mk (IsS61.below (by repeat (first | (with_reducible first | exact HI263.out | apply IsS61.alloc | apply IsS61.drewN | apply IsS61.drew | apply IsS61.set_1 | refine IsS61.far ?_ NB263_268.out _) | exact HI263.out)) hb)
    have n8_ := Aside0.mk (blk_below (g := gb268) (o := .cells #[.int .i64 t264, .int .i64 t265, .int .i64 t266] 36 (0, 0)) (by (with_reducible repeat (first | refine blk_drewN ?_ _ | refine blk_drew ?_ | refine blk_alloc ?_ _)); exact BK268.out) hb)
    have n9_ := Aside0.mk (below_step (by repeat (first | (with_reducible first | exact HB.out | apply below_alloc | apply pw_below_drewN | apply below_drew1 | refine below_set ?_ (IsS61.ge HI263.out) | refine below_set ?_ GE268.out) | exact HB.out)) hb)
    clear HO271
    clear HO275
    clear HO278
    clear HO282
    clear HO285
    clear HO289
    clear HI263
    clear BK268
    clear HB
    have HO271 := n0_
    have HO275 := n1_
    have HO278 := n2_
    have HO282 := n3_
    have HO285 := n4_
    have HO289 := n5_
    have HO293 := n6_
    have HI263 := n7_
    have BK268 := n8_
    have HB := n9_
    clear n0_ n1_ n2_ n3_ n4_ n5_ n6_ n7_ n8_ n9_
    (try clear hb)
    (try clear hb2)
    (try clear hk)
    (try clear hi)
    (try clear ho0)
    obtain ⟨Ao37, co37, eo37⟩ := Kd.R_slice HO293.out
    (first | subst eo37 | (injection eo37 with f1_ f2_ f3_; have f4_ := f1_.symm; have f5_ := f3_.symm; clear f1_ f2_ f3_; subst f4_; subst f5_))
    refine hK.out _ _ ⟨(blk_cell BK268.out 0).trans rfl, (blk_cell BK268.out 1).trans rfl, (blk_cell BK268.out 2).trans rfl⟩ (fun hHeld => ?_)
    clear hK K
    refine norm_ (a' := ?_) ?_ ?_
    rotate_left
    · show Act.put _ (some 48) _ = _
      simp only [Act.put, List.setIfInBounds_toArray, List.set_cons_zero, List.set_cons_succ, i64_w]
      rfl
    refine one_ (i := 4) (N := some 49) #[true, true, true, true, true, false, false, false, false, false] rfl rfl (one_of HT_.out (by kernel_rfl)) (by decide) (fun K hK => ?_)
    refine goes_ Tryd.func18 (by kernel_rfl) rfl #[.agg #[.int .i64 t264, .int .i64 t265, .int .i64 t266], .slice Ao37 t291.length co37] (by rfl) rfl rfl (by (try simp only [List.map_toArray, List.map_cons, List.map_nil]); first | done | rfl | (simp only [List.length_drop, List.length_take]; rfl)) ?_
    with_reducible refine (precision_Apply.calls k t264 t265 t266 _ _ t291 t294 t297 _ ?side1 ?side2 ?side3 A13.out).mono ?_
    (case side1 => repeat (first | exact (Kd.R_reads' HO293.out).2.2 | (with_reducible refine Kd.C_alloc ?_ _) | (with_reducible refine Kd.C_drewN ?_ _) | (with_reducible refine Kd.C_drew ?_)))
    (case side2 => exact (Kd.R_reads' HO293.out).2.1)
    (case side3 => exact CornersAt.below HG.out (by repeat (first | (with_reducible first | exact HB.out | apply below_alloc | apply pw_below_drewN | apply below_drew1 | refine below_set ?_ (IsS61.ge HI263.out) | refine below_set ?_ GE268.out) | exact HB.out)))
    rintro e w38 ⟨v295, rfl, ho0, hb⟩
    refine ⟨_, rfl, ?_⟩
    have n0_ := Aside0.mk (Kd.R_elder' (by (with_reducible repeat (first | apply Kd.R_alloc | apply Kd.R_drewN | apply Kd.R_drew)); exact HO271.out) (Kd.R_base ho0) hb)
    have n1_ := Aside0.mk (Kd.R_elder' (by (with_reducible repeat (first | apply Kd.R_alloc | apply Kd.R_drewN | apply Kd.R_drew)); exact HO275.out) (Kd.R_base ho0) hb)
    have n2_ := Aside0.mk (Kd.R_elder' (by (with_reducible repeat (first | apply Kd.R_alloc | apply Kd.R_drewN | apply Kd.R_drew)); exact HO278.out) (Kd.R_base ho0) hb)
    have n3_ := Aside0.mk (Kd.R_elder' (by (with_reducible repeat (first | apply Kd.R_alloc | apply Kd.R_drewN | apply Kd.R_drew)); exact HO282.out) (Kd.R_base ho0) hb)
    have n4_ := Aside0.mk (Kd.R_elder' (by (with_reducible repeat (first | apply Kd.R_alloc | apply Kd.R_drewN | apply Kd.R_drew)); exact HO285.out) (Kd.R_base ho0) hb)
    have n5_ := Aside0.mk (Kd.R_elder' (by (with_reducible repeat (first | apply Kd.R_alloc | apply Kd.R_drewN | apply Kd.R_drew)); exact HO289.out) (Kd.R_base ho0) hb)
    have n6_ := Aside0.mk (Kd.R_elder' (by (with_reducible repeat (first | apply Kd.R_alloc | apply Kd.R_drewN | apply Kd.R_drew)); exact HO293.out) (Kd.R_base ho0) hb)
    have n7_ := Aside0.mk (Kd.R_lower (Kd.R_new' (Kd.R_new' (Kd.R_new' (Kd.R_new' (Kd.R_new' (Kd.R_new' (Kd.R_new' ho0 (Kd.R_lt (by (with_reducible repeat (first | apply Kd.R_alloc | apply Kd.R_drewN | apply Kd.R_drew)); exact HO271.out))) (Kd.R_lt (by (with_reducible repeat (first | apply Kd.R_alloc | apply Kd.R_drewN | apply Kd.R_drew)); exact HO275.out))) (Kd.R_lt (by (with_reducible repeat (first | apply Kd.R_alloc | apply Kd.R_drewN | apply Kd.R_drew)); exact HO278.out))) (Kd.R_lt (by (with_reducible repeat (first | apply Kd.R_alloc | apply Kd.R_drewN | apply Kd.R_drew)); exact HO282.out))) (Kd.R_lt (by (with_reducible repeat (first | apply Kd.R_alloc | apply Kd.R_drewN | apply Kd.R_drew)); exact HO285.out))) (Kd.R_lt (by (with_reducible repeat (first | apply Kd.R_alloc | apply Kd.R_drewN | apply Kd.R_drew)); exact HO289.out))) (Kd.R_lt (by (with_reducible repeat (first | apply Kd.R_alloc | apply Kd.R_drewN | apply Kd.R_drew)); exact HO293.out))) (below_size (by repeat (first | (with_reducible first | exact HB.out | apply below_alloc | apply pw_below_drewN | apply below_drew1 | refine below_set ?_ (IsS61.ge HI263.out) | refine below_set ?_ GE268.out) | exact HB.out))))
    have n8_ := Aside0.mk (IsS61.below (by repeat (first | (with_reducible first | exact HI263.out | apply IsS61.alloc | apply IsS61.drewN | apply IsS61.drew | apply IsS61.set_1 | refine IsS61.far ?_ NB263_268.out _) | exact HI263.out)) hb)
    have n9_ := Aside0.mk (blk_below (g := gb268) (o := .cells #[.int .i64 t264, .int .i64 t265, .int .i64 t266] 36 (0, 0)) (by (with_reducible repeat (first | refine blk_drewN ?_ _ | refine blk_drew ?_ | refine blk_alloc ?_ _)); exact BK268.out) hb)
    have n10_ := Aside0.mk (below_step (by repeat (first | (with_reducible first | exact HB.out | apply below_alloc | apply pw_below_drewN | apply below_drew1 | refine below_set ?_ (IsS61.ge HI263.out) | refine below_set ?_ GE268.out) | exact HB.out)) hb)
    clear HO271
    clear HO275
    clear HO278
    clear HO282
    clear HO285
    clear HO289
    clear HO293
    clear HI263
    clear BK268
    clear HB
    have HO271 := n0_
    have HO275 := n1_
    have HO278 := n2_
    have HO282 := n3_
    have HO285 := n4_
    have HO289 := n5_
    have HO293 := n6_
    have HO296 := n7_
    have HI263 := n8_
    have BK268 := n9_
    have HB := n10_
    clear n0_ n1_ n2_ n3_ n4_ n5_ n6_ n7_ n8_ n9_ n10_
    (try clear hb)
    (try clear hb2)
    (try clear hk)
    (try clear hi)
    (try clear ho0)
    refine hK.out _ _ ⟨(blk_cell BK268.out 0).trans rfl, (blk_cell BK268.out 1).trans rfl, (blk_cell BK268.out 2).trans rfl⟩ (fun hHeld => ?_)
    clear hK K
    refine norm_ (a' := ?_) ?_ ?_
    rotate_left
    · show Act.put _ (some 49) _ = _
      simp only [Act.put, List.setIfInBounds_toArray, List.set_cons_zero, List.set_cons_succ, i64_w]
      rfl
    refine pure_ (i := 5) (N := some 44) (v := ?_) (a' := ?_) #[true, true, true, true, true, true, false, false, false, false] rfl rfl (any_of HT_.out (by kernel_rfl)) (fun _ _ _ h => h) (Or.inl ⟨by rfl, ?_⟩) ?_ ?_
    rotate_left
    · intro w'
      go_simp
      with_reducible rfl
    rotate_left
    · simp only [Act.put, List.setIfInBounds_toArray, List.set_cons_zero, List.set_cons_succ, i64_w]
      rfl
    refine pure_ (i := 6) (N := some 50) (v := ?_) (a' := ?_) #[true, true, true, true, true, true, true, false, false, false] rfl rfl (any_of HT_.out (by kernel_rfl)) (fun _ _ _ h => h) (Or.inl ⟨by rfl, ?_⟩) ?_ ?_
    rotate_left
    · intro w'
      go_simp
      with_reducible rfl
    rotate_left
    · simp only [Act.put, List.setIfInBounds_toArray, List.set_cons_zero, List.set_cons_succ, i64_w]
      rfl
    refine pure_ (i := 7) (N := some 51) (v := ?_) (a' := ?_) #[true, true, true, true, true, true, true, true, false, false] rfl rfl (any_of HT_.out (by kernel_rfl)) (fun _ _ _ h => h) (Or.inl ⟨by rfl, ?_⟩) ?_ ?_
    rotate_left
    · intro w'
      go_simp
      with_reducible rfl
    rotate_left
    · simp only [Act.put, List.setIfInBounds_toArray, List.set_cons_zero, List.set_cons_succ, i64_w]
      rfl
    refine pure_ (i := 8) (N := some 11) (v := ?_) (a' := ?_) #[true, true, true, true, true, true, true, true, true, false] rfl rfl (any_of HT_.out (by kernel_rfl)) (fun _ _ _ h => h) (Or.inl ⟨by rfl, ?_⟩) ?_ ?_
    rotate_left
    · intro w'
      go_simp
      with_reducible rfl
    rotate_left
    · simp only [Act.put, List.setIfInBounds_toArray, List.set_cons_zero, List.set_cons_succ, i64_w]
      rfl
    refine pure_ (i := 9) (N := some 12) (v := ?_) (a' := ?_) #[true, true, true, true, true, true, true, true, true, true] rfl rfl (any_of HT_.out (by kernel_rfl)) (fun _ _ _ h => h) (Or.inl ⟨by rfl, ?_⟩) ?_ ?_
    rotate_left
    · intro w'
      go_simp
      with_reducible rfl
    rotate_left
    · simp only [Act.put, List.setIfInBounds_toArray, List.set_cons_zero, List.set_cons_succ, i64_w]
      rfl
    refine done_ (done_of HT_.out (by kernel_rfl)) ?_
    go_upto_region 9 with (fail)
    go_cut [83] (fun v83 wc => ∃ (kq : Nat) (x83_13 : Bool), v83 = .bool x83_13 ∧ Aside0 (synopticlaw22_PrecisionLinear.j0 kq t273 t280 t283 t287 x83_13 t264 t265 t266 = some r) ∧ Aside0 (kq ≤ k) ∧ Aside0 (Kd.R (Kd.int .i64) 3 wc w.heap.size (fun k_ => some k_ ≠ ((.slice Ao33 t280.length co33) : Value).ownBlock ∧ some k_ ≠ (v284 : Value).ownBlock ∧ some k_ ≠ (v288 : Value).ownBlock) (.slice Ao30 t273.length co30) t273) ∧ Aside0 (Kd.R (Kd.int .i64) 3 wc w.heap.size (fun k_ => some k_ ≠ ((.slice Ao30 t273.length co30) : Value).ownBlock ∧ some k_ ≠ (v284 : Value).ownBlock ∧ some k_ ≠ (v288 : Value).ownBlock) (.slice Ao33 t280.length co33) t280) ∧ Aside0 (Kd.R (Kd.int .i64) 3 wc w.heap.size (fun k_ => some k_ ≠ ((.slice Ao30 t273.length co30) : Value).ownBlock ∧ some k_ ≠ ((.slice Ao33 t280.length co33) : Value).ownBlock ∧ some k_ ≠ (v288 : Value).ownBlock) v284 t283) ∧ Aside0 (Kd.R (Kd.int .i64) 3 wc w.heap.size (fun k_ => some k_ ≠ ((.slice Ao30 t273.length co30) : Value).ownBlock ∧ some k_ ≠ ((.slice Ao33 t280.length co33) : Value).ownBlock ∧ some k_ ≠ (v284 : Value).ownBlock) v288 t287) ∧ Aside0 (wc.heap[gb268]? = some (.cells #[.int .i64 t264, .int .i64 t265, .int .i64 t266] 36 (0, 0))) ∧ Aside0 (Below w.heap.size w wc))
    case first =>
      have H := HC14.out
      clear HC14
      by_cases c39 : t286 = 0
      · rw [if_pos c39] at H
        have c39b0 : (t286 == 0) = true := beq_iff_eq.mpr c39
        have c39b1 : (t286 != 0) = false := bne_eq_false_iff_eq.mpr c39
        clear c39
        (first | rw [c39b0] | (simp only [i64_w]; rw [c39b0]) | skip)
        by_cases c40 : t290 = 0
        · rw [if_pos c40] at H
          have c40b0 : (t290 == 0) = true := beq_iff_eq.mpr c40
          have c40b1 : (t290 != 0) = false := bne_eq_false_iff_eq.mpr c40
          clear c40
          by_cases c41 : t297 = 0
          · rw [if_pos c41] at H
            have c41b0 : (t297 == 0) = true := beq_iff_eq.mpr c41
            have c41b1 : (t297 != 0) = false := bne_eq_false_iff_eq.mpr c41
            clear c41
            by_cases c42 : (t283.length : Int) = (t273.length : Int)
            · rw [if_pos c42] at H
              have c42b0 : ((t283.length : Int) == (t273.length : Int)) = true := beq_iff_eq.mpr c42
              have c42b1 : ((t283.length : Int) != (t273.length : Int)) = false := bne_eq_false_iff_eq.mpr c42
              have c42b2 : (t283.length == t273.length) = true := by first | simpa using c42 | (simp at c42 ⊢; omega)
              clear c42
              by_cases c43 : (t287.length : Int) = (t273.length : Int)
              · rw [if_pos c43] at H
                have c43b0 : ((t287.length : Int) == (t273.length : Int)) = true := beq_iff_eq.mpr c43
                have c43b1 : ((t287.length : Int) != (t273.length : Int)) = false := bne_eq_false_iff_eq.mpr c43
                have c43b2 : (t287.length == t273.length) = true := by first | simpa using c43 | (simp at c43 ⊢; omega)
                clear c43
                replace H := Option.bind_eq_some_iff.mp H
                obtain ⟨t298, A440, H⟩ := H
                replace H : ((synoptickeep_Ints.f k t294 t298).bind fun t301 => (synopticlaw22_PrecisionLinear.j0 k t273 t280 t283 t287 (!t301) t264 t265 t266)) = some r := H
                have A44 := Aside0.mk A440
                clear A440
                replace H := Option.bind_eq_some_iff.mp H
                obtain ⟨t301, A450, H⟩ := H
                replace H : (synopticlaw22_PrecisionLinear.j0 k t273 t280 t283 t287 (!t301) t264 t265 t266) = some r := H
                have A45 := Aside0.mk A450
                clear A450
                have H' := Aside0.mk H
                clear H
                obtain ⟨Ao46, co46, eo46⟩ := Kd.R_slice HO285.out
                subst eo46
                obtain ⟨Ao47, co47, eo47⟩ := Kd.R_slice HO289.out
                subst eo47
                go_wp2_with (first | (go_at_call 19; (with_reducible refine (synopticlaw22_sum.calls k _ _ t283 _ _ t287 t298 _ ?side1 ?side2 ?side3 ?side4 A44.out).mono ?_); (case side1 => repeat (first | exact (Kd.R_reads' HO285.out).2.2 | (with_reducible refine Kd.C_alloc ?_ _) | (with_reducible refine Kd.C_drewN ?_ _) | (with_reducible refine Kd.C_drew ?_))); (case side2 => exact (Kd.R_reads' HO285.out).2.1); (case side3 => repeat (first | exact (Kd.R_reads' HO289.out).2.2 | (with_reducible refine Kd.C_alloc ?_ _) | (with_reducible refine Kd.C_drewN ?_ _) | (with_reducible refine Kd.C_drew ?_))); (case side4 => exact (Kd.R_reads' HO289.out).2.1); rintro e w48 ⟨v299, rfl, ho0, hb⟩; have n0_ := Aside0.mk (Kd.R_elder' (by (with_reducible repeat (first | apply Kd.R_alloc | apply Kd.R_drewN | apply Kd.R_drew)); exact HO271.out) (Kd.R_base ho0) hb); have n1_ := Aside0.mk (Kd.R_elder' (by (with_reducible repeat (first | apply Kd.R_alloc | apply Kd.R_drewN | apply Kd.R_drew)); exact HO275.out) (Kd.R_base ho0) hb); have n2_ := Aside0.mk (Kd.R_elder' (by (with_reducible repeat (first | apply Kd.R_alloc | apply Kd.R_drewN | apply Kd.R_drew)); exact HO278.out) (Kd.R_base ho0) hb); have n3_ := Aside0.mk (Kd.R_elder' (by (with_reducible repeat (first | apply Kd.R_alloc | apply Kd.R_drewN | apply Kd.R_drew)); exact HO282.out) (Kd.R_base ho0) hb); have n4_ := Aside0.mk (Kd.R_elder' (by (with_reducible repeat (first | apply Kd.R_alloc | apply Kd.R_drewN | apply Kd.R_drew)); exact HO285.out) (Kd.R_base ho0) hb); have n5_ := Aside0.mk (Kd.R_elder' (by (with_reducible repeat (first | apply Kd.R_alloc | apply Kd.R_drewN | apply Kd.R_drew)); exact HO289.out) (Kd.R_base ho0) hb); have n6_ := Aside0.mk (Kd.R_elder' (by (with_reducible repeat (first | apply Kd.R_alloc | apply Kd.R_drewN | apply Kd.R_drew)); exact HO293.out) (Kd.R_base ho0) hb); have n7_ := Aside0.mk (Kd.R_elder' (by (with_reducible repeat (first | apply Kd.R_alloc | apply Kd.R_drewN | apply Kd.R_drew)); exact HO296.out) (Kd.R_base ho0) hb); have n8_ := Aside0.mk (Kd.R_lower (Kd.R_new' (Kd.R_new' (Kd.R_new' (Kd.R_new' (Kd.R_new' (Kd.R_new' (Kd.R_new' (Kd.R_new' ho0 (Kd.R_lt (by (with_reducible repeat (first | apply Kd.R_alloc | apply Kd.R_drewN | apply Kd.R_drew)); exact HO271.out))) (Kd.R_lt (by (with_reducible repeat (first | apply Kd.R_alloc | apply Kd.R_drewN | apply Kd.R_drew)); exact HO275.out))) (Kd.R_lt (by (with_reducible repeat (first | apply Kd.R_alloc | apply Kd.R_drewN | apply Kd.R_drew)); exact HO278.out))) (Kd.R_lt (by (with_reducible repeat (first | apply Kd.R_alloc | apply Kd.R_drewN | apply Kd.R_drew)); exact HO282.out))) (Kd.R_lt (by (with_reducible repeat (first | apply Kd.R_alloc | apply Kd.R_drewN | apply Kd.R_drew)); exact HO285.out))) (Kd.R_lt (by (with_reducible repeat (first | apply Kd.R_alloc | apply Kd.R_drewN | apply Kd.R_drew)); exact HO289.out))) (Kd.R_lt (by (with_reducible repeat (first | apply Kd.R_alloc | apply Kd.R_drewN | apply Kd.R_drew)); exact HO293.out))) (Kd.R_lt (by (with_reducible repeat (first | apply Kd.R_alloc | apply Kd.R_drewN | apply Kd.R_drew)); exact HO296.out))) (below_size (by repeat (first | (with_reducible first | exact HB.out | apply below_alloc | apply pw_below_drewN | apply below_drew1 | refine below_set ?_ (IsS61.ge HI263.out) | refine below_set ?_ GE268.out) | exact HB.out)))); have n9_ := Aside0.mk (IsS61.below (by repeat (first | (with_reducible first | exact HI263.out | apply IsS61.alloc | apply IsS61.drewN | apply IsS61.drew | apply IsS61.set_1 | refine IsS61.far ?_ NB263_268.out _) | exact HI263.out)) hb); have n10_ := Aside0.mk (blk_below (g := gb268) (o := .cells #[.int .i64 t264, .int .i64 t265, .int .i64 t266] 36 (0, 0)) (by (with_reducible repeat (first | refine blk_drewN ?_ _ | refine blk_drew ?_ | refine blk_alloc ?_ _)); exact BK268.out) hb); have n11_ := Aside0.mk (below_step (by repeat (first | (with_reducible first | exact HB.out | apply below_alloc | apply pw_below_drewN | apply below_drew1 | refine below_set ?_ (IsS61.ge HI263.out) | refine below_set ?_ GE268.out) | exact HB.out)) hb); clear HO271; clear HO275; clear HO278; clear HO282; clear HO285; clear HO289; clear HO293; clear HO296; clear HI263; clear BK268; clear HB; have HO271 := n0_; have HO275 := n1_; have HO278 := n2_; have HO282 := n3_; have HO285 := n4_; have HO289 := n5_; have HO293 := n6_; have HO296 := n7_; have HO300 := n8_; have HI263 := n9_; have BK268 := n10_; have HB := n11_; clear n0_ n1_ n2_ n3_ n4_ n5_ n6_ n7_ n8_ n9_ n10_ n11_; (try clear hb); (try clear hb2); (try clear hk); (try clear hi); (try clear ho0); obtain ⟨Ao49, co49, eo49⟩ := Kd.R_slice HO296.out; subst eo49; obtain ⟨Ao50, co50, eo50⟩ := Kd.R_slice HO300.out; subst eo50) | (go_at_call 20; (with_reducible refine (synoptickeep_Ints.calls k _ _ t294 _ _ t298 t301 _ ?side1 ?side2 ?side3 ?side4 A45.out).mono ?_); (case side1 => repeat (first | exact (Kd.R_reads' HO296.out).2.2 | (with_reducible refine Kd.C_alloc ?_ _) | (with_reducible refine Kd.C_drewN ?_ _) | (with_reducible refine Kd.C_drew ?_))); (case side2 => exact (Kd.R_reads' HO296.out).2.1); (case side3 => repeat (first | exact (Kd.R_reads' HO300.out).2.2 | (with_reducible refine Kd.C_alloc ?_ _) | (with_reducible refine Kd.C_drewN ?_ _) | (with_reducible refine Kd.C_drew ?_))); (case side4 => exact (Kd.R_reads' HO300.out).2.1); rintro e w' ⟨rfl, ⟨nd, rfl⟩⟩))
                go_meet
                case rel => exact ⟨_, (!t301), (by first | rfl | (simp; done) | (simp [*]; done)), H', ⟨by first | omega | exact Nat.le_refl _⟩, ⟨by (with_reducible repeat (first | apply Kd.R_alloc | apply Kd.R_drewN | apply Kd.R_drew)); exact Kd.R_mono HO275.out (fun _ hk => ⟨hk.1.1.1.1.1.2, ⟨hk.1.1.1.1.2, hk.1.1.1.2⟩⟩)⟩, ⟨by (with_reducible repeat (first | apply Kd.R_alloc | apply Kd.R_drewN | apply Kd.R_drew)); exact Kd.R_mono HO282.out (fun _ hk => ⟨hk.1.1.1.1.1.1.2, ⟨hk.1.1.1.1.2, hk.1.1.1.2⟩⟩)⟩, ⟨by (with_reducible repeat (first | apply Kd.R_alloc | apply Kd.R_drewN | apply Kd.R_drew)); exact Kd.R_mono HO285.out (fun _ hk => ⟨hk.1.1.1.1.1.1.2, ⟨hk.1.1.1.1.2, hk.1.1.1.2⟩⟩)⟩, ⟨by (with_reducible repeat (first | apply Kd.R_alloc | apply Kd.R_drewN | apply Kd.R_drew)); exact Kd.R_mono HO289.out (fun _ hk => ⟨hk.1.1.1.1.1.1.2, ⟨hk.1.1.1.1.2, hk.1.1.1.2⟩⟩)⟩, ⟨by (with_reducible repeat (first | refine blk_drewN ?_ _ | refine blk_drew ?_ | refine blk_alloc ?_ _)); exact BK268.out⟩, ⟨by repeat (first | (with_reducible first | exact HB.out | apply below_alloc | apply pw_below_drewN | apply below_drew1 | refine below_set ?_ (IsS61.ge HI263.out) | refine below_set ?_ GE268.out) | exact HB.out)⟩⟩
              · rw [if_neg c43] at H
                have c43b0 : ((t287.length : Int) == (t273.length : Int)) = false := beq_eq_false_iff_ne.mpr c43
                have c43b1 : ((t287.length : Int) != (t273.length : Int)) = true := bne_iff_ne.mpr c43
                have c43b2 : (t287.length == t273.length) = false := by first | simpa using c43 | (simp at c43 ⊢; omega)
                have H' := Aside0.mk H
                clear H
                obtain ⟨Ao51, co51, eo51⟩ := Kd.R_slice HO285.out
                subst eo51
                obtain ⟨Ao52, co52, eo52⟩ := Kd.R_slice HO289.out
                subst eo52
                go_wp2
                go_meet
                case rel => exact ⟨_, (true), (by first | rfl | (simp; done) | (simp [*]; done)), H', ⟨by first | omega | exact Nat.le_refl _⟩, ⟨by (with_reducible repeat (first | apply Kd.R_alloc | apply Kd.R_drewN | apply Kd.R_drew)); exact Kd.R_mono HO275.out (fun _ hk => ⟨hk.1.1.1.1.2, ⟨hk.1.1.1.2, hk.1.1.2⟩⟩)⟩, ⟨by (with_reducible repeat (first | apply Kd.R_alloc | apply Kd.R_drewN | apply Kd.R_drew)); exact Kd.R_mono HO282.out (fun _ hk => ⟨hk.1.1.1.1.1.2, ⟨hk.1.1.1.2, hk.1.1.2⟩⟩)⟩, ⟨by (with_reducible repeat (first | apply Kd.R_alloc | apply Kd.R_drewN | apply Kd.R_drew)); exact Kd.R_mono HO285.out (fun _ hk => ⟨hk.1.1.1.1.1.2, ⟨hk.1.1.1.2, hk.1.1.2⟩⟩)⟩, ⟨by (with_reducible repeat (first | apply Kd.R_alloc | apply Kd.R_drewN | apply Kd.R_drew)); exact Kd.R_mono HO289.out (fun _ hk => ⟨hk.1.1.1.1.1.2, ⟨hk.1.1.1.2, hk.1.1.2⟩⟩)⟩, ⟨by (with_reducible repeat (first | refine blk_drewN ?_ _ | refine blk_drew ?_ | refine blk_alloc ?_ _)); exact BK268.out⟩, ⟨by repeat (first | (with_reducible first | exact HB.out | apply below_alloc | apply pw_below_drewN | apply below_drew1 | refine below_set ?_ (IsS61.ge HI263.out) | refine below_set ?_ GE268.out) | exact HB.out)⟩⟩
            · rw [if_neg c42] at H
              have c42b0 : ((t283.length : Int) == (t273.length : Int)) = false := beq_eq_false_iff_ne.mpr c42
              have c42b1 : ((t283.length : Int) != (t273.length : Int)) = true := bne_iff_ne.mpr c42
              have c42b2 : (t283.length == t273.length) = false := by first | simpa using c42 | (simp at c42 ⊢; omega)
              have H' := Aside0.mk H
              clear H
              obtain ⟨Ao53, co53, eo53⟩ := Kd.R_slice HO285.out
              subst eo53
              go_wp2
              go_meet
              case rel => exact ⟨_, (true), (by first | rfl | (simp; done) | (simp [*]; done)), H', ⟨by first | omega | exact Nat.le_refl _⟩, ⟨by (with_reducible repeat (first | apply Kd.R_alloc | apply Kd.R_drewN | apply Kd.R_drew)); exact Kd.R_mono HO275.out (fun _ hk => ⟨hk.1.1.1.1.2, ⟨hk.1.1.1.2, hk.1.1.2⟩⟩)⟩, ⟨by (with_reducible repeat (first | apply Kd.R_alloc | apply Kd.R_drewN | apply Kd.R_drew)); exact Kd.R_mono HO282.out (fun _ hk => ⟨hk.1.1.1.1.1.2, ⟨hk.1.1.1.2, hk.1.1.2⟩⟩)⟩, ⟨by (with_reducible repeat (first | apply Kd.R_alloc | apply Kd.R_drewN | apply Kd.R_drew)); exact Kd.R_mono HO285.out (fun _ hk => ⟨hk.1.1.1.1.1.2, ⟨hk.1.1.1.2, hk.1.1.2⟩⟩)⟩, ⟨by (with_reducible repeat (first | apply Kd.R_alloc | apply Kd.R_drewN | apply Kd.R_drew)); exact Kd.R_mono HO289.out (fun _ hk => ⟨hk.1.1.1.1.1.2, ⟨hk.1.1.1.2, hk.1.1.2⟩⟩)⟩, ⟨by (with_reducible repeat (first | refine blk_drewN ?_ _ | refine blk_drew ?_ | refine blk_alloc ?_ _)); exact BK268.out⟩, ⟨by repeat (first | (with_reducible first | exact HB.out | apply below_alloc | apply pw_below_drewN | apply below_drew1 | refine below_set ?_ (IsS61.ge HI263.out) | refine below_set ?_ GE268.out) | exact HB.out)⟩⟩
          · rw [if_neg c41] at H
            have c41b0 : (t297 == 0) = false := beq_eq_false_iff_ne.mpr c41
            have c41b1 : (t297 != 0) = true := bne_iff_ne.mpr c41
            have H' := Aside0.mk H
            clear H
            go_wp2
            go_meet
            case rel => exact ⟨_, (true), (by first | rfl | (simp; done) | (simp [*]; done)), H', ⟨by first | omega | exact Nat.le_refl _⟩, ⟨by (with_reducible repeat (first | apply Kd.R_alloc | apply Kd.R_drewN | apply Kd.R_drew)); exact Kd.R_mono HO275.out (fun _ hk => ⟨hk.1.1.1.1.2, ⟨hk.1.1.1.2, hk.1.1.2⟩⟩)⟩, ⟨by (with_reducible repeat (first | apply Kd.R_alloc | apply Kd.R_drewN | apply Kd.R_drew)); exact Kd.R_mono HO282.out (fun _ hk => ⟨hk.1.1.1.1.1.2, ⟨hk.1.1.1.2, hk.1.1.2⟩⟩)⟩, ⟨by (with_reducible repeat (first | apply Kd.R_alloc | apply Kd.R_drewN | apply Kd.R_drew)); exact Kd.R_mono HO285.out (fun _ hk => ⟨hk.1.1.1.1.1.2, ⟨hk.1.1.1.2, hk.1.1.2⟩⟩)⟩, ⟨by (with_reducible repeat (first | apply Kd.R_alloc | apply Kd.R_drewN | apply Kd.R_drew)); exact Kd.R_mono HO289.out (fun _ hk => ⟨hk.1.1.1.1.1.2, ⟨hk.1.1.1.2, hk.1.1.2⟩⟩)⟩, ⟨by (with_reducible repeat (first | refine blk_drewN ?_ _ | refine blk_drew ?_ | refine blk_alloc ?_ _)); exact BK268.out⟩, ⟨by repeat (first | (with_reducible first | exact HB.out | apply below_alloc | apply pw_below_drewN | apply below_drew1 | refine below_set ?_ (IsS61.ge HI263.out) | refine below_set ?_ GE268.out) | exact HB.out)⟩⟩
        · rw [if_neg c40] at H
          have c40b0 : (t290 == 0) = false := beq_eq_false_iff_ne.mpr c40
          have c40b1 : (t290 != 0) = true := bne_iff_ne.mpr c40
          have H' := Aside0.mk H
          clear H
          go_wp2
          go_meet
          case rel => exact ⟨_, (true), (by first | rfl | (simp; done) | (simp [*]; done)), H', ⟨by first | omega | exact Nat.le_refl _⟩, ⟨by (with_reducible repeat (first | apply Kd.R_alloc | apply Kd.R_drewN | apply Kd.R_drew)); exact Kd.R_mono HO275.out (fun _ hk => ⟨hk.1.1.1.1.2, ⟨hk.1.1.1.2, hk.1.1.2⟩⟩)⟩, ⟨by (with_reducible repeat (first | apply Kd.R_alloc | apply Kd.R_drewN | apply Kd.R_drew)); exact Kd.R_mono HO282.out (fun _ hk => ⟨hk.1.1.1.1.1.2, ⟨hk.1.1.1.2, hk.1.1.2⟩⟩)⟩, ⟨by (with_reducible repeat (first | apply Kd.R_alloc | apply Kd.R_drewN | apply Kd.R_drew)); exact Kd.R_mono HO285.out (fun _ hk => ⟨hk.1.1.1.1.1.2, ⟨hk.1.1.1.2, hk.1.1.2⟩⟩)⟩, ⟨by (with_reducible repeat (first | apply Kd.R_alloc | apply Kd.R_drewN | apply Kd.R_drew)); exact Kd.R_mono HO289.out (fun _ hk => ⟨hk.1.1.1.1.1.2, ⟨hk.1.1.1.2, hk.1.1.2⟩⟩)⟩, ⟨by (with_reducible repeat (first | refine blk_drewN ?_ _ | refine blk_drew ?_ | refine blk_alloc ?_ _)); exact BK268.out⟩, ⟨by repeat (first | (with_reducible first | exact HB.out | apply below_alloc | apply pw_below_drewN | apply below_drew1 | refine below_set ?_ (IsS61.ge HI263.out) | refine below_set ?_ GE268.out) | exact HB.out)⟩⟩
      · rw [if_neg c39] at H
        have c39b0 : (t286 == 0) = false := beq_eq_false_iff_ne.mpr c39
        have c39b1 : (t286 != 0) = true := bne_iff_ne.mpr c39
        (first | rw [c39b0] | (simp only [i64_w]; rw [c39b0]) | skip)
        have H' := Aside0.mk H
        clear H
        go_wp2
        go_meet
        case rel => exact ⟨_, (true), (by first | rfl | (simp; done) | (simp [*]; done)), H', ⟨by first | omega | exact Nat.le_refl _⟩, ⟨by (with_reducible repeat (first | apply Kd.R_alloc | apply Kd.R_drewN | apply Kd.R_drew)); exact Kd.R_mono HO275.out (fun _ hk => ⟨hk.1.1.1.1.2, ⟨hk.1.1.1.2, hk.1.1.2⟩⟩)⟩, ⟨by (with_reducible repeat (first | apply Kd.R_alloc | apply Kd.R_drewN | apply Kd.R_drew)); exact Kd.R_mono HO282.out (fun _ hk => ⟨hk.1.1.1.1.1.2, ⟨hk.1.1.1.2, hk.1.1.2⟩⟩)⟩, ⟨by (with_reducible repeat (first | apply Kd.R_alloc | apply Kd.R_drewN | apply Kd.R_drew)); exact Kd.R_mono HO285.out (fun _ hk => ⟨hk.1.1.1.1.1.2, ⟨hk.1.1.1.2, hk.1.1.2⟩⟩)⟩, ⟨by (with_reducible repeat (first | apply Kd.R_alloc | apply Kd.R_drewN | apply Kd.R_drew)); exact Kd.R_mono HO289.out (fun _ hk => ⟨hk.1.1.1.1.1.2, ⟨hk.1.1.1.2, hk.1.1.2⟩⟩)⟩, ⟨by (with_reducible repeat (first | refine blk_drewN ?_ _ | refine blk_drew ?_ | refine blk_alloc ?_ _)); exact BK268.out⟩, ⟨by repeat (first | (with_reducible first | exact HB.out | apply below_alloc | apply pw_below_drewN | apply below_drew1 | refine below_set ?_ (IsS61.ge HI263.out) | refine below_set ?_ GE268.out) | exact HB.out)⟩⟩
    case rest =>
      clear HC14
      try clear c1
      try clear p2
      try clear c3
      try clear c4
      try clear c8
      try clear c14
      try clear c15
      try clear c16
      try clear c17
      try clear c18
      try clear c19
      try clear c39
      try clear c39b0
      try clear c39b1
      try clear c40
      try clear c40b0
      try clear c40b1
      try clear c41
      try clear c41b0
      try clear c41b1
      try clear c42
      try clear c42b0
      try clear c42b1
      try clear c42b2
      try clear c43
      try clear c43b0
      try clear c43b1
      try clear c43b2
      try clear hcz20_0
      try clear hcz20_1
      try clear hcz20_2
      try clear hcz29_0
      try clear hcz29_1
      try clear hcz29_2
      try clear hcz32_0
      try clear hcz32_1
      try clear hcz32_2
      try clear hfz20_0
      try clear hfz20_1
      try clear hfz20_2
      try clear hfz29_0
      try clear hfz29_1
      try clear hfz29_2
      try clear hfz32_0
      try clear hfz32_1
      try clear hfz32_2
      obtain ⟨kq, x83_13, rfl, HA, HJ13, HO_5, HO_6, HO_7, HO_9, BK268, HB⟩ := hcut
      cases kq with
      | zero => exact absurd HA.out (by simp [synopticlaw22_PrecisionLinear.j0])
      | succ kj13 =>
        have H := HA.out
        clear HA
        simp only [synopticlaw22_PrecisionLinear.j0] at H
        by_cases c54 : x83_13 = true
        · subst c54
          have H1 : (some false) = some r := by rw [if_pos rfl] at H; exact H
          clear H
          have H := H1
          clear H1
          obtain rfl := Option.some.inj H
          go_wp2
          go_ret
          exact ⟨by first | rfl | (simp [errW_none, errW_some] <;> rfl) | (simp [*, errW_none, errW_some] <;> rfl), by repeat (first | (with_reducible first | exact HB.out | apply below_alloc | apply pw_below_drewN | apply below_drew1 | refine below_set ?_ GE268.out) | exact HB.out)⟩
        · replace c54 := Bool.eq_false_iff.mpr c54
          subst c54
          have H1 : ((precision_Dot.f t283 t280).bind fun bt302 => ((precision_Dot.f t273 t287).bind fun bt306 => (synopticlaw22_PrecisionLinear.l0 kj13 t273 t283 bt302.2.2 bt306.2.2 0 0 (t283.length : Int) 0 t264 t265 t266 bt302.1 bt302.2.1 bt306.1 bt306.2.1))) = some r := by rw [if_neg (show ¬ (false = true) by decide)] at H; exact H
          clear H
          have H := H1
          clear H1
          replace H := Option.bind_eq_some_iff.mp H
          obtain ⟨⟨t302, t303, t304⟩, A550, H⟩ := H
          replace H : ((precision_Dot.f t273 t287).bind fun bt306 => (synopticlaw22_PrecisionLinear.l0 kj13 t273 t283 t304 bt306.2.2 0 0 (t283.length : Int) 0 t264 t265 t266 t302 t303 bt306.1 bt306.2.1)) = some r := H
          have A55 := Aside0.mk A550
          clear A550
          replace H := Option.bind_eq_some_iff.mp H
          obtain ⟨⟨t306, t307, t308⟩, A560, H⟩ := H
          replace H : (synopticlaw22_PrecisionLinear.l0 kj13 t273 t283 t304 t308 0 0 (t283.length : Int) 0 t264 t265 t266 t302 t303 t306 t307) = some r := H
          have A56 := Aside0.mk A560
          clear A560
          have H' := Aside0.mk H
          clear H
          obtain ⟨Ao57, co57, eo57⟩ := Kd.R_slice HO_7.out
          subst eo57
          go_wp2_with (first | ((with_reducible refine gate_callee (f := 21) rfl ?_); refine goesL_ (some 87) rfl rfl Tryd.func21 (by kernel_rfl) rfl #[.slice Ao57 t283.length co57, .slice Ao33 t280.length co33] rfl (by (try simp only [List.map_toArray, List.map_cons, List.map_nil]); first | done | rfl | (simp only [List.length_drop, List.length_take]; rfl)) ?_; (with_reducible refine (precision_Dot.calls _ _ t283 _ _ t280 t302 t303 t304 _ ?side1 ?side2 ?side3 ?side4 A55.out).mono ?_); (case side1 => repeat (first | exact (Kd.R_reads' HO_7.out).2.2 | (with_reducible refine Kd.C_alloc ?_ _) | (with_reducible refine Kd.C_drewN ?_ _) | (with_reducible refine Kd.C_drew ?_))); (case side2 => exact (Kd.R_reads' HO_7.out).2.1); (case side3 => repeat (first | exact (Kd.R_reads' HO_6.out).2.2 | (with_reducible refine Kd.C_alloc ?_ _) | (with_reducible refine Kd.C_drewN ?_ _) | (with_reducible refine Kd.C_drew ?_))); (case side4 => exact (Kd.R_reads' HO_6.out).2.1); rintro e w58 ⟨rfl, hb⟩; refine ⟨_, rfl, ?_⟩; have n0_ := Aside0.mk (Kd.R_below (by (with_reducible repeat (first | apply Kd.R_alloc | apply Kd.R_drewN | apply Kd.R_drew)); exact HO_5.out) hb); have n1_ := Aside0.mk (Kd.R_below (by (with_reducible repeat (first | apply Kd.R_alloc | apply Kd.R_drewN | apply Kd.R_drew)); exact HO_6.out) hb); have n2_ := Aside0.mk (Kd.R_below (by (with_reducible repeat (first | apply Kd.R_alloc | apply Kd.R_drewN | apply Kd.R_drew)); exact HO_7.out) hb); have n3_ := Aside0.mk (Kd.R_below (by (with_reducible repeat (first | apply Kd.R_alloc | apply Kd.R_drewN | apply Kd.R_drew)); exact HO_9.out) hb); have n4_ := Aside0.mk (blk_below (g := gb268) (o := .cells #[.int .i64 t264, .int .i64 t265, .int .i64 t266] 36 (0, 0)) (by (with_reducible repeat (first | refine blk_drewN ?_ _ | refine blk_drew ?_ | refine blk_alloc ?_ _)); exact BK268.out) hb); have n5_ := Aside0.mk (below_step (by repeat (first | (with_reducible first | exact HB.out | apply below_alloc | apply pw_below_drewN | apply below_drew1 | refine below_set ?_ GE268.out) | exact HB.out)) hb); clear HO_5; clear HO_6; clear HO_7; clear HO_9; clear BK268; clear HB; have HO_5 := n0_; have HO_6 := n1_; have HO_7 := n2_; have HO_9 := n3_; have BK268 := n4_; have HB := n5_; clear n0_ n1_ n2_ n3_ n4_ n5_; (try clear hb); (try clear hb2); (try clear hk); (try clear hi)) | ((with_reducible refine gate_dst (N := 13) rfl ?_); (try (refine gate_guard (by rfl) ?_; dsimp only)); refine box_event ?hg (N := 13) ?hd (cs := #[.int .i64 0, .int .u64 0]) (t := 25) ?hr ?_; (case hd => rfl); (case hg => rfl); (case hr => first | (go_simp; done) | (go_simp; rfl)); intro gb305 hg w59 hbox hb; have n0_ := Aside0.mk (Kd.R_below (by (with_reducible repeat (first | apply Kd.R_alloc | apply Kd.R_drewN | apply Kd.R_drew)); exact HO_5.out) hb); have n1_ := Aside0.mk (Kd.R_below (by (with_reducible repeat (first | apply Kd.R_alloc | apply Kd.R_drewN | apply Kd.R_drew)); exact HO_6.out) hb); have n2_ := Aside0.mk (Kd.R_below (by (with_reducible repeat (first | apply Kd.R_alloc | apply Kd.R_drewN | apply Kd.R_drew)); exact HO_7.out) hb); have n3_ := Aside0.mk (Kd.R_below (by (with_reducible repeat (first | apply Kd.R_alloc | apply Kd.R_drewN | apply Kd.R_drew)); exact HO_9.out) hb); have n4_ := Aside0.mk (blk_below (g := gb268) (o := .cells #[.int .i64 t264, .int .i64 t265, .int .i64 t266] 36 (0, 0)) (by (with_reducible repeat (first | refine blk_drewN ?_ _ | refine blk_drew ?_ | refine blk_alloc ?_ _)); exact BK268.out) hb); have n5_ := Aside0.mk (below_step (by repeat (first | (with_reducible first | exact HB.out | apply below_alloc | apply pw_below_drewN | apply below_drew1 | refine below_set ?_ GE268.out) | exact HB.out)) hb); have n6_ := Aside0.mk (hbox); have n7_ := Aside0.mk ((by rw [hg]; exact (below_size (by repeat (first | (with_reducible first | exact HB.out | apply below_alloc | apply pw_below_drewN | apply below_drew1 | refine below_set ?_ GE268.out) | exact HB.out))) : w.heap.size ≤ gb305)); have n8_ := Aside0.mk ((by rw [hg]; exact (below_size (by repeat (first | (with_reducible first | exact HB.out | apply below_alloc | apply pw_below_drewN | apply below_drew1 | refine below_set ?_ GE268.out) | exact HB.out))) : w.heap.size ≤ gb305)); have n9_ := Aside0.mk ((by rw [hg]; exact Nat.ne_of_lt (blk_lt (g := gb268) (o := .cells #[.int .i64 t264, .int .i64 t265, .int .i64 t266] 36 (0, 0)) (by (with_reducible repeat (first | refine blk_drewN ?_ _ | refine blk_drew ?_ | refine blk_alloc ?_ _)); exact BK268.out)) : gb268 ≠ gb305)); have n10_ := Aside0.mk ((by rw [hg]; exact Nat.ne_of_gt (blk_lt (g := gb268) (o := .cells #[.int .i64 t264, .int .i64 t265, .int .i64 t266] 36 (0, 0)) (by (with_reducible repeat (first | refine blk_drewN ?_ _ | refine blk_drew ?_ | refine blk_alloc ?_ _)); exact BK268.out)) : gb305 ≠ gb268)); clear HO_5; clear HO_6; clear HO_7; clear HO_9; clear BK268; clear HB; have HO_5 := n0_; have HO_6 := n1_; have HO_7 := n2_; have HO_9 := n3_; have BK268 := n4_; have HB := n5_; have BK305 := n6_; have GW305 := n7_; have GE305 := n8_; have NB268_305 := n9_; have NB305_268 := n10_; clear n0_ n1_ n2_ n3_ n4_ n5_ n6_ n7_ n8_ n9_ n10_; clear hb hbox hg; have hnb60 := NB305_268.out; have hnc60 := NB268_305.out; have hcz61_0 : w59.cell? ⟨gb305, 0, none⟩ = some (.int .i64 0) := (blk_cell BK305.out 0).trans rfl; have hcz61_1 : w59.cell? ⟨gb305, 1, none⟩ = some (.int .u64 0) := (blk_cell BK305.out 1).trans rfl; have hfz61_0 := blk_frozen BK305.out 0; have hfz61_1 := blk_frozen BK305.out 1; obtain ⟨Ao62, co62, eo62⟩ := Kd.R_slice HO_9.out; subst eo62) | ((with_reducible refine gate_callee (f := 21) rfl ?_); refine goesL_ (some 93) rfl rfl Tryd.func21 (by kernel_rfl) rfl #[.slice Ao30 t273.length co30, .slice Ao62 t287.length co62] rfl (by (try simp only [List.map_toArray, List.map_cons, List.map_nil]); first | done | rfl | (simp only [List.length_drop, List.length_take]; rfl)) ?_; (with_reducible refine (precision_Dot.calls _ _ t273 _ _ t287 t306 t307 t308 _ ?side1 ?side2 ?side3 ?side4 A56.out).mono ?_); (case side1 => refine (Kd.R_reads' (e := 3) (base := w.heap.size) (ok := fun k_ => (some k_ ≠ (.slice Ao33 t280.length co33 : Value).ownBlock ∧ (some k_ ≠ (.slice Ao57 t283.length co57 : Value).ownBlock ∧ some k_ ≠ (.slice Ao62 t287.length co62 : Value).ownBlock))) (n := t273.length) (c := co30) ?_).2.2; exact (by (with_reducible repeat (first | apply Kd.R_alloc | apply Kd.R_drewN | apply Kd.R_drew)); exact (Kd.R_mono (Kd.R_far (p := ⟨gb305, 1, none⟩) (Kd.R_far (p := ⟨gb305, 0, none⟩) (Kd.R_types HO_5.out BK305.out (by decide)) (fun _ hk => hk.2) (.int .i64 t302)) (fun _ hk => hk.2) (.int .u64 t303)) (fun _ h_ => h_.1)))); (case side2 => exact (Kd.R_reads' HO_5.out).2.1); (case side3 => refine (Kd.R_reads' (e := 3) (base := w.heap.size) (ok := fun k_ => (some k_ ≠ (.slice Ao30 t273.length co30 : Value).ownBlock ∧ (some k_ ≠ (.slice Ao33 t280.length co33 : Value).ownBlock ∧ some k_ ≠ (.slice Ao57 t283.length co57 : Value).ownBlock))) (n := t287.length) (c := co62) ?_).2.2; exact (by (with_reducible repeat (first | apply Kd.R_alloc | apply Kd.R_drewN | apply Kd.R_drew)); exact (Kd.R_mono (Kd.R_far (p := ⟨gb305, 1, none⟩) (Kd.R_far (p := ⟨gb305, 0, none⟩) (Kd.R_types HO_9.out BK305.out (by decide)) (fun _ hk => hk.2) (.int .i64 t302)) (fun _ hk => hk.2) (.int .u64 t303)) (fun _ h_ => h_.1)))); (case side4 => exact (Kd.R_reads' HO_9.out).2.1); rintro e w63 ⟨rfl, hb⟩; refine ⟨_, rfl, ?_⟩; have n0_ := Aside0.mk (Kd.R_below (by (with_reducible repeat (first | apply Kd.R_alloc | apply Kd.R_drewN | apply Kd.R_drew)); exact (Kd.R_mono (Kd.R_far (p := ⟨gb305, 1, none⟩) (Kd.R_far (p := ⟨gb305, 0, none⟩) (Kd.R_types HO_5.out BK305.out (by decide)) (fun _ hk => hk.2) (.int .i64 t302)) (fun _ hk => hk.2) (.int .u64 t303)) (fun _ h_ => h_.1))) hb); have n1_ := Aside0.mk (Kd.R_below (by (with_reducible repeat (first | apply Kd.R_alloc | apply Kd.R_drewN | apply Kd.R_drew)); exact (Kd.R_mono (Kd.R_far (p := ⟨gb305, 1, none⟩) (Kd.R_far (p := ⟨gb305, 0, none⟩) (Kd.R_types HO_6.out BK305.out (by decide)) (fun _ hk => hk.2) (.int .i64 t302)) (fun _ hk => hk.2) (.int .u64 t303)) (fun _ h_ => h_.1))) hb); have n2_ := Aside0.mk (Kd.R_below (by (with_reducible repeat (first | apply Kd.R_alloc | apply Kd.R_drewN | apply Kd.R_drew)); exact (Kd.R_mono (Kd.R_far (p := ⟨gb305, 1, none⟩) (Kd.R_far (p := ⟨gb305, 0, none⟩) (Kd.R_types HO_7.out BK305.out (by decide)) (fun _ hk => hk.2) (.int .i64 t302)) (fun _ hk => hk.2) (.int .u64 t303)) (fun _ h_ => h_.1))) hb); have n3_ := Aside0.mk (Kd.R_below (by (with_reducible repeat (first | apply Kd.R_alloc | apply Kd.R_drewN | apply Kd.R_drew)); exact (Kd.R_mono (Kd.R_far (p := ⟨gb305, 1, none⟩) (Kd.R_far (p := ⟨gb305, 0, none⟩) (Kd.R_types HO_9.out BK305.out (by decide)) (fun _ hk => hk.2) (.int .i64 t302)) (fun _ hk => hk.2) (.int .u64 t303)) (fun _ h_ => h_.1))) hb); have n4_ := Aside0.mk (blk_below (g := gb268) (o := .cells #[.int .i64 t264, .int .i64 t265, .int .i64 t266] 36 (0, 0)) (by (with_reducible repeat (first | refine blk_drewN ?_ _ | refine blk_drew ?_ | refine blk_alloc ?_ _)); refine blk_far ?_ NB268_305.out _; (with_reducible repeat (first | refine blk_drewN ?_ _ | refine blk_drew ?_ | refine blk_alloc ?_ _)); refine blk_far ?_ NB268_305.out _; (with_reducible repeat (first | refine blk_drewN ?_ _ | refine blk_drew ?_ | refine blk_alloc ?_ _)); exact BK268.out) hb); have n5_ := Aside0.mk (blk_below (g := gb305) (o := .cells #[.int .i64 t302, .int .u64 t303] 25 (0, 0)) (by (with_reducible repeat (first | refine blk_drewN ?_ _ | refine blk_drew ?_ | refine blk_alloc ?_ _)); refine blk_put (cs := #[.int .i64 t302, .int .u64 0]) ?_ 1 _ rfl; (with_reducible repeat (first | refine blk_drewN ?_ _ | refine blk_drew ?_ | refine blk_alloc ?_ _)); refine blk_put (cs := #[.int .i64 0, .int .u64 0]) ?_ 0 _ rfl; (with_reducible repeat (first | refine blk_drewN ?_ _ | refine blk_drew ?_ | refine blk_alloc ?_ _)); exact BK305.out) hb); have n6_ := Aside0.mk (below_step (by repeat (first | (with_reducible first | exact HB.out | apply below_alloc | apply pw_below_drewN | apply below_drew1 | refine below_set ?_ GE268.out | refine below_set ?_ GE305.out) | exact HB.out)) hb); clear HO_5; clear HO_6; clear HO_7; clear HO_9; clear BK268; clear BK305; clear HB; have HO_5 := n0_; have HO_6 := n1_; have HO_7 := n2_; have HO_9 := n3_; have BK268 := n4_; have BK305 := n5_; have HB := n6_; clear n0_ n1_ n2_ n3_ n4_ n5_ n6_; (try clear hb); (try clear hb2); (try clear hk); (try clear hi)) | ((with_reducible refine gate_dst (N := 14) rfl ?_); (try (refine gate_guard (by rfl) ?_; dsimp only)); refine box_event ?hg (N := 14) ?hd (cs := #[.int .i64 0, .int .u64 0]) (t := 25) ?hr ?_; (case hd => rfl); (case hg => rfl); (case hr => first | (go_simp; done) | (go_simp; rfl)); intro gb309 hg w64 hbox hb; have n0_ := Aside0.mk (Kd.R_below (by (with_reducible repeat (first | apply Kd.R_alloc | apply Kd.R_drewN | apply Kd.R_drew)); exact HO_5.out) hb); have n1_ := Aside0.mk (Kd.R_below (by (with_reducible repeat (first | apply Kd.R_alloc | apply Kd.R_drewN | apply Kd.R_drew)); exact HO_6.out) hb); have n2_ := Aside0.mk (Kd.R_below (by (with_reducible repeat (first | apply Kd.R_alloc | apply Kd.R_drewN | apply Kd.R_drew)); exact HO_7.out) hb); have n3_ := Aside0.mk (Kd.R_below (by (with_reducible repeat (first | apply Kd.R_alloc | apply Kd.R_drewN | apply Kd.R_drew)); exact HO_9.out) hb); have n4_ := Aside0.mk (blk_below (g := gb268) (o := .cells #[.int .i64 t264, .int .i64 t265, .int .i64 t266] 36 (0, 0)) (by (with_reducible repeat (first | refine blk_drewN ?_ _ | refine blk_drew ?_ | refine blk_alloc ?_ _)); exact BK268.out) hb); have n5_ := Aside0.mk (blk_below (g := gb305) (o := .cells #[.int .i64 t302, .int .u64 t303] 25 (0, 0)) (by (with_reducible repeat (first | refine blk_drewN ?_ _ | refine blk_drew ?_ | refine blk_alloc ?_ _)); exact BK305.out) hb); have n6_ := Aside0.mk (below_step (by repeat (first | (with_reducible first | exact HB.out | apply below_alloc | apply pw_below_drewN | apply below_drew1 | refine below_set ?_ GE268.out | refine below_set ?_ GE305.out) | exact HB.out)) hb); have n7_ := Aside0.mk (hbox); have n8_ := Aside0.mk ((by rw [hg]; exact (below_size (by repeat (first | (with_reducible first | exact HB.out | apply below_alloc | apply pw_below_drewN | apply below_drew1 | refine below_set ?_ GE268.out | refine below_set ?_ GE305.out) | exact HB.out))) : w.heap.size ≤ gb309)); have n9_ := Aside0.mk ((by rw [hg]; exact (below_size (by repeat (first | (with_reducible first | exact HB.out | apply below_alloc | apply pw_below_drewN | apply below_drew1 | refine below_set ?_ GE268.out | refine below_set ?_ GE305.out) | exact HB.out))) : w.heap.size ≤ gb309)); have n10_ := Aside0.mk ((by rw [hg]; exact Nat.ne_of_lt (blk_lt (g := gb268) (o := .cells #[.int .i64 t264, .int .i64 t265, .int .i64 t266] 36 (0, 0)) (by (with_reducible repeat (first | refine blk_drewN ?_ _ | refine blk_drew ?_ | refine blk_alloc ?_ _)); exact BK268.out)) : gb268 ≠ gb309)); have n11_ := Aside0.mk ((by rw [hg]; exact Nat.ne_of_gt (blk_lt (g := gb268) (o := .cells #[.int .i64 t264, .int .i64 t265, .int .i64 t266] 36 (0, 0)) (by (with_reducible repeat (first | refine blk_drewN ?_ _ | refine blk_drew ?_ | refine blk_alloc ?_ _)); exact BK268.out)) : gb309 ≠ gb268)); have n12_ := Aside0.mk ((by rw [hg]; exact Nat.ne_of_lt (blk_lt (g := gb305) (o := .cells #[.int .i64 t302, .int .u64 t303] 25 (0, 0)) (by (with_reducible repeat (first | refine blk_drewN ?_ _ | refine blk_drew ?_ | refine blk_alloc ?_ _)); exact BK305.out)) : gb305 ≠ gb309)); have n13_ := Aside0.mk ((by rw [hg]; exact Nat.ne_of_gt (blk_lt (g := gb305) (o := .cells #[.int .i64 t302, .int .u64 t303] 25 (0, 0)) (by (with_reducible repeat (first | refine blk_drewN ?_ _ | refine blk_drew ?_ | refine blk_alloc ?_ _)); exact BK305.out)) : gb309 ≠ gb305)); clear HO_5; clear HO_6; clear HO_7; clear HO_9; clear BK268; clear BK305; clear HB; have HO_5 := n0_; have HO_6 := n1_; have HO_7 := n2_; have HO_9 := n3_; have BK268 := n4_; have BK305 := n5_; have HB := n6_; have BK309 := n7_; have GW309 := n8_; have GE309 := n9_; have NB268_309 := n10_; have NB309_268 := n11_; have NB305_309 := n12_; have NB309_305 := n13_; clear n0_ n1_ n2_ n3_ n4_ n5_ n6_ n7_ n8_ n9_ n10_ n11_ n12_ n13_; clear hb hbox hg; have hnb65 := NB309_268.out; have hnc65 := NB268_309.out; have hnb66 := NB309_305.out; have hnc66 := NB305_309.out; have hcz67_0 : w64.cell? ⟨gb309, 0, none⟩ = some (.int .i64 0) := (blk_cell BK309.out 0).trans rfl; have hcz67_1 : w64.cell? ⟨gb309, 1, none⟩ = some (.int .u64 0) := (blk_cell BK309.out 1).trans rfl; have hfz67_0 := blk_frozen BK309.out 0; have hfz67_1 := blk_frozen BK309.out 1))
          go_loopg [15, 16, 98] kj13 (fun kq v15 v16 v98 w' => ∃ (x15_2 : Int) (x16_2 : Int) (x98_2 : Int), v15 = .int .i64 x15_2 ∧ v16 = .int .i64 x16_2 ∧ v98 = .int .i64 x98_2 ∧ Aside0 (synopticlaw22_PrecisionLinear.l0 kq t273 t283 t304 t308 x15_2 x16_2 (t283.length : Int) x98_2 t264 t265 t266 t302 t303 t306 t307 = some r) ∧ Aside0 (kq ≤ kj13) ∧ Aside0 (Kd.R (Kd.int .i64) 3 w' w.heap.size (fun k_ => some k_ ≠ ((.slice Ao57 t283.length co57) : Value).ownBlock) (.slice Ao30 t273.length co30) t273) ∧ Aside0 (Kd.R (Kd.int .i64) 3 w' w.heap.size (fun k_ => some k_ ≠ ((.slice Ao30 t273.length co30) : Value).ownBlock) (.slice Ao57 t283.length co57) t283) ∧ Aside0 (w'.heap[gb268]? = some (.cells #[.int .i64 t264, .int .i64 t265, .int .i64 t266] 36 (0, 0))) ∧ Aside0 (w'.heap[gb305]? = some (.cells #[.int .i64 t302, .int .u64 t303] 25 (0, 0))) ∧ Aside0 (w'.heap[gb309]? = some (.cells #[.int .i64 t306, .int .u64 t307] 25 (0, 0))) ∧ Aside0 (Below w.heap.size w w'))
          case atStart => exact ⟨(0), (0), (0), (by first | rfl | (simp; done) | (simp [*]; done)), (by first | rfl | (simp; done) | (simp [*]; done)), (by first | rfl | (simp; done) | (simp [*]; done)), H', ⟨Nat.le_refl _⟩, ⟨by (with_reducible repeat (first | apply Kd.R_alloc | apply Kd.R_drewN | apply Kd.R_drew)); exact Kd.R_mono (Kd.R_far (p := ⟨gb309, 1, none⟩) (Kd.R_far (p := ⟨gb309, 0, none⟩) (Kd.R_types HO_5.out BK309.out (by decide)) (fun _ hk => hk.2) (.int .i64 t306)) (fun _ hk => hk.2) (.int .u64 t307)) (fun _ hk => hk.1.2.1)⟩, ⟨by (with_reducible repeat (first | apply Kd.R_alloc | apply Kd.R_drewN | apply Kd.R_drew)); exact Kd.R_mono (Kd.R_far (p := ⟨gb309, 1, none⟩) (Kd.R_far (p := ⟨gb309, 0, none⟩) (Kd.R_types HO_7.out BK309.out (by decide)) (fun _ hk => hk.2) (.int .i64 t306)) (fun _ hk => hk.2) (.int .u64 t307)) (fun _ hk => hk.1.1)⟩, ⟨by (with_reducible repeat (first | refine blk_drewN ?_ _ | refine blk_drew ?_ | refine blk_alloc ?_ _)); refine blk_far ?_ NB268_309.out _; (with_reducible repeat (first | refine blk_drewN ?_ _ | refine blk_drew ?_ | refine blk_alloc ?_ _)); refine blk_far ?_ NB268_309.out _; (with_reducible repeat (first | refine blk_drewN ?_ _ | refine blk_drew ?_ | refine blk_alloc ?_ _)); exact BK268.out⟩, ⟨by (with_reducible repeat (first | refine blk_drewN ?_ _ | refine blk_drew ?_ | refine blk_alloc ?_ _)); refine blk_far ?_ NB305_309.out _; (with_reducible repeat (first | refine blk_drewN ?_ _ | refine blk_drew ?_ | refine blk_alloc ?_ _)); refine blk_far ?_ NB305_309.out _; (with_reducible repeat (first | refine blk_drewN ?_ _ | refine blk_drew ?_ | refine blk_alloc ?_ _)); exact BK305.out⟩, ⟨by (with_reducible repeat (first | refine blk_drewN ?_ _ | refine blk_drew ?_ | refine blk_alloc ?_ _)); refine blk_put (cs := #[.int .i64 t306, .int .u64 0]) ?_ 1 _ rfl; (with_reducible repeat (first | refine blk_drewN ?_ _ | refine blk_drew ?_ | refine blk_alloc ?_ _)); refine blk_put (cs := #[.int .i64 0, .int .u64 0]) ?_ 0 _ rfl; (with_reducible repeat (first | refine blk_drewN ?_ _ | refine blk_drew ?_ | refine blk_alloc ?_ _)); exact BK309.out⟩, ⟨by repeat (first | (with_reducible first | exact HB.out | apply below_alloc | apply pw_below_drewN | apply below_drew1 | refine below_set ?_ GE268.out | refine below_set ?_ GE305.out | refine below_set ?_ GE309.out) | exact HB.out)⟩⟩
          case round =>
            clear H'
            try clear c1
            try clear c2
            try clear p2
            try clear c3
            try clear c4
            try clear c5
            try clear c6
            try clear c8
            try clear c14
            try clear c15
            try clear c16
            try clear c17
            try clear c18
            try clear c19
            try clear c21
            try clear c39
            try clear c39b0
            try clear c39b1
            try clear c40
            try clear c40b0
            try clear c40b1
            try clear c41
            try clear c41b0
            try clear c41b1
            try clear c42
            try clear c42b0
            try clear c42b1
            try clear c42b2
            try clear c43
            try clear c43b0
            try clear c43b1
            try clear c43b2
            try clear c54
            try clear c60
            try clear c65
            try clear c66
            try clear hcz20_0
            try clear hcz20_1
            try clear hcz20_2
            try clear hcz29_0
            try clear hcz29_1
            try clear hcz29_2
            try clear hcz32_0
            try clear hcz32_1
            try clear hcz32_2
            try clear hcz61_0
            try clear hcz61_1
            try clear hcz67_0
            try clear hcz67_1
            try clear hfz20_0
            try clear hfz20_1
            try clear hfz20_2
            try clear hfz29_0
            try clear hfz29_1
            try clear hfz29_2
            try clear hfz32_0
            try clear hfz32_1
            try clear hfz32_2
            try clear hfz61_0
            try clear hfz61_1
            try clear hfz67_0
            try clear hfz67_1
            try clear p2
            obtain ⟨x15_2, x16_2, x98_2, rfl, rfl, rfl, HA, HK2, HO_5, HO_7, BK268, BK305, BK309, HB⟩ := hrel
            cases gk with
            | zero => exact absurd HA.out (by simp [synopticlaw22_PrecisionLinear.l0])
            | succ k2 =>
              have H := HA.out
              clear HA
              simp only [synopticlaw22_PrecisionLinear.l0] at H
              by_cases c68 : x98_2 < (t283.length : Int)
              · rw [if_pos c68] at H
                have c68b0 : decide (x98_2 < (t283.length : Int)) = true := decide_eq_true c68
                clear c68
                by_cases c69 : 0 ≤ x98_2
                · rw [if_pos c69] at H
                  have c69b0 : decide (0 ≤ x98_2) = true := decide_eq_true c69
                  clear c69
                  by_cases c70 : x98_2 < (t283.length : Int)
                  · rw [if_pos c70] at H
                    have c70b0 : decide (x98_2 < (t283.length : Int)) = true := decide_eq_true c70
                    clear c70
                    by_cases c71 : x98_2 < (t273.length : Int)
                    · rw [if_pos c71] at H
                      have c71b0 : decide (x98_2 < (t273.length : Int)) = true := decide_eq_true c71
                      clear c71
                      have H' := Aside0.mk H
                      clear H
                      try go_wp2
                      have n0_ := Aside0.mk (Kd.R_drew HO_5.out)
                      have n1_ := Aside0.mk (Kd.R_drew HO_7.out)
                      have n2_ := Aside0.mk (blk_drew BK268.out)
                      have n3_ := Aside0.mk (blk_drew BK305.out)
                      have n4_ := Aside0.mk (blk_drew BK309.out)
                      have n5_ := Aside0.mk (below_drew1 HB.out)
                      clear HO_5
                      clear HO_7
                      clear BK268
                      clear BK305
                      clear BK309
                      clear HB
                      have HO_5 := n0_
                      have HO_7 := n1_
                      have BK268 := n2_
                      have BK305 := n3_
                      have BK309 := n4_
                      have HB := n5_
                      clear n0_ n1_ n2_ n3_ n4_ n5_
                      have p310 : 0 ≤ (x98_2 : Int) := of_decide_eq_true (by first | (with_reducible assumption) | assumption)
                      have q310 : x98_2 < (t283.length : Int) := of_decide_eq_true (by first | (with_reducible assumption) | assumption)
                      obtain ⟨ad310, e310, hx310_0⟩ := Kd.at_int (Kd.R_reads' HO_7.out).2.2 x98_2 p310 q310
                      cases e310
                      replace p310 := eq_true p310
                      replace q310 := eq_true q310
                      have p311 : 0 ≤ (x98_2 : Int) := of_decide_eq_true (by first | (with_reducible assumption) | assumption)
                      have q311 : x98_2 < (t273.length : Int) := of_decide_eq_true (by first | (with_reducible assumption) | assumption)
                      obtain ⟨ad311, e311, hx311_0⟩ := Kd.at_int (Kd.R_reads' HO_5.out).2.2 x98_2 p311 q311
                      cases e311
                      replace p311 := eq_true p311
                      replace q311 := eq_true q311
                      refine start_ (n := 14) (S := fun w' => w'.cell? (ad310.add (x98_2).toNat) = some (.int .i64 (rd t283 x98_2)) ∧ w'.cell? (ad311.add (x98_2).toNat) = some (.int .i64 (rd t273 x98_2))) (ds := []) #[false, false, false, false, false, false, false, false, false, false, false, false, false, false] (by kernel_rfl) rfl rfl ⟨hx310_0, hx311_0⟩ (fun hHeld => ?_); refine with_tabW synopticlaw22_PrecisionLinear.tab17 synopticlaw22_PrecisionLinear.bits17 (fun HT_ HW_ => ?_)
                      generalize wr.drew = w72 at HO_5 HO_7 BK268 BK305 BK309 HB hx310_0 hx311_0 hHeld ⊢
                      refine pure_ (i := 0) (N := some 101) (v := ?_) (a' := ?_) #[true, false, false, false, false, false, false, false, false, false, false, false, false, false] rfl rfl (any_of HT_.out (by kernel_rfl)) (fun _ _ _ h => h) (Or.inl ⟨by rfl, ?_⟩) ?_ ?_
                      rotate_left
                      · intro w'
                        go_simp
                        with_reducible rfl
                      rotate_left
                      · simp only [Act.put, List.setIfInBounds_toArray, List.set_cons_zero, List.set_cons_succ, i64_w]
                        rfl
                      refine pure_ (i := 1) (N := some 102) (v := ?_) (a' := ?_) #[true, true, false, false, false, false, false, false, false, false, false, false, false, false] rfl rfl (any_of HT_.out (by kernel_rfl)) (fun _ _ _ h => h) (Or.inl ⟨by rfl, ?_⟩) ?_ ?_
                      rotate_left
                      · intro w'
                        go_simp
                        with_reducible rfl
                      rotate_left
                      · simp only [Act.put, List.setIfInBounds_toArray, List.set_cons_zero, List.set_cons_succ, i64_w]
                        rfl
                      refine pure_ (i := 2) (N := some 103) (v := ?_) (a' := ?_) #[true, true, true, false, false, false, false, false, false, false, false, false, false, false] rfl rfl (any_of HT_.out (by kernel_rfl)) (fun _ _ _ h => h) (Or.inl ⟨by rfl, ?_⟩) ?_ ?_
                      rotate_left
                      · intro w'
                        go_simp
                        with_reducible rfl
                      rotate_left
                      · simp only [Act.put, List.setIfInBounds_toArray, List.set_cons_zero, List.set_cons_succ, i64_w]
                        rfl
                      refine pure_ (i := 3) (N := some 104) (v := ?_) (a' := ?_) #[true, true, true, true, false, false, false, false, false, false, false, false, false, false] rfl rfl (any_of HT_.out (by kernel_rfl)) (fun _ _ _ h => h) (Or.inl ⟨by rfl, ?_⟩) ?_ ?_
                      rotate_left
                      · intro w'
                        go_simp
                        with_reducible rfl
                      rotate_left
                      · simp only [Act.put, List.setIfInBounds_toArray, List.set_cons_zero, List.set_cons_succ, i64_w]
                        rfl
                      refine pure_ (i := 6) (N := some 107) (v := ?_) (a' := ?_) #[true, true, true, true, false, false, true, false, false, false, false, false, false, false] rfl rfl (any_of HT_.out (by kernel_rfl)) (fun _ _ _ h => h) (Or.inl ⟨by rfl, ?_⟩) ?_ ?_
                      rotate_left
                      · intro w'
                        go_simp
                        with_reducible rfl
                      rotate_left
                      · simp only [Act.put, List.setIfInBounds_toArray, List.set_cons_zero, List.set_cons_succ, i64_w]
                        rfl
                      refine pure_ (i := 7) (N := some 108) (v := ?_) (a' := ?_) #[true, true, true, true, false, false, true, true, false, false, false, false, false, false] rfl rfl (any_of HT_.out (by kernel_rfl)) (fun _ _ _ h => h) (Or.inl ⟨by rfl, ?_⟩) ?_ ?_
                      rotate_left
                      · intro w'
                        go_simp
                        with_reducible rfl
                      rotate_left
                      · simp only [Act.put, List.setIfInBounds_toArray, List.set_cons_zero, List.set_cons_succ, i64_w]
                        rfl
                      refine pure_ (i := 8) (N := some 109) (v := ?_) (a' := ?_) #[true, true, true, true, false, false, true, true, true, false, false, false, false, false] rfl rfl (any_of HT_.out (by kernel_rfl)) (fun _ _ _ h => h) (Or.inl ⟨by rfl, ?_⟩) ?_ ?_
                      rotate_left
                      · intro w'
                        go_simp
                        with_reducible rfl
                      rotate_left
                      · simp only [Act.put, List.setIfInBounds_toArray, List.set_cons_zero, List.set_cons_succ, i64_w]
                        rfl
                      refine pure_ (i := 9) (N := some 110) (v := ?_) (a' := ?_) #[true, true, true, true, false, false, true, true, true, true, false, false, false, false] rfl rfl (any_of HT_.out (by kernel_rfl)) (fun _ _ _ h => h) (Or.inl ⟨by rfl, ?_⟩) ?_ ?_
                      rotate_left
                      · intro w'
                        go_simp
                        with_reducible rfl
                      rotate_left
                      · simp only [Act.put, List.setIfInBounds_toArray, List.set_cons_zero, List.set_cons_succ, i64_w]
                        rfl
                      refine take_ (i := 4) (N := some 105) (v := ?_) (a' := ?_) #[true, true, true, true, true, false, true, true, true, true, false, false, false, false] rfl rfl (take_ofW HT_.out HW_.out (by kernel_rfl)) (fun _ _ _ h => h) (Or.inl ⟨by rfl, ?_⟩) hHeld ?_ ?_
                      rotate_left
                      · rintro w' ⟨s0, s1⟩
                        go_simp
                        with_reducible rfl
                      rotate_left
                      · simp only [Act.put, List.setIfInBounds_toArray, List.set_cons_zero, List.set_cons_succ, i64_w]
                        rfl
                      refine pure_ (i := 5) (N := some 106) (v := ?_) (a' := ?_) #[true, true, true, true, true, true, true, true, true, true, false, false, false, false] rfl rfl (any_of HT_.out (by kernel_rfl)) (fun _ _ _ h => h) (Or.inl ⟨by rfl, ?_⟩) ?_ ?_
                      rotate_left
                      · intro w'
                        go_simp
                        with_reducible rfl
                      rotate_left
                      · simp only [Act.put, List.setIfInBounds_toArray, List.set_cons_zero, List.set_cons_succ, i64_w]
                        rfl
                      refine pure_ (i := 12) (N := some 15) (v := ?_) (a' := ?_) #[true, true, true, true, true, true, true, true, true, true, false, false, true, false] rfl rfl (any_of HT_.out (by kernel_rfl)) (fun _ _ _ h => h) (Or.inl ⟨by rfl, ?_⟩) ?_ ?_
                      rotate_left
                      · intro w'
                        go_simp
                        with_reducible rfl
                      rotate_left
                      · simp only [Act.put, List.setIfInBounds_toArray, List.set_cons_zero, List.set_cons_succ, i64_w]
                        rfl
                      refine take_ (i := 10) (N := some 111) (v := ?_) (a' := ?_) #[true, true, true, true, true, true, true, true, true, true, true, false, true, false] rfl rfl (take_ofW HT_.out HW_.out (by kernel_rfl)) (fun _ _ _ h => h) (Or.inl ⟨by rfl, ?_⟩) hHeld ?_ ?_
                      rotate_left
                      · rintro w' ⟨s0, s1⟩
                        go_simp
                        with_reducible rfl
                      rotate_left
                      · simp only [Act.put, List.setIfInBounds_toArray, List.set_cons_zero, List.set_cons_succ, i64_w]
                        rfl
                      refine pure_ (i := 11) (N := some 112) (v := ?_) (a' := ?_) #[true, true, true, true, true, true, true, true, true, true, true, true, true, false] rfl rfl (any_of HT_.out (by kernel_rfl)) (fun _ _ _ h => h) (Or.inl ⟨by rfl, ?_⟩) ?_ ?_
                      rotate_left
                      · intro w'
                        go_simp
                        with_reducible rfl
                      rotate_left
                      · simp only [Act.put, List.setIfInBounds_toArray, List.set_cons_zero, List.set_cons_succ, i64_w]
                        rfl
                      refine pure_ (i := 13) (N := some 16) (v := ?_) (a' := ?_) #[true, true, true, true, true, true, true, true, true, true, true, true, true, true] rfl rfl (any_of HT_.out (by kernel_rfl)) (fun _ _ _ h => h) (Or.inl ⟨by rfl, ?_⟩) ?_ ?_
                      rotate_left
                      · intro w'
                        go_simp
                        with_reducible rfl
                      rotate_left
                      · simp only [Act.put, List.setIfInBounds_toArray, List.set_cons_zero, List.set_cons_succ, i64_w]
                        rfl
                      refine done_ (done_of HT_.out (by kernel_rfl)) ?_
                      try go_wp2
                      go_roundg k2
                      case measure => have := HJ13.out; have := HK2.out; omega
                      case rel => exact ⟨(wrap64 (x15_2 + (rd t283 x98_2))), (wrap64 (x16_2 + (rd t273 x98_2))), (wrap64 (x98_2 + 1)), (by first | rfl | (simp; done) | (simp [*]; done)), (by first | rfl | (simp; done) | (simp [*]; done)), (by first | rfl | (simp; done) | (simp [*]; done)), H', ⟨by have := HJ13.out; have := HK2.out; omega⟩, ⟨by (with_reducible repeat (first | apply Kd.R_alloc | apply Kd.R_drewN | apply Kd.R_drew)); exact HO_5.out⟩, ⟨by (with_reducible repeat (first | apply Kd.R_alloc | apply Kd.R_drewN | apply Kd.R_drew)); exact HO_7.out⟩, ⟨by (with_reducible repeat (first | refine blk_drewN ?_ _ | refine blk_drew ?_ | refine blk_alloc ?_ _)); exact BK268.out⟩, ⟨by (with_reducible repeat (first | refine blk_drewN ?_ _ | refine blk_drew ?_ | refine blk_alloc ?_ _)); exact BK305.out⟩, ⟨by (with_reducible repeat (first | refine blk_drewN ?_ _ | refine blk_drew ?_ | refine blk_alloc ?_ _)); exact BK309.out⟩, ⟨by repeat (first | (with_reducible first | exact HB.out | apply below_alloc | apply pw_below_drewN | apply below_drew1 | refine below_set ?_ GE268.out | refine below_set ?_ GE305.out | refine below_set ?_ GE309.out) | exact HB.out)⟩⟩
                    · rw [if_neg c71] at H
                      exact absurd H (by simp)
                  · rw [if_neg c70] at H
                    exact absurd H (by simp)
                · rw [if_neg c69] at H
                  exact absurd H (by simp)
              · rw [if_neg c68] at H
                have c68b0 : decide (x98_2 < (t283.length : Int)) = false := decide_eq_false c68
                clear c68
                by_cases c73 : t304 = 0
                · rw [if_pos c73] at H
                  have c73b0 : (t304 == 0) = true := beq_iff_eq.mpr c73
                  have c73b1 : (t304 != 0) = false := bne_eq_false_iff_eq.mpr c73
                  clear c73
                  by_cases c74 : t308 = 0
                  · rw [if_pos c74] at H
                    have c74b0 : (t308 == 0) = true := beq_iff_eq.mpr c74
                    have c74b1 : (t308 != 0) = false := bne_eq_false_iff_eq.mpr c74
                    clear c74
                    by_cases c75 : (t302 == t306 && (t303 == t307)) = true
                    · rw [if_pos c75] at H
                      have c75b0 : (t302 == t306 && (t303 == t307)) = true := c75
                      (try (have c75b1 : decide (t302 = t306 && (t303 == t307)) = true := by simpa using c75))
                      (try (have c75b2 : (t302 == t306 && (t303 == t307)) = true := by simpa using c75))
                      clear c75
                      obtain rfl := Option.some.inj H
                      have hnb76 := NB305_268.out
                      have hnc76 := NB268_305.out
                      have hnb77 := NB305_309.out
                      have hnc77 := NB309_305.out
                      have hcz78_0 : wr.cell? ⟨gb305, 0, none⟩ = some (.int .i64 t302) := (blk_cell BK305.out 0).trans rfl
                      have hcz78_1 : wr.cell? ⟨gb305, 1, none⟩ = some (.int .u64 t303) := (blk_cell BK305.out 1).trans rfl
                      have hfz78_0 := blk_frozen BK305.out 0
                      have hfz78_1 := blk_frozen BK305.out 1
                      have hnb79 := NB309_268.out
                      have hnc79 := NB268_309.out
                      have hcz80_0 : wr.cell? ⟨gb309, 0, none⟩ = some (.int .i64 t306) := (blk_cell BK309.out 0).trans rfl
                      have hcz80_1 : wr.cell? ⟨gb309, 1, none⟩ = some (.int .u64 t307) := (blk_cell BK309.out 1).trans rfl
                      have hfz80_0 := blk_frozen BK309.out 0
                      have hfz80_1 := blk_frozen BK309.out 1
                      have hcz81_0 : wr.cell? ⟨gb268, 0, none⟩ = some (.int .i64 t264) := (blk_cell BK268.out 0).trans rfl
                      have hcz81_1 : wr.cell? ⟨gb268, 1, none⟩ = some (.int .i64 t265) := (blk_cell BK268.out 1).trans rfl
                      have hcz81_2 : wr.cell? ⟨gb268, 2, none⟩ = some (.int .i64 t266) := (blk_cell BK268.out 2).trans rfl
                      have hfz81_0 := blk_frozen BK268.out 0
                      have hfz81_1 := blk_frozen BK268.out 1
                      have hfz81_2 := blk_frozen BK268.out 2
                      go_wp2
                      go_ret
                      exact ⟨by first | rfl | (simp [errW_none, errW_some] <;> rfl) | (simp [*, errW_none, errW_some] <;> rfl), by repeat (first | (with_reducible first | exact HB.out | apply below_alloc | apply pw_below_drewN | apply below_drew1 | refine below_set ?_ GE268.out | refine below_set ?_ GE305.out | refine below_set ?_ GE309.out) | exact HB.out)⟩
                    · rw [if_neg c75] at H
                      have c75b0 : (t302 == t306 && (t303 == t307)) = false := by simpa using c75
                      (try (have c75b1 : decide (t302 = t306 && (t303 == t307)) = false := by simpa using c75))
                      (try (have c75b2 : (t302 == t306 && (t303 == t307)) = false := by simpa using c75))
                      (try (have c75b3 : ¬ (t302 = t306 && (t303 == t307)) := by simpa using c75))
                      clear c75
                      obtain rfl := Option.some.inj H
                      have hnb82 := NB305_268.out
                      have hnc82 := NB268_305.out
                      have hnb83 := NB305_309.out
                      have hnc83 := NB309_305.out
                      have hcz84_0 : wr.cell? ⟨gb305, 0, none⟩ = some (.int .i64 t302) := (blk_cell BK305.out 0).trans rfl
                      have hcz84_1 : wr.cell? ⟨gb305, 1, none⟩ = some (.int .u64 t303) := (blk_cell BK305.out 1).trans rfl
                      have hfz84_0 := blk_frozen BK305.out 0
                      have hfz84_1 := blk_frozen BK305.out 1
                      have hnb85 := NB309_268.out
                      have hnc85 := NB268_309.out
                      have hcz86_0 : wr.cell? ⟨gb309, 0, none⟩ = some (.int .i64 t306) := (blk_cell BK309.out 0).trans rfl
                      have hcz86_1 : wr.cell? ⟨gb309, 1, none⟩ = some (.int .u64 t307) := (blk_cell BK309.out 1).trans rfl
                      have hfz86_0 := blk_frozen BK309.out 0
                      have hfz86_1 := blk_frozen BK309.out 1
                      go_wp2
                      go_ret
                      exact ⟨by first | rfl | (simp [errW_none, errW_some] <;> rfl) | (simp [*, errW_none, errW_some] <;> rfl), by repeat (first | (with_reducible first | exact HB.out | apply below_alloc | apply pw_below_drewN | apply below_drew1 | refine below_set ?_ GE268.out | refine below_set ?_ GE305.out | refine below_set ?_ GE309.out) | exact HB.out)⟩
                  · rw [if_neg c74] at H
                    have c74b0 : (t308 == 0) = false := beq_eq_false_iff_ne.mpr c74
                    have c74b1 : (t308 != 0) = true := bne_iff_ne.mpr c74
                    obtain rfl := Option.some.inj H
                    go_wp2
                    go_ret
                    exact ⟨by first | rfl | (simp [errW_none, errW_some] <;> rfl) | (simp [*, errW_none, errW_some] <;> rfl), by repeat (first | (with_reducible first | exact HB.out | apply below_alloc | apply pw_below_drewN | apply below_drew1 | refine below_set ?_ GE268.out | refine below_set ?_ GE305.out | refine below_set ?_ GE309.out) | exact HB.out)⟩
                · rw [if_neg c73] at H
                  have c73b0 : (t304 == 0) = false := beq_eq_false_iff_ne.mpr c73
                  have c73b1 : (t304 != 0) = true := bne_iff_ne.mpr c73
                  obtain rfl := Option.some.inj H
                  go_wp2
                  go_ret
                  exact ⟨by first | rfl | (simp [errW_none, errW_some] <;> rfl) | (simp [*, errW_none, errW_some] <;> rfl), by repeat (first | (with_reducible first | exact HB.out | apply below_alloc | apply pw_below_drewN | apply below_drew1 | refine below_set ?_ GE268.out | refine below_set ?_ GE305.out | refine below_set ?_ GE309.out) | exact HB.out)⟩
  · replace c3 := Bool.eq_false_iff.mpr c3
    subst c3
    have H1 : (some false) = some r := by rw [if_neg (show ¬ (false = true) by decide)] at H; exact H
    clear H
    have H := H1
    clear H1
    obtain rfl := Option.some.inj H
    go_enter Tryd.func4, Tryd.ntmps4
    go_wp2_with (first | ((with_reducible refine gate_callee (f := 8) rfl ?_); refine goesL_ (some 18) rfl rfl Tryd.func8 (by kernel_rfl) rfl #[] rfl (by (try simp only [List.map_toArray, List.map_cons, List.map_nil]); first | done | rfl | (simp only [List.length_drop, List.length_take]; rfl)) ?_; (with_reducible refine (synopticlaw22_awake.calls k  false _ ?side1 A2.out).mono ?_); (case side1 => exact CornersAt.below HG.out (by repeat (first | (with_reducible first | exact HB.out | apply below_alloc | apply pw_below_drewN | apply below_drew1) | exact HB.out))); rintro e w87 ⟨rfl, hb⟩; refine ⟨_, rfl, ?_⟩; have n0_ := Aside0.mk (below_step (by repeat (first | (with_reducible first | exact HB.out | apply below_alloc | apply pw_below_drewN | apply below_drew1) | exact HB.out)) hb); clear HB; have HB := n0_; clear n0_; (try clear hb); (try clear hb2); (try clear hk); (try clear hi)))
    go_ret
    exact ⟨by first | rfl | (simp [errW_none, errW_some] <;> rfl) | (simp [*, errW_none, errW_some] <;> rfl), by repeat (first | (with_reducible first | exact HB.out | apply below_alloc | apply pw_below_drewN | apply below_drew1) | exact HB.out)⟩

/-- THE ONE PURE STATEMENT of synopticlaw22_PrecisionLinear: yours. -/
def synopticlaw22_PrecisionLinear.Pure : Prop := ∀ (l0 : List Int), l0.length ≤ maxLen → l0.length * 1 ≤ 140737488351232 → (∀ x ∈ l0, (Lit.int .u8 x).wf = true) → ∃ k, synopticlaw22_PrecisionLinear.f k l0 = some true
theorem synopticlaw22_PrecisionLinear.walk (P : synopticlaw22_PrecisionLinear.Pure) (a0 : Option Addr) (len0 cap0 : Nat) (z0 : List Int) (w : World) (w0 : (a0 = none ∧ len0 = 0 ∧ cap0 = 0 ∧ z0 = []) ∨ ∃ x, a0 = some x ∧ len0 ≤ cap0 ∧ cap0 ≤ maxLen ∧ z0.length = cap0 ∧ (∀ i, i < z0.length → w.cell? (x.add i) = some (.int .u8 (z0.getD i 0))) ∧ ∀ n ∈ z0, (Lit.int .u8 n).wf = true) (y0 : len0 * 1 ≤ 140737488351232) (hG : CornersAt w) :
    Calls Tryd.prog 4 #[.slice a0 len0 cap0] w fun e w' => e = .returned (.bool true) ∧ Below w.heap.size w w' := by
  obtain ⟨l0, rfl, hr0, hm0, hw0, hc0⟩ := ReadsInt.ofRowC w0
  obtain ⟨k, h⟩ := P l0 hm0 y0 hw0
  refine (synopticlaw22_PrecisionLinear.calls k _ _ l0 true w (Kd.C_of_reads (d := (0 : Int)) (h1 := fun _ => rfl) hr0) hc0 hG h).mono ?_
  rintro e w' ⟨rfl, hd⟩
  exact ⟨rfl, hd⟩

end Go.Proofs.YtdagdoiedibpgaaDoor.Prt
