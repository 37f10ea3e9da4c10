-- Written by wip/ext.py, a driver over the kit's print, with texts of this session's own.
import Derived.Test.YtdagdoiedibpgaaDoorPrt0
import Derived.Test.YtdagdoiedibpgaaDoorPrt1
import Derived.Test.YtdagdoiedibpgaaDoorPrt4
import Derived.Test.YtdagdoiedibpgaaDoorPrt6
import Derived.Test.YtdagdoiedibpgaaDoorPrt7
import Derived.Test.YtdagdoiedibpgaaDoorPrt9
import Derived.Test.YtdagdoiedibpgaaDoorPrt11
import Derived.Test.YtdagdoiedibpgaaDoorPrt12
import Derived.Test.YtdagdoiedibpgaaDoorPrt14
import Derived.Test.YtdagdoiedibpgaaDoorPrt20
import Derived.Test.YtdagdoiedibpgaaDoorPrt21
namespace Go.Proofs.YtdagdoiedibpgaaDoor.Prt
open Go.RowKit Go.Proofs.YtdagdoiedibpgaaDoorW.PrintWords Go.Proofs.YtdagdoiedibpgaaDoorW.PrintLast Go.Proofs.YtdagdoiedibpgaaDoorW.PrintMore
attribute [local go_sem] max2_int min2_int max_two min_two max_three min_three max_four min_four   -- for this text's walks alone
set_option linter.unusedVariables false
set_option linter.unusedSimpArgs false

attribute [local go_sem high] eqA25
/-! ### synopticlaw22_PrecisionBounds: function 7 -/
mutual
def synopticlaw22_PrecisionBounds.j1 : Nat → List Int → Int → Int → Int → Option (Bool)
  | 0, _, _, _, _ => none
  | k + 1, x7, x399000, x399001, x399002 => (precision_Energy.f x399000 x399001 x399002 x7).bind fun bt407 => ((precision_Apply.f k x399000 x399001 x399002 x7).bind fun bt411 => ((precision_Dot.f x7 bt411.1).bind fun bt415 => (synopticlaw22_PrecisionBounds.l1 k x7 bt407.2.2 bt411.2 bt415.2.2 true (x7.length : Int) 0 x399000 x399001 x399002 bt407.1 bt407.2.1 bt415.1 bt415.2.1 0 0)))
def synopticlaw22_PrecisionBounds.l1 : Nat → List Int → Int → Int → Int → Bool → Int → Int → Int → Int → Int → Int → Int → Int → Int → Int → Int → Option (Bool)
  | 0, _, _, _, _, _, _, _, _, _, _, _, _, _, _, _, _ => none
  | k + 1, x7, x10, x12, x14, x16, x62, x63, x399000, x399001, x399002, x411000, x411001, x419000, x419001, x420000, x420001 => if x63 < x62 then (if 0 ≤ x63 then (if x63 < (x7.length : Int) then ((precision_Product.f x399002 (wrap64 ((rd x7 x63) * (rd x7 x63)))).bind fun bt422 => ((precision_Add.f x420000 x420001 bt422.1 bt422.2).bind fun bt424 => (if x16 = true then (if 0 < (x7.length : Int) then (synopticlaw22_PrecisionBounds.l1 k x7 x10 x12 x14 ((rd x7 x63) == (rd x7 0)) x62 (wrap64 (x63 + 1)) x399000 x399001 x399002 x411000 x411001 x419000 x419001 bt424.1 bt424.2) else (none)) else (synopticlaw22_PrecisionBounds.l1 k x7 x10 x12 x14 false x62 (wrap64 (x63 + 1)) x399000 x399001 x399002 x411000 x411001 x419000 x419001 bt424.1 bt424.2)))) else (none)) else (none)) else (if x10 = 0 then (if x12 = 0 then (if x14 = 0 then (if (x411000 == x419000 && (x411001 == x419001)) = true then ((precision_Compare.f k x411000 x411001 x420000 x420001).bind fun t428 => (if t428 ≥ 0 then (if x16 = true then (some ((x411000 == x420000 && (x411001 == x420001)) == true)) else (some ((x411000 == x420000 && (x411001 == x420001)) == (x399001 == 0)))) else (some false))) else (some false)) else (some false)) else (some false)) else (some false))
def synopticlaw22_PrecisionBounds.l0 : Nat → Int → List Int → Int → Int → Int → Int → Int → Option (Bool)
  | 0, _, _, _, _, _, _, _ => none
  | k + 1, x1, x7, x31, x32, x399000, x399001, x399002 => if x32 < x31 then ((synopticfield_Mod.f x1 2097153).bind fun t405 => (if 0 ≤ x32 then (if x32 < (x7.length : Int) then (synopticlaw22_PrecisionBounds.l0 k x1 (x7.set (x32 : Int).toNat (wrap64 (t405 - 1048576))) x31 (wrap64 (x32 + 1)) x399000 x399001 x399002) else (none)) else (none))) else (synopticlaw22_PrecisionBounds.j1 k x7 x399000 x399001 x399002)
end
def synopticlaw22_PrecisionBounds.f (k : Nat) (l0 : List Int) (a1 : Int) : Option (Bool) := (synopticlaw22_awake.f k).bind fun t390 => (if t390 = true then ((synopticfield_New.f l0 120).bind fun bt391 => ((synopticfield_Codes_Precision.f bt391.1 bt391.2).bind fun bt394 => ((synopticfield_Codes_For.f k bt391.1 bt394.2.2.2 bt394.1 bt394.2.1 bt394.2.2.1).bind fun bt399 => ((synopticfield_Codes_Next.f bt391.1 bt399.2 4).bind fun bt403 => (if bt403.1 = 3 then (synopticlaw22_PrecisionBounds.l0 k a1 bt399.1 (bt399.1.length : Int) 0 bt394.1 bt394.2.1 bt394.2.2.1) else (synopticlaw22_PrecisionBounds.j1 k bt399.1 bt394.1 bt394.2.1 bt394.2.2.1)))))) else (some false))
theorem synopticlaw22_PrecisionBounds.mono_l : ∀ k, (∀ y0 y1 y2 y3, LeO (synopticlaw22_PrecisionBounds.j1 k y0 y1 y2 y3) (synopticlaw22_PrecisionBounds.j1 (k + 1) y0 y1 y2 y3)) ∧ (∀ y0 y1 y2 y3 y4 y5 y6 y7 y8 y9 y10 y11 y12 y13 y14 y15, LeO (synopticlaw22_PrecisionBounds.l1 k y0 y1 y2 y3 y4 y5 y6 y7 y8 y9 y10 y11 y12 y13 y14 y15) (synopticlaw22_PrecisionBounds.l1 (k + 1) y0 y1 y2 y3 y4 y5 y6 y7 y8 y9 y10 y11 y12 y13 y14 y15)) ∧ (∀ y0 y1 y2 y3 y4 y5 y6, LeO (synopticlaw22_PrecisionBounds.l0 k y0 y1 y2 y3 y4 y5 y6) (synopticlaw22_PrecisionBounds.l0 (k + 1) y0 y1 y2 y3 y4 y5 y6))
  | 0 => ⟨fun _ _ _ _ r h => by simp [synopticlaw22_PrecisionBounds.j1] at h, fun _ _ _ _ _ _ _ _ _ _ _ _ _ _ _ _ r h => by simp [synopticlaw22_PrecisionBounds.l1] at h, fun _ _ _ _ _ _ _ r h => by simp [synopticlaw22_PrecisionBounds.l0] at h⟩
  | k + 1 => by
    obtain ⟨ih0, ih1, ih2⟩ := synopticlaw22_PrecisionBounds.mono_l k
    refine ⟨?_, ?_, ?_⟩
    · intro y0 y1 y2 y3
      unfold synopticlaw22_PrecisionBounds.j1
      repeat' first
      | (with_reducible exact ih0 _ _ _ _)
      | (with_reducible exact ih1 _ _ _ _ _ _ _ _ _ _ _ _ _ _ _ _)
      | (with_reducible exact ih2 _ _ _ _ _ _ _)
      | (with_reducible exact precision_Apply.mono _ _ _ _ _)
      | (with_reducible exact precision_Compare.mono _ _ _ _ _)
      | (with_reducible exact synopticfield_Codes_For.mono _ _ _ _ _ _)
      | (with_reducible exact synopticlaw22_awake.mono _)
      | (with_reducible exact LeO.refl _)
      | (with_reducible exact LeO.none _)
      | (with_reducible refine LeO.ite ?_ ?_)
      | (with_reducible refine LeO.bind ?_ (fun _ => ?_))
      | exact ih0 _ _ _ _
      | exact ih1 _ _ _ _ _ _ _ _ _ _ _ _ _ _ _ _
      | exact ih2 _ _ _ _ _ _ _
      | exact precision_Apply.mono _ _ _ _ _
      | exact precision_Compare.mono _ _ _ _ _
      | exact synopticfield_Codes_For.mono _ _ _ _ _ _
      | exact synopticlaw22_awake.mono _
      | exact LeO.none _
      | refine LeO.ite ?_ ?_
      | refine LeO.bind ?_ (fun _ => ?_)
    · intro y0 y1 y2 y3 y4 y5 y6 y7 y8 y9 y10 y11 y12 y13 y14 y15
      unfold synopticlaw22_PrecisionBounds.l1
      repeat' first
      | (with_reducible exact ih0 _ _ _ _)
      | (with_reducible exact ih1 _ _ _ _ _ _ _ _ _ _ _ _ _ _ _ _)
      | (with_reducible exact ih2 _ _ _ _ _ _ _)
      | (with_reducible exact precision_Apply.mono _ _ _ _ _)
      | (with_reducible exact precision_Compare.mono _ _ _ _ _)
      | (with_reducible exact synopticfield_Codes_For.mono _ _ _ _ _ _)
      | (with_reducible exact synopticlaw22_awake.mono _)
      | (with_reducible exact LeO.refl _)
      | (with_reducible exact LeO.none _)
      | (with_reducible refine LeO.ite ?_ ?_)
      | (with_reducible refine LeO.bind ?_ (fun _ => ?_))
      | exact ih0 _ _ _ _
      | exact ih1 _ _ _ _ _ _ _ _ _ _ _ _ _ _ _ _
      | exact ih2 _ _ _ _ _ _ _
      | exact precision_Apply.mono _ _ _ _ _
      | exact precision_Compare.mono _ _ _ _ _
      | exact synopticfield_Codes_For.mono _ _ _ _ _ _
      | exact synopticlaw22_awake.mono _
      | exact LeO.none _
      | refine LeO.ite ?_ ?_
      | refine LeO.bind ?_ (fun _ => ?_)
    · intro y0 y1 y2 y3 y4 y5 y6
      unfold synopticlaw22_PrecisionBounds.l0
      repeat' first
      | (with_reducible exact ih0 _ _ _ _)
      | (with_reducible exact ih1 _ _ _ _ _ _ _ _ _ _ _ _ _ _ _ _)
      | (with_reducible exact ih2 _ _ _ _ _ _ _)
      | (with_reducible exact precision_Apply.mono _ _ _ _ _)
      | (with_reducible exact precision_Compare.mono _ _ _ _ _)
      | (with_reducible exact synopticfield_Codes_For.mono _ _ _ _ _ _)
      | (with_reducible exact synopticlaw22_awake.mono _)
      | (with_reducible exact LeO.refl _)
      | (with_reducible exact LeO.none _)
      | (with_reducible refine LeO.ite ?_ ?_)
      | (with_reducible refine LeO.bind ?_ (fun _ => ?_))
      | exact ih0 _ _ _ _
      | exact ih1 _ _ _ _ _ _ _ _ _ _ _ _ _ _ _ _
      | exact ih2 _ _ _ _ _ _ _
      | exact precision_Apply.mono _ _ _ _ _
      | exact precision_Compare.mono _ _ _ _ _
      | exact synopticfield_Codes_For.mono _ _ _ _ _ _
      | exact synopticlaw22_awake.mono _
      | exact LeO.none _
      | refine LeO.ite ?_ ?_
      | refine LeO.bind ?_ (fun _ => ?_)
theorem synopticlaw22_PrecisionBounds.mono : ∀ a0 a1 k, LeO (synopticlaw22_PrecisionBounds.f k a0 a1) (synopticlaw22_PrecisionBounds.f (k + 1) a0 a1) := by
  intro a0 a1 k
  obtain ⟨ih0, ih1, ih2⟩ := synopticlaw22_PrecisionBounds.mono_l k
  unfold synopticlaw22_PrecisionBounds.f
  repeat' first
      | (with_reducible exact ih0 _ _ _ _)
      | (with_reducible exact ih1 _ _ _ _ _ _ _ _ _ _ _ _ _ _ _ _)
      | (with_reducible exact ih2 _ _ _ _ _ _ _)
      | (with_reducible exact precision_Apply.mono _ _ _ _ _)
      | (with_reducible exact precision_Compare.mono _ _ _ _ _)
      | (with_reducible exact synopticfield_Codes_For.mono _ _ _ _ _ _)
      | (with_reducible exact synopticlaw22_awake.mono _)
      | (with_reducible exact LeO.refl _)
      | (with_reducible exact LeO.none _)
      | (with_reducible refine LeO.ite ?_ ?_)
      | (with_reducible refine LeO.bind ?_ (fun _ => ?_))
      | exact ih0 _ _ _ _
      | exact ih1 _ _ _ _ _ _ _ _ _ _ _ _ _ _ _ _
      | exact ih2 _ _ _ _ _ _ _
      | exact precision_Apply.mono _ _ _ _ _
      | exact precision_Compare.mono _ _ _ _ _
      | exact synopticfield_Codes_For.mono _ _ _ _ _ _
      | exact synopticlaw22_awake.mono _
      | exact LeO.none _
      | refine LeO.ite ?_ ?_
      | refine LeO.bind ?_ (fun _ => ?_)
def synopticlaw22_PrecisionBounds.T20 : Bool × List (List Nat × List Nat) := (true, [([], []), ([], []), ([1], [1]), ([], []), ([], []), ([3, 4], [3, 4]), ([5], [5]), ([], []), ([], []), ([7, 8], [7, 8]), ([9], [9]), ([6, 10], [6, 10]), ([2, 11], [2, 11]), ([0, 12, 12], [0, 12]), ([13, 13, 0, 1, 2, 3, 4, 5, 6, 7, 8, 9, 10, 11, 12, 13], [13])])
def synopticlaw22_PrecisionBounds.B20 : List Nat := [0, 0, 2, 0, 0, 24, 56, 0, 0, 384, 896, 2040, 4094, 8191, 16383]
theorem synopticlaw22_PrecisionBounds.tab20 : rtab .any (opsOf Tryd.f7 20) = synopticlaw22_PrecisionBounds.T20 := by kernel_rfl
theorem synopticlaw22_PrecisionBounds.bits20 : waitsOk synopticlaw22_PrecisionBounds.T20.2 synopticlaw22_PrecisionBounds.B20 = true := by kernel_rfl
def synopticlaw22_PrecisionBounds.T21 : Bool × List (List Nat × List Nat) := (true, [([], []), ([0], [0]), ([1], [1]), ([1], [1]), ([2, 3, 1], [1, 2, 3]), ([4, 1], [1, 4]), ([1], [1]), ([6, 1], [1, 6]), ([7, 1], [1, 7]), ([5, 8, 1], [1, 5, 8]), ([1, 9], [1, 9]), ([10, 1, 0, 1, 2, 3, 4, 5, 6, 7, 8, 9, 10], [0, 10])])
def synopticlaw22_PrecisionBounds.B21 : List Nat := [0, 1, 3, 3, 15, 31, 3, 67, 195, 511, 1023, 2047]
theorem synopticlaw22_PrecisionBounds.tab21 : rtab .any (opsOf Tryd.f7 21) = synopticlaw22_PrecisionBounds.T21 := by kernel_rfl
theorem synopticlaw22_PrecisionBounds.bits21 : waitsOk synopticlaw22_PrecisionBounds.T21.2 synopticlaw22_PrecisionBounds.B21 = true := by kernel_rfl
def synopticlaw22_PrecisionBounds.T23 : Bool × List (List Nat × List Nat) := (true, [([], []), ([0], [0]), ([1], [1]), ([2], [2]), ([3, 2], [2, 3]), ([2, 4], [2, 4]), ([5, 2], [5]), ([6], [6]), ([7, 6], [6, 7]), ([6, 8], [6, 8]), ([9, 6], [9]), ([10], [10]), ([10], [10]), ([11, 12, 10], [10, 11, 12]), ([10, 13], [10, 13]), ([14, 10], [14]), ([15], [15]), ([15], [15]), ([16, 17, 15, 15], [15, 16, 17]), ([18, 15], [15, 18]), ([15, 19], [15, 19]), ([20, 18], [20]), ([21], [21]), ([21], [21]), ([22, 23, 21], [21, 22, 23]), ([21], [21]), ([25, 21, 21], [21, 25]), ([26], [26]), ([27, 26], [26, 27]), ([28, 26], [26, 28]), ([26, 29, 21], [21, 26, 29]), ([24, 30, 21], [21, 24, 30]), ([21, 31], [21, 31]), ([32, 26, 0, 1, 2, 3, 4, 5, 6, 7, 8, 9, 10, 11, 12, 13, 14, 15, 16, 17, 18, 19, 20, 21, 22, 23, 24, 25, 26, 27, 28, 29, 30, 31, 32], [32])])
def synopticlaw22_PrecisionBounds.B23 : List Nat := [0, 1, 3, 7, 15, 31, 63, 127, 255, 511, 1023, 2047, 2047, 8191, 16383, 32767, 65535, 65535, 262143, 524287, 1048575, 2097151, 4194303, 4194303, 16777215, 4194303, 37748735, 104857599, 239075327, 507510783, 1044381695, 2147483647, 4294967295, 8589934591]
theorem synopticlaw22_PrecisionBounds.tab23 : rtab .any (opsOf Tryd.f7 23) = synopticlaw22_PrecisionBounds.T23 := by kernel_rfl
theorem synopticlaw22_PrecisionBounds.bits23 : waitsOk synopticlaw22_PrecisionBounds.T23.2 synopticlaw22_PrecisionBounds.B23 = true := by kernel_rfl
set_option maxHeartbeats 8000000 in
set_option maxRecDepth 100000 in
theorem synopticlaw22_PrecisionBounds.calls (k : Nat) (A0 : Option Addr) (c0 : Nat) (l0 : List Int) (a1 : Int) (r : Bool) (w : World) (hr0 : Kd.C (Kd.int .u8) w A0 l0.length l0) (hc0 : l0.length ≤ c0) (hG : CornersAt w) (hrt : r = true) (h : synopticlaw22_PrecisionBounds.f k l0 a1 = some r) :
    Calls Tryd.prog 7 #[.slice A0 l0.length c0, .int .i64 a1] w fun e w' => e = .returned (.bool r) ∧ Below w.heap.size w w' := by
  have HRT := Aside0.mk hrt
  clear hrt
  have hu36 := Tryd.underlying36
  have hu25 := Tryd.underlying25
  have HR0 := Aside0.mk hr0
  have HC0 := Aside0.mk hc0
  clear hr0 hc0
  have HG := Aside0.mk hG
  clear hG
  have HB := Aside0.mk (Below.refl w.heap.size w)
  have H : ((synopticlaw22_awake.f k).bind fun t390 => (if t390 = true then ((synopticfield_New.f l0 120).bind fun bt391 => ((synopticfield_Codes_Precision.f bt391.1 bt391.2).bind fun bt394 => ((synopticfield_Codes_For.f k bt391.1 bt394.2.2.2 bt394.1 bt394.2.1 bt394.2.2.1).bind fun bt399 => ((synopticfield_Codes_Next.f bt391.1 bt399.2 4).bind fun bt403 => (if bt403.1 = 3 then (synopticlaw22_PrecisionBounds.l0 k a1 bt399.1 (bt399.1.length : Int) 0 bt394.1 bt394.2.1 bt394.2.2.1) else (synopticlaw22_PrecisionBounds.j1 k bt399.1 bt394.1 bt394.2.1 bt394.2.2.1)))))) else (some false))) = some r := h
  clear h
  replace H := Option.bind_eq_some_iff.mp H
  obtain ⟨t390, A30, H⟩ := H
  replace H : (if t390 = true then ((synopticfield_New.f l0 120).bind fun bt391 => ((synopticfield_Codes_Precision.f bt391.1 bt391.2).bind fun bt394 => ((synopticfield_Codes_For.f k bt391.1 bt394.2.2.2 bt394.1 bt394.2.1 bt394.2.2.1).bind fun bt399 => ((synopticfield_Codes_Next.f bt391.1 bt399.2 4).bind fun bt403 => (if bt403.1 = 3 then (synopticlaw22_PrecisionBounds.l0 k a1 bt399.1 (bt399.1.length : Int) 0 bt394.1 bt394.2.1 bt394.2.2.1) else (synopticlaw22_PrecisionBounds.j1 k bt399.1 bt394.1 bt394.2.1 bt394.2.2.1)))))) else (some false)) = some r := H
  have A3 := Aside0.mk A30
  clear A30
  by_cases c4 : t390 = true
  · subst c4
    have H1 : ((synopticfield_New.f l0 120).bind fun bt391 => ((synopticfield_Codes_Precision.f bt391.1 bt391.2).bind fun bt394 => ((synopticfield_Codes_For.f k bt391.1 bt394.2.2.2 bt394.1 bt394.2.1 bt394.2.2.1).bind fun bt399 => ((synopticfield_Codes_Next.f bt391.1 bt399.2 4).bind fun bt403 => (if bt403.1 = 3 then (synopticlaw22_PrecisionBounds.l0 k a1 bt399.1 (bt399.1.length : Int) 0 bt394.1 bt394.2.1 bt394.2.2.1) else (synopticlaw22_PrecisionBounds.j1 k bt399.1 bt394.1 bt394.2.1 bt394.2.2.1)))))) = some r := by rw [if_pos rfl] at H; exact H
    clear H
    have H := H1
    clear H1
    replace H := Option.bind_eq_some_iff.mp H
    obtain ⟨⟨t391, t392⟩, A50, H⟩ := H
    replace H : ((synopticfield_Codes_Precision.f t391 t392).bind fun bt394 => ((synopticfield_Codes_For.f k t391 bt394.2.2.2 bt394.1 bt394.2.1 bt394.2.2.1).bind fun bt399 => ((synopticfield_Codes_Next.f t391 bt399.2 4).bind fun bt403 => (if bt403.1 = 3 then (synopticlaw22_PrecisionBounds.l0 k a1 bt399.1 (bt399.1.length : Int) 0 bt394.1 bt394.2.1 bt394.2.2.1) else (synopticlaw22_PrecisionBounds.j1 k bt399.1 bt394.1 bt394.2.1 bt394.2.2.1))))) = some r := H
    have A5 := Aside0.mk A50
    clear A50
    replace H := Option.bind_eq_some_iff.mp H
    obtain ⟨⟨t394, t395, t396, t397⟩, A60, H⟩ := H
    replace H : ((synopticfield_Codes_For.f k t391 t397 t394 t395 t396).bind fun bt399 => ((synopticfield_Codes_Next.f t391 bt399.2 4).bind fun bt403 => (if bt403.1 = 3 then (synopticlaw22_PrecisionBounds.l0 k a1 bt399.1 (bt399.1.length : Int) 0 t394 t395 t396) else (synopticlaw22_PrecisionBounds.j1 k bt399.1 t394 t395 t396)))) = some r := H
    have A6 := Aside0.mk A60
    clear A60
    replace H := Option.bind_eq_some_iff.mp H
    obtain ⟨⟨t399, t402⟩, A70, H⟩ := H
    replace H : ((synopticfield_Codes_Next.f t391 t402 4).bind fun bt403 => (if bt403.1 = 3 then (synopticlaw22_PrecisionBounds.l0 k a1 t399 (t399.length : Int) 0 t394 t395 t396) else (synopticlaw22_PrecisionBounds.j1 k t399 t394 t395 t396))) = some r := H
    have A7 := Aside0.mk A70
    clear A70
    replace H := Option.bind_eq_some_iff.mp H
    obtain ⟨⟨t403, t404⟩, A80, H⟩ := H
    replace H : (if t403 = 3 then (synopticlaw22_PrecisionBounds.l0 k a1 t399 (t399.length : Int) 0 t394 t395 t396) else (synopticlaw22_PrecisionBounds.j1 k t399 t394 t395 t396)) = some r := H
    have A8 := Aside0.mk A80
    clear A80
    have HC9 := Aside0.mk H
    clear H
    go_enter Tryd.func7, Tryd.ntmps7
    go_upto_if 29 with (first | ((with_reducible refine gate_callee (f := 8) rfl ?_); refine goesL_ (some 18) rfl rfl Tryd.func8 (by kernel_rfl) rfl #[] rfl (by (try simp only [List.map_toArray, List.map_cons, List.map_nil]); first | done | rfl | (simp only [List.length_drop, List.length_take]; rfl)) ?_; (with_reducible refine (synopticlaw22_awake.calls k  true _ ?side1 A3.out).mono ?_); (case side1 => exact CornersAt.below HG.out (by repeat (first | (with_reducible first | exact HB.out | apply below_alloc | apply pw_below_drewN | apply below_drew1) | exact HB.out))); rintro e w10 ⟨rfl, hb⟩; refine ⟨_, rfl, ?_⟩; have n0_ := Aside0.mk (below_step (by repeat (first | (with_reducible first | exact HB.out | apply below_alloc | apply pw_below_drewN | apply below_drew1) | exact HB.out)) hb); clear HB; have HB := n0_; clear n0_; (try clear hb); (try clear hb2); (try clear hk); (try clear hi)) | ((with_reducible refine gate_callee (f := 14) rfl ?_); refine goesL_ (some 21) rfl rfl Tryd.func14 (by kernel_rfl) rfl #[.slice A0 l0.length c0, .int .i64 120] rfl (by (try simp only [List.map_toArray, List.map_cons, List.map_nil]); first | done | rfl | (simp only [List.length_drop, List.length_take]; rfl)) ?_; (with_reducible refine (synopticfield_New.calls _ _ l0 120 t391 t392 w _ ?side1 ?side2 ?side3 A5.out).mono ?_); (case side1 => repeat (first | (with_reducible first | exact HB.out | apply below_alloc | apply pw_below_drewN | apply below_drew1) | exact HB.out)); (case side2 => exact HR0.out); (case side3 => exact HC0.out); rintro e w11 ⟨g393, rfl, hi, hb, hb2⟩; refine ⟨_, rfl, ?_⟩; have n0_ := Aside0.mk (hb); have n1_ := Aside0.mk (hi); clear HB; have HB := n0_; have HI393 := n1_; clear n0_ n1_; (try clear hb); (try clear hb2); (try clear hk); (try clear hi)) | ((with_reducible refine gate_callee (f := 15) rfl ?_); refine goesL_ (some 23) rfl rfl Tryd.func15 (by kernel_rfl) rfl #[.pointer (some ⟨g393, 0, none⟩)] rfl (by (try simp only [List.map_toArray, List.map_cons, List.map_nil]); first | done | rfl | (simp only [List.length_drop, List.length_take]; rfl)) ?_; (with_reducible refine (synopticfield_Codes_Precision.calls g393 t391 t392 t394 t395 t396 t397 w _ ?side1 ?side2 A6.out).mono ?_); (case side1 => repeat (first | (with_reducible first | exact HI393.out | apply IsS61.alloc | apply IsS61.drewN | apply IsS61.drew | apply IsS61.set_1) | exact HI393.out)); (case side2 => repeat (first | (with_reducible first | exact HB.out | apply below_alloc | apply pw_below_drewN | apply below_drew1 | refine below_set ?_ (IsS61.ge HI393.out)) | exact HB.out)); rintro e w12 ⟨rfl, hi, hb, hk⟩; refine ⟨_, rfl, ?_⟩; have n0_ := Aside0.mk (hb); have n1_ := Aside0.mk (hi); clear HB; clear HI393; have HB := n0_; have HI393 := n1_; clear n0_ n1_; (try clear hb); (try clear hb2); (try clear hk); (try clear hi)) | ((with_reducible refine gate_dst (N := 6) rfl ?_); refine box_event ?hg (N := 6) ?hd (cs := #[.int .i64 0, .int .i64 0, .int .i64 0]) (t := 36) ?hr ?_; (case hd => rfl); (case hg => rfl); (case hr => first | (go_simp; done) | (go_simp; rfl)); intro gb398 hg w13 hbox hb; have n0_ := Aside0.mk (IsS61.below (by repeat (first | (with_reducible first | exact HI393.out | apply IsS61.alloc | apply IsS61.drewN | apply IsS61.drew | apply IsS61.set_1) | exact HI393.out)) hb); have n1_ := Aside0.mk (below_step (by repeat (first | (with_reducible first | exact HB.out | apply below_alloc | apply pw_below_drewN | apply below_drew1 | refine below_set ?_ (IsS61.ge HI393.out)) | exact HB.out)) hb); have n2_ := Aside0.mk (hbox); have n3_ := Aside0.mk ((by rw [hg]; exact (below_size (by repeat (first | (with_reducible first | exact HB.out | apply below_alloc | apply pw_below_drewN | apply below_drew1 | refine below_set ?_ (IsS61.ge HI393.out)) | exact HB.out))) : w.heap.size ≤ gb398)); have n4_ := Aside0.mk ((by rw [hg]; exact (below_size (by repeat (first | (with_reducible first | exact HB.out | apply below_alloc | apply pw_below_drewN | apply below_drew1 | refine below_set ?_ (IsS61.ge HI393.out)) | exact HB.out))) : w.heap.size ≤ gb398)); have n5_ := Aside0.mk ((by rw [hg]; exact Nat.ne_of_lt (IsS61.lt (show IsS61 w _ g393 t391 t397 from by repeat (first | (with_reducible first | exact HI393.out | apply IsS61.alloc | apply IsS61.drewN | apply IsS61.drew | apply IsS61.set_1) | exact HI393.out))) : g393 ≠ gb398)); have n6_ := Aside0.mk ((by rw [hg]; exact Nat.ne_of_gt (IsS61.lt (show IsS61 w _ g393 t391 t397 from by repeat (first | (with_reducible first | exact HI393.out | apply IsS61.alloc | apply IsS61.drewN | apply IsS61.drew | apply IsS61.set_1) | exact HI393.out))) : gb398 ≠ g393)); clear HI393; clear HB; have HI393 := n0_; have HB := n1_; have BK398 := n2_; have GW398 := n3_; have GE398 := n4_; have NB393_398 := n5_; have NB398_393 := n6_; clear n0_ n1_ n2_ n3_ n4_ n5_ n6_; clear hb hbox hg; have hnb14 := NB398_393.out; have hnc14 := NB393_398.out; have hcz15_0 : w13.cell? ⟨gb398, 0, none⟩ = some (.int .i64 0) := (blk_cell BK398.out 0).trans rfl; have hcz15_1 : w13.cell? ⟨gb398, 1, none⟩ = some (.int .i64 0) := (blk_cell BK398.out 1).trans rfl; have hcz15_2 : w13.cell? ⟨gb398, 2, none⟩ = some (.int .i64 0) := (blk_cell BK398.out 2).trans rfl; have hfz15_0 := blk_frozen BK398.out 0; have hfz15_1 := blk_frozen BK398.out 1; have hfz15_2 := blk_frozen BK398.out 2) | ((with_reducible refine gate_callee (f := 17) rfl ?_); refine goesL_ (some 26) rfl rfl Tryd.func17 (by kernel_rfl) rfl #[.pointer (some ⟨g393, 0, none⟩), .agg #[.int .i64 t394, .int .i64 t395, .int .i64 t396]] rfl (by (try simp only [List.map_toArray, List.map_cons, List.map_nil]); first | done | rfl | (simp only [List.length_drop, List.length_take]; rfl)) ?_; (with_reducible refine (synopticfield_Codes_For.calls k g393 t391 t397 t394 t395 t396 t399 t402 w _ ?side1 ?side2 A7.out).mono ?_); (case side1 => repeat (first | (with_reducible first | exact HI393.out | apply IsS61.alloc | apply IsS61.drewN | apply IsS61.drew | apply IsS61.set_1 | refine IsS61.far ?_ NB393_398.out _) | exact HI393.out)); (case side2 => repeat (first | (with_reducible first | exact HB.out | apply below_alloc | apply pw_below_drewN | apply below_drew1 | refine below_set ?_ (IsS61.ge HI393.out) | refine below_set ?_ GE398.out) | exact HB.out)); rintro e w16 ⟨v400, rfl, ho0, hi, hb, hk⟩; refine ⟨_, rfl, ?_⟩; have n0_ := Aside0.mk (KeepBut.blk hk (g' := gb398) (o := .cells #[.int .i64 t394, .int .i64 t395, .int .i64 t396] 36 (0, 0)) (by (with_reducible repeat (first | refine blk_drewN ?_ _ | refine blk_drew ?_ | refine blk_alloc ?_ _)); refine blk_put (cs := #[.int .i64 t394, .int .i64 t395, .int .i64 0]) ?_ 2 _ rfl; (with_reducible repeat (first | refine blk_drewN ?_ _ | refine blk_drew ?_ | refine blk_alloc ?_ _)); refine blk_put (cs := #[.int .i64 t394, .int .i64 0, .int .i64 0]) ?_ 1 _ rfl; (with_reducible repeat (first | refine blk_drewN ?_ _ | refine blk_drew ?_ | refine blk_alloc ?_ _)); refine blk_put (cs := #[.int .i64 0, .int .i64 0, .int .i64 0]) ?_ 0 _ rfl; (with_reducible repeat (first | refine blk_drewN ?_ _ | refine blk_drew ?_ | refine blk_alloc ?_ _)); exact BK398.out) NB398_393.out (by simp)); have n1_ := Aside0.mk (Kd.R_lower ho0 (below_size (by repeat (first | (with_reducible first | exact HB.out | apply below_alloc | apply pw_below_drewN | apply below_drew1 | refine below_set ?_ (IsS61.ge HI393.out) | refine below_set ?_ GE398.out) | exact HB.out)))); have n2_ := Aside0.mk (hb); have n3_ := Aside0.mk (hi); clear BK398; clear HB; clear HI393; have BK398 := n0_; have HO401 := n1_; have HB := n2_; have HI393 := n3_; clear n0_ n1_ n2_ n3_; (try clear hb); (try clear hb2); (try clear hk); (try clear hi); (try clear ho0)) | ((with_reducible refine gate_callee (f := 31) rfl ?_); refine goesL_ (some 28) rfl rfl Tryd.func31 (by kernel_rfl) rfl #[.pointer (some ⟨g393, 0, none⟩), .int .i64 4] rfl (by (try simp only [List.map_toArray, List.map_cons, List.map_nil]); first | done | rfl | (simp only [List.length_drop, List.length_take]; rfl)) ?_; (with_reducible refine (synopticfield_Codes_Next.calls g393 t391 t402 4 t403 t404 w _ ?side1 ?side2 A8.out).mono ?_); (case side1 => repeat (first | (with_reducible first | exact HI393.out | apply IsS61.alloc | apply IsS61.drewN | apply IsS61.drew | apply IsS61.set_1 | refine IsS61.far ?_ NB393_398.out _) | exact HI393.out)); (case side2 => repeat (first | (with_reducible first | exact HB.out | apply below_alloc | apply pw_below_drewN | apply below_drew1 | refine below_set ?_ (IsS61.ge HI393.out) | refine below_set ?_ GE398.out) | exact HB.out)); rintro e w17 ⟨rfl, hi, hb, hk⟩; refine ⟨_, rfl, ?_⟩; have n0_ := Aside0.mk (KeepBut.blk hk (g' := gb398) (o := .cells #[.int .i64 t394, .int .i64 t395, .int .i64 t396] 36 (0, 0)) (by (with_reducible repeat (first | refine blk_drewN ?_ _ | refine blk_drew ?_ | refine blk_alloc ?_ _)); exact BK398.out) NB398_393.out (by simp)); have n1_ := Aside0.mk (Kd.R_mono (Kd.R_keep (IsS61.apart (show IsS61 w _ g393 t391 t402 from by repeat (first | (with_reducible first | exact HI393.out | apply IsS61.alloc | apply IsS61.drewN | apply IsS61.drew | apply IsS61.set_1 | refine IsS61.far ?_ NB393_398.out _) | exact HI393.out)) (by (with_reducible repeat (first | apply Kd.R_alloc | apply Kd.R_drewN | apply Kd.R_drew)); exact HO401.out) (by decide)) hk (fun _ h => h.2)) (fun _ h => h.1)); have n2_ := Aside0.mk (hb); have n3_ := Aside0.mk (hi); clear BK398; clear HO401; clear HB; clear HI393; have BK398 := n0_; have HO401 := n1_; have HB := n2_; have HI393 := n3_; clear n0_ n1_ n2_ n3_; (try clear hb); (try clear hb2); (try clear hk); (try clear hi)))
    (try simp only [Act.put, List.setIfInBounds_toArray, List.set_cons_zero, List.set_cons_succ])
    go_cut [] (fun wc => ∃ (kq : Nat) (x7_8 : List Int), Aside0 (synopticlaw22_PrecisionBounds.j1 kq x7_8 t394 t395 t396 = some r) ∧ Aside0 (kq ≤ k) ∧ Aside0 (Kd.R (Kd.int .i64) 3 wc w.heap.size (fun _ => True) v400 x7_8) ∧ Aside0 (wc.heap[gb398]? = some (.cells #[.int .i64 t394, .int .i64 t395, .int .i64 t396] 36 (0, 0))) ∧ Aside0 (Below w.heap.size w wc))
    case first =>
      have H := HC9.out
      clear HC9
      by_cases c18 : t403 = 3
      · rw [if_pos c18] at H
        have c18b0 : (t403 == 3) = true := beq_iff_eq.mpr c18
        have c18b1 : (t403 != 3) = false := bne_eq_false_iff_eq.mpr c18
        clear c18
        (first | rw [c18b0] | (simp only [i64_w]; rw [c18b0]) | skip)
        have H' := Aside0.mk H
        clear H
        obtain ⟨Ao19, co19, eo19⟩ := Kd.R_slice HO401.out
        subst eo19
        go_wp2
        go_loopg [32] k (fun kq v32 w' => ∃ (x7_1 : List Int) (x32_1 : Int), v32 = .int .i64 x32_1 ∧ Aside0 (synopticlaw22_PrecisionBounds.l0 kq a1 x7_1 (t399.length : Int) x32_1 t394 t395 t396 = some r) ∧ Aside0 (kq ≤ k) ∧ Aside0 (Kd.R (Kd.int .i64) 3 w' w.heap.size (fun _ => True) (.slice Ao19 t399.length co19) x7_1) ∧ Aside0 (w'.heap[gb398]? = some (.cells #[.int .i64 t394, .int .i64 t395, .int .i64 t396] 36 (0, 0))) ∧ Aside0 (Below w.heap.size w w'))
        case atStart => exact ⟨(t399), (0), (by first | rfl | (simp; done) | (simp [*]; done)), H', ⟨Nat.le_refl _⟩, ⟨by (with_reducible repeat (first | apply Kd.R_alloc | apply Kd.R_drewN | apply Kd.R_drew)); exact HO401.out⟩, ⟨by (with_reducible repeat (first | refine blk_drewN ?_ _ | refine blk_drew ?_ | refine blk_alloc ?_ _)); exact BK398.out⟩, ⟨by repeat (first | (with_reducible first | exact HB.out | apply below_alloc | apply pw_below_drewN | apply below_drew1 | refine below_set ?_ (IsS61.ge HI393.out) | refine below_set ?_ GE398.out) | exact HB.out)⟩⟩
        case round =>
          clear H'
          try clear c1
          try clear p2
          try clear c3
          try clear c4
          try clear c7
          try clear c8
          try clear c14
          try clear c15
          try clear c17
          try clear c18
          try clear c18b0
          try clear c18b1
          try clear hcz15_0
          try clear hcz15_1
          try clear hcz15_2
          try clear hfz15_0
          try clear hfz15_1
          try clear hfz15_2
          obtain ⟨x7_1, x32_1, rfl, HA, HK1, HO_7, BK398, HB⟩ := hrel
          have hl7_1 := (Kd.R_reads' HO_7.out).1
          rw [hl7_1] at HO_7
          (try simp only [hl7_1])
          (try simp only [hl7_1] at BK398)
          cases gk with
          | zero => exact absurd HA.out (by simp [synopticlaw22_PrecisionBounds.l0])
          | succ k1 =>
            have H := HA.out
            clear HA
            simp only [synopticlaw22_PrecisionBounds.l0] at H
            by_cases c20 : x32_1 < (t399.length : Int)
            · rw [if_pos c20] at H
              have c20b0 : decide (x32_1 < (t399.length : Int)) = true := decide_eq_true c20
              (try simp only [hl7_1] at c20b0)
              clear c20
              replace H := Option.bind_eq_some_iff.mp H
              obtain ⟨t405, A210, H⟩ := H
              replace H : (if 0 ≤ x32_1 then (if x32_1 < (x7_1.length : Int) then (synopticlaw22_PrecisionBounds.l0 k1 a1 (x7_1.set (x32_1 : Int).toNat (wrap64 (t405 - 1048576))) (t399.length : Int) (wrap64 (x32_1 + 1)) t394 t395 t396) else (none)) else (none)) = some r := H
              have A21 := Aside0.mk A210
              clear A210
              by_cases c22 : 0 ≤ x32_1
              · rw [if_pos c22] at H
                have c22b0 : decide (0 ≤ x32_1) = true := decide_eq_true c22
                clear c22
                by_cases c23 : x32_1 < (x7_1.length : Int)
                · rw [if_pos c23] at H
                  have c23b0 : decide (x32_1 < (x7_1.length : Int)) = true := decide_eq_true c23
                  clear c23
                  obtain ⟨y406, hy406⟩ : ∃ y_ : List Int, y_ = (x7_1.set (x32_1 : Int).toNat (wrap64 (t405 - 1048576))) := ⟨_, rfl⟩
                  replace H : (synopticlaw22_PrecisionBounds.l0 k1 a1 y406 (t399.length : Int) (wrap64 (x32_1 + 1)) t394 t395 t396) = some r := by first | (rw [hy406]; with_reducible exact H) | (have H2_ := (Option.bind_some _ _).symm.trans H; rw [hy406]; with_reducible exact H2_) | (have H2_ := (Option.bind_some _ _).symm.trans H; with_reducible exact H2_) | with_reducible exact H | (rw [hy406]; exact H) | exact H
                  have Ny406 := Aside0.mk hy406
                  clear hy406
                  have H' := Aside0.mk H
                  clear H
                  go_wp2_with (first | ((with_reducible refine gate_callee (f := 28) rfl ?_); refine goesL_ (some 38) rfl rfl Tryd.func28 (by kernel_rfl) rfl #[.int .i64 a1, .int .i64 2097153] rfl (by (try simp only [List.map_toArray, List.map_cons, List.map_nil]); first | done | rfl | (simp only [List.length_drop, List.length_take]; rfl)) ?_; (with_reducible refine (synopticfield_Mod.calls a1 2097153 t405 _ A21.out).mono ?_); rintro e w' ⟨rfl, ⟨nd, rfl⟩⟩; refine ⟨_, rfl, ?_⟩; (try (rw [drewN_self wr]; generalize hq_ : World.drewN wr _ = wr; have n0_ : Aside0 (Kd.R (Kd.int .i64) 3 wr w.heap.size (fun _ => True) (.slice Ao19 x7_1.length co19) x7_1) := ⟨by rw [← hq_]; exact (by (with_reducible repeat (first | apply Kd.R_alloc | apply Kd.R_drewN | apply Kd.R_drew)); exact HO_7.out)⟩; have n1_ : Aside0 (wr.heap[gb398]? = some (.cells #[.int .i64 t394, .int .i64 t395, .int .i64 t396] 36 (0, 0))) := ⟨by rw [← hq_]; exact (by (with_reducible repeat (first | refine blk_drewN ?_ _ | refine blk_drew ?_ | refine blk_alloc ?_ _)); exact BK398.out)⟩; have n2_ : Aside0 (Below w.heap.size w wr) := ⟨by rw [← hq_]; exact (by repeat (first | (with_reducible first | exact HB.out | apply below_alloc | apply pw_below_drewN | apply below_drew1 | refine below_set ?_ GE398.out) | exact HB.out))⟩; clear HO_7 BK398 HB hq_; have HO_7 := n0_; have BK398 := n1_; have HB := n2_; clear n0_ n1_ n2_)); have p24 : 0 ≤ (x32_1 : Int) := of_decide_eq_true (by first | (with_reducible assumption) | assumption); have q24 : (x32_1 : Int) < ((x7_1.length : Int) : Int) := of_decide_eq_true (by first | (with_reducible assumption) | assumption); obtain ⟨go24, co24, eo24, gb24, gl24, cl24, HG24⟩ := Kd.R_form HO_7.out (by omega); (first | cases eo24 | (injection eo24 with ea_ en_ ec_; (first | subst ea_ | (injection ea_ with ea_; subst ea_)); subst ec_; clear en_)); have GB24 := Aside0.mk gb24; have GG24 := Aside0.mk HG24; clear gb24 gl24 HG24; obtain ⟨hx24_0, hf24_0⟩ := Kd.R_celln 0 HO_7.out (x32_1 : Int) p24 q24; replace p24 := eq_true p24; replace q24 := eq_true q24; obtain ⟨hy25_, hz25_⟩ := Kd.R_celln 0 HO_7.out (x32_1 : Int) (of_decide_eq_true (by first | (with_reducible assumption) | assumption)) (of_decide_eq_true (by first | (with_reducible assumption) | assumption)); have HP25 := Kd.R_putg HO_7.out (x32_1 : Int) (wrap64 (t405 - 1048576))) | ((with_reducible refine gate_store (t := 3) (p := 40) rfl ?_); refine store_event (t := 3) (p := 40) (v := ?vo_w26) (w1 := (wr.setCell ⟨go24, (x32_1 : Int).toNat, none⟩ (.int .i64 (wrap64 (t405 - 1048576))))) ?hg ?ho ?hn ?hr ?_; (case ho => rfl); (case hg => rfl); (case hn => rfl); (case hr => first | (go_simp; done) | (go_simp; rfl)); intro w26 hw; have hg : wr.grownBy w26 (some go24) := (by rw [hw]; exact HP25.2); have hp_ : Kd.R (Kd.int .i64) 3 w26 w.heap.size (fun _ => True) (.slice (some ⟨go24, 0, none⟩) x7_1.length co19) y406 := (by rw [hw, Ny406.out]; exact HP25.1); clear HP25; have n0_ := Aside0.mk (hp_); have n1_ := Aside0.mk (blk_grown (g := gb398) (o := .cells #[.int .i64 t394, .int .i64 t395, .int .i64 t396] 36 (0, 0)) (by (with_reducible repeat (first | refine blk_drewN ?_ _ | refine blk_drew ?_ | refine blk_alloc ?_ _)); exact BK398.out) hg (Kd.R_ne HO_7.out BK398.out (by decide))); have n2_ := Aside0.mk ((by rw [hw]; exact below_set (HB.out) GB24.out : Below w.heap.size w w26)); clear HO_7; clear BK398; clear HB; have HO_7 := n0_; have BK398 := n1_; have HB := n2_; clear n0_ n1_ n2_; clear hg hw hp_))
                  (try simp only [← hl7_1])
                  go_roundg k1
                  case measure => have := HK1.out; omega
                  case rel => exact ⟨(y406), (wrap64 (x32_1 + 1)), (by first | rfl | (simp; done) | (simp [*]; done)), H', ⟨by have := HK1.out; omega⟩, ⟨by (try simp only [hl7_1]); (with_reducible repeat (first | apply Kd.R_alloc | apply Kd.R_drewN | apply Kd.R_drew)); exact HO_7.out⟩, ⟨by (try simp only [hl7_1]); (with_reducible repeat (first | refine blk_drewN ?_ _ | refine blk_drew ?_ | refine blk_alloc ?_ _)); exact BK398.out⟩, ⟨by repeat (first | (with_reducible first | exact HB.out | apply below_alloc | apply pw_below_drewN | apply below_drew1 | refine below_set ?_ GE398.out) | exact HB.out)⟩⟩
                · rw [if_neg c23] at H
                  exact absurd H (by simp)
              · rw [if_neg c22] at H
                exact absurd H (by simp)
            · rw [if_neg c20] at H
              have c20b0 : decide (x32_1 < (t399.length : Int)) = false := decide_eq_false c20
              (try simp only [hl7_1] at c20b0)
              clear c20
              have H' := Aside0.mk H
              clear H
              go_wp2
              (try simp only [← hl7_1])
              go_meet
              case rel => exact ⟨_, (x7_1), H', ⟨by have := HK1.out; first | omega | exact Nat.le_refl _⟩, ⟨by (try simp only [hl7_1]); (with_reducible repeat (first | apply Kd.R_alloc | apply Kd.R_drewN | apply Kd.R_drew)); exact HO_7.out⟩, ⟨by (try simp only [hl7_1]); (with_reducible repeat (first | refine blk_drewN ?_ _ | refine blk_drew ?_ | refine blk_alloc ?_ _)); exact BK398.out⟩, ⟨by repeat (first | (with_reducible first | exact HB.out | apply below_alloc | apply pw_below_drewN | apply below_drew1 | refine below_set ?_ GE398.out) | exact HB.out)⟩⟩
      · rw [if_neg c18] at H
        have c18b0 : (t403 == 3) = false := beq_eq_false_iff_ne.mpr c18
        have c18b1 : (t403 != 3) = true := bne_iff_ne.mpr c18
        (first | rw [c18b0] | (simp only [i64_w]; rw [c18b0]) | skip)
        have H' := Aside0.mk H
        clear H
        go_wp2
        go_meet
        case rel => exact ⟨_, (t399), H', ⟨by first | omega | exact Nat.le_refl _⟩, ⟨by (with_reducible repeat (first | apply Kd.R_alloc | apply Kd.R_drewN | apply Kd.R_drew)); exact HO401.out⟩, ⟨by (with_reducible repeat (first | refine blk_drewN ?_ _ | refine blk_drew ?_ | refine blk_alloc ?_ _)); exact BK398.out⟩, ⟨by repeat (first | (with_reducible first | exact HB.out | apply below_alloc | apply pw_below_drewN | apply below_drew1 | refine below_set ?_ (IsS61.ge HI393.out) | refine below_set ?_ GE398.out) | exact HB.out)⟩⟩
    case rest =>
      clear HC9
      try clear c1
      try clear c2
      try clear p2
      try clear q2
      try clear hx2
      try clear hf2
      try clear c3
      try clear c4
      try clear p6
      try clear c7
      try clear c8
      try clear c14
      try clear c15
      try clear c17
      try clear c18
      try clear c18b0
      try clear c18b1
      try clear c20
      try clear c20b0
      try clear c22
      try clear c22b0
      try clear c23
      try clear c23b0
      try clear p24
      try clear q24
      try clear hx24
      try clear hf24
      try clear hcz15_0
      try clear hcz15_1
      try clear hcz15_2
      try clear hfz15_0
      try clear hfz15_1
      try clear hfz15_2
      try clear hx24_0
      try clear p2
      try clear p24
      try clear q24
      obtain ⟨kq, x7_8, HA, HJ8, HO_7, BK398, HB⟩ := hcut
      cases kq with
      | zero => exact absurd HA.out (by simp [synopticlaw22_PrecisionBounds.j1])
      | succ kj8 =>
        have H := HA.out
        clear HA
        simp only [synopticlaw22_PrecisionBounds.j1] at H
        replace H := Option.bind_eq_some_iff.mp H
        obtain ⟨⟨t407, t408, t409⟩, A270, H⟩ := H
        replace H : ((precision_Apply.f kj8 t394 t395 t396 x7_8).bind fun bt411 => ((precision_Dot.f x7_8 bt411.1).bind fun bt415 => (synopticlaw22_PrecisionBounds.l1 kj8 x7_8 t409 bt411.2 bt415.2.2 true (x7_8.length : Int) 0 t394 t395 t396 t407 t408 bt415.1 bt415.2.1 0 0))) = some r := H
        have A27 := Aside0.mk A270
        clear A270
        replace H := Option.bind_eq_some_iff.mp H
        obtain ⟨⟨t411, t414⟩, A280, H⟩ := H
        replace H : ((precision_Dot.f x7_8 t411).bind fun bt415 => (synopticlaw22_PrecisionBounds.l1 kj8 x7_8 t409 t414 bt415.2.2 true (x7_8.length : Int) 0 t394 t395 t396 t407 t408 bt415.1 bt415.2.1 0 0)) = some r := H
        have A28 := Aside0.mk A280
        clear A280
        replace H := Option.bind_eq_some_iff.mp H
        obtain ⟨⟨t415, t416, t417⟩, A290, H⟩ := H
        replace H : (synopticlaw22_PrecisionBounds.l1 kj8 x7_8 t409 t414 t417 true (x7_8.length : Int) 0 t394 t395 t396 t407 t408 t415 t416 0 0) = some r := H
        have A29 := Aside0.mk A290
        clear A290
        have H' := Aside0.mk H
        clear H
        have hcz30_0 : wc.cell? ⟨gb398, 0, none⟩ = some (.int .i64 t394) := (blk_cell BK398.out 0).trans rfl
        have hcz30_1 : wc.cell? ⟨gb398, 1, none⟩ = some (.int .i64 t395) := (blk_cell BK398.out 1).trans rfl
        have hcz30_2 : wc.cell? ⟨gb398, 2, none⟩ = some (.int .i64 t396) := (blk_cell BK398.out 2).trans rfl
        have hfz30_0 := blk_frozen BK398.out 0
        have hfz30_1 := blk_frozen BK398.out 1
        have hfz30_2 := blk_frozen BK398.out 2
        obtain ⟨Ao31, co31, eo31⟩ := Kd.R_slice HO_7.out
        subst eo31
        go_wp2_with (first | ((with_reducible refine gate_callee (f := 30) rfl ?_); refine goesL_ (some 45) rfl rfl Tryd.func30 (by kernel_rfl) rfl #[.agg #[.int .i64 t394, .int .i64 t395, .int .i64 t396], .slice Ao31 x7_8.length co31] rfl (by (try simp only [List.map_toArray, List.map_cons, List.map_nil]); first | done | rfl | (simp only [List.length_drop, List.length_take]; rfl)) ?_; (with_reducible refine (precision_Energy.calls t394 t395 t396 _ _ x7_8 t407 t408 t409 _ ?side1 ?side2 ?side3 A27.out).mono ?_); (case side1 => repeat (first | exact (Kd.R_reads' HO_7.out).2.2 | (with_reducible refine Kd.C_alloc ?_ _) | (with_reducible refine Kd.C_drewN ?_ _) | (with_reducible refine Kd.C_drew ?_))); (case side2 => exact (Kd.R_reads' HO_7.out).2.1); (case side3 => exact CornersAt.below HG.out (by repeat (first | (with_reducible first | exact HB.out | apply below_alloc | apply pw_below_drewN | apply below_drew1 | refine below_set ?_ GE398.out) | exact HB.out))); rintro e w32 ⟨rfl, hb⟩; refine ⟨_, rfl, ?_⟩; have n0_ := Aside0.mk (Kd.R_below (by (with_reducible repeat (first | apply Kd.R_alloc | apply Kd.R_drewN | apply Kd.R_drew)); exact HO_7.out) hb); have n1_ := Aside0.mk (blk_below (g := gb398) (o := .cells #[.int .i64 t394, .int .i64 t395, .int .i64 t396] 36 (0, 0)) (by (with_reducible repeat (first | refine blk_drewN ?_ _ | refine blk_drew ?_ | refine blk_alloc ?_ _)); exact BK398.out) hb); have n2_ := Aside0.mk (below_step (by repeat (first | (with_reducible first | exact HB.out | apply below_alloc | apply pw_below_drewN | apply below_drew1 | refine below_set ?_ GE398.out) | exact HB.out)) hb); clear HO_7; clear BK398; clear HB; have HO_7 := n0_; have BK398 := n1_; have HB := n2_; clear n0_ n1_ n2_; (try clear hb); (try clear hb2); (try clear hk); (try clear hi)) | ((with_reducible refine gate_dst (N := 9) rfl ?_); refine box_event ?hg (N := 9) ?hd (cs := #[.int .i64 0, .int .u64 0]) (t := 25) ?hr ?_; (case hd => rfl); (case hg => rfl); (case hr => first | (go_simp; done) | (go_simp; rfl)); intro gb410 hg w33 hbox hb; have n0_ := Aside0.mk (Kd.R_below (by (with_reducible repeat (first | apply Kd.R_alloc | apply Kd.R_drewN | apply Kd.R_drew)); exact HO_7.out) hb); have n1_ := Aside0.mk (blk_below (g := gb398) (o := .cells #[.int .i64 t394, .int .i64 t395, .int .i64 t396] 36 (0, 0)) (by (with_reducible repeat (first | refine blk_drewN ?_ _ | refine blk_drew ?_ | refine blk_alloc ?_ _)); exact BK398.out) hb); have n2_ := Aside0.mk (below_step (by repeat (first | (with_reducible first | exact HB.out | apply below_alloc | apply pw_below_drewN | apply below_drew1 | refine below_set ?_ GE398.out) | exact HB.out)) hb); have n3_ := Aside0.mk (hbox); have n4_ := Aside0.mk ((by rw [hg]; exact (below_size (by repeat (first | (with_reducible first | exact HB.out | apply below_alloc | apply pw_below_drewN | apply below_drew1 | refine below_set ?_ GE398.out) | exact HB.out))) : w.heap.size ≤ gb410)); have n5_ := Aside0.mk ((by rw [hg]; exact (below_size (by repeat (first | (with_reducible first | exact HB.out | apply below_alloc | apply pw_below_drewN | apply below_drew1 | refine below_set ?_ GE398.out) | exact HB.out))) : w.heap.size ≤ gb410)); have n6_ := Aside0.mk ((by rw [hg]; exact Nat.ne_of_lt (blk_lt (g := gb398) (o := .cells #[.int .i64 t394, .int .i64 t395, .int .i64 t396] 36 (0, 0)) (by (with_reducible repeat (first | refine blk_drewN ?_ _ | refine blk_drew ?_ | refine blk_alloc ?_ _)); exact BK398.out)) : gb398 ≠ gb410)); have n7_ := Aside0.mk ((by rw [hg]; exact Nat.ne_of_gt (blk_lt (g := gb398) (o := .cells #[.int .i64 t394, .int .i64 t395, .int .i64 t396] 36 (0, 0)) (by (with_reducible repeat (first | refine blk_drewN ?_ _ | refine blk_drew ?_ | refine blk_alloc ?_ _)); exact BK398.out)) : gb410 ≠ gb398)); clear HO_7; clear BK398; clear HB; have HO_7 := n0_; have BK398 := n1_; have HB := n2_; have BK410 := n3_; have GW410 := n4_; have GE410 := n5_; have NB398_410 := n6_; have NB410_398 := n7_; clear n0_ n1_ n2_ n3_ n4_ n5_ n6_ n7_; clear hb hbox hg; have hnb34 := NB410_398.out; have hnc34 := NB398_410.out; have hcz35_0 : w33.cell? ⟨gb410, 0, none⟩ = some (.int .i64 0) := (blk_cell BK410.out 0).trans rfl; have hcz35_1 : w33.cell? ⟨gb410, 1, none⟩ = some (.int .u64 0) := (blk_cell BK410.out 1).trans rfl; have hfz35_0 := blk_frozen BK410.out 0; have hfz35_1 := blk_frozen BK410.out 1; have hcz36_0 : w33.cell? ⟨gb398, 0, none⟩ = some (.int .i64 t394) := (blk_cell BK398.out 0).trans rfl; have hcz36_1 : w33.cell? ⟨gb398, 1, none⟩ = some (.int .i64 t395) := (blk_cell BK398.out 1).trans rfl; have hcz36_2 : w33.cell? ⟨gb398, 2, none⟩ = some (.int .i64 t396) := (blk_cell BK398.out 2).trans rfl; have hfz36_0 := blk_frozen BK398.out 0; have hfz36_1 := blk_frozen BK398.out 1; have hfz36_2 := blk_frozen BK398.out 2) | ((with_reducible refine gate_callee (f := 18) rfl ?_); refine goesL_ (some 51) rfl rfl Tryd.func18 (by kernel_rfl) rfl #[.agg #[.int .i64 t394, .int .i64 t395, .int .i64 t396], .slice Ao31 x7_8.length co31] rfl (by (try simp only [List.map_toArray, List.map_cons, List.map_nil]); first | done | rfl | (simp only [List.length_drop, List.length_take]; rfl)) ?_; (with_reducible refine (precision_Apply.calls kj8 t394 t395 t396 _ _ x7_8 t411 t414 _ ?side1 ?side2 ?side3 A28.out).mono ?_); (case side1 => refine (Kd.R_reads' (e := 3) (base := w.heap.size) (ok := fun k_ => True) (n := x7_8.length) (c := co31) ?_).2.2; exact (by (with_reducible repeat (first | apply Kd.R_alloc | apply Kd.R_drewN | apply Kd.R_drew)); exact (Kd.R_mono (Kd.R_far (p := ⟨gb410, 1, none⟩) (Kd.R_far (p := ⟨gb410, 0, none⟩) (Kd.R_types HO_7.out BK410.out (by decide)) (fun _ hk => hk.2) (.int .i64 t407)) (fun _ hk => hk.2) (.int .u64 t408)) (fun _ h_ => h_.1)))); (case side2 => exact (Kd.R_reads' HO_7.out).2.1); (case side3 => exact CornersAt.below HG.out (by repeat (first | (with_reducible first | exact HB.out | apply below_alloc | apply pw_below_drewN | apply below_drew1 | refine below_set ?_ GE398.out | refine below_set ?_ GE410.out) | exact HB.out))); rintro e w37 ⟨v412, rfl, ho0, hb⟩; refine ⟨_, rfl, ?_⟩; have n0_ := Aside0.mk (Kd.R_elder' (by (with_reducible repeat (first | apply Kd.R_alloc | apply Kd.R_drewN | apply Kd.R_drew)); exact (Kd.R_mono (Kd.R_far (p := ⟨gb410, 1, none⟩) (Kd.R_far (p := ⟨gb410, 0, none⟩) (Kd.R_types HO_7.out BK410.out (by decide)) (fun _ hk => hk.2) (.int .i64 t407)) (fun _ hk => hk.2) (.int .u64 t408)) (fun _ h_ => h_.1))) (Kd.R_base ho0) hb); have n1_ := Aside0.mk (Kd.R_lower (Kd.R_new' ho0 (Kd.R_lt (by (with_reducible repeat (first | apply Kd.R_alloc | apply Kd.R_drewN | apply Kd.R_drew)); exact (Kd.R_mono (Kd.R_far (p := ⟨gb410, 1, none⟩) (Kd.R_far (p := ⟨gb410, 0, none⟩) (Kd.R_types HO_7.out BK410.out (by decide)) (fun _ hk => hk.2) (.int .i64 t407)) (fun _ hk => hk.2) (.int .u64 t408)) (fun _ h_ => h_.1))))) (below_size (by repeat (first | (with_reducible first | exact HB.out | apply below_alloc | apply pw_below_drewN | apply below_drew1 | refine below_set ?_ GE398.out | refine below_set ?_ GE410.out) | exact HB.out)))); have n2_ := Aside0.mk (blk_below (g := gb398) (o := .cells #[.int .i64 t394, .int .i64 t395, .int .i64 t396] 36 (0, 0)) (by (with_reducible repeat (first | refine blk_drewN ?_ _ | refine blk_drew ?_ | refine blk_alloc ?_ _)); refine blk_far ?_ NB398_410.out _; (with_reducible repeat (first | refine blk_drewN ?_ _ | refine blk_drew ?_ | refine blk_alloc ?_ _)); refine blk_far ?_ NB398_410.out _; (with_reducible repeat (first | refine blk_drewN ?_ _ | refine blk_drew ?_ | refine blk_alloc ?_ _)); exact BK398.out) hb); have n3_ := Aside0.mk (blk_below (g := gb410) (o := .cells #[.int .i64 t407, .int .u64 t408] 25 (0, 0)) (by (with_reducible repeat (first | refine blk_drewN ?_ _ | refine blk_drew ?_ | refine blk_alloc ?_ _)); refine blk_put (cs := #[.int .i64 t407, .int .u64 0]) ?_ 1 _ rfl; (with_reducible repeat (first | refine blk_drewN ?_ _ | refine blk_drew ?_ | refine blk_alloc ?_ _)); refine blk_put (cs := #[.int .i64 0, .int .u64 0]) ?_ 0 _ rfl; (with_reducible repeat (first | refine blk_drewN ?_ _ | refine blk_drew ?_ | refine blk_alloc ?_ _)); exact BK410.out) hb); have n4_ := Aside0.mk (below_step (by repeat (first | (with_reducible first | exact HB.out | apply below_alloc | apply pw_below_drewN | apply below_drew1 | refine below_set ?_ GE398.out | refine below_set ?_ GE410.out) | exact HB.out)) hb); clear HO_7; clear BK398; clear BK410; clear HB; have HO_7 := n0_; have HO413 := n1_; have BK398 := n2_; have BK410 := n3_; have HB := n4_; clear n0_ n1_ n2_ n3_ n4_; (try clear hb); (try clear hb2); (try clear hk); (try clear hi); (try clear ho0); obtain ⟨Ao38, co38, eo38⟩ := Kd.R_slice HO413.out; subst eo38) | ((with_reducible refine gate_callee (f := 21) rfl ?_); refine goesL_ (some 57) rfl rfl Tryd.func21 (by kernel_rfl) rfl #[.slice Ao31 x7_8.length co31, .slice Ao38 t411.length co38] rfl (by (try simp only [List.map_toArray, List.map_cons, List.map_nil]); first | done | rfl | (simp only [List.length_drop, List.length_take]; rfl)) ?_; (with_reducible refine (precision_Dot.calls _ _ x7_8 _ _ t411 t415 t416 t417 _ ?side1 ?side2 ?side3 ?side4 A29.out).mono ?_); (case side1 => repeat (first | exact (Kd.R_reads' HO_7.out).2.2 | (with_reducible refine Kd.C_alloc ?_ _) | (with_reducible refine Kd.C_drewN ?_ _) | (with_reducible refine Kd.C_drew ?_))); (case side2 => exact (Kd.R_reads' HO_7.out).2.1); (case side3 => repeat (first | exact (Kd.R_reads' HO413.out).2.2 | (with_reducible refine Kd.C_alloc ?_ _) | (with_reducible refine Kd.C_drewN ?_ _) | (with_reducible refine Kd.C_drew ?_))); (case side4 => exact (Kd.R_reads' HO413.out).2.1); rintro e w39 ⟨rfl, hb⟩; refine ⟨_, rfl, ?_⟩; have n0_ := Aside0.mk (Kd.R_below (by (with_reducible repeat (first | apply Kd.R_alloc | apply Kd.R_drewN | apply Kd.R_drew)); exact HO_7.out) hb); have n1_ := Aside0.mk (Kd.R_below (by (with_reducible repeat (first | apply Kd.R_alloc | apply Kd.R_drewN | apply Kd.R_drew)); exact HO413.out) hb); have n2_ := Aside0.mk (blk_below (g := gb398) (o := .cells #[.int .i64 t394, .int .i64 t395, .int .i64 t396] 36 (0, 0)) (by (with_reducible repeat (first | refine blk_drewN ?_ _ | refine blk_drew ?_ | refine blk_alloc ?_ _)); exact BK398.out) hb); have n3_ := Aside0.mk (blk_below (g := gb410) (o := .cells #[.int .i64 t407, .int .u64 t408] 25 (0, 0)) (by (with_reducible repeat (first | refine blk_drewN ?_ _ | refine blk_drew ?_ | refine blk_alloc ?_ _)); exact BK410.out) hb); have n4_ := Aside0.mk (below_step (by repeat (first | (with_reducible first | exact HB.out | apply below_alloc | apply pw_below_drewN | apply below_drew1 | refine below_set ?_ GE398.out | refine below_set ?_ GE410.out) | exact HB.out)) hb); clear HO_7; clear HO413; clear BK398; clear BK410; clear HB; have HO_7 := n0_; have HO413 := n1_; have BK398 := n2_; have BK410 := n3_; have HB := n4_; clear n0_ n1_ n2_ n3_ n4_; (try clear hb); (try clear hb2); (try clear hk); (try clear hi)) | ((with_reducible refine gate_dst (N := 13) rfl ?_); refine box_event ?hg (N := 13) ?hd (cs := #[.int .i64 0, .int .u64 0]) (t := 25) ?hr ?_; (case hd => rfl); (case hg => rfl); (case hr => first | (go_simp; done) | (go_simp; rfl)); intro gb418 hg w40 hbox hb; have n0_ := Aside0.mk (Kd.R_below (by (with_reducible repeat (first | apply Kd.R_alloc | apply Kd.R_drewN | apply Kd.R_drew)); exact HO_7.out) hb); have n1_ := Aside0.mk (Kd.R_below (by (with_reducible repeat (first | apply Kd.R_alloc | apply Kd.R_drewN | apply Kd.R_drew)); exact HO413.out) hb); have n2_ := Aside0.mk (blk_below (g := gb398) (o := .cells #[.int .i64 t394, .int .i64 t395, .int .i64 t396] 36 (0, 0)) (by (with_reducible repeat (first | refine blk_drewN ?_ _ | refine blk_drew ?_ | refine blk_alloc ?_ _)); exact BK398.out) hb); have n3_ := Aside0.mk (blk_below (g := gb410) (o := .cells #[.int .i64 t407, .int .u64 t408] 25 (0, 0)) (by (with_reducible repeat (first | refine blk_drewN ?_ _ | refine blk_drew ?_ | refine blk_alloc ?_ _)); exact BK410.out) hb); have n4_ := Aside0.mk (below_step (by repeat (first | (with_reducible first | exact HB.out | apply below_alloc | apply pw_below_drewN | apply below_drew1 | refine below_set ?_ GE398.out | refine below_set ?_ GE410.out) | exact HB.out)) hb); have n5_ := Aside0.mk (hbox); have n6_ := Aside0.mk ((by rw [hg]; exact (below_size (by repeat (first | (with_reducible first | exact HB.out | apply below_alloc | apply pw_below_drewN | apply below_drew1 | refine below_set ?_ GE398.out | refine below_set ?_ GE410.out) | exact HB.out))) : w.heap.size ≤ gb418)); have n7_ := Aside0.mk ((by rw [hg]; exact (below_size (by repeat (first | (with_reducible first | exact HB.out | apply below_alloc | apply pw_below_drewN | apply below_drew1 | refine below_set ?_ GE398.out | refine below_set ?_ GE410.out) | exact HB.out))) : w.heap.size ≤ gb418)); have n8_ := Aside0.mk ((by rw [hg]; exact Nat.ne_of_lt (blk_lt (g := gb398) (o := .cells #[.int .i64 t394, .int .i64 t395, .int .i64 t396] 36 (0, 0)) (by (with_reducible repeat (first | refine blk_drewN ?_ _ | refine blk_drew ?_ | refine blk_alloc ?_ _)); exact BK398.out)) : gb398 ≠ gb418)); have n9_ := Aside0.mk ((by rw [hg]; exact Nat.ne_of_gt (blk_lt (g := gb398) (o := .cells #[.int .i64 t394, .int .i64 t395, .int .i64 t396] 36 (0, 0)) (by (with_reducible repeat (first | refine blk_drewN ?_ _ | refine blk_drew ?_ | refine blk_alloc ?_ _)); exact BK398.out)) : gb418 ≠ gb398)); have n10_ := Aside0.mk ((by rw [hg]; exact Nat.ne_of_lt (blk_lt (g := gb410) (o := .cells #[.int .i64 t407, .int .u64 t408] 25 (0, 0)) (by (with_reducible repeat (first | refine blk_drewN ?_ _ | refine blk_drew ?_ | refine blk_alloc ?_ _)); exact BK410.out)) : gb410 ≠ gb418)); have n11_ := Aside0.mk ((by rw [hg]; exact Nat.ne_of_gt (blk_lt (g := gb410) (o := .cells #[.int .i64 t407, .int .u64 t408] 25 (0, 0)) (by (with_reducible repeat (first | refine blk_drewN ?_ _ | refine blk_drew ?_ | refine blk_alloc ?_ _)); exact BK410.out)) : gb418 ≠ gb410)); clear HO_7; clear HO413; clear BK398; clear BK410; clear HB; have HO_7 := n0_; have HO413 := n1_; have BK398 := n2_; have BK410 := n3_; have HB := n4_; have BK418 := n5_; have GW418 := n6_; have GE418 := n7_; have NB398_418 := n8_; have NB418_398 := n9_; have NB410_418 := n10_; have NB418_410 := n11_; clear n0_ n1_ n2_ n3_ n4_ n5_ n6_ n7_ n8_ n9_ n10_ n11_; clear hb hbox hg; have hnb41 := NB418_398.out; have hnc41 := NB398_418.out; have hnb42 := NB418_410.out; have hnc42 := NB410_418.out; have hcz43_0 : w40.cell? ⟨gb418, 0, none⟩ = some (.int .i64 0) := (blk_cell BK418.out 0).trans rfl; have hcz43_1 : w40.cell? ⟨gb418, 1, none⟩ = some (.int .u64 0) := (blk_cell BK418.out 1).trans rfl; have hfz43_0 := blk_frozen BK418.out 0; have hfz43_1 := blk_frozen BK418.out 1) | ((with_reducible refine gate_dst (N := 15) rfl ?_); refine box_event ?hg (N := 15) ?hd (cs := #[.int .i64 0, .int .u64 0]) (t := 25) ?hr ?_; (case hd => rfl); (case hg => rfl); (case hr => first | (go_simp; done) | (go_simp; rfl)); intro gb419 hg w44 hbox hb; have n0_ := Aside0.mk (Kd.R_below (by (with_reducible repeat (first | apply Kd.R_alloc | apply Kd.R_drewN | apply Kd.R_drew)); exact (Kd.R_mono (Kd.R_far (p := ⟨gb418, 1, none⟩) (Kd.R_far (p := ⟨gb418, 0, none⟩) (Kd.R_types HO_7.out BK418.out (by decide)) (fun _ hk => hk.2) (.int .i64 t415)) (fun _ hk => hk.2) (.int .u64 t416)) (fun _ h_ => h_.1))) hb); have n1_ := Aside0.mk (Kd.R_below (by (with_reducible repeat (first | apply Kd.R_alloc | apply Kd.R_drewN | apply Kd.R_drew)); exact (Kd.R_mono (Kd.R_far (p := ⟨gb418, 1, none⟩) (Kd.R_far (p := ⟨gb418, 0, none⟩) (Kd.R_types HO413.out BK418.out (by decide)) (fun _ hk => hk.2) (.int .i64 t415)) (fun _ hk => hk.2) (.int .u64 t416)) (fun _ h_ => h_.1))) hb); have n2_ := Aside0.mk (blk_below (g := gb398) (o := .cells #[.int .i64 t394, .int .i64 t395, .int .i64 t396] 36 (0, 0)) (by (with_reducible repeat (first | refine blk_drewN ?_ _ | refine blk_drew ?_ | refine blk_alloc ?_ _)); refine blk_far ?_ NB398_418.out _; (with_reducible repeat (first | refine blk_drewN ?_ _ | refine blk_drew ?_ | refine blk_alloc ?_ _)); refine blk_far ?_ NB398_418.out _; (with_reducible repeat (first | refine blk_drewN ?_ _ | refine blk_drew ?_ | refine blk_alloc ?_ _)); exact BK398.out) hb); have n3_ := Aside0.mk (blk_below (g := gb410) (o := .cells #[.int .i64 t407, .int .u64 t408] 25 (0, 0)) (by (with_reducible repeat (first | refine blk_drewN ?_ _ | refine blk_drew ?_ | refine blk_alloc ?_ _)); refine blk_far ?_ NB410_418.out _; (with_reducible repeat (first | refine blk_drewN ?_ _ | refine blk_drew ?_ | refine blk_alloc ?_ _)); refine blk_far ?_ NB410_418.out _; (with_reducible repeat (first | refine blk_drewN ?_ _ | refine blk_drew ?_ | refine blk_alloc ?_ _)); exact BK410.out) hb); have n4_ := Aside0.mk (blk_below (g := gb418) (o := .cells #[.int .i64 t415, .int .u64 t416] 25 (0, 0)) (by (with_reducible repeat (first | refine blk_drewN ?_ _ | refine blk_drew ?_ | refine blk_alloc ?_ _)); refine blk_put (cs := #[.int .i64 t415, .int .u64 0]) ?_ 1 _ rfl; (with_reducible repeat (first | refine blk_drewN ?_ _ | refine blk_drew ?_ | refine blk_alloc ?_ _)); refine blk_put (cs := #[.int .i64 0, .int .u64 0]) ?_ 0 _ rfl; (with_reducible repeat (first | refine blk_drewN ?_ _ | refine blk_drew ?_ | refine blk_alloc ?_ _)); exact BK418.out) hb); have n5_ := Aside0.mk (below_step (by repeat (first | (with_reducible first | exact HB.out | apply below_alloc | apply pw_below_drewN | apply below_drew1 | refine below_set ?_ GE398.out | refine below_set ?_ GE410.out | refine below_set ?_ GE418.out) | exact HB.out)) hb); have n6_ := Aside0.mk (hbox); have n7_ := Aside0.mk ((by rw [hg]; exact (below_size (by repeat (first | (with_reducible first | exact HB.out | apply below_alloc | apply pw_below_drewN | apply below_drew1 | refine below_set ?_ GE398.out | refine below_set ?_ GE410.out | refine below_set ?_ GE418.out) | exact HB.out))) : w.heap.size ≤ gb419)); have n8_ := Aside0.mk ((by rw [hg]; exact (below_size (by repeat (first | (with_reducible first | exact HB.out | apply below_alloc | apply pw_below_drewN | apply below_drew1 | refine below_set ?_ GE398.out | refine below_set ?_ GE410.out | refine below_set ?_ GE418.out) | exact HB.out))) : w.heap.size ≤ gb419)); have n9_ := Aside0.mk ((by rw [hg]; exact Nat.ne_of_lt (blk_lt (g := gb398) (o := .cells #[.int .i64 t394, .int .i64 t395, .int .i64 t396] 36 (0, 0)) (by (with_reducible repeat (first | refine blk_drewN ?_ _ | refine blk_drew ?_ | refine blk_alloc ?_ _)); refine blk_far ?_ NB398_418.out _; (with_reducible repeat (first | refine blk_drewN ?_ _ | refine blk_drew ?_ | refine blk_alloc ?_ _)); refine blk_far ?_ NB398_418.out _; (with_reducible repeat (first | refine blk_drewN ?_ _ | refine blk_drew ?_ | refine blk_alloc ?_ _)); exact BK398.out)) : gb398 ≠ gb419)); have n10_ := Aside0.mk ((by rw [hg]; exact Nat.ne_of_gt (blk_lt (g := gb398) (o := .cells #[.int .i64 t394, .int .i64 t395, .int .i64 t396] 36 (0, 0)) (by (with_reducible repeat (first | refine blk_drewN ?_ _ | refine blk_drew ?_ | refine blk_alloc ?_ _)); refine blk_far ?_ NB398_418.out _; (with_reducible repeat (first | refine blk_drewN ?_ _ | refine blk_drew ?_ | refine blk_alloc ?_ _)); refine blk_far ?_ NB398_418.out _; (with_reducible repeat (first | refine blk_drewN ?_ _ | refine blk_drew ?_ | refine blk_alloc ?_ _)); exact BK398.out)) : gb419 ≠ gb398)); have n11_ := Aside0.mk ((by rw [hg]; exact Nat.ne_of_lt (blk_lt (g := gb410) (o := .cells #[.int .i64 t407, .int .u64 t408] 25 (0, 0)) (by (with_reducible repeat (first | refine blk_drewN ?_ _ | refine blk_drew ?_ | refine blk_alloc ?_ _)); refine blk_far ?_ NB410_418.out _; (with_reducible repeat (first | refine blk_drewN ?_ _ | refine blk_drew ?_ | refine blk_alloc ?_ _)); refine blk_far ?_ NB410_418.out _; (with_reducible repeat (first | refine blk_drewN ?_ _ | refine blk_drew ?_ | refine blk_alloc ?_ _)); exact BK410.out)) : gb410 ≠ gb419)); have n12_ := Aside0.mk ((by rw [hg]; exact Nat.ne_of_gt (blk_lt (g := gb410) (o := .cells #[.int .i64 t407, .int .u64 t408] 25 (0, 0)) (by (with_reducible repeat (first | refine blk_drewN ?_ _ | refine blk_drew ?_ | refine blk_alloc ?_ _)); refine blk_far ?_ NB410_418.out _; (with_reducible repeat (first | refine blk_drewN ?_ _ | refine blk_drew ?_ | refine blk_alloc ?_ _)); refine blk_far ?_ NB410_418.out _; (with_reducible repeat (first | refine blk_drewN ?_ _ | refine blk_drew ?_ | refine blk_alloc ?_ _)); exact BK410.out)) : gb419 ≠ gb410)); have n13_ := Aside0.mk ((by rw [hg]; exact Nat.ne_of_lt (blk_lt (g := gb418) (o := .cells #[.int .i64 t415, .int .u64 t416] 25 (0, 0)) (by (with_reducible repeat (first | refine blk_drewN ?_ _ | refine blk_drew ?_ | refine blk_alloc ?_ _)); refine blk_put (cs := #[.int .i64 t415, .int .u64 0]) ?_ 1 _ rfl; (with_reducible repeat (first | refine blk_drewN ?_ _ | refine blk_drew ?_ | refine blk_alloc ?_ _)); refine blk_put (cs := #[.int .i64 0, .int .u64 0]) ?_ 0 _ rfl; (with_reducible repeat (first | refine blk_drewN ?_ _ | refine blk_drew ?_ | refine blk_alloc ?_ _)); exact BK418.out)) : gb418 ≠ gb419)); have n14_ := Aside0.mk ((by rw [hg]; exact Nat.ne_of_gt (blk_lt (g := gb418) (o := .cells #[.int .i64 t415, .int .u64 t416] 25 (0, 0)) (by (with_reducible repeat (first | refine blk_drewN ?_ _ | refine blk_drew ?_ | refine blk_alloc ?_ _)); refine blk_put (cs := #[.int .i64 t415, .int .u64 0]) ?_ 1 _ rfl; (with_reducible repeat (first | refine blk_drewN ?_ _ | refine blk_drew ?_ | refine blk_alloc ?_ _)); refine blk_put (cs := #[.int .i64 0, .int .u64 0]) ?_ 0 _ rfl; (with_reducible repeat (first | refine blk_drewN ?_ _ | refine blk_drew ?_ | refine blk_alloc ?_ _)); exact BK418.out)) : gb419 ≠ gb418)); clear HO_7; clear HO413; clear BK398; clear BK410; clear BK418; clear HB; have HO_7 := n0_; have HO413 := n1_; have BK398 := n2_; have BK410 := n3_; have BK418 := n4_; have HB := n5_; have BK419 := n6_; have GW419 := n7_; have GE419 := n8_; have NB398_419 := n9_; have NB419_398 := n10_; have NB410_419 := n11_; have NB419_410 := n12_; have NB418_419 := n13_; have NB419_418 := n14_; clear n0_ n1_ n2_ n3_ n4_ n5_ n6_ n7_ n8_ n9_ n10_ n11_ n12_ n13_ n14_; clear hb hbox hg; have hnb45 := NB419_398.out; have hnc45 := NB398_419.out; have hnb46 := NB419_410.out; have hnc46 := NB410_419.out; have hnb47 := NB419_418.out; have hnc47 := NB418_419.out; have hcz48_0 : w44.cell? ⟨gb419, 0, none⟩ = some (.int .i64 0) := (blk_cell BK419.out 0).trans rfl; have hcz48_1 : w44.cell? ⟨gb419, 1, none⟩ = some (.int .u64 0) := (blk_cell BK419.out 1).trans rfl; have hfz48_0 := blk_frozen BK419.out 0; have hfz48_1 := blk_frozen BK419.out 1))
        go_loopg [16, 63] kj8 (fun kq v16 v63 w' => ∃ (x16_2 : Bool) (x63_2 : Int) (x420000_2 : Int) (x420001_2 : Int), v16 = .bool x16_2 ∧ v63 = .int .i64 x63_2 ∧ Aside0 (synopticlaw22_PrecisionBounds.l1 kq x7_8 t409 t414 t417 x16_2 (x7_8.length : Int) x63_2 t394 t395 t396 t407 t408 t415 t416 x420000_2 x420001_2 = some r) ∧ Aside0 (kq ≤ kj8) ∧ Aside0 (Kd.R (Kd.int .i64) 3 w' w.heap.size (fun _ => True) (.slice Ao31 x7_8.length co31) x7_8) ∧ Aside0 (w'.heap[gb398]? = some (.cells #[.int .i64 t394, .int .i64 t395, .int .i64 t396] 36 (0, 0))) ∧ Aside0 (w'.heap[gb410]? = some (.cells #[.int .i64 t407, .int .u64 t408] 25 (0, 0))) ∧ Aside0 (w'.heap[gb418]? = some (.cells #[.int .i64 t415, .int .u64 t416] 25 (0, 0))) ∧ Aside0 (w'.heap[gb419]? = some (.cells #[.int .i64 x420000_2, .int .u64 x420001_2] 25 (0, 0))) ∧ Aside0 (Below w.heap.size w w'))
        case atStart => exact ⟨(true), (0), (0), (0), (by first | rfl | (simp; done) | (simp [*]; done)), (by first | rfl | (simp; done) | (simp [*]; done)), H', ⟨Nat.le_refl _⟩, ⟨by (with_reducible repeat (first | apply Kd.R_alloc | apply Kd.R_drewN | apply Kd.R_drew)); exact Kd.R_mono (Kd.R_far (p := ⟨gb419, 1, none⟩) (Kd.R_far (p := ⟨gb419, 0, none⟩) (Kd.R_types HO_7.out BK419.out (by decide)) (fun _ hk => hk.2) (.int .i64 0)) (fun _ hk => hk.2) (.int .u64 0)) (fun _ hk => trivial)⟩, ⟨by (with_reducible repeat (first | refine blk_drewN ?_ _ | refine blk_drew ?_ | refine blk_alloc ?_ _)); refine blk_far ?_ NB398_419.out _; (with_reducible repeat (first | refine blk_drewN ?_ _ | refine blk_drew ?_ | refine blk_alloc ?_ _)); refine blk_far ?_ NB398_419.out _; (with_reducible repeat (first | refine blk_drewN ?_ _ | refine blk_drew ?_ | refine blk_alloc ?_ _)); exact BK398.out⟩, ⟨by (with_reducible repeat (first | refine blk_drewN ?_ _ | refine blk_drew ?_ | refine blk_alloc ?_ _)); refine blk_far ?_ NB410_419.out _; (with_reducible repeat (first | refine blk_drewN ?_ _ | refine blk_drew ?_ | refine blk_alloc ?_ _)); refine blk_far ?_ NB410_419.out _; (with_reducible repeat (first | refine blk_drewN ?_ _ | refine blk_drew ?_ | refine blk_alloc ?_ _)); exact BK410.out⟩, ⟨by (with_reducible repeat (first | refine blk_drewN ?_ _ | refine blk_drew ?_ | refine blk_alloc ?_ _)); refine blk_far ?_ NB418_419.out _; (with_reducible repeat (first | refine blk_drewN ?_ _ | refine blk_drew ?_ | refine blk_alloc ?_ _)); refine blk_far ?_ NB418_419.out _; (with_reducible repeat (first | refine blk_drewN ?_ _ | refine blk_drew ?_ | refine blk_alloc ?_ _)); exact BK418.out⟩, ⟨by (with_reducible repeat (first | refine blk_drewN ?_ _ | refine blk_drew ?_ | refine blk_alloc ?_ _)); refine blk_put (cs := #[.int .i64 0, .int .u64 0]) ?_ 1 _ rfl; (with_reducible repeat (first | refine blk_drewN ?_ _ | refine blk_drew ?_ | refine blk_alloc ?_ _)); refine blk_put (cs := #[.int .i64 0, .int .u64 0]) ?_ 0 _ rfl; (with_reducible repeat (first | refine blk_drewN ?_ _ | refine blk_drew ?_ | refine blk_alloc ?_ _)); exact BK419.out⟩, ⟨by repeat (first | (with_reducible first | exact HB.out | apply below_alloc | apply pw_below_drewN | apply below_drew1 | refine below_set ?_ GE398.out | refine below_set ?_ GE410.out | refine below_set ?_ GE418.out | refine below_set ?_ GE419.out) | exact HB.out)⟩⟩
        case round =>
          clear H'
          try clear c1
          try clear c2
          try clear p2
          try clear q2
          try clear hx2
          try clear hf2
          try clear c3
          try clear c4
          try clear p6
          try clear c7
          try clear c8
          try clear c14
          try clear c15
          try clear c17
          try clear c18
          try clear c18b0
          try clear c18b1
          try clear c20
          try clear c20b0
          try clear c21
          try clear c22
          try clear c22b0
          try clear c23
          try clear c23b0
          try clear p24
          try clear q24
          try clear hx24
          try clear hf24
          try clear c28
          try clear c30
          try clear c31
          try clear c34
          try clear c41
          try clear c42
          try clear c45
          try clear c46
          try clear c47
          try clear hcz15_0
          try clear hcz15_1
          try clear hcz15_2
          try clear hcz30_0
          try clear hcz30_1
          try clear hcz30_2
          try clear hcz35_0
          try clear hcz35_1
          try clear hcz36_0
          try clear hcz36_1
          try clear hcz36_2
          try clear hcz43_0
          try clear hcz43_1
          try clear hcz48_0
          try clear hcz48_1
          try clear hfz15_0
          try clear hfz15_1
          try clear hfz15_2
          try clear hfz30_0
          try clear hfz30_1
          try clear hfz30_2
          try clear hfz35_0
          try clear hfz35_1
          try clear hfz36_0
          try clear hfz36_1
          try clear hfz36_2
          try clear hfz43_0
          try clear hfz43_1
          try clear hfz48_0
          try clear hfz48_1
          try clear hx24_0
          try clear p2
          try clear p24
          try clear p6
          try clear q2
          try clear q24
          obtain ⟨x16_2, x63_2, x420000_2, x420001_2, rfl, rfl, HA, HK2, HO_7, BK398, BK410, BK418, BK419, HB⟩ := hrel
          cases gk with
          | zero => exact absurd HA.out (by simp [synopticlaw22_PrecisionBounds.l1])
          | succ k2 =>
            have H := HA.out
            clear HA
            simp only [synopticlaw22_PrecisionBounds.l1] at H
            by_cases c49 : x63_2 < (x7_8.length : Int)
            · rw [if_pos c49] at H
              have c49b0 : decide (x63_2 < (x7_8.length : Int)) = true := decide_eq_true c49
              clear c49
              by_cases c50 : 0 ≤ x63_2
              · rw [if_pos c50] at H
                have c50b0 : decide (0 ≤ x63_2) = true := decide_eq_true c50
                clear c50
                by_cases c51 : x63_2 < (x7_8.length : Int)
                · rw [if_pos c51] at H
                  have c51b0 : decide (x63_2 < (x7_8.length : Int)) = true := decide_eq_true c51
                  clear c51
                  replace H := Option.bind_eq_some_iff.mp H
                  obtain ⟨⟨t422, t423⟩, A520, H⟩ := H
                  replace H : ((precision_Add.f x420000_2 x420001_2 t422 t423).bind fun bt424 => (if x16_2 = true then (if 0 < (x7_8.length : Int) then (synopticlaw22_PrecisionBounds.l1 k2 x7_8 t409 t414 t417 ((rd x7_8 x63_2) == (rd x7_8 0)) (x7_8.length : Int) (wrap64 (x63_2 + 1)) t394 t395 t396 t407 t408 t415 t416 bt424.1 bt424.2) else (none)) else (synopticlaw22_PrecisionBounds.l1 k2 x7_8 t409 t414 t417 false (x7_8.length : Int) (wrap64 (x63_2 + 1)) t394 t395 t396 t407 t408 t415 t416 bt424.1 bt424.2))) = some r := H
                  have A52 := Aside0.mk A520
                  clear A520
                  replace H := Option.bind_eq_some_iff.mp H
                  obtain ⟨⟨t424, t425⟩, A530, H⟩ := H
                  replace H : (if x16_2 = true then (if 0 < (x7_8.length : Int) then (synopticlaw22_PrecisionBounds.l1 k2 x7_8 t409 t414 t417 ((rd x7_8 x63_2) == (rd x7_8 0)) (x7_8.length : Int) (wrap64 (x63_2 + 1)) t394 t395 t396 t407 t408 t415 t416 t424 t425) else (none)) else (synopticlaw22_PrecisionBounds.l1 k2 x7_8 t409 t414 t417 false (x7_8.length : Int) (wrap64 (x63_2 + 1)) t394 t395 t396 t407 t408 t415 t416 t424 t425)) = some r := H
                  have A53 := Aside0.mk A530
                  clear A530
                  by_cases c54 : x16_2 = true
                  · subst c54
                    have H1 : (if 0 < (x7_8.length : Int) then (synopticlaw22_PrecisionBounds.l1 k2 x7_8 t409 t414 t417 ((rd x7_8 x63_2) == (rd x7_8 0)) (x7_8.length : Int) (wrap64 (x63_2 + 1)) t394 t395 t396 t407 t408 t415 t416 t424 t425) else (none)) = some r := by rw [if_pos rfl] at H; exact H
                    clear H
                    have H := H1
                    clear H1
                    by_cases c55 : 0 < (x7_8.length : Int)
                    · rw [if_pos c55] at H
                      have c55b0 : decide (0 < (x7_8.length : Int)) = true := decide_eq_true c55
                      have c55b1 : decide (0 < x7_8.length) = true := decide_eq_true (by omega)
                      clear c55
                      have H' := Aside0.mk H
                      clear H
                      try go_wp2
                      have n0_ := Aside0.mk (Kd.R_drew HO_7.out)
                      have n1_ := Aside0.mk (blk_drew BK398.out)
                      have n2_ := Aside0.mk (blk_drew BK410.out)
                      have n3_ := Aside0.mk (blk_drew BK418.out)
                      have n4_ := Aside0.mk (blk_drew BK419.out)
                      have n5_ := Aside0.mk (below_drew1 HB.out)
                      clear HO_7
                      clear BK398
                      clear BK410
                      clear BK418
                      clear BK419
                      clear HB
                      have HO_7 := n0_
                      have BK398 := n1_
                      have BK410 := n2_
                      have BK418 := n3_
                      have BK419 := n4_
                      have HB := n5_
                      clear n0_ n1_ n2_ n3_ n4_ n5_
                      have p420 : 0 ≤ (x63_2 : Int) := of_decide_eq_true (by first | (with_reducible assumption) | assumption)
                      have q420 : x63_2 < (x7_8.length : Int) := of_decide_eq_true (by first | (with_reducible assumption) | assumption)
                      obtain ⟨ad420, e420, hx420_0⟩ := Kd.at_int (Kd.R_reads' HO_7.out).2.2 x63_2 p420 q420
                      cases e420
                      replace p420 := eq_true p420
                      replace q420 := eq_true q420
                      have p421 : 0 ≤ (x63_2 : Int) := of_decide_eq_true (by first | (with_reducible assumption) | assumption)
                      have q421 : x63_2 < (x7_8.length : Int) := of_decide_eq_true (by first | (with_reducible assumption) | assumption)
                      obtain ⟨ad421, e421, hx421_0⟩ := Kd.at_int (Kd.R_reads' HO_7.out).2.2 x63_2 p421 q421
                      obtain rfl : ad420 = ad421 := (by injection e421)
                      replace p421 := eq_true p421
                      replace q421 := eq_true q421
                      refine start_ (n := 15) (S := fun w' => w'.cell? ⟨gb419, 0, none⟩ = some (.int .i64 x420000_2) ∧ w'.cell? ⟨gb419, 1, none⟩ = some (.int .u64 x420001_2) ∧ w'.cell? ⟨gb398, 0, none⟩ = some (.int .i64 t394) ∧ w'.cell? ⟨gb398, 1, none⟩ = some (.int .i64 t395) ∧ w'.cell? ⟨gb398, 2, none⟩ = some (.int .i64 t396) ∧ w'.cell? (ad420.add (x63_2).toNat) = some (.int .i64 (rd x7_8 x63_2)) ∧ w'.cell? (ad420.add (x63_2).toNat) = some (.int .i64 (rd x7_8 x63_2))) (ds := [14]) #[false, false, false, false, false, false, false, false, false, false, false, false, false, false, false] (by kernel_rfl) rfl rfl ⟨(blk_cell BK419.out 0).trans rfl, (blk_cell BK419.out 1).trans rfl, (blk_cell BK398.out 0).trans rfl, (blk_cell BK398.out 1).trans rfl, (blk_cell BK398.out 2).trans rfl, hx420_0, hx421_0⟩ (fun hHeld => ?_); refine with_tabW synopticlaw22_PrecisionBounds.tab20 synopticlaw22_PrecisionBounds.bits20 (fun HT_ HW_ => ?_)
                      generalize wr.drew = w56 at HO_7 BK398 BK410 BK418 BK419 HB hx420_0 hx421_0 hHeld ⊢
                      refine pure_ (i := 1) (N := some 67) (v := ?_) (a' := ?_) #[false, true, false, false, false, false, false, false, false, false, false, false, false, false, false] rfl rfl (any_of HT_.out (by kernel_rfl)) (fun _ _ _ h => h) (Or.inl ⟨by rfl, ?_⟩) ?_ ?_
                      rotate_left
                      · intro w'
                        go_simp
                        with_reducible rfl
                      rotate_left
                      · simp only [Act.put, List.setIfInBounds_toArray, List.set_cons_zero, List.set_cons_succ, i64_w]
                        rfl
                      refine pure_ (i := 3) (N := some 69) (v := ?_) (a' := ?_) #[false, true, false, true, false, false, false, false, false, false, false, false, false, false, false] rfl rfl (any_of HT_.out (by kernel_rfl)) (fun _ _ _ h => h) (Or.inl ⟨by rfl, ?_⟩) ?_ ?_
                      rotate_left
                      · intro w'
                        go_simp
                        with_reducible rfl
                      rotate_left
                      · simp only [Act.put, List.setIfInBounds_toArray, List.set_cons_zero, List.set_cons_succ, i64_w]
                        rfl
                      refine pure_ (i := 4) (N := some 70) (v := ?_) (a' := ?_) #[false, true, false, true, true, false, false, false, false, false, false, false, false, false, false] rfl rfl (any_of HT_.out (by kernel_rfl)) (fun _ _ _ h => h) (Or.inl ⟨by rfl, ?_⟩) ?_ ?_
                      rotate_left
                      · intro w'
                        go_simp
                        with_reducible rfl
                      rotate_left
                      · simp only [Act.put, List.setIfInBounds_toArray, List.set_cons_zero, List.set_cons_succ, i64_w]
                        rfl
                      refine pure_ (i := 5) (N := some 71) (v := ?_) (a' := ?_) #[false, true, false, true, true, true, false, false, false, false, false, false, false, false, false] rfl rfl (any_of HT_.out (by kernel_rfl)) (fun _ _ _ h => h) (Or.inl ⟨by rfl, ?_⟩) ?_ ?_
                      rotate_left
                      · intro w'
                        go_simp
                        with_reducible rfl
                      rotate_left
                      · simp only [Act.put, List.setIfInBounds_toArray, List.set_cons_zero, List.set_cons_succ, i64_w]
                        rfl
                      refine pure_ (i := 7) (N := some 73) (v := ?_) (a' := ?_) #[false, true, false, true, true, true, false, true, false, false, false, false, false, false, false] rfl rfl (any_of HT_.out (by kernel_rfl)) (fun _ _ _ h => h) (Or.inl ⟨by rfl, ?_⟩) ?_ ?_
                      rotate_left
                      · intro w'
                        go_simp
                        with_reducible rfl
                      rotate_left
                      · simp only [Act.put, List.setIfInBounds_toArray, List.set_cons_zero, List.set_cons_succ, i64_w]
                        rfl
                      refine pure_ (i := 8) (N := some 74) (v := ?_) (a' := ?_) #[false, true, false, true, true, true, false, true, true, false, false, false, false, false, false] rfl rfl (any_of HT_.out (by kernel_rfl)) (fun _ _ _ h => h) (Or.inl ⟨by rfl, ?_⟩) ?_ ?_
                      rotate_left
                      · intro w'
                        go_simp
                        with_reducible rfl
                      rotate_left
                      · simp only [Act.put, List.setIfInBounds_toArray, List.set_cons_zero, List.set_cons_succ, i64_w]
                        rfl
                      refine pure_ (i := 9) (N := some 75) (v := ?_) (a' := ?_) #[false, true, false, true, true, true, false, true, true, true, false, false, false, false, false] rfl rfl (any_of HT_.out (by kernel_rfl)) (fun _ _ _ h => h) (Or.inl ⟨by rfl, ?_⟩) ?_ ?_
                      rotate_left
                      · intro w'
                        go_simp
                        with_reducible rfl
                      rotate_left
                      · simp only [Act.put, List.setIfInBounds_toArray, List.set_cons_zero, List.set_cons_succ, i64_w]
                        rfl
                      refine take_ (i := 0) (N := some 66) (v := ?_) (a' := ?_) #[true, true, false, true, true, true, false, true, true, true, false, false, false, false, false] rfl rfl (take_ofW HT_.out HW_.out (by kernel_rfl)) (fun _ _ _ h => h) (Or.inl ⟨by rfl, ?_⟩) hHeld ?_ ?_
                      rotate_left
                      · rintro w' ⟨s0, s1, s2, s3, s4, s5, s6⟩
                        go_simp
                        with_reducible rfl
                      rotate_left
                      · simp only [Act.put, List.setIfInBounds_toArray, List.set_cons_zero, List.set_cons_succ, i64_w]
                        rfl
                      refine take_ (i := 2) (N := some 68) (v := ?_) (a' := ?_) #[true, true, true, true, true, true, false, true, true, true, false, false, false, false, false] rfl rfl (take_ofW HT_.out HW_.out (by kernel_rfl)) (fun _ _ _ h => h) (Or.inl ⟨by rfl, ?_⟩) hHeld ?_ ?_
                      rotate_left
                      · rintro w' ⟨s0, s1, s2, s3, s4, s5, s6⟩
                        go_simp
                        with_reducible rfl
                      rotate_left
                      · simp only [Act.put, List.setIfInBounds_toArray, List.set_cons_zero, List.set_cons_succ, i64_w]
                        rfl
                      refine take_ (i := 6) (N := some 72) (v := ?_) (a' := ?_) #[true, true, true, true, true, true, true, true, true, true, false, false, false, false, false] rfl rfl (take_ofW HT_.out HW_.out (by kernel_rfl)) (fun _ _ _ h => h) (Or.inl ⟨by rfl, ?_⟩) hHeld ?_ ?_
                      rotate_left
                      · rintro w' ⟨s0, s1, s2, s3, s4, s5, s6⟩
                        go_simp
                        with_reducible rfl
                      rotate_left
                      · simp only [Act.put, List.setIfInBounds_toArray, List.set_cons_zero, List.set_cons_succ, i64_w]
                        rfl
                      refine take_ (i := 10) (N := some 76) (v := ?_) (a' := ?_) #[true, true, true, true, true, true, true, true, true, true, true, false, false, false, false] rfl rfl (take_ofW HT_.out HW_.out (by kernel_rfl)) (fun _ _ _ h => h) (Or.inl ⟨by rfl, ?_⟩) hHeld ?_ ?_
                      rotate_left
                      · rintro w' ⟨s0, s1, s2, s3, s4, s5, s6⟩
                        go_simp
                        with_reducible rfl
                      rotate_left
                      · simp only [Act.put, List.setIfInBounds_toArray, List.set_cons_zero, List.set_cons_succ, i64_w]
                        rfl
                      refine pure_ (i := 11) (N := some 77) (v := ?_) (a' := ?_) #[true, true, true, true, true, true, true, true, true, true, true, true, false, false, false] rfl rfl (any_of HT_.out (by kernel_rfl)) (fun _ _ _ h => h) (Or.inl ⟨by rfl, ?_⟩) ?_ ?_
                      rotate_left
                      · intro w'
                        go_simp
                        with_reducible rfl
                      rotate_left
                      · simp only [Act.put, List.setIfInBounds_toArray, List.set_cons_zero, List.set_cons_succ, i64_w]
                        rfl
                      refine one_ (i := 12) (N := some 78) #[true, true, true, true, true, true, true, true, true, true, true, true, true, false, false] rfl rfl (one_of HT_.out (by kernel_rfl)) (by decide) (fun K hK => ?_)
                      refine goes_ Tryd.func10 (by kernel_rfl) rfl #[.int .i64 t396, .int .i64 (wrap64 ((rd x7_8 x63_2) * (rd x7_8 x63_2)))] (by rfl) rfl rfl (by (try simp only [List.map_toArray, List.map_cons, List.map_nil]); first | done | rfl | (simp only [List.length_drop, List.length_take]; rfl)) ?_
                      with_reducible refine (precision_Product.calls t396 (wrap64 ((rd x7_8 x63_2) * (rd x7_8 x63_2))) t422 t423 _ A52.out).mono ?_
                      rintro e w57 ⟨rfl, hb⟩
                      have HS5_ := (hb.cell (World.block_lt_of_cell? _ _ (hHeld.2.2.2.2.2.1))).trans (hHeld.2.2.2.2.2.1)
                      have HS6_ := (hb.cell (World.block_lt_of_cell? _ _ (hHeld.2.2.2.2.2.2))).trans (hHeld.2.2.2.2.2.2)
                      refine ⟨_, rfl, ?_⟩
                      have n0_ := Aside0.mk (Kd.R_below (by (with_reducible repeat (first | apply Kd.R_alloc | apply Kd.R_drewN | apply Kd.R_drew)); exact HO_7.out) hb)
                      have n1_ := Aside0.mk (blk_below (g := gb398) (o := .cells #[.int .i64 t394, .int .i64 t395, .int .i64 t396] 36 (0, 0)) (by (with_reducible repeat (first | refine blk_drewN ?_ _ | refine blk_drew ?_ | refine blk_alloc ?_ _)); exact BK398.out) hb)
                      have n2_ := Aside0.mk (blk_below (g := gb410) (o := .cells #[.int .i64 t407, .int .u64 t408] 25 (0, 0)) (by (with_reducible repeat (first | refine blk_drewN ?_ _ | refine blk_drew ?_ | refine blk_alloc ?_ _)); exact BK410.out) hb)
                      have n3_ := Aside0.mk (blk_below (g := gb418) (o := .cells #[.int .i64 t415, .int .u64 t416] 25 (0, 0)) (by (with_reducible repeat (first | refine blk_drewN ?_ _ | refine blk_drew ?_ | refine blk_alloc ?_ _)); exact BK418.out) hb)
                      have n4_ := Aside0.mk (blk_below (g := gb419) (o := .cells #[.int .i64 x420000_2, .int .u64 x420001_2] 25 (0, 0)) (by (with_reducible repeat (first | refine blk_drewN ?_ _ | refine blk_drew ?_ | refine blk_alloc ?_ _)); exact BK419.out) hb)
                      have n5_ := Aside0.mk (below_step (by repeat (first | (with_reducible first | exact HB.out | apply below_alloc | apply pw_below_drewN | apply below_drew1 | refine below_set ?_ GE398.out | refine below_set ?_ GE410.out | refine below_set ?_ GE418.out | refine below_set ?_ GE419.out) | exact HB.out)) hb)
                      clear HO_7
                      clear BK398
                      clear BK410
                      clear BK418
                      clear BK419
                      clear HB
                      have HO_7 := n0_
                      have BK398 := n1_
                      have BK410 := n2_
                      have BK418 := n3_
                      have BK419 := n4_
                      have HB := n5_
                      clear n0_ n1_ n2_ n3_ n4_ n5_
                      (try clear hb)
                      (try clear hb2)
                      (try clear hk)
                      (try clear hi)
                      refine hK.out _ _ ⟨(blk_cell BK419.out 0).trans rfl, (blk_cell BK419.out 1).trans rfl, (blk_cell BK398.out 0).trans rfl, (blk_cell BK398.out 1).trans rfl, (blk_cell BK398.out 2).trans rfl, HS5_, HS6_⟩ (fun hHeld => ?_)
                      clear hK K
                      refine norm_ (a' := ?_) ?_ ?_
                      rotate_left
                      · show Act.put _ (some 78) _ = _
                        simp only [Act.put, List.setIfInBounds_toArray, List.set_cons_zero, List.set_cons_succ, i64_w]
                        rfl
                      refine one_ (i := 13) (N := some 79) #[true, true, true, true, true, true, true, true, true, true, true, true, true, true, false] rfl rfl (one_of HT_.out (by kernel_rfl)) (by decide) (fun K hK => ?_)
                      refine goes_ Tryd.func9 (by kernel_rfl) rfl #[.agg #[.int .i64 x420000_2, .int .u64 x420001_2], .agg #[.int .i64 t422, .int .u64 t423]] (by rfl) rfl rfl (by (try simp only [List.map_toArray, List.map_cons, List.map_nil]); first | done | rfl | (simp only [List.length_drop, List.length_take]; rfl)) ?_
                      with_reducible refine (precision_Add.calls x420000_2 x420001_2 t422 t423 t424 t425 _ A53.out).mono ?_
                      rintro e w58 ⟨rfl, hb⟩
                      have HS5_ := (hb.cell (World.block_lt_of_cell? _ _ (hHeld.2.2.2.2.2.1))).trans (hHeld.2.2.2.2.2.1)
                      have HS6_ := (hb.cell (World.block_lt_of_cell? _ _ (hHeld.2.2.2.2.2.2))).trans (hHeld.2.2.2.2.2.2)
                      refine ⟨_, rfl, ?_⟩
                      have n0_ := Aside0.mk (Kd.R_below (by (with_reducible repeat (first | apply Kd.R_alloc | apply Kd.R_drewN | apply Kd.R_drew)); exact HO_7.out) hb)
                      have n1_ := Aside0.mk (blk_below (g := gb398) (o := .cells #[.int .i64 t394, .int .i64 t395, .int .i64 t396] 36 (0, 0)) (by (with_reducible repeat (first | refine blk_drewN ?_ _ | refine blk_drew ?_ | refine blk_alloc ?_ _)); exact BK398.out) hb)
                      have n2_ := Aside0.mk (blk_below (g := gb410) (o := .cells #[.int .i64 t407, .int .u64 t408] 25 (0, 0)) (by (with_reducible repeat (first | refine blk_drewN ?_ _ | refine blk_drew ?_ | refine blk_alloc ?_ _)); exact BK410.out) hb)
                      have n3_ := Aside0.mk (blk_below (g := gb418) (o := .cells #[.int .i64 t415, .int .u64 t416] 25 (0, 0)) (by (with_reducible repeat (first | refine blk_drewN ?_ _ | refine blk_drew ?_ | refine blk_alloc ?_ _)); exact BK418.out) hb)
                      have n4_ := Aside0.mk (blk_below (g := gb419) (o := .cells #[.int .i64 x420000_2, .int .u64 x420001_2] 25 (0, 0)) (by (with_reducible repeat (first | refine blk_drewN ?_ _ | refine blk_drew ?_ | refine blk_alloc ?_ _)); exact BK419.out) hb)
                      have n5_ := Aside0.mk (below_step (by repeat (first | (with_reducible first | exact HB.out | apply below_alloc | apply pw_below_drewN | apply below_drew1 | refine below_set ?_ GE398.out | refine below_set ?_ GE410.out | refine below_set ?_ GE418.out | refine below_set ?_ GE419.out) | exact HB.out)) hb)
                      clear HO_7
                      clear BK398
                      clear BK410
                      clear BK418
                      clear BK419
                      clear HB
                      have HO_7 := n0_
                      have BK398 := n1_
                      have BK410 := n2_
                      have BK418 := n3_
                      have BK419 := n4_
                      have HB := n5_
                      clear n0_ n1_ n2_ n3_ n4_ n5_
                      (try clear hb)
                      (try clear hb2)
                      (try clear hk)
                      (try clear hi)
                      refine hK.out _ _ ⟨(blk_cell BK419.out 0).trans rfl, (blk_cell BK419.out 1).trans rfl, (blk_cell BK398.out 0).trans rfl, (blk_cell BK398.out 1).trans rfl, (blk_cell BK398.out 2).trans rfl, HS5_, HS6_⟩ (fun hHeld => ?_)
                      clear hK K
                      refine norm_ (a' := ?_) ?_ ?_
                      rotate_left
                      · show Act.put _ (some 79) _ = _
                        simp only [Act.put, List.setIfInBounds_toArray, List.set_cons_zero, List.set_cons_succ, i64_w]
                        rfl
                      refine last_ (i := 14) (N := none) #[true, true, true, true, true, true, true, true, true, true, true, true, true, true, true] rfl rfl (one_of HT_.out (by kernel_rfl)) (by decide) (fun K hK => ?_)
                      have hs59 : w58.cell? ⟨gb419, 0, none⟩ = some (.int .i64 x420000_2) := (blk_cell BK419.out 0).trans rfl
                      have hfs59 := blk_frozen BK419.out 0
                      have hns59_0 := NB398_419.out
                      have hns59_1 := NB410_419.out
                      have hns59_2 := NB418_419.out
                      have hms59_0 := NB419_398.out
                      have hms59_1 := NB419_410.out
                      have hms59_2 := NB419_418.out
                      have hs60 : w58.cell? ⟨gb419, 1, none⟩ = some (.int .u64 x420001_2) := (blk_cell BK419.out 1).trans rfl
                      have hfs60 := blk_frozen BK419.out 1
                      have hns60_0 := NB398_419.out
                      have hns60_1 := NB410_419.out
                      have hns60_2 := NB418_419.out
                      have hms60_0 := NB419_398.out
                      have hms60_1 := NB419_410.out
                      have hms60_2 := NB419_418.out
                      refine skip_ (w1 := ?_) (by rfl) rfl ?_ ?_
                      rotate_left
                      · go_simp
                        rfl
                      refine hK.out _ _ ?_
                      clear hK K
                      refine done_ (done_of HT_.out (by kernel_rfl)) ?_
                      try go_wp2
                      have n0_ : Aside0 (Kd.R (Kd.int .i64) 3 ((w58.setCell ⟨gb419, 0, none⟩ (.int .i64 t424)).setCell ⟨gb419, 1, none⟩ (.int .u64 t425)) w.heap.size (fun _ => True) (.slice (some ad420) x7_8.length co31) x7_8) := ⟨by (with_reducible repeat (first | apply Kd.R_alloc | apply Kd.R_drewN | apply Kd.R_drew)); exact Kd.R_mono (Kd.R_far (p := ⟨gb419, 1, none⟩) (Kd.R_far (p := ⟨gb419, 0, none⟩) (Kd.R_types HO_7.out BK419.out (by decide)) (fun _ hk => hk.2) (.int .i64 t424)) (fun _ hk => hk.2) (.int .u64 t425)) (fun _ hk => trivial)⟩
                      have n1_ : Aside0 (((w58.setCell ⟨gb419, 0, none⟩ (.int .i64 t424)).setCell ⟨gb419, 1, none⟩ (.int .u64 t425)).heap[gb398]? = some (.cells #[.int .i64 t394, .int .i64 t395, .int .i64 t396] 36 (0, 0))) := ⟨by (with_reducible repeat (first | refine blk_drewN ?_ _ | refine blk_drew ?_ | refine blk_alloc ?_ _)); refine blk_far ?_ NB398_419.out _; (with_reducible repeat (first | refine blk_drewN ?_ _ | refine blk_drew ?_ | refine blk_alloc ?_ _)); refine blk_far ?_ NB398_419.out _; (with_reducible repeat (first | refine blk_drewN ?_ _ | refine blk_drew ?_ | refine blk_alloc ?_ _)); exact BK398.out⟩
                      have n2_ : Aside0 (((w58.setCell ⟨gb419, 0, none⟩ (.int .i64 t424)).setCell ⟨gb419, 1, none⟩ (.int .u64 t425)).heap[gb410]? = some (.cells #[.int .i64 t407, .int .u64 t408] 25 (0, 0))) := ⟨by (with_reducible repeat (first | refine blk_drewN ?_ _ | refine blk_drew ?_ | refine blk_alloc ?_ _)); refine blk_far ?_ NB410_419.out _; (with_reducible repeat (first | refine blk_drewN ?_ _ | refine blk_drew ?_ | refine blk_alloc ?_ _)); refine blk_far ?_ NB410_419.out _; (with_reducible repeat (first | refine blk_drewN ?_ _ | refine blk_drew ?_ | refine blk_alloc ?_ _)); exact BK410.out⟩
                      have n3_ : Aside0 (((w58.setCell ⟨gb419, 0, none⟩ (.int .i64 t424)).setCell ⟨gb419, 1, none⟩ (.int .u64 t425)).heap[gb418]? = some (.cells #[.int .i64 t415, .int .u64 t416] 25 (0, 0))) := ⟨by (with_reducible repeat (first | refine blk_drewN ?_ _ | refine blk_drew ?_ | refine blk_alloc ?_ _)); refine blk_far ?_ NB418_419.out _; (with_reducible repeat (first | refine blk_drewN ?_ _ | refine blk_drew ?_ | refine blk_alloc ?_ _)); refine blk_far ?_ NB418_419.out _; (with_reducible repeat (first | refine blk_drewN ?_ _ | refine blk_drew ?_ | refine blk_alloc ?_ _)); exact BK418.out⟩
                      have n4_ : Aside0 (((w58.setCell ⟨gb419, 0, none⟩ (.int .i64 t424)).setCell ⟨gb419, 1, none⟩ (.int .u64 t425)).heap[gb419]? = some (.cells #[.int .i64 t424, .int .u64 t425] 25 (0, 0))) := ⟨by (with_reducible repeat (first | refine blk_drewN ?_ _ | refine blk_drew ?_ | refine blk_alloc ?_ _)); refine blk_put (cs := #[.int .i64 t424, .int .u64 x420001_2]) ?_ 1 _ rfl; (with_reducible repeat (first | refine blk_drewN ?_ _ | refine blk_drew ?_ | refine blk_alloc ?_ _)); refine blk_put (cs := #[.int .i64 x420000_2, .int .u64 x420001_2]) ?_ 0 _ rfl; (with_reducible repeat (first | refine blk_drewN ?_ _ | refine blk_drew ?_ | refine blk_alloc ?_ _)); exact BK419.out⟩
                      have n5_ : Aside0 (Below w.heap.size w ((w58.setCell ⟨gb419, 0, none⟩ (.int .i64 t424)).setCell ⟨gb419, 1, none⟩ (.int .u64 t425))) := ⟨by repeat (first | (with_reducible first | exact HB.out | apply below_alloc | apply pw_below_drewN | apply below_drew1 | refine below_set ?_ GE398.out | refine below_set ?_ GE410.out | refine below_set ?_ GE418.out | refine below_set ?_ GE419.out) | exact HB.out)⟩
                      (try clear HO_7)
                      (try clear BK398)
                      (try clear BK410)
                      (try clear BK418)
                      (try clear BK419)
                      (try clear HB)
                      generalize ((w58.setCell ⟨gb419, 0, none⟩ (.int .i64 t424)).setCell ⟨gb419, 1, none⟩ (.int .u64 t425)) = w61 at n0_ n1_ n2_ n3_ n4_ n5_ ⊢
                      have HO_7 := n0_
                      have BK398 := n1_
                      have BK410 := n2_
                      have BK418 := n3_
                      have BK419 := n4_
                      have HB := n5_
                      clear n0_ n1_ n2_ n3_ n4_ n5_
                      have n0_ := Aside0.mk (Kd.R_drew HO_7.out)
                      have n1_ := Aside0.mk (blk_drew BK398.out)
                      have n2_ := Aside0.mk (blk_drew BK410.out)
                      have n3_ := Aside0.mk (blk_drew BK418.out)
                      have n4_ := Aside0.mk (blk_drew BK419.out)
                      have n5_ := Aside0.mk (below_drew1 HB.out)
                      clear HO_7
                      clear BK398
                      clear BK410
                      clear BK418
                      clear BK419
                      clear HB
                      have HO_7 := n0_
                      have BK398 := n1_
                      have BK410 := n2_
                      have BK418 := n3_
                      have BK419 := n4_
                      have HB := n5_
                      clear n0_ n1_ n2_ n3_ n4_ n5_
                      have p426 : 0 ≤ (x63_2 : Int) := of_decide_eq_true (by first | (with_reducible assumption) | assumption)
                      have q426 : x63_2 < (x7_8.length : Int) := of_decide_eq_true (by first | (with_reducible assumption) | assumption)
                      obtain ⟨ad426, e426, hx426_0⟩ := Kd.at_int (Kd.R_reads' HO_7.out).2.2 x63_2 p426 q426
                      obtain rfl : ad420 = ad426 := (by injection e426)
                      replace p426 := eq_true p426
                      replace q426 := eq_true q426
                      have p427 : 0 ≤ (0 : Int) := (by omega)
                      have q427 : 0 < (x7_8.length : Int) := of_decide_eq_true (by first | (with_reducible assumption) | assumption)
                      obtain ⟨ad427, e427, hx427_0⟩ := Kd.at_int (Kd.R_reads' HO_7.out).2.2 0 p427 q427
                      obtain rfl : ad420 = ad427 := (by injection e427)
                      have qi427 : (0 < x7_8.length) = True := eq_true (by omega)
                      (try rw [show ((0 : Int)).toNat = 0 from rfl] at hx427_0)
                      (try rw [Addr.add_zero'] at hx427_0)
                      replace p427 := eq_true p427
                      replace q427 := eq_true q427
                      refine start_ (n := 12) (S := fun w' => w'.cell? (ad420.add (x63_2).toNat) = some (.int .i64 (rd x7_8 x63_2)) ∧ w'.cell? ad420 = some (.int .i64 (rd x7_8 0))) (ds := []) #[false, false, false, false, false, false, false, false, false, false, false, false] (by kernel_rfl) rfl rfl ⟨hx426_0, hx427_0⟩ (fun hHeld => ?_); refine with_tabW synopticlaw22_PrecisionBounds.tab21 synopticlaw22_PrecisionBounds.bits21 (fun HT_ HW_ => ?_)
                      generalize w61.drew = w62 at HO_7 BK398 BK410 BK418 BK419 HB hx426_0 hx427_0 hHeld ⊢
                      refine pure_ (i := 0) (N := some 80) (v := ?_) (a' := ?_) #[true, false, false, false, false, false, false, false, false, false, false, false] rfl rfl (any_of HT_.out (by kernel_rfl)) (fun _ _ _ h => h) (Or.inl ⟨by rfl, ?_⟩) ?_ ?_
                      rotate_left
                      · intro w'
                        go_simp
                        with_reducible rfl
                      rotate_left
                      · simp only [Act.put, List.setIfInBounds_toArray, List.set_cons_zero, List.set_cons_succ, i64_w]
                        rfl
                      refine pure_ (i := 1) (N := some 81) (v := ?_) (a' := ?_) #[true, true, false, false, false, false, false, false, false, false, false, false] rfl rfl (any_of HT_.out (by kernel_rfl)) (fun _ _ _ h => h) (Or.inl ⟨by rfl, ?_⟩) ?_ ?_
                      rotate_left
                      · intro w'
                        go_simp
                        with_reducible rfl
                      rotate_left
                      · simp only [Act.put, List.setIfInBounds_toArray, List.set_cons_zero, List.set_cons_succ, i64_w]
                        rfl
                      refine pure_ (i := 2) (N := some 82) (v := ?_) (a' := ?_) #[true, true, true, false, false, false, false, false, false, false, false, false] rfl rfl (any_of HT_.out (by kernel_rfl)) (fun _ _ _ h => h) (Or.inl ⟨by rfl, ?_⟩) ?_ ?_
                      rotate_left
                      · intro w'
                        go_simp
                        with_reducible rfl
                      rotate_left
                      · simp only [Act.put, List.setIfInBounds_toArray, List.set_cons_zero, List.set_cons_succ, i64_w]
                        rfl
                      refine pure_ (i := 3) (N := some 83) (v := ?_) (a' := ?_) #[true, true, true, true, false, false, false, false, false, false, false, false] rfl rfl (any_of HT_.out (by kernel_rfl)) (fun _ _ _ h => h) (Or.inl ⟨by rfl, ?_⟩) ?_ ?_
                      rotate_left
                      · intro w'
                        go_simp
                        with_reducible rfl
                      rotate_left
                      · simp only [Act.put, List.setIfInBounds_toArray, List.set_cons_zero, List.set_cons_succ, i64_w]
                        rfl
                      refine pure_ (i := 4) (N := some 84) (v := ?_) (a' := ?_) #[true, true, true, true, true, false, false, false, false, false, false, false] rfl rfl (any_of HT_.out (by kernel_rfl)) (fun _ _ _ h => h) (Or.inl ⟨by rfl, ?_⟩) ?_ ?_
                      rotate_left
                      · intro w'
                        go_simp
                        with_reducible rfl
                      rotate_left
                      · simp only [Act.put, List.setIfInBounds_toArray, List.set_cons_zero, List.set_cons_succ, i64_w]
                        rfl
                      refine pure_ (i := 6) (N := some 86) (v := ?_) (a' := ?_) #[true, true, true, true, true, false, true, false, false, false, false, false] rfl rfl (any_of HT_.out (by kernel_rfl)) (fun _ _ _ h => h) (Or.inl ⟨by rfl, ?_⟩) ?_ ?_
                      rotate_left
                      · intro w'
                        go_simp
                        with_reducible rfl
                      rotate_left
                      · simp only [Act.put, List.setIfInBounds_toArray, List.set_cons_zero, List.set_cons_succ, i64_w]
                        rfl
                      refine pure_ (i := 7) (N := some 87) (v := ?_) (a' := ?_) #[true, true, true, true, true, false, true, true, false, false, false, false] rfl rfl (any_of HT_.out (by kernel_rfl)) (fun _ _ _ h => h) (Or.inl ⟨by rfl, ?_⟩) ?_ ?_
                      rotate_left
                      · intro w'
                        go_simp
                        with_reducible rfl
                      rotate_left
                      · simp only [Act.put, List.setIfInBounds_toArray, List.set_cons_zero, List.set_cons_succ, i64_w]
                        rfl
                      refine take_ (i := 5) (N := some 85) (v := ?_) (a' := ?_) #[true, true, true, true, true, true, true, true, false, false, false, false] rfl rfl (take_ofW HT_.out HW_.out (by kernel_rfl)) (fun _ _ _ h => h) (Or.inl ⟨by rfl, ?_⟩) hHeld ?_ ?_
                      rotate_left
                      · rintro w' ⟨s0, s1⟩
                        go_simp
                        with_reducible rfl
                      rotate_left
                      · simp only [Act.put, List.setIfInBounds_toArray, List.set_cons_zero, List.set_cons_succ, i64_w]
                        rfl
                      refine take_ (i := 8) (N := some 88) (v := ?_) (a' := ?_) #[true, true, true, true, true, true, true, true, true, false, false, false] rfl rfl (take_ofW HT_.out HW_.out (by kernel_rfl)) (fun _ _ _ h => h) (Or.inl ⟨by rfl, ?_⟩) hHeld ?_ ?_
                      rotate_left
                      · rintro w' ⟨s0, s1⟩
                        go_simp
                        with_reducible rfl
                      rotate_left
                      · simp only [Act.put, List.setIfInBounds_toArray, List.set_cons_zero, List.set_cons_succ, i64_w]
                        rfl
                      refine pure_ (i := 9) (N := some 89) (v := ?_) (a' := ?_) #[true, true, true, true, true, true, true, true, true, true, false, false] rfl rfl (any_of HT_.out (by kernel_rfl)) (fun _ _ _ h => h) (Or.inl ⟨by rfl, ?_⟩) ?_ ?_
                      rotate_left
                      · intro w'
                        go_simp
                        with_reducible rfl
                      rotate_left
                      · simp only [Act.put, List.setIfInBounds_toArray, List.set_cons_zero, List.set_cons_succ, i64_w]
                        rfl
                      refine pure_ (i := 10) (N := some 90) (v := ?_) (a' := ?_) #[true, true, true, true, true, true, true, true, true, true, true, false] rfl rfl (any_of HT_.out (by kernel_rfl)) (fun _ _ _ h => h) (Or.inl ⟨by rfl, ?_⟩) ?_ ?_
                      rotate_left
                      · intro w'
                        go_simp
                        with_reducible rfl
                      rotate_left
                      · simp only [Act.put, List.setIfInBounds_toArray, List.set_cons_zero, List.set_cons_succ, i64_w]
                        rfl
                      refine pure_ (i := 11) (N := some 16) (v := ?_) (a' := ?_) #[true, true, true, true, true, true, true, true, true, true, true, true] rfl rfl (any_of HT_.out (by kernel_rfl)) (fun _ _ _ h => h) (Or.inl ⟨by rfl, ?_⟩) ?_ ?_
                      rotate_left
                      · intro w'
                        go_simp
                        with_reducible rfl
                      rotate_left
                      · simp only [Act.put, List.setIfInBounds_toArray, List.set_cons_zero, List.set_cons_succ, i64_w]
                        rfl
                      refine done_ (done_of HT_.out (by kernel_rfl)) ?_
                      try go_wp2
                      go_roundg k2
                      case measure => have := HJ8.out; have := HK2.out; omega
                      case rel => exact ⟨(((rd x7_8 x63_2) == (rd x7_8 0))), (wrap64 (x63_2 + 1)), (t424), (t425), (by first | rfl | (simp; done) | (simp [*]; done)), (by first | rfl | (simp; done) | (simp [*]; done)), H', ⟨by have := HJ8.out; have := HK2.out; omega⟩, ⟨by (with_reducible repeat (first | apply Kd.R_alloc | apply Kd.R_drewN | apply Kd.R_drew)); exact HO_7.out⟩, ⟨by (with_reducible repeat (first | refine blk_drewN ?_ _ | refine blk_drew ?_ | refine blk_alloc ?_ _)); exact BK398.out⟩, ⟨by (with_reducible repeat (first | refine blk_drewN ?_ _ | refine blk_drew ?_ | refine blk_alloc ?_ _)); exact BK410.out⟩, ⟨by (with_reducible repeat (first | refine blk_drewN ?_ _ | refine blk_drew ?_ | refine blk_alloc ?_ _)); exact BK418.out⟩, ⟨by (with_reducible repeat (first | refine blk_drewN ?_ _ | refine blk_drew ?_ | refine blk_alloc ?_ _)); exact BK419.out⟩, ⟨by repeat (first | (with_reducible first | exact HB.out | apply below_alloc | apply pw_below_drewN | apply below_drew1 | refine below_set ?_ GE398.out | refine below_set ?_ GE410.out | refine below_set ?_ GE418.out | refine below_set ?_ GE419.out) | exact HB.out)⟩⟩
                    · rw [if_neg c55] at H
                      exact absurd H (by simp)
                  · replace c54 := Bool.eq_false_iff.mpr c54
                    subst c54
                    have H1 : (synopticlaw22_PrecisionBounds.l1 k2 x7_8 t409 t414 t417 false (x7_8.length : Int) (wrap64 (x63_2 + 1)) t394 t395 t396 t407 t408 t415 t416 t424 t425) = some r := by rw [if_neg (show ¬ (false = true) by decide)] at H; exact H
                    clear H
                    have H := H1
                    clear H1
                    have H' := Aside0.mk H
                    clear H
                    try go_wp2
                    have n0_ := Aside0.mk (Kd.R_drew HO_7.out)
                    have n1_ := Aside0.mk (blk_drew BK398.out)
                    have n2_ := Aside0.mk (blk_drew BK410.out)
                    have n3_ := Aside0.mk (blk_drew BK418.out)
                    have n4_ := Aside0.mk (blk_drew BK419.out)
                    have n5_ := Aside0.mk (below_drew1 HB.out)
                    clear HO_7
                    clear BK398
                    clear BK410
                    clear BK418
                    clear BK419
                    clear HB
                    have HO_7 := n0_
                    have BK398 := n1_
                    have BK410 := n2_
                    have BK418 := n3_
                    have BK419 := n4_
                    have HB := n5_
                    clear n0_ n1_ n2_ n3_ n4_ n5_
                    have p420 : 0 ≤ (x63_2 : Int) := of_decide_eq_true (by first | (with_reducible assumption) | assumption)
                    have q420 : x63_2 < (x7_8.length : Int) := of_decide_eq_true (by first | (with_reducible assumption) | assumption)
                    obtain ⟨ad420, e420, hx420_0⟩ := Kd.at_int (Kd.R_reads' HO_7.out).2.2 x63_2 p420 q420
                    cases e420
                    replace p420 := eq_true p420
                    replace q420 := eq_true q420
                    have p421 : 0 ≤ (x63_2 : Int) := of_decide_eq_true (by first | (with_reducible assumption) | assumption)
                    have q421 : x63_2 < (x7_8.length : Int) := of_decide_eq_true (by first | (with_reducible assumption) | assumption)
                    obtain ⟨ad421, e421, hx421_0⟩ := Kd.at_int (Kd.R_reads' HO_7.out).2.2 x63_2 p421 q421
                    obtain rfl : ad420 = ad421 := (by injection e421)
                    replace p421 := eq_true p421
                    replace q421 := eq_true q421
                    refine start_ (n := 15) (S := fun w' => w'.cell? ⟨gb419, 0, none⟩ = some (.int .i64 x420000_2) ∧ w'.cell? ⟨gb419, 1, none⟩ = some (.int .u64 x420001_2) ∧ w'.cell? ⟨gb398, 0, none⟩ = some (.int .i64 t394) ∧ w'.cell? ⟨gb398, 1, none⟩ = some (.int .i64 t395) ∧ w'.cell? ⟨gb398, 2, none⟩ = some (.int .i64 t396) ∧ w'.cell? (ad420.add (x63_2).toNat) = some (.int .i64 (rd x7_8 x63_2)) ∧ w'.cell? (ad420.add (x63_2).toNat) = some (.int .i64 (rd x7_8 x63_2))) (ds := [14]) #[false, false, false, false, false, false, false, false, false, false, false, false, false, false, false] (by kernel_rfl) rfl rfl ⟨(blk_cell BK419.out 0).trans rfl, (blk_cell BK419.out 1).trans rfl, (blk_cell BK398.out 0).trans rfl, (blk_cell BK398.out 1).trans rfl, (blk_cell BK398.out 2).trans rfl, hx420_0, hx421_0⟩ (fun hHeld => ?_); refine with_tabW synopticlaw22_PrecisionBounds.tab20 synopticlaw22_PrecisionBounds.bits20 (fun HT_ HW_ => ?_)
                    generalize wr.drew = w63 at HO_7 BK398 BK410 BK418 BK419 HB hx420_0 hx421_0 hHeld ⊢
                    refine pure_ (i := 1) (N := some 67) (v := ?_) (a' := ?_) #[false, true, false, false, false, false, false, false, false, false, false, false, false, false, false] rfl rfl (any_of HT_.out (by kernel_rfl)) (fun _ _ _ h => h) (Or.inl ⟨by rfl, ?_⟩) ?_ ?_
                    rotate_left
                    · intro w'
                      go_simp
                      with_reducible rfl
                    rotate_left
                    · simp only [Act.put, List.setIfInBounds_toArray, List.set_cons_zero, List.set_cons_succ, i64_w]
                      rfl
                    refine pure_ (i := 3) (N := some 69) (v := ?_) (a' := ?_) #[false, true, false, true, false, false, false, false, false, false, false, false, false, false, false] rfl rfl (any_of HT_.out (by kernel_rfl)) (fun _ _ _ h => h) (Or.inl ⟨by rfl, ?_⟩) ?_ ?_
                    rotate_left
                    · intro w'
                      go_simp
                      with_reducible rfl
                    rotate_left
                    · simp only [Act.put, List.setIfInBounds_toArray, List.set_cons_zero, List.set_cons_succ, i64_w]
                      rfl
                    refine pure_ (i := 4) (N := some 70) (v := ?_) (a' := ?_) #[false, true, false, true, true, false, false, false, false, false, false, false, false, false, false] rfl rfl (any_of HT_.out (by kernel_rfl)) (fun _ _ _ h => h) (Or.inl ⟨by rfl, ?_⟩) ?_ ?_
                    rotate_left
                    · intro w'
                      go_simp
                      with_reducible rfl
                    rotate_left
                    · simp only [Act.put, List.setIfInBounds_toArray, List.set_cons_zero, List.set_cons_succ, i64_w]
                      rfl
                    refine pure_ (i := 5) (N := some 71) (v := ?_) (a' := ?_) #[false, true, false, true, true, true, false, false, false, false, false, false, false, false, false] rfl rfl (any_of HT_.out (by kernel_rfl)) (fun _ _ _ h => h) (Or.inl ⟨by rfl, ?_⟩) ?_ ?_
                    rotate_left
                    · intro w'
                      go_simp
                      with_reducible rfl
                    rotate_left
                    · simp only [Act.put, List.setIfInBounds_toArray, List.set_cons_zero, List.set_cons_succ, i64_w]
                      rfl
                    refine pure_ (i := 7) (N := some 73) (v := ?_) (a' := ?_) #[false, true, false, true, true, true, false, true, false, false, false, false, false, false, false] rfl rfl (any_of HT_.out (by kernel_rfl)) (fun _ _ _ h => h) (Or.inl ⟨by rfl, ?_⟩) ?_ ?_
                    rotate_left
                    · intro w'
                      go_simp
                      with_reducible rfl
                    rotate_left
                    · simp only [Act.put, List.setIfInBounds_toArray, List.set_cons_zero, List.set_cons_succ, i64_w]
                      rfl
                    refine pure_ (i := 8) (N := some 74) (v := ?_) (a' := ?_) #[false, true, false, true, true, true, false, true, true, false, false, false, false, false, false] rfl rfl (any_of HT_.out (by kernel_rfl)) (fun _ _ _ h => h) (Or.inl ⟨by rfl, ?_⟩) ?_ ?_
                    rotate_left
                    · intro w'
                      go_simp
                      with_reducible rfl
                    rotate_left
                    · simp only [Act.put, List.setIfInBounds_toArray, List.set_cons_zero, List.set_cons_succ, i64_w]
                      rfl
                    refine pure_ (i := 9) (N := some 75) (v := ?_) (a' := ?_) #[false, true, false, true, true, true, false, true, true, true, false, false, false, false, false] rfl rfl (any_of HT_.out (by kernel_rfl)) (fun _ _ _ h => h) (Or.inl ⟨by rfl, ?_⟩) ?_ ?_
                    rotate_left
                    · intro w'
                      go_simp
                      with_reducible rfl
                    rotate_left
                    · simp only [Act.put, List.setIfInBounds_toArray, List.set_cons_zero, List.set_cons_succ, i64_w]
                      rfl
                    refine take_ (i := 0) (N := some 66) (v := ?_) (a' := ?_) #[true, true, false, true, true, true, false, true, true, true, false, false, false, false, false] rfl rfl (take_ofW HT_.out HW_.out (by kernel_rfl)) (fun _ _ _ h => h) (Or.inl ⟨by rfl, ?_⟩) hHeld ?_ ?_
                    rotate_left
                    · rintro w' ⟨s0, s1, s2, s3, s4, s5, s6⟩
                      go_simp
                      with_reducible rfl
                    rotate_left
                    · simp only [Act.put, List.setIfInBounds_toArray, List.set_cons_zero, List.set_cons_succ, i64_w]
                      rfl
                    refine take_ (i := 2) (N := some 68) (v := ?_) (a' := ?_) #[true, true, true, true, true, true, false, true, true, true, false, false, false, false, false] rfl rfl (take_ofW HT_.out HW_.out (by kernel_rfl)) (fun _ _ _ h => h) (Or.inl ⟨by rfl, ?_⟩) hHeld ?_ ?_
                    rotate_left
                    · rintro w' ⟨s0, s1, s2, s3, s4, s5, s6⟩
                      go_simp
                      with_reducible rfl
                    rotate_left
                    · simp only [Act.put, List.setIfInBounds_toArray, List.set_cons_zero, List.set_cons_succ, i64_w]
                      rfl
                    refine take_ (i := 6) (N := some 72) (v := ?_) (a' := ?_) #[true, true, true, true, true, true, true, true, true, true, false, false, false, false, false] rfl rfl (take_ofW HT_.out HW_.out (by kernel_rfl)) (fun _ _ _ h => h) (Or.inl ⟨by rfl, ?_⟩) hHeld ?_ ?_
                    rotate_left
                    · rintro w' ⟨s0, s1, s2, s3, s4, s5, s6⟩
                      go_simp
                      with_reducible rfl
                    rotate_left
                    · simp only [Act.put, List.setIfInBounds_toArray, List.set_cons_zero, List.set_cons_succ, i64_w]
                      rfl
                    refine take_ (i := 10) (N := some 76) (v := ?_) (a' := ?_) #[true, true, true, true, true, true, true, true, true, true, true, false, false, false, false] rfl rfl (take_ofW HT_.out HW_.out (by kernel_rfl)) (fun _ _ _ h => h) (Or.inl ⟨by rfl, ?_⟩) hHeld ?_ ?_
                    rotate_left
                    · rintro w' ⟨s0, s1, s2, s3, s4, s5, s6⟩
                      go_simp
                      with_reducible rfl
                    rotate_left
                    · simp only [Act.put, List.setIfInBounds_toArray, List.set_cons_zero, List.set_cons_succ, i64_w]
                      rfl
                    refine pure_ (i := 11) (N := some 77) (v := ?_) (a' := ?_) #[true, true, true, true, true, true, true, true, true, true, true, true, false, false, false] rfl rfl (any_of HT_.out (by kernel_rfl)) (fun _ _ _ h => h) (Or.inl ⟨by rfl, ?_⟩) ?_ ?_
                    rotate_left
                    · intro w'
                      go_simp
                      with_reducible rfl
                    rotate_left
                    · simp only [Act.put, List.setIfInBounds_toArray, List.set_cons_zero, List.set_cons_succ, i64_w]
                      rfl
                    refine one_ (i := 12) (N := some 78) #[true, true, true, true, true, true, true, true, true, true, true, true, true, false, false] rfl rfl (one_of HT_.out (by kernel_rfl)) (by decide) (fun K hK => ?_)
                    refine goes_ Tryd.func10 (by kernel_rfl) rfl #[.int .i64 t396, .int .i64 (wrap64 ((rd x7_8 x63_2) * (rd x7_8 x63_2)))] (by rfl) rfl rfl (by (try simp only [List.map_toArray, List.map_cons, List.map_nil]); first | done | rfl | (simp only [List.length_drop, List.length_take]; rfl)) ?_
                    with_reducible refine (precision_Product.calls t396 (wrap64 ((rd x7_8 x63_2) * (rd x7_8 x63_2))) t422 t423 _ A52.out).mono ?_
                    rintro e w64 ⟨rfl, hb⟩
                    have HS5_ := (hb.cell (World.block_lt_of_cell? _ _ (hHeld.2.2.2.2.2.1))).trans (hHeld.2.2.2.2.2.1)
                    have HS6_ := (hb.cell (World.block_lt_of_cell? _ _ (hHeld.2.2.2.2.2.2))).trans (hHeld.2.2.2.2.2.2)
                    refine ⟨_, rfl, ?_⟩
                    have n0_ := Aside0.mk (Kd.R_below (by (with_reducible repeat (first | apply Kd.R_alloc | apply Kd.R_drewN | apply Kd.R_drew)); exact HO_7.out) hb)
                    have n1_ := Aside0.mk (blk_below (g := gb398) (o := .cells #[.int .i64 t394, .int .i64 t395, .int .i64 t396] 36 (0, 0)) (by (with_reducible repeat (first | refine blk_drewN ?_ _ | refine blk_drew ?_ | refine blk_alloc ?_ _)); exact BK398.out) hb)
                    have n2_ := Aside0.mk (blk_below (g := gb410) (o := .cells #[.int .i64 t407, .int .u64 t408] 25 (0, 0)) (by (with_reducible repeat (first | refine blk_drewN ?_ _ | refine blk_drew ?_ | refine blk_alloc ?_ _)); exact BK410.out) hb)
                    have n3_ := Aside0.mk (blk_below (g := gb418) (o := .cells #[.int .i64 t415, .int .u64 t416] 25 (0, 0)) (by (with_reducible repeat (first | refine blk_drewN ?_ _ | refine blk_drew ?_ | refine blk_alloc ?_ _)); exact BK418.out) hb)
                    have n4_ := Aside0.mk (blk_below (g := gb419) (o := .cells #[.int .i64 x420000_2, .int .u64 x420001_2] 25 (0, 0)) (by (with_reducible repeat (first | refine blk_drewN ?_ _ | refine blk_drew ?_ | refine blk_alloc ?_ _)); exact BK419.out) hb)
                    have n5_ := Aside0.mk (below_step (by repeat (first | (with_reducible first | exact HB.out | apply below_alloc | apply pw_below_drewN | apply below_drew1 | refine below_set ?_ GE398.out | refine below_set ?_ GE410.out | refine below_set ?_ GE418.out | refine below_set ?_ GE419.out) | exact HB.out)) hb)
                    clear HO_7
                    clear BK398
                    clear BK410
                    clear BK418
                    clear BK419
                    clear HB
                    have HO_7 := n0_
                    have BK398 := n1_
                    have BK410 := n2_
                    have BK418 := n3_
                    have BK419 := n4_
                    have HB := n5_
                    clear n0_ n1_ n2_ n3_ n4_ n5_
                    (try clear hb)
                    (try clear hb2)
                    (try clear hk)
                    (try clear hi)
                    refine hK.out _ _ ⟨(blk_cell BK419.out 0).trans rfl, (blk_cell BK419.out 1).trans rfl, (blk_cell BK398.out 0).trans rfl, (blk_cell BK398.out 1).trans rfl, (blk_cell BK398.out 2).trans rfl, HS5_, HS6_⟩ (fun hHeld => ?_)
                    clear hK K
                    refine norm_ (a' := ?_) ?_ ?_
                    rotate_left
                    · show Act.put _ (some 78) _ = _
                      simp only [Act.put, List.setIfInBounds_toArray, List.set_cons_zero, List.set_cons_succ, i64_w]
                      rfl
                    refine one_ (i := 13) (N := some 79) #[true, true, true, true, true, true, true, true, true, true, true, true, true, true, false] rfl rfl (one_of HT_.out (by kernel_rfl)) (by decide) (fun K hK => ?_)
                    refine goes_ Tryd.func9 (by kernel_rfl) rfl #[.agg #[.int .i64 x420000_2, .int .u64 x420001_2], .agg #[.int .i64 t422, .int .u64 t423]] (by rfl) rfl rfl (by (try simp only [List.map_toArray, List.map_cons, List.map_nil]); first | done | rfl | (simp only [List.length_drop, List.length_take]; rfl)) ?_
                    with_reducible refine (precision_Add.calls x420000_2 x420001_2 t422 t423 t424 t425 _ A53.out).mono ?_
                    rintro e w65 ⟨rfl, hb⟩
                    have HS5_ := (hb.cell (World.block_lt_of_cell? _ _ (hHeld.2.2.2.2.2.1))).trans (hHeld.2.2.2.2.2.1)
                    have HS6_ := (hb.cell (World.block_lt_of_cell? _ _ (hHeld.2.2.2.2.2.2))).trans (hHeld.2.2.2.2.2.2)
                    refine ⟨_, rfl, ?_⟩
                    have n0_ := Aside0.mk (Kd.R_below (by (with_reducible repeat (first | apply Kd.R_alloc | apply Kd.R_drewN | apply Kd.R_drew)); exact HO_7.out) hb)
                    have n1_ := Aside0.mk (blk_below (g := gb398) (o := .cells #[.int .i64 t394, .int .i64 t395, .int .i64 t396] 36 (0, 0)) (by (with_reducible repeat (first | refine blk_drewN ?_ _ | refine blk_drew ?_ | refine blk_alloc ?_ _)); exact BK398.out) hb)
                    have n2_ := Aside0.mk (blk_below (g := gb410) (o := .cells #[.int .i64 t407, .int .u64 t408] 25 (0, 0)) (by (with_reducible repeat (first | refine blk_drewN ?_ _ | refine blk_drew ?_ | refine blk_alloc ?_ _)); exact BK410.out) hb)
                    have n3_ := Aside0.mk (blk_below (g := gb418) (o := .cells #[.int .i64 t415, .int .u64 t416] 25 (0, 0)) (by (with_reducible repeat (first | refine blk_drewN ?_ _ | refine blk_drew ?_ | refine blk_alloc ?_ _)); exact BK418.out) hb)
                    have n4_ := Aside0.mk (blk_below (g := gb419) (o := .cells #[.int .i64 x420000_2, .int .u64 x420001_2] 25 (0, 0)) (by (with_reducible repeat (first | refine blk_drewN ?_ _ | refine blk_drew ?_ | refine blk_alloc ?_ _)); exact BK419.out) hb)
                    have n5_ := Aside0.mk (below_step (by repeat (first | (with_reducible first | exact HB.out | apply below_alloc | apply pw_below_drewN | apply below_drew1 | refine below_set ?_ GE398.out | refine below_set ?_ GE410.out | refine below_set ?_ GE418.out | refine below_set ?_ GE419.out) | exact HB.out)) hb)
                    clear HO_7
                    clear BK398
                    clear BK410
                    clear BK418
                    clear BK419
                    clear HB
                    have HO_7 := n0_
                    have BK398 := n1_
                    have BK410 := n2_
                    have BK418 := n3_
                    have BK419 := n4_
                    have HB := n5_
                    clear n0_ n1_ n2_ n3_ n4_ n5_
                    (try clear hb)
                    (try clear hb2)
                    (try clear hk)
                    (try clear hi)
                    refine hK.out _ _ ⟨(blk_cell BK419.out 0).trans rfl, (blk_cell BK419.out 1).trans rfl, (blk_cell BK398.out 0).trans rfl, (blk_cell BK398.out 1).trans rfl, (blk_cell BK398.out 2).trans rfl, HS5_, HS6_⟩ (fun hHeld => ?_)
                    clear hK K
                    refine norm_ (a' := ?_) ?_ ?_
                    rotate_left
                    · show Act.put _ (some 79) _ = _
                      simp only [Act.put, List.setIfInBounds_toArray, List.set_cons_zero, List.set_cons_succ, i64_w]
                      rfl
                    refine last_ (i := 14) (N := none) #[true, true, true, true, true, true, true, true, true, true, true, true, true, true, true] rfl rfl (one_of HT_.out (by kernel_rfl)) (by decide) (fun K hK => ?_)
                    have hs66 : w65.cell? ⟨gb419, 0, none⟩ = some (.int .i64 x420000_2) := (blk_cell BK419.out 0).trans rfl
                    have hfs66 := blk_frozen BK419.out 0
                    have hns66_0 := NB398_419.out
                    have hns66_1 := NB410_419.out
                    have hns66_2 := NB418_419.out
                    have hms66_0 := NB419_398.out
                    have hms66_1 := NB419_410.out
                    have hms66_2 := NB419_418.out
                    have hs67 : w65.cell? ⟨gb419, 1, none⟩ = some (.int .u64 x420001_2) := (blk_cell BK419.out 1).trans rfl
                    have hfs67 := blk_frozen BK419.out 1
                    have hns67_0 := NB398_419.out
                    have hns67_1 := NB410_419.out
                    have hns67_2 := NB418_419.out
                    have hms67_0 := NB419_398.out
                    have hms67_1 := NB419_410.out
                    have hms67_2 := NB419_418.out
                    refine skip_ (w1 := ?_) (by rfl) rfl ?_ ?_
                    rotate_left
                    · go_simp
                      rfl
                    refine hK.out _ _ ?_
                    clear hK K
                    refine done_ (done_of HT_.out (by kernel_rfl)) ?_
                    try go_wp2
                    have n0_ : Aside0 (Kd.R (Kd.int .i64) 3 ((w65.setCell ⟨gb419, 0, none⟩ (.int .i64 t424)).setCell ⟨gb419, 1, none⟩ (.int .u64 t425)) w.heap.size (fun _ => True) (.slice (some ad420) x7_8.length co31) x7_8) := ⟨by (with_reducible repeat (first | apply Kd.R_alloc | apply Kd.R_drewN | apply Kd.R_drew)); exact Kd.R_mono (Kd.R_far (p := ⟨gb419, 1, none⟩) (Kd.R_far (p := ⟨gb419, 0, none⟩) (Kd.R_types HO_7.out BK419.out (by decide)) (fun _ hk => hk.2) (.int .i64 t424)) (fun _ hk => hk.2) (.int .u64 t425)) (fun _ hk => trivial)⟩
                    have n1_ : Aside0 (((w65.setCell ⟨gb419, 0, none⟩ (.int .i64 t424)).setCell ⟨gb419, 1, none⟩ (.int .u64 t425)).heap[gb398]? = some (.cells #[.int .i64 t394, .int .i64 t395, .int .i64 t396] 36 (0, 0))) := ⟨by (with_reducible repeat (first | refine blk_drewN ?_ _ | refine blk_drew ?_ | refine blk_alloc ?_ _)); refine blk_far ?_ NB398_419.out _; (with_reducible repeat (first | refine blk_drewN ?_ _ | refine blk_drew ?_ | refine blk_alloc ?_ _)); refine blk_far ?_ NB398_419.out _; (with_reducible repeat (first | refine blk_drewN ?_ _ | refine blk_drew ?_ | refine blk_alloc ?_ _)); exact BK398.out⟩
                    have n2_ : Aside0 (((w65.setCell ⟨gb419, 0, none⟩ (.int .i64 t424)).setCell ⟨gb419, 1, none⟩ (.int .u64 t425)).heap[gb410]? = some (.cells #[.int .i64 t407, .int .u64 t408] 25 (0, 0))) := ⟨by (with_reducible repeat (first | refine blk_drewN ?_ _ | refine blk_drew ?_ | refine blk_alloc ?_ _)); refine blk_far ?_ NB410_419.out _; (with_reducible repeat (first | refine blk_drewN ?_ _ | refine blk_drew ?_ | refine blk_alloc ?_ _)); refine blk_far ?_ NB410_419.out _; (with_reducible repeat (first | refine blk_drewN ?_ _ | refine blk_drew ?_ | refine blk_alloc ?_ _)); exact BK410.out⟩
                    have n3_ : Aside0 (((w65.setCell ⟨gb419, 0, none⟩ (.int .i64 t424)).setCell ⟨gb419, 1, none⟩ (.int .u64 t425)).heap[gb418]? = some (.cells #[.int .i64 t415, .int .u64 t416] 25 (0, 0))) := ⟨by (with_reducible repeat (first | refine blk_drewN ?_ _ | refine blk_drew ?_ | refine blk_alloc ?_ _)); refine blk_far ?_ NB418_419.out _; (with_reducible repeat (first | refine blk_drewN ?_ _ | refine blk_drew ?_ | refine blk_alloc ?_ _)); refine blk_far ?_ NB418_419.out _; (with_reducible repeat (first | refine blk_drewN ?_ _ | refine blk_drew ?_ | refine blk_alloc ?_ _)); exact BK418.out⟩
                    have n4_ : Aside0 (((w65.setCell ⟨gb419, 0, none⟩ (.int .i64 t424)).setCell ⟨gb419, 1, none⟩ (.int .u64 t425)).heap[gb419]? = some (.cells #[.int .i64 t424, .int .u64 t425] 25 (0, 0))) := ⟨by (with_reducible repeat (first | refine blk_drewN ?_ _ | refine blk_drew ?_ | refine blk_alloc ?_ _)); refine blk_put (cs := #[.int .i64 t424, .int .u64 x420001_2]) ?_ 1 _ rfl; (with_reducible repeat (first | refine blk_drewN ?_ _ | refine blk_drew ?_ | refine blk_alloc ?_ _)); refine blk_put (cs := #[.int .i64 x420000_2, .int .u64 x420001_2]) ?_ 0 _ rfl; (with_reducible repeat (first | refine blk_drewN ?_ _ | refine blk_drew ?_ | refine blk_alloc ?_ _)); exact BK419.out⟩
                    have n5_ : Aside0 (Below w.heap.size w ((w65.setCell ⟨gb419, 0, none⟩ (.int .i64 t424)).setCell ⟨gb419, 1, none⟩ (.int .u64 t425))) := ⟨by repeat (first | (with_reducible first | exact HB.out | apply below_alloc | apply pw_below_drewN | apply below_drew1 | refine below_set ?_ GE398.out | refine below_set ?_ GE410.out | refine below_set ?_ GE418.out | refine below_set ?_ GE419.out) | exact HB.out)⟩
                    (try clear HO_7)
                    (try clear BK398)
                    (try clear BK410)
                    (try clear BK418)
                    (try clear BK419)
                    (try clear HB)
                    generalize ((w65.setCell ⟨gb419, 0, none⟩ (.int .i64 t424)).setCell ⟨gb419, 1, none⟩ (.int .u64 t425)) = w68 at n0_ n1_ n2_ n3_ n4_ n5_ ⊢
                    have HO_7 := n0_
                    have BK398 := n1_
                    have BK410 := n2_
                    have BK418 := n3_
                    have BK419 := n4_
                    have HB := n5_
                    clear n0_ n1_ n2_ n3_ n4_ n5_
                    have n0_ := Aside0.mk (Kd.R_drew HO_7.out)
                    have n1_ := Aside0.mk (blk_drew BK398.out)
                    have n2_ := Aside0.mk (blk_drew BK410.out)
                    have n3_ := Aside0.mk (blk_drew BK418.out)
                    have n4_ := Aside0.mk (blk_drew BK419.out)
                    have n5_ := Aside0.mk (below_drew1 HB.out)
                    clear HO_7
                    clear BK398
                    clear BK410
                    clear BK418
                    clear BK419
                    clear HB
                    have HO_7 := n0_
                    have BK398 := n1_
                    have BK410 := n2_
                    have BK418 := n3_
                    have BK419 := n4_
                    have HB := n5_
                    clear n0_ n1_ n2_ n3_ n4_ n5_
                    refine start_ (n := 12) (S := fun w' => True) (ds := []) #[false, false, false, false, false, false, false, false, false, false, false, false] (by kernel_rfl) rfl rfl trivial (fun hHeld => ?_); refine with_tabW synopticlaw22_PrecisionBounds.tab21 synopticlaw22_PrecisionBounds.bits21 (fun HT_ HW_ => ?_)
                    generalize w68.drew = w69 at HO_7 BK398 BK410 BK418 BK419 HB hHeld ⊢
                    refine pure_ (i := 0) (N := some 80) (v := ?_) (a' := ?_) #[true, false, false, false, false, false, false, false, false, false, false, false] rfl rfl (any_of HT_.out (by kernel_rfl)) (fun _ _ _ h => h) (Or.inl ⟨by rfl, ?_⟩) ?_ ?_
                    rotate_left
                    · intro w'
                      go_simp
                      with_reducible rfl
                    rotate_left
                    · simp only [Act.put, List.setIfInBounds_toArray, List.set_cons_zero, List.set_cons_succ, i64_w]
                      rfl
                    refine pure_ (i := 1) (N := some 81) (v := ?_) (a' := ?_) #[true, true, false, false, false, false, false, false, false, false, false, false] rfl rfl (any_of HT_.out (by kernel_rfl)) (fun _ _ _ h => h) (Or.inl ⟨by rfl, ?_⟩) ?_ ?_
                    rotate_left
                    · intro w'
                      go_simp
                      with_reducible rfl
                    rotate_left
                    · simp only [Act.put, List.setIfInBounds_toArray, List.set_cons_zero, List.set_cons_succ, i64_w]
                      rfl
                    refine pure_ (i := 2) (N := some 82) (v := undef) (a' := ?_) #[true, true, true, false, false, false, false, false, false, false, false, false] rfl rfl (any_of HT_.out (by kernel_rfl)) (fun _ _ _ h => h) (Or.inr ⟨by rfl, rfl⟩) ?_ ?_
                    rotate_left
                    · simp only [Act.put, List.setIfInBounds_toArray, List.set_cons_zero, List.set_cons_succ, i64_w]
                      rfl
                    refine pure_ (i := 3) (N := some 83) (v := undef) (a' := ?_) #[true, true, true, true, false, false, false, false, false, false, false, false] rfl rfl (any_of HT_.out (by kernel_rfl)) (fun _ _ _ h => h) (Or.inr ⟨by rfl, rfl⟩) ?_ ?_
                    rotate_left
                    · simp only [Act.put, List.setIfInBounds_toArray, List.set_cons_zero, List.set_cons_succ, i64_w]
                      rfl
                    refine pure_ (i := 4) (N := some 84) (v := undef) (a' := ?_) #[true, true, true, true, true, false, false, false, false, false, false, false] rfl rfl (any_of HT_.out (by kernel_rfl)) (fun _ _ _ h => h) (Or.inr ⟨by rfl, rfl⟩) ?_ ?_
                    rotate_left
                    · simp only [Act.put, List.setIfInBounds_toArray, List.set_cons_zero, List.set_cons_succ, i64_w]
                      rfl
                    refine pure_ (i := 5) (N := some 85) (v := undef) (a' := ?_) #[true, true, true, true, true, true, false, false, false, false, false, false] rfl rfl (any_of HT_.out (by kernel_rfl)) (fun _ _ _ h => h) (Or.inr ⟨by rfl, rfl⟩) ?_ ?_
                    rotate_left
                    · simp only [Act.put, List.setIfInBounds_toArray, List.set_cons_zero, List.set_cons_succ, i64_w]
                      rfl
                    refine pure_ (i := 6) (N := some 86) (v := undef) (a' := ?_) #[true, true, true, true, true, true, true, false, false, false, false, false] rfl rfl (any_of HT_.out (by kernel_rfl)) (fun _ _ _ h => h) (Or.inr ⟨by rfl, rfl⟩) ?_ ?_
                    rotate_left
                    · simp only [Act.put, List.setIfInBounds_toArray, List.set_cons_zero, List.set_cons_succ, i64_w]
                      rfl
                    refine pure_ (i := 7) (N := some 87) (v := undef) (a' := ?_) #[true, true, true, true, true, true, true, true, false, false, false, false] rfl rfl (any_of HT_.out (by kernel_rfl)) (fun _ _ _ h => h) (Or.inr ⟨by rfl, rfl⟩) ?_ ?_
                    rotate_left
                    · simp only [Act.put, List.setIfInBounds_toArray, List.set_cons_zero, List.set_cons_succ, i64_w]
                      rfl
                    refine pure_ (i := 8) (N := some 88) (v := undef) (a' := ?_) #[true, true, true, true, true, true, true, true, true, false, false, false] rfl rfl (any_of HT_.out (by kernel_rfl)) (fun _ _ _ h => h) (Or.inr ⟨by rfl, rfl⟩) ?_ ?_
                    rotate_left
                    · simp only [Act.put, List.setIfInBounds_toArray, List.set_cons_zero, List.set_cons_succ, i64_w]
                      rfl
                    refine pure_ (i := 9) (N := some 89) (v := undef) (a' := ?_) #[true, true, true, true, true, true, true, true, true, true, false, false] rfl rfl (any_of HT_.out (by kernel_rfl)) (fun _ _ _ h => h) (Or.inr ⟨by rfl, rfl⟩) ?_ ?_
                    rotate_left
                    · simp only [Act.put, List.setIfInBounds_toArray, List.set_cons_zero, List.set_cons_succ, i64_w]
                      rfl
                    refine pure_ (i := 10) (N := some 90) (v := ?_) (a' := ?_) #[true, true, true, true, true, true, true, true, true, true, true, false] rfl rfl (any_of HT_.out (by kernel_rfl)) (fun _ _ _ h => h) (Or.inl ⟨by rfl, ?_⟩) ?_ ?_
                    rotate_left
                    · intro w'
                      go_simp
                      with_reducible rfl
                    rotate_left
                    · simp only [Act.put, List.setIfInBounds_toArray, List.set_cons_zero, List.set_cons_succ, i64_w]
                      rfl
                    refine pure_ (i := 11) (N := some 16) (v := ?_) (a' := ?_) #[true, true, true, true, true, true, true, true, true, true, true, true] rfl rfl (any_of HT_.out (by kernel_rfl)) (fun _ _ _ h => h) (Or.inl ⟨by rfl, ?_⟩) ?_ ?_
                    rotate_left
                    · intro w'
                      go_simp
                      with_reducible rfl
                    rotate_left
                    · simp only [Act.put, List.setIfInBounds_toArray, List.set_cons_zero, List.set_cons_succ, i64_w]
                      rfl
                    refine done_ (done_of HT_.out (by kernel_rfl)) ?_
                    try go_wp2
                    go_roundg k2
                    case measure => have := HJ8.out; have := HK2.out; omega
                    case rel => exact ⟨(false), (wrap64 (x63_2 + 1)), (t424), (t425), (by first | rfl | (simp; done) | (simp [*]; done)), (by first | rfl | (simp; done) | (simp [*]; done)), H', ⟨by have := HJ8.out; have := HK2.out; omega⟩, ⟨by (with_reducible repeat (first | apply Kd.R_alloc | apply Kd.R_drewN | apply Kd.R_drew)); exact HO_7.out⟩, ⟨by (with_reducible repeat (first | refine blk_drewN ?_ _ | refine blk_drew ?_ | refine blk_alloc ?_ _)); exact BK398.out⟩, ⟨by (with_reducible repeat (first | refine blk_drewN ?_ _ | refine blk_drew ?_ | refine blk_alloc ?_ _)); exact BK410.out⟩, ⟨by (with_reducible repeat (first | refine blk_drewN ?_ _ | refine blk_drew ?_ | refine blk_alloc ?_ _)); exact BK418.out⟩, ⟨by (with_reducible repeat (first | refine blk_drewN ?_ _ | refine blk_drew ?_ | refine blk_alloc ?_ _)); exact BK419.out⟩, ⟨by repeat (first | (with_reducible first | exact HB.out | apply below_alloc | apply pw_below_drewN | apply below_drew1 | refine below_set ?_ GE398.out | refine below_set ?_ GE410.out | refine below_set ?_ GE418.out | refine below_set ?_ GE419.out) | exact HB.out)⟩⟩
                · rw [if_neg c51] at H
                  exact absurd H (by simp)
              · rw [if_neg c50] at H
                exact absurd H (by simp)
            · rw [if_neg c49] at H
              have c49b0 : decide (x63_2 < (x7_8.length : Int)) = false := decide_eq_false c49
              clear c49
              by_cases c70 : t409 = 0
              · rw [if_pos c70] at H
                have c70b0 : (t409 == 0) = true := beq_iff_eq.mpr c70
                have c70b1 : (t409 != 0) = false := bne_eq_false_iff_eq.mpr c70
                clear c70
                by_cases c71 : t414 = 0
                · rw [if_pos c71] at H
                  have c71b0 : (t414 == 0) = true := beq_iff_eq.mpr c71
                  have c71b1 : (t414 != 0) = false := bne_eq_false_iff_eq.mpr c71
                  clear c71
                  by_cases c72 : t417 = 0
                  · rw [if_pos c72] at H
                    have c72b0 : (t417 == 0) = true := beq_iff_eq.mpr c72
                    have c72b1 : (t417 != 0) = false := bne_eq_false_iff_eq.mpr c72
                    clear c72
                    by_cases c73 : (t407 == t415 && (t408 == t416)) = true
                    · rw [if_pos c73] at H
                      have c73b0 : (t407 == t415 && (t408 == t416)) = true := c73
                      (try (have c73b1 : decide (t407 = t415 && (t408 == t416)) = true := by simpa using c73))
                      (try (have c73b2 : (t407 == t415 && (t408 == t416)) = true := by simpa using c73))
                      clear c73
                      replace H := Option.bind_eq_some_iff.mp H
                      obtain ⟨t428, A740, H⟩ := H
                      replace H : (if t428 ≥ 0 then (if x16_2 = true then (some ((t407 == x420000_2 && (t408 == x420001_2)) == true)) else (some ((t407 == x420000_2 && (t408 == x420001_2)) == (t395 == 0)))) else (some false)) = some r := H
                      have A74 := Aside0.mk A740
                      clear A740
                      by_cases c75 : t428 ≥ 0
                      · rw [if_pos c75] at H
                        have c75b0 : decide (0 ≤ t428) = true := decide_eq_true c75
                        clear c75
                        by_cases c76 : x16_2 = true
                        · subst c76
                          have H1 : (some ((t407 == x420000_2 && (t408 == x420001_2)) == true)) = some r := by rw [if_pos rfl] at H; exact H
                          clear H
                          have H := H1
                          clear H1
                          obtain rfl := Option.some.inj H
                          try go_wp2
                          have n0_ := Aside0.mk (Kd.R_drew HO_7.out)
                          have n1_ := Aside0.mk (blk_drew BK398.out)
                          have n2_ := Aside0.mk (blk_drew BK410.out)
                          have n3_ := Aside0.mk (blk_drew BK418.out)
                          have n4_ := Aside0.mk (blk_drew BK419.out)
                          have n5_ := Aside0.mk (below_drew1 HB.out)
                          clear HO_7
                          clear BK398
                          clear BK410
                          clear BK418
                          clear BK419
                          clear HB
                          have HO_7 := n0_
                          have BK398 := n1_
                          have BK410 := n2_
                          have BK418 := n3_
                          have BK419 := n4_
                          have HB := n5_
                          clear n0_ n1_ n2_ n3_ n4_ n5_
                          refine start_ (n := 34) (S := fun w' => w'.cell? ⟨gb410, 0, none⟩ = some (.int .i64 t407) ∧ w'.cell? ⟨gb410, 1, none⟩ = some (.int .u64 t408) ∧ w'.cell? ⟨gb418, 0, none⟩ = some (.int .i64 t415) ∧ w'.cell? ⟨gb418, 1, none⟩ = some (.int .u64 t416) ∧ w'.cell? ⟨gb419, 0, none⟩ = some (.int .i64 x420000_2) ∧ w'.cell? ⟨gb419, 1, none⟩ = some (.int .u64 x420001_2)) (ds := []) #[false, false, false, false, false, false, false, false, false, false, false, false, false, false, false, false, false, false, false, false, false, false, false, false, false, false, false, false, false, false, false, false, false, false] (by kernel_rfl) rfl rfl ⟨(blk_cell BK410.out 0).trans rfl, (blk_cell BK410.out 1).trans rfl, (blk_cell BK418.out 0).trans rfl, (blk_cell BK418.out 1).trans rfl, (blk_cell BK419.out 0).trans rfl, (blk_cell BK419.out 1).trans rfl⟩ (fun hHeld => ?_); refine with_tabW synopticlaw22_PrecisionBounds.tab23 synopticlaw22_PrecisionBounds.bits23 (fun HT_ HW_ => ?_)
                          generalize wr.drew = w77 at HO_7 BK398 BK410 BK418 BK419 HB hHeld ⊢
                          refine pure_ (i := 0) (N := some 92) (v := ?_) (a' := ?_) #[true, false, false, false, false, false, false, false, false, false, false, false, false, false, false, false, false, false, false, false, false, false, false, false, false, false, false, false, false, false, false, false, false, false] rfl rfl (any_of HT_.out (by kernel_rfl)) (fun _ _ _ h => h) (Or.inl ⟨by rfl, ?_⟩) ?_ ?_
                          rotate_left
                          · intro w'
                            go_simp
                            with_reducible rfl
                          rotate_left
                          · simp only [Act.put, List.setIfInBounds_toArray, List.set_cons_zero, List.set_cons_succ, i64_w]
                            rfl
                          refine pure_ (i := 1) (N := some 93) (v := ?_) (a' := ?_) #[true, true, false, false, false, false, false, false, false, false, false, false, false, false, false, false, false, false, false, false, false, false, false, false, false, false, false, false, false, false, false, false, false, false] rfl rfl (any_of HT_.out (by kernel_rfl)) (fun _ _ _ h => h) (Or.inl ⟨by rfl, ?_⟩) ?_ ?_
                          rotate_left
                          · intro w'
                            go_simp
                            with_reducible rfl
                          rotate_left
                          · simp only [Act.put, List.setIfInBounds_toArray, List.set_cons_zero, List.set_cons_succ, i64_w]
                            rfl
                          refine pure_ (i := 2) (N := some 94) (v := ?_) (a' := ?_) #[true, true, true, false, false, false, false, false, false, false, false, false, false, false, false, false, false, false, false, false, false, false, false, false, false, false, false, false, false, false, false, false, false, false] rfl rfl (any_of HT_.out (by kernel_rfl)) (fun _ _ _ h => h) (Or.inl ⟨by rfl, ?_⟩) ?_ ?_
                          rotate_left
                          · intro w'
                            go_simp
                            with_reducible rfl
                          rotate_left
                          · simp only [Act.put, List.setIfInBounds_toArray, List.set_cons_zero, List.set_cons_succ, i64_w]
                            rfl
                          refine pure_ (i := 3) (N := some 95) (v := ?_) (a' := ?_) #[true, true, true, true, false, false, false, false, false, false, false, false, false, false, false, false, false, false, false, false, false, false, false, false, false, false, false, false, false, false, false, false, false, false] rfl rfl (any_of HT_.out (by kernel_rfl)) (fun _ _ _ h => h) (Or.inl ⟨by rfl, ?_⟩) ?_ ?_
                          rotate_left
                          · intro w'
                            go_simp
                            with_reducible rfl
                          rotate_left
                          · simp only [Act.put, List.setIfInBounds_toArray, List.set_cons_zero, List.set_cons_succ, i64_w]
                            rfl
                          refine pure_ (i := 4) (N := some 96) (v := ?_) (a' := ?_) #[true, true, true, true, true, false, false, false, false, false, false, false, false, false, false, false, false, false, false, false, false, false, false, false, false, false, false, false, false, false, false, false, false, false] rfl rfl (any_of HT_.out (by kernel_rfl)) (fun _ _ _ h => h) (Or.inl ⟨by rfl, ?_⟩) ?_ ?_
                          rotate_left
                          · intro w'
                            go_simp
                            with_reducible rfl
                          rotate_left
                          · simp only [Act.put, List.setIfInBounds_toArray, List.set_cons_zero, List.set_cons_succ, i64_w]
                            rfl
                          refine pure_ (i := 5) (N := some 97) (v := ?_) (a' := ?_) #[true, true, true, true, true, true, false, false, false, false, false, false, false, false, false, false, false, false, false, false, false, false, false, false, false, false, false, false, false, false, false, false, false, false] rfl rfl (any_of HT_.out (by kernel_rfl)) (fun _ _ _ h => h) (Or.inl ⟨by rfl, ?_⟩) ?_ ?_
                          rotate_left
                          · intro w'
                            go_simp
                            with_reducible rfl
                          rotate_left
                          · simp only [Act.put, List.setIfInBounds_toArray, List.set_cons_zero, List.set_cons_succ, i64_w]
                            rfl
                          refine pure_ (i := 6) (N := some 98) (v := ?_) (a' := ?_) #[true, true, true, true, true, true, true, false, false, false, false, false, false, false, false, false, false, false, false, false, false, false, false, false, false, false, false, false, false, false, false, false, false, false] rfl rfl (any_of HT_.out (by kernel_rfl)) (fun _ _ _ h => h) (Or.inl ⟨by rfl, ?_⟩) ?_ ?_
                          rotate_left
                          · intro w'
                            go_simp
                            with_reducible rfl
                          rotate_left
                          · simp only [Act.put, List.setIfInBounds_toArray, List.set_cons_zero, List.set_cons_succ, i64_w]
                            rfl
                          refine pure_ (i := 7) (N := some 99) (v := ?_) (a' := ?_) #[true, true, true, true, true, true, true, true, false, false, false, false, false, false, false, false, false, false, false, false, false, false, false, false, false, false, false, false, false, false, false, false, false, false] rfl rfl (any_of HT_.out (by kernel_rfl)) (fun _ _ _ h => h) (Or.inl ⟨by rfl, ?_⟩) ?_ ?_
                          rotate_left
                          · intro w'
                            go_simp
                            with_reducible rfl
                          rotate_left
                          · simp only [Act.put, List.setIfInBounds_toArray, List.set_cons_zero, List.set_cons_succ, i64_w]
                            rfl
                          refine pure_ (i := 8) (N := some 100) (v := ?_) (a' := ?_) #[true, true, true, true, true, true, true, true, true, false, false, false, false, false, false, false, false, false, false, false, false, false, false, false, false, false, false, false, false, false, false, false, false, false] rfl rfl (any_of HT_.out (by kernel_rfl)) (fun _ _ _ h => h) (Or.inl ⟨by rfl, ?_⟩) ?_ ?_
                          rotate_left
                          · intro w'
                            go_simp
                            with_reducible rfl
                          rotate_left
                          · simp only [Act.put, List.setIfInBounds_toArray, List.set_cons_zero, List.set_cons_succ, i64_w]
                            rfl
                          refine pure_ (i := 9) (N := some 101) (v := ?_) (a' := ?_) #[true, true, true, true, true, true, true, true, true, true, false, false, false, false, false, false, false, false, false, false, false, false, false, false, false, false, false, false, false, false, false, false, false, false] rfl rfl (any_of HT_.out (by kernel_rfl)) (fun _ _ _ h => h) (Or.inl ⟨by rfl, ?_⟩) ?_ ?_
                          rotate_left
                          · intro w'
                            go_simp
                            with_reducible rfl
                          rotate_left
                          · simp only [Act.put, List.setIfInBounds_toArray, List.set_cons_zero, List.set_cons_succ, i64_w]
                            rfl
                          refine pure_ (i := 10) (N := some 102) (v := ?_) (a' := ?_) #[true, true, true, true, true, true, true, true, true, true, true, false, false, false, false, false, false, false, false, false, false, false, false, false, false, false, false, false, false, false, false, false, false, false] rfl rfl (any_of HT_.out (by kernel_rfl)) (fun _ _ _ h => h) (Or.inl ⟨by rfl, ?_⟩) ?_ ?_
                          rotate_left
                          · intro w'
                            go_simp
                            with_reducible rfl
                          rotate_left
                          · simp only [Act.put, List.setIfInBounds_toArray, List.set_cons_zero, List.set_cons_succ, i64_w]
                            rfl
                          refine take_ (i := 11) (N := some 103) (v := ?_) (a' := ?_) #[true, true, true, true, true, true, true, true, true, true, true, true, false, false, false, false, false, false, false, false, false, false, false, false, false, false, false, false, false, false, false, false, false, false] rfl rfl (take_ofW HT_.out HW_.out (by kernel_rfl)) (fun _ _ _ h => h) (Or.inl ⟨by rfl, ?_⟩) hHeld ?_ ?_
                          rotate_left
                          · rintro w' ⟨s0, s1, s2, s3, s4, s5⟩
                            go_simp
                            with_reducible rfl
                          rotate_left
                          · simp only [Act.put, List.setIfInBounds_toArray, List.set_cons_zero, List.set_cons_succ, i64_w]
                            rfl
                          refine take_ (i := 12) (N := some 104) (v := ?_) (a' := ?_) #[true, true, true, true, true, true, true, true, true, true, true, true, true, false, false, false, false, false, false, false, false, false, false, false, false, false, false, false, false, false, false, false, false, false] rfl rfl (take_ofW HT_.out HW_.out (by kernel_rfl)) (fun _ _ _ h => h) (Or.inl ⟨by rfl, ?_⟩) hHeld ?_ ?_
                          rotate_left
                          · rintro w' ⟨s0, s1, s2, s3, s4, s5⟩
                            go_simp
                            with_reducible rfl
                          rotate_left
                          · simp only [Act.put, List.setIfInBounds_toArray, List.set_cons_zero, List.set_cons_succ, i64_w]
                            rfl
                          refine pure_ (i := 13) (N := some 105) (v := ?_) (a' := ?_) #[true, true, true, true, true, true, true, true, true, true, true, true, true, true, false, false, false, false, false, false, false, false, false, false, false, false, false, false, false, false, false, false, false, false] rfl rfl (any_of HT_.out (by kernel_rfl)) (fun _ _ _ h => h) (Or.inl ⟨by rfl, ?_⟩) ?_ ?_
                          rotate_left
                          · intro w'
                            go_simp
                            with_reducible rfl
                          rotate_left
                          · simp only [Act.put, List.setIfInBounds_toArray, List.set_cons_zero, List.set_cons_succ, i64_w]
                            rfl
                          refine pure_ (i := 14) (N := some 106) (v := ?_) (a' := ?_) #[true, true, true, true, true, true, true, true, true, true, true, true, true, true, true, false, false, false, false, false, false, false, false, false, false, false, false, false, false, false, false, false, false, false] rfl rfl (any_of HT_.out (by kernel_rfl)) (fun _ _ _ h => h) (Or.inl ⟨by rfl, ?_⟩) ?_ ?_
                          rotate_left
                          · intro w'
                            go_simp
                            with_reducible rfl
                          rotate_left
                          · simp only [Act.put, List.setIfInBounds_toArray, List.set_cons_zero, List.set_cons_succ, i64_w]
                            rfl
                          refine pure_ (i := 15) (N := some 107) (v := ?_) (a' := ?_) #[true, true, true, true, true, true, true, true, true, true, true, true, true, true, true, true, false, false, false, false, false, false, false, false, false, false, false, false, false, false, false, false, false, false] rfl rfl (any_of HT_.out (by kernel_rfl)) (fun _ _ _ h => h) (Or.inl ⟨by rfl, ?_⟩) ?_ ?_
                          rotate_left
                          · intro w'
                            go_simp
                            with_reducible rfl
                          rotate_left
                          · simp only [Act.put, List.setIfInBounds_toArray, List.set_cons_zero, List.set_cons_succ, i64_w]
                            rfl
                          refine take_ (i := 16) (N := some 108) (v := ?_) (a' := ?_) #[true, true, true, true, true, true, true, true, true, true, true, true, true, true, true, true, true, false, false, false, false, false, false, false, false, false, false, false, false, false, false, false, false, false] rfl rfl (take_ofW HT_.out HW_.out (by kernel_rfl)) (fun _ _ _ h => h) (Or.inl ⟨by rfl, ?_⟩) hHeld ?_ ?_
                          rotate_left
                          · rintro w' ⟨s0, s1, s2, s3, s4, s5⟩
                            go_simp
                            with_reducible rfl
                          rotate_left
                          · simp only [Act.put, List.setIfInBounds_toArray, List.set_cons_zero, List.set_cons_succ, i64_w]
                            rfl
                          refine take_ (i := 17) (N := some 109) (v := ?_) (a' := ?_) #[true, true, true, true, true, true, true, true, true, true, true, true, true, true, true, true, true, true, false, false, false, false, false, false, false, false, false, false, false, false, false, false, false, false] rfl rfl (take_ofW HT_.out HW_.out (by kernel_rfl)) (fun _ _ _ h => h) (Or.inl ⟨by rfl, ?_⟩) hHeld ?_ ?_
                          rotate_left
                          · rintro w' ⟨s0, s1, s2, s3, s4, s5⟩
                            go_simp
                            with_reducible rfl
                          rotate_left
                          · simp only [Act.put, List.setIfInBounds_toArray, List.set_cons_zero, List.set_cons_succ, i64_w]
                            rfl
                          refine one_ (i := 18) (N := some 110) #[true, true, true, true, true, true, true, true, true, true, true, true, true, true, true, true, true, true, true, false, false, false, false, false, false, false, false, false, false, false, false, false, false, false] rfl rfl (one_of HT_.out (by kernel_rfl)) (by decide) (fun K hK => ?_)
                          refine goes_ Tryd.func12 (by kernel_rfl) rfl #[.agg #[.int .i64 t407, .int .u64 t408], .agg #[.int .i64 x420000_2, .int .u64 x420001_2]] (by rfl) rfl rfl (by (try simp only [List.map_toArray, List.map_cons, List.map_nil]); first | done | rfl | (simp only [List.length_drop, List.length_take]; rfl)) ?_
                          with_reducible refine (precision_Compare.calls k2 t407 t408 x420000_2 x420001_2 t428 _ A74.out).mono ?_
                          rintro e w78 ⟨rfl, hb⟩
                          refine ⟨_, rfl, ?_⟩
                          have n0_ := Aside0.mk (Kd.R_below (by (with_reducible repeat (first | apply Kd.R_alloc | apply Kd.R_drewN | apply Kd.R_drew)); exact HO_7.out) hb)
                          have n1_ := Aside0.mk (blk_below (g := gb398) (o := .cells #[.int .i64 t394, .int .i64 t395, .int .i64 t396] 36 (0, 0)) (by (with_reducible repeat (first | refine blk_drewN ?_ _ | refine blk_drew ?_ | refine blk_alloc ?_ _)); exact BK398.out) hb)
                          have n2_ := Aside0.mk (blk_below (g := gb410) (o := .cells #[.int .i64 t407, .int .u64 t408] 25 (0, 0)) (by (with_reducible repeat (first | refine blk_drewN ?_ _ | refine blk_drew ?_ | refine blk_alloc ?_ _)); exact BK410.out) hb)
                          have n3_ := Aside0.mk (blk_below (g := gb418) (o := .cells #[.int .i64 t415, .int .u64 t416] 25 (0, 0)) (by (with_reducible repeat (first | refine blk_drewN ?_ _ | refine blk_drew ?_ | refine blk_alloc ?_ _)); exact BK418.out) hb)
                          have n4_ := Aside0.mk (blk_below (g := gb419) (o := .cells #[.int .i64 x420000_2, .int .u64 x420001_2] 25 (0, 0)) (by (with_reducible repeat (first | refine blk_drewN ?_ _ | refine blk_drew ?_ | refine blk_alloc ?_ _)); exact BK419.out) hb)
                          have n5_ := Aside0.mk (below_step (by repeat (first | (with_reducible first | exact HB.out | apply below_alloc | apply pw_below_drewN | apply below_drew1 | refine below_set ?_ GE398.out | refine below_set ?_ GE410.out | refine below_set ?_ GE418.out | refine below_set ?_ GE419.out) | exact HB.out)) hb)
                          clear HO_7
                          clear BK398
                          clear BK410
                          clear BK418
                          clear BK419
                          clear HB
                          have HO_7 := n0_
                          have BK398 := n1_
                          have BK410 := n2_
                          have BK418 := n3_
                          have BK419 := n4_
                          have HB := n5_
                          clear n0_ n1_ n2_ n3_ n4_ n5_
                          (try clear hb)
                          (try clear hb2)
                          (try clear hk)
                          (try clear hi)
                          refine hK.out _ _ ⟨(blk_cell BK410.out 0).trans rfl, (blk_cell BK410.out 1).trans rfl, (blk_cell BK418.out 0).trans rfl, (blk_cell BK418.out 1).trans rfl, (blk_cell BK419.out 0).trans rfl, (blk_cell BK419.out 1).trans rfl⟩ (fun hHeld => ?_)
                          clear hK K
                          refine norm_ (a' := ?_) ?_ ?_
                          rotate_left
                          · show Act.put _ (some 110) _ = _
                            simp only [Act.put, List.setIfInBounds_toArray, List.set_cons_zero, List.set_cons_succ, i64_w]
                            rfl
                          refine pure_ (i := 19) (N := some 111) (v := ?_) (a' := ?_) #[true, true, true, true, true, true, true, true, true, true, true, true, true, true, true, true, true, true, true, true, false, false, false, false, false, false, false, false, false, false, false, false, false, false] rfl rfl (any_of HT_.out (by kernel_rfl)) (fun _ _ _ h => h) (Or.inl ⟨by rfl, ?_⟩) ?_ ?_
                          rotate_left
                          · intro w'
                            go_simp
                            with_reducible rfl
                          rotate_left
                          · simp only [Act.put, List.setIfInBounds_toArray, List.set_cons_zero, List.set_cons_succ, i64_w]
                            rfl
                          refine pure_ (i := 20) (N := some 112) (v := ?_) (a' := ?_) #[true, true, true, true, true, true, true, true, true, true, true, true, true, true, true, true, true, true, true, true, true, false, false, false, false, false, false, false, false, false, false, false, false, false] rfl rfl (any_of HT_.out (by kernel_rfl)) (fun _ _ _ h => h) (Or.inl ⟨by rfl, ?_⟩) ?_ ?_
                          rotate_left
                          · intro w'
                            go_simp
                            with_reducible rfl
                          rotate_left
                          · simp only [Act.put, List.setIfInBounds_toArray, List.set_cons_zero, List.set_cons_succ, i64_w]
                            rfl
                          refine pure_ (i := 21) (N := some 113) (v := ?_) (a' := ?_) #[true, true, true, true, true, true, true, true, true, true, true, true, true, true, true, true, true, true, true, true, true, true, false, false, false, false, false, false, false, false, false, false, false, false] rfl rfl (any_of HT_.out (by kernel_rfl)) (fun _ _ _ h => h) (Or.inl ⟨by rfl, ?_⟩) ?_ ?_
                          rotate_left
                          · intro w'
                            go_simp
                            with_reducible rfl
                          rotate_left
                          · simp only [Act.put, List.setIfInBounds_toArray, List.set_cons_zero, List.set_cons_succ, i64_w]
                            rfl
                          refine pure_ (i := 25) (N := some 117) (v := ?_) (a' := ?_) #[true, true, true, true, true, true, true, true, true, true, true, true, true, true, true, true, true, true, true, true, true, true, false, false, false, true, false, false, false, false, false, false, false, false] rfl rfl (any_of HT_.out (by kernel_rfl)) (fun _ _ _ h => h) (Or.inl ⟨by rfl, ?_⟩) ?_ ?_
                          rotate_left
                          · intro w'
                            go_simp
                            with_reducible rfl
                          rotate_left
                          · simp only [Act.put, List.setIfInBounds_toArray, List.set_cons_zero, List.set_cons_succ, i64_w]
                            rfl
                          refine pure_ (i := 26) (N := some 118) (v := ?_) (a' := ?_) #[true, true, true, true, true, true, true, true, true, true, true, true, true, true, true, true, true, true, true, true, true, true, false, false, false, true, true, false, false, false, false, false, false, false] rfl rfl (any_of HT_.out (by kernel_rfl)) (fun _ _ _ h => h) (Or.inl ⟨by rfl, ?_⟩) ?_ ?_
                          rotate_left
                          · intro w'
                            go_simp
                            with_reducible rfl
                          rotate_left
                          · simp only [Act.put, List.setIfInBounds_toArray, List.set_cons_zero, List.set_cons_succ, i64_w]
                            rfl
                          refine pure_ (i := 27) (N := some 119) (v := undef) (a' := ?_) #[true, true, true, true, true, true, true, true, true, true, true, true, true, true, true, true, true, true, true, true, true, true, false, false, false, true, true, true, false, false, false, false, false, false] rfl rfl (any_of HT_.out (by kernel_rfl)) (fun _ _ _ h => h) (Or.inr ⟨by rfl, rfl⟩) ?_ ?_
                          rotate_left
                          · simp only [Act.put, List.setIfInBounds_toArray, List.set_cons_zero, List.set_cons_succ, i64_w]
                            rfl
                          refine pure_ (i := 28) (N := some 120) (v := undef) (a' := ?_) #[true, true, true, true, true, true, true, true, true, true, true, true, true, true, true, true, true, true, true, true, true, true, false, false, false, true, true, true, true, false, false, false, false, false] rfl rfl (any_of HT_.out (by kernel_rfl)) (fun _ _ _ h => h) (Or.inr ⟨by rfl, rfl⟩) ?_ ?_
                          rotate_left
                          · simp only [Act.put, List.setIfInBounds_toArray, List.set_cons_zero, List.set_cons_succ, i64_w]
                            rfl
                          refine pure_ (i := 29) (N := some 121) (v := undef) (a' := ?_) #[true, true, true, true, true, true, true, true, true, true, true, true, true, true, true, true, true, true, true, true, true, true, false, false, false, true, true, true, true, true, false, false, false, false] rfl rfl (any_of HT_.out (by kernel_rfl)) (fun _ _ _ h => h) (Or.inr ⟨by rfl, rfl⟩) ?_ ?_
                          rotate_left
                          · simp only [Act.put, List.setIfInBounds_toArray, List.set_cons_zero, List.set_cons_succ, i64_w]
                            rfl
                          refine pure_ (i := 30) (N := some 122) (v := ?_) (a' := ?_) #[true, true, true, true, true, true, true, true, true, true, true, true, true, true, true, true, true, true, true, true, true, true, false, false, false, true, true, true, true, true, true, false, false, false] rfl rfl (any_of HT_.out (by kernel_rfl)) (fun _ _ _ h => h) (Or.inl ⟨by rfl, ?_⟩) ?_ ?_
                          rotate_left
                          · intro w'
                            go_simp
                            with_reducible rfl
                          rotate_left
                          · simp only [Act.put, List.setIfInBounds_toArray, List.set_cons_zero, List.set_cons_succ, i64_w]
                            rfl
                          refine take_ (i := 22) (N := some 114) (v := ?_) (a' := ?_) #[true, true, true, true, true, true, true, true, true, true, true, true, true, true, true, true, true, true, true, true, true, true, true, false, false, true, true, true, true, true, true, false, false, false] rfl rfl (take_ofW HT_.out HW_.out (by kernel_rfl)) (fun _ _ _ h => h) (Or.inl ⟨by rfl, ?_⟩) hHeld ?_ ?_
                          rotate_left
                          · rintro w' ⟨s0, s1, s2, s3, s4, s5⟩
                            go_simp
                            with_reducible rfl
                          rotate_left
                          · simp only [Act.put, List.setIfInBounds_toArray, List.set_cons_zero, List.set_cons_succ, i64_w]
                            rfl
                          refine take_ (i := 23) (N := some 115) (v := ?_) (a' := ?_) #[true, true, true, true, true, true, true, true, true, true, true, true, true, true, true, true, true, true, true, true, true, true, true, true, false, true, true, true, true, true, true, false, false, false] rfl rfl (take_ofW HT_.out HW_.out (by kernel_rfl)) (fun _ _ _ h => h) (Or.inl ⟨by rfl, ?_⟩) hHeld ?_ ?_
                          rotate_left
                          · rintro w' ⟨s0, s1, s2, s3, s4, s5⟩
                            go_simp
                            with_reducible rfl
                          rotate_left
                          · simp only [Act.put, List.setIfInBounds_toArray, List.set_cons_zero, List.set_cons_succ, i64_w]
                            rfl
                          refine pure_ (i := 24) (N := some 116) (v := ?_) (a' := ?_) #[true, true, true, true, true, true, true, true, true, true, true, true, true, true, true, true, true, true, true, true, true, true, true, true, true, true, true, true, true, true, true, false, false, false] rfl rfl (any_of HT_.out (by kernel_rfl)) (fun _ _ _ h => h) (Or.inl ⟨by rfl, ?_⟩) ?_ ?_
                          rotate_left
                          · intro w'
                            go_simp
                            with_reducible rfl
                          rotate_left
                          · simp only [Act.put, List.setIfInBounds_toArray, List.set_cons_zero, List.set_cons_succ, i64_w]
                            rfl
                          refine pure_ (i := 31) (N := some 123) (v := ?_) (a' := ?_) #[true, true, true, true, true, true, true, true, true, true, true, true, true, true, true, true, true, true, true, true, true, true, true, true, true, true, true, true, true, true, true, true, false, false] rfl rfl (any_of HT_.out (by kernel_rfl)) (fun _ _ _ h => h) (Or.inl ⟨by rfl, ?_⟩) ?_ ?_
                          rotate_left
                          · intro w'
                            go_simp
                            with_reducible rfl
                          rotate_left
                          · simp only [Act.put, List.setIfInBounds_toArray, List.set_cons_zero, List.set_cons_succ, i64_w]
                            rfl
                          refine pure_ (i := 32) (N := some 124) (v := ?_) (a' := ?_) #[true, true, true, true, true, true, true, true, true, true, true, true, true, true, true, true, true, true, true, true, true, true, true, true, true, true, true, true, true, true, true, true, true, false] rfl rfl (any_of HT_.out (by kernel_rfl)) (fun _ _ _ h => h) (Or.inl ⟨by rfl, ?_⟩) ?_ ?_
                          rotate_left
                          · intro w'
                            go_simp
                            with_reducible rfl
                          rotate_left
                          · simp only [Act.put, List.setIfInBounds_toArray, List.set_cons_zero, List.set_cons_succ, i64_w]
                            rfl
                          refine pure_ (i := 33) (N := some 4) (v := ?_) (a' := ?_) #[true, true, true, true, true, true, true, true, true, true, true, true, true, true, true, true, true, true, true, true, true, true, true, true, true, true, true, true, true, true, true, true, true, true] rfl rfl (any_of HT_.out (by kernel_rfl)) (fun _ _ _ h => h) (Or.inl ⟨by rfl, ?_⟩) ?_ ?_
                          rotate_left
                          · intro w'
                            go_simp
                            with_reducible rfl
                          rotate_left
                          · simp only [Act.put, List.setIfInBounds_toArray, List.set_cons_zero, List.set_cons_succ, i64_w]
                            rfl
                          refine done_ (done_of HT_.out (by kernel_rfl)) ?_
                          try go_wp2
                          go_ret
                          exact ⟨by first | rfl | (simp [errW_none, errW_some] <;> rfl) | (simp [*, errW_none, errW_some] <;> rfl), by repeat (first | (with_reducible first | exact HB.out | apply below_alloc | apply pw_below_drewN | apply below_drew1 | refine below_set ?_ GE398.out | refine below_set ?_ GE410.out | refine below_set ?_ GE418.out | refine below_set ?_ GE419.out) | exact HB.out)⟩
                        · replace c76 := Bool.eq_false_iff.mpr c76
                          subst c76
                          have H1 : (some ((t407 == x420000_2 && (t408 == x420001_2)) == (t395 == 0))) = some r := by rw [if_neg (show ¬ (false = true) by decide)] at H; exact H
                          clear H
                          have H := H1
                          clear H1
                          obtain rfl := Option.some.inj H
                          try go_wp2
                          have n0_ := Aside0.mk (Kd.R_drew HO_7.out)
                          have n1_ := Aside0.mk (blk_drew BK398.out)
                          have n2_ := Aside0.mk (blk_drew BK410.out)
                          have n3_ := Aside0.mk (blk_drew BK418.out)
                          have n4_ := Aside0.mk (blk_drew BK419.out)
                          have n5_ := Aside0.mk (below_drew1 HB.out)
                          clear HO_7
                          clear BK398
                          clear BK410
                          clear BK418
                          clear BK419
                          clear HB
                          have HO_7 := n0_
                          have BK398 := n1_
                          have BK410 := n2_
                          have BK418 := n3_
                          have BK419 := n4_
                          have HB := n5_
                          clear n0_ n1_ n2_ n3_ n4_ n5_
                          refine start_ (n := 34) (S := fun w' => w'.cell? ⟨gb410, 0, none⟩ = some (.int .i64 t407) ∧ w'.cell? ⟨gb410, 1, none⟩ = some (.int .u64 t408) ∧ w'.cell? ⟨gb418, 0, none⟩ = some (.int .i64 t415) ∧ w'.cell? ⟨gb418, 1, none⟩ = some (.int .u64 t416) ∧ w'.cell? ⟨gb419, 0, none⟩ = some (.int .i64 x420000_2) ∧ w'.cell? ⟨gb419, 1, none⟩ = some (.int .u64 x420001_2) ∧ w'.cell? ⟨gb398, 0, none⟩ = some (.int .i64 t394) ∧ w'.cell? ⟨gb398, 1, none⟩ = some (.int .i64 t395) ∧ w'.cell? ⟨gb398, 2, none⟩ = some (.int .i64 t396)) (ds := []) #[false, false, false, false, false, false, false, false, false, false, false, false, false, false, false, false, false, false, false, false, false, false, false, false, false, false, false, false, false, false, false, false, false, false] (by kernel_rfl) rfl rfl ⟨(blk_cell BK410.out 0).trans rfl, (blk_cell BK410.out 1).trans rfl, (blk_cell BK418.out 0).trans rfl, (blk_cell BK418.out 1).trans rfl, (blk_cell BK419.out 0).trans rfl, (blk_cell BK419.out 1).trans rfl, (blk_cell BK398.out 0).trans rfl, (blk_cell BK398.out 1).trans rfl, (blk_cell BK398.out 2).trans rfl⟩ (fun hHeld => ?_); refine with_tabW synopticlaw22_PrecisionBounds.tab23 synopticlaw22_PrecisionBounds.bits23 (fun HT_ HW_ => ?_)
                          generalize wr.drew = w79 at HO_7 BK398 BK410 BK418 BK419 HB hHeld ⊢
                          refine pure_ (i := 0) (N := some 92) (v := ?_) (a' := ?_) #[true, false, false, false, false, false, false, false, false, false, false, false, false, false, false, false, false, false, false, false, false, false, false, false, false, false, false, false, false, false, false, false, false, false] rfl rfl (any_of HT_.out (by kernel_rfl)) (fun _ _ _ h => h) (Or.inl ⟨by rfl, ?_⟩) ?_ ?_
                          rotate_left
                          · intro w'
                            go_simp
                            with_reducible rfl
                          rotate_left
                          · simp only [Act.put, List.setIfInBounds_toArray, List.set_cons_zero, List.set_cons_succ, i64_w]
                            rfl
                          refine pure_ (i := 1) (N := some 93) (v := ?_) (a' := ?_) #[true, true, false, false, false, false, false, false, false, false, false, false, false, false, false, false, false, false, false, false, false, false, false, false, false, false, false, false, false, false, false, false, false, false] rfl rfl (any_of HT_.out (by kernel_rfl)) (fun _ _ _ h => h) (Or.inl ⟨by rfl, ?_⟩) ?_ ?_
                          rotate_left
                          · intro w'
                            go_simp
                            with_reducible rfl
                          rotate_left
                          · simp only [Act.put, List.setIfInBounds_toArray, List.set_cons_zero, List.set_cons_succ, i64_w]
                            rfl
                          refine pure_ (i := 2) (N := some 94) (v := ?_) (a' := ?_) #[true, true, true, false, false, false, false, false, false, false, false, false, false, false, false, false, false, false, false, false, false, false, false, false, false, false, false, false, false, false, false, false, false, false] rfl rfl (any_of HT_.out (by kernel_rfl)) (fun _ _ _ h => h) (Or.inl ⟨by rfl, ?_⟩) ?_ ?_
                          rotate_left
                          · intro w'
                            go_simp
                            with_reducible rfl
                          rotate_left
                          · simp only [Act.put, List.setIfInBounds_toArray, List.set_cons_zero, List.set_cons_succ, i64_w]
                            rfl
                          refine pure_ (i := 3) (N := some 95) (v := ?_) (a' := ?_) #[true, true, true, true, false, false, false, false, false, false, false, false, false, false, false, false, false, false, false, false, false, false, false, false, false, false, false, false, false, false, false, false, false, false] rfl rfl (any_of HT_.out (by kernel_rfl)) (fun _ _ _ h => h) (Or.inl ⟨by rfl, ?_⟩) ?_ ?_
                          rotate_left
                          · intro w'
                            go_simp
                            with_reducible rfl
                          rotate_left
                          · simp only [Act.put, List.setIfInBounds_toArray, List.set_cons_zero, List.set_cons_succ, i64_w]
                            rfl
                          refine pure_ (i := 4) (N := some 96) (v := ?_) (a' := ?_) #[true, true, true, true, true, false, false, false, false, false, false, false, false, false, false, false, false, false, false, false, false, false, false, false, false, false, false, false, false, false, false, false, false, false] rfl rfl (any_of HT_.out (by kernel_rfl)) (fun _ _ _ h => h) (Or.inl ⟨by rfl, ?_⟩) ?_ ?_
                          rotate_left
                          · intro w'
                            go_simp
                            with_reducible rfl
                          rotate_left
                          · simp only [Act.put, List.setIfInBounds_toArray, List.set_cons_zero, List.set_cons_succ, i64_w]
                            rfl
                          refine pure_ (i := 5) (N := some 97) (v := ?_) (a' := ?_) #[true, true, true, true, true, true, false, false, false, false, false, false, false, false, false, false, false, false, false, false, false, false, false, false, false, false, false, false, false, false, false, false, false, false] rfl rfl (any_of HT_.out (by kernel_rfl)) (fun _ _ _ h => h) (Or.inl ⟨by rfl, ?_⟩) ?_ ?_
                          rotate_left
                          · intro w'
                            go_simp
                            with_reducible rfl
                          rotate_left
                          · simp only [Act.put, List.setIfInBounds_toArray, List.set_cons_zero, List.set_cons_succ, i64_w]
                            rfl
                          refine pure_ (i := 6) (N := some 98) (v := ?_) (a' := ?_) #[true, true, true, true, true, true, true, false, false, false, false, false, false, false, false, false, false, false, false, false, false, false, false, false, false, false, false, false, false, false, false, false, false, false] rfl rfl (any_of HT_.out (by kernel_rfl)) (fun _ _ _ h => h) (Or.inl ⟨by rfl, ?_⟩) ?_ ?_
                          rotate_left
                          · intro w'
                            go_simp
                            with_reducible rfl
                          rotate_left
                          · simp only [Act.put, List.setIfInBounds_toArray, List.set_cons_zero, List.set_cons_succ, i64_w]
                            rfl
                          refine pure_ (i := 7) (N := some 99) (v := ?_) (a' := ?_) #[true, true, true, true, true, true, true, true, false, false, false, false, false, false, false, false, false, false, false, false, false, false, false, false, false, false, false, false, false, false, false, false, false, false] rfl rfl (any_of HT_.out (by kernel_rfl)) (fun _ _ _ h => h) (Or.inl ⟨by rfl, ?_⟩) ?_ ?_
                          rotate_left
                          · intro w'
                            go_simp
                            with_reducible rfl
                          rotate_left
                          · simp only [Act.put, List.setIfInBounds_toArray, List.set_cons_zero, List.set_cons_succ, i64_w]
                            rfl
                          refine pure_ (i := 8) (N := some 100) (v := ?_) (a' := ?_) #[true, true, true, true, true, true, true, true, true, false, false, false, false, false, false, false, false, false, false, false, false, false, false, false, false, false, false, false, false, false, false, false, false, false] rfl rfl (any_of HT_.out (by kernel_rfl)) (fun _ _ _ h => h) (Or.inl ⟨by rfl, ?_⟩) ?_ ?_
                          rotate_left
                          · intro w'
                            go_simp
                            with_reducible rfl
                          rotate_left
                          · simp only [Act.put, List.setIfInBounds_toArray, List.set_cons_zero, List.set_cons_succ, i64_w]
                            rfl
                          refine pure_ (i := 9) (N := some 101) (v := ?_) (a' := ?_) #[true, true, true, true, true, true, true, true, true, true, false, false, false, false, false, false, false, false, false, false, false, false, false, false, false, false, false, false, false, false, false, false, false, false] rfl rfl (any_of HT_.out (by kernel_rfl)) (fun _ _ _ h => h) (Or.inl ⟨by rfl, ?_⟩) ?_ ?_
                          rotate_left
                          · intro w'
                            go_simp
                            with_reducible rfl
                          rotate_left
                          · simp only [Act.put, List.setIfInBounds_toArray, List.set_cons_zero, List.set_cons_succ, i64_w]
                            rfl
                          refine pure_ (i := 10) (N := some 102) (v := ?_) (a' := ?_) #[true, true, true, true, true, true, true, true, true, true, true, false, false, false, false, false, false, false, false, false, false, false, false, false, false, false, false, false, false, false, false, false, false, false] rfl rfl (any_of HT_.out (by kernel_rfl)) (fun _ _ _ h => h) (Or.inl ⟨by rfl, ?_⟩) ?_ ?_
                          rotate_left
                          · intro w'
                            go_simp
                            with_reducible rfl
                          rotate_left
                          · simp only [Act.put, List.setIfInBounds_toArray, List.set_cons_zero, List.set_cons_succ, i64_w]
                            rfl
                          refine take_ (i := 11) (N := some 103) (v := ?_) (a' := ?_) #[true, true, true, true, true, true, true, true, true, true, true, true, false, false, false, false, false, false, false, false, false, false, false, false, false, false, false, false, false, false, false, false, false, false] rfl rfl (take_ofW HT_.out HW_.out (by kernel_rfl)) (fun _ _ _ h => h) (Or.inl ⟨by rfl, ?_⟩) hHeld ?_ ?_
                          rotate_left
                          · rintro w' ⟨s0, s1, s2, s3, s4, s5, s6, s7, s8⟩
                            go_simp
                            with_reducible rfl
                          rotate_left
                          · simp only [Act.put, List.setIfInBounds_toArray, List.set_cons_zero, List.set_cons_succ, i64_w]
                            rfl
                          refine take_ (i := 12) (N := some 104) (v := ?_) (a' := ?_) #[true, true, true, true, true, true, true, true, true, true, true, true, true, false, false, false, false, false, false, false, false, false, false, false, false, false, false, false, false, false, false, false, false, false] rfl rfl (take_ofW HT_.out HW_.out (by kernel_rfl)) (fun _ _ _ h => h) (Or.inl ⟨by rfl, ?_⟩) hHeld ?_ ?_
                          rotate_left
                          · rintro w' ⟨s0, s1, s2, s3, s4, s5, s6, s7, s8⟩
                            go_simp
                            with_reducible rfl
                          rotate_left
                          · simp only [Act.put, List.setIfInBounds_toArray, List.set_cons_zero, List.set_cons_succ, i64_w]
                            rfl
                          refine pure_ (i := 13) (N := some 105) (v := ?_) (a' := ?_) #[true, true, true, true, true, true, true, true, true, true, true, true, true, true, false, false, false, false, false, false, false, false, false, false, false, false, false, false, false, false, false, false, false, false] rfl rfl (any_of HT_.out (by kernel_rfl)) (fun _ _ _ h => h) (Or.inl ⟨by rfl, ?_⟩) ?_ ?_
                          rotate_left
                          · intro w'
                            go_simp
                            with_reducible rfl
                          rotate_left
                          · simp only [Act.put, List.setIfInBounds_toArray, List.set_cons_zero, List.set_cons_succ, i64_w]
                            rfl
                          refine pure_ (i := 14) (N := some 106) (v := ?_) (a' := ?_) #[true, true, true, true, true, true, true, true, true, true, true, true, true, true, true, false, false, false, false, false, false, false, false, false, false, false, false, false, false, false, false, false, false, false] rfl rfl (any_of HT_.out (by kernel_rfl)) (fun _ _ _ h => h) (Or.inl ⟨by rfl, ?_⟩) ?_ ?_
                          rotate_left
                          · intro w'
                            go_simp
                            with_reducible rfl
                          rotate_left
                          · simp only [Act.put, List.setIfInBounds_toArray, List.set_cons_zero, List.set_cons_succ, i64_w]
                            rfl
                          refine pure_ (i := 15) (N := some 107) (v := ?_) (a' := ?_) #[true, true, true, true, true, true, true, true, true, true, true, true, true, true, true, true, false, false, false, false, false, false, false, false, false, false, false, false, false, false, false, false, false, false] rfl rfl (any_of HT_.out (by kernel_rfl)) (fun _ _ _ h => h) (Or.inl ⟨by rfl, ?_⟩) ?_ ?_
                          rotate_left
                          · intro w'
                            go_simp
                            with_reducible rfl
                          rotate_left
                          · simp only [Act.put, List.setIfInBounds_toArray, List.set_cons_zero, List.set_cons_succ, i64_w]
                            rfl
                          refine take_ (i := 16) (N := some 108) (v := ?_) (a' := ?_) #[true, true, true, true, true, true, true, true, true, true, true, true, true, true, true, true, true, false, false, false, false, false, false, false, false, false, false, false, false, false, false, false, false, false] rfl rfl (take_ofW HT_.out HW_.out (by kernel_rfl)) (fun _ _ _ h => h) (Or.inl ⟨by rfl, ?_⟩) hHeld ?_ ?_
                          rotate_left
                          · rintro w' ⟨s0, s1, s2, s3, s4, s5, s6, s7, s8⟩
                            go_simp
                            with_reducible rfl
                          rotate_left
                          · simp only [Act.put, List.setIfInBounds_toArray, List.set_cons_zero, List.set_cons_succ, i64_w]
                            rfl
                          refine take_ (i := 17) (N := some 109) (v := ?_) (a' := ?_) #[true, true, true, true, true, true, true, true, true, true, true, true, true, true, true, true, true, true, false, false, false, false, false, false, false, false, false, false, false, false, false, false, false, false] rfl rfl (take_ofW HT_.out HW_.out (by kernel_rfl)) (fun _ _ _ h => h) (Or.inl ⟨by rfl, ?_⟩) hHeld ?_ ?_
                          rotate_left
                          · rintro w' ⟨s0, s1, s2, s3, s4, s5, s6, s7, s8⟩
                            go_simp
                            with_reducible rfl
                          rotate_left
                          · simp only [Act.put, List.setIfInBounds_toArray, List.set_cons_zero, List.set_cons_succ, i64_w]
                            rfl
                          refine one_ (i := 18) (N := some 110) #[true, true, true, true, true, true, true, true, true, true, true, true, true, true, true, true, true, true, true, false, false, false, false, false, false, false, false, false, false, false, false, false, false, false] rfl rfl (one_of HT_.out (by kernel_rfl)) (by decide) (fun K hK => ?_)
                          refine goes_ Tryd.func12 (by kernel_rfl) rfl #[.agg #[.int .i64 t407, .int .u64 t408], .agg #[.int .i64 x420000_2, .int .u64 x420001_2]] (by rfl) rfl rfl (by (try simp only [List.map_toArray, List.map_cons, List.map_nil]); first | done | rfl | (simp only [List.length_drop, List.length_take]; rfl)) ?_
                          with_reducible refine (precision_Compare.calls k2 t407 t408 x420000_2 x420001_2 t428 _ A74.out).mono ?_
                          rintro e w80 ⟨rfl, hb⟩
                          refine ⟨_, rfl, ?_⟩
                          have n0_ := Aside0.mk (Kd.R_below (by (with_reducible repeat (first | apply Kd.R_alloc | apply Kd.R_drewN | apply Kd.R_drew)); exact HO_7.out) hb)
                          have n1_ := Aside0.mk (blk_below (g := gb398) (o := .cells #[.int .i64 t394, .int .i64 t395, .int .i64 t396] 36 (0, 0)) (by (with_reducible repeat (first | refine blk_drewN ?_ _ | refine blk_drew ?_ | refine blk_alloc ?_ _)); exact BK398.out) hb)
                          have n2_ := Aside0.mk (blk_below (g := gb410) (o := .cells #[.int .i64 t407, .int .u64 t408] 25 (0, 0)) (by (with_reducible repeat (first | refine blk_drewN ?_ _ | refine blk_drew ?_ | refine blk_alloc ?_ _)); exact BK410.out) hb)
                          have n3_ := Aside0.mk (blk_below (g := gb418) (o := .cells #[.int .i64 t415, .int .u64 t416] 25 (0, 0)) (by (with_reducible repeat (first | refine blk_drewN ?_ _ | refine blk_drew ?_ | refine blk_alloc ?_ _)); exact BK418.out) hb)
                          have n4_ := Aside0.mk (blk_below (g := gb419) (o := .cells #[.int .i64 x420000_2, .int .u64 x420001_2] 25 (0, 0)) (by (with_reducible repeat (first | refine blk_drewN ?_ _ | refine blk_drew ?_ | refine blk_alloc ?_ _)); exact BK419.out) hb)
                          have n5_ := Aside0.mk (below_step (by repeat (first | (with_reducible first | exact HB.out | apply below_alloc | apply pw_below_drewN | apply below_drew1 | refine below_set ?_ GE398.out | refine below_set ?_ GE410.out | refine below_set ?_ GE418.out | refine below_set ?_ GE419.out) | exact HB.out)) hb)
                          clear HO_7
                          clear BK398
                          clear BK410
                          clear BK418
                          clear BK419
                          clear HB
                          have HO_7 := n0_
                          have BK398 := n1_
                          have BK410 := n2_
                          have BK418 := n3_
                          have BK419 := n4_
                          have HB := n5_
                          clear n0_ n1_ n2_ n3_ n4_ n5_
                          (try clear hb)
                          (try clear hb2)
                          (try clear hk)
                          (try clear hi)
                          refine hK.out _ _ ⟨(blk_cell BK410.out 0).trans rfl, (blk_cell BK410.out 1).trans rfl, (blk_cell BK418.out 0).trans rfl, (blk_cell BK418.out 1).trans rfl, (blk_cell BK419.out 0).trans rfl, (blk_cell BK419.out 1).trans rfl, (blk_cell BK398.out 0).trans rfl, (blk_cell BK398.out 1).trans rfl, (blk_cell BK398.out 2).trans rfl⟩ (fun hHeld => ?_)
                          clear hK K
                          refine norm_ (a' := ?_) ?_ ?_
                          rotate_left
                          · show Act.put _ (some 110) _ = _
                            simp only [Act.put, List.setIfInBounds_toArray, List.set_cons_zero, List.set_cons_succ, i64_w]
                            rfl
                          refine pure_ (i := 19) (N := some 111) (v := ?_) (a' := ?_) #[true, true, true, true, true, true, true, true, true, true, true, true, true, true, true, true, true, true, true, true, false, false, false, false, false, false, false, false, false, false, false, false, false, false] rfl rfl (any_of HT_.out (by kernel_rfl)) (fun _ _ _ h => h) (Or.inl ⟨by rfl, ?_⟩) ?_ ?_
                          rotate_left
                          · intro w'
                            go_simp
                            with_reducible rfl
                          rotate_left
                          · simp only [Act.put, List.setIfInBounds_toArray, List.set_cons_zero, List.set_cons_succ, i64_w]
                            rfl
                          refine pure_ (i := 20) (N := some 112) (v := ?_) (a' := ?_) #[true, true, true, true, true, true, true, true, true, true, true, true, true, true, true, true, true, true, true, true, true, false, false, false, false, false, false, false, false, false, false, false, false, false] rfl rfl (any_of HT_.out (by kernel_rfl)) (fun _ _ _ h => h) (Or.inl ⟨by rfl, ?_⟩) ?_ ?_
                          rotate_left
                          · intro w'
                            go_simp
                            with_reducible rfl
                          rotate_left
                          · simp only [Act.put, List.setIfInBounds_toArray, List.set_cons_zero, List.set_cons_succ, i64_w]
                            rfl
                          refine pure_ (i := 21) (N := some 113) (v := ?_) (a' := ?_) #[true, true, true, true, true, true, true, true, true, true, true, true, true, true, true, true, true, true, true, true, true, true, false, false, false, false, false, false, false, false, false, false, false, false] rfl rfl (any_of HT_.out (by kernel_rfl)) (fun _ _ _ h => h) (Or.inl ⟨by rfl, ?_⟩) ?_ ?_
                          rotate_left
                          · intro w'
                            go_simp
                            with_reducible rfl
                          rotate_left
                          · simp only [Act.put, List.setIfInBounds_toArray, List.set_cons_zero, List.set_cons_succ, i64_w]
                            rfl
                          refine pure_ (i := 25) (N := some 117) (v := ?_) (a' := ?_) #[true, true, true, true, true, true, true, true, true, true, true, true, true, true, true, true, true, true, true, true, true, true, false, false, false, true, false, false, false, false, false, false, false, false] rfl rfl (any_of HT_.out (by kernel_rfl)) (fun _ _ _ h => h) (Or.inl ⟨by rfl, ?_⟩) ?_ ?_
                          rotate_left
                          · intro w'
                            go_simp
                            with_reducible rfl
                          rotate_left
                          · simp only [Act.put, List.setIfInBounds_toArray, List.set_cons_zero, List.set_cons_succ, i64_w]
                            rfl
                          refine pure_ (i := 26) (N := some 118) (v := ?_) (a' := ?_) #[true, true, true, true, true, true, true, true, true, true, true, true, true, true, true, true, true, true, true, true, true, true, false, false, false, true, true, false, false, false, false, false, false, false] rfl rfl (any_of HT_.out (by kernel_rfl)) (fun _ _ _ h => h) (Or.inl ⟨by rfl, ?_⟩) ?_ ?_
                          rotate_left
                          · intro w'
                            go_simp
                            with_reducible rfl
                          rotate_left
                          · simp only [Act.put, List.setIfInBounds_toArray, List.set_cons_zero, List.set_cons_succ, i64_w]
                            rfl
                          refine pure_ (i := 27) (N := some 119) (v := ?_) (a' := ?_) #[true, true, true, true, true, true, true, true, true, true, true, true, true, true, true, true, true, true, true, true, true, true, false, false, false, true, true, true, false, false, false, false, false, false] rfl rfl (any_of HT_.out (by kernel_rfl)) (fun _ _ _ h => h) (Or.inl ⟨by rfl, ?_⟩) ?_ ?_
                          rotate_left
                          · intro w'
                            go_simp
                            with_reducible rfl
                          rotate_left
                          · simp only [Act.put, List.setIfInBounds_toArray, List.set_cons_zero, List.set_cons_succ, i64_w]
                            rfl
                          refine take_ (i := 22) (N := some 114) (v := ?_) (a' := ?_) #[true, true, true, true, true, true, true, true, true, true, true, true, true, true, true, true, true, true, true, true, true, true, true, false, false, true, true, true, false, false, false, false, false, false] rfl rfl (take_ofW HT_.out HW_.out (by kernel_rfl)) (fun _ _ _ h => h) (Or.inl ⟨by rfl, ?_⟩) hHeld ?_ ?_
                          rotate_left
                          · rintro w' ⟨s0, s1, s2, s3, s4, s5, s6, s7, s8⟩
                            go_simp
                            with_reducible rfl
                          rotate_left
                          · simp only [Act.put, List.setIfInBounds_toArray, List.set_cons_zero, List.set_cons_succ, i64_w]
                            rfl
                          refine take_ (i := 23) (N := some 115) (v := ?_) (a' := ?_) #[true, true, true, true, true, true, true, true, true, true, true, true, true, true, true, true, true, true, true, true, true, true, true, true, false, true, true, true, false, false, false, false, false, false] rfl rfl (take_ofW HT_.out HW_.out (by kernel_rfl)) (fun _ _ _ h => h) (Or.inl ⟨by rfl, ?_⟩) hHeld ?_ ?_
                          rotate_left
                          · rintro w' ⟨s0, s1, s2, s3, s4, s5, s6, s7, s8⟩
                            go_simp
                            with_reducible rfl
                          rotate_left
                          · simp only [Act.put, List.setIfInBounds_toArray, List.set_cons_zero, List.set_cons_succ, i64_w]
                            rfl
                          refine pure_ (i := 24) (N := some 116) (v := ?_) (a' := ?_) #[true, true, true, true, true, true, true, true, true, true, true, true, true, true, true, true, true, true, true, true, true, true, true, true, true, true, true, true, false, false, false, false, false, false] rfl rfl (any_of HT_.out (by kernel_rfl)) (fun _ _ _ h => h) (Or.inl ⟨by rfl, ?_⟩) ?_ ?_
                          rotate_left
                          · intro w'
                            go_simp
                            with_reducible rfl
                          rotate_left
                          · simp only [Act.put, List.setIfInBounds_toArray, List.set_cons_zero, List.set_cons_succ, i64_w]
                            rfl
                          refine take_ (i := 28) (N := some 120) (v := ?_) (a' := ?_) #[true, true, true, true, true, true, true, true, true, true, true, true, true, true, true, true, true, true, true, true, true, true, true, true, true, true, true, true, true, false, false, false, false, false] rfl rfl (take_ofW HT_.out HW_.out (by kernel_rfl)) (fun _ _ _ h => h) (Or.inl ⟨by rfl, ?_⟩) hHeld ?_ ?_
                          rotate_left
                          · rintro w' ⟨s0, s1, s2, s3, s4, s5, s6, s7, s8⟩
                            go_simp
                            with_reducible rfl
                          rotate_left
                          · simp only [Act.put, List.setIfInBounds_toArray, List.set_cons_zero, List.set_cons_succ, i64_w]
                            rfl
                          refine pure_ (i := 29) (N := some 121) (v := ?_) (a' := ?_) #[true, true, true, true, true, true, true, true, true, true, true, true, true, true, true, true, true, true, true, true, true, true, true, true, true, true, true, true, true, true, false, false, false, false] rfl rfl (any_of HT_.out (by kernel_rfl)) (fun _ _ _ h => h) (Or.inl ⟨by rfl, ?_⟩) ?_ ?_
                          rotate_left
                          · intro w'
                            go_simp
                            with_reducible rfl
                          rotate_left
                          · simp only [Act.put, List.setIfInBounds_toArray, List.set_cons_zero, List.set_cons_succ, i64_w]
                            rfl
                          refine pure_ (i := 30) (N := some 122) (v := ?_) (a' := ?_) #[true, true, true, true, true, true, true, true, true, true, true, true, true, true, true, true, true, true, true, true, true, true, true, true, true, true, true, true, true, true, true, false, false, false] rfl rfl (any_of HT_.out (by kernel_rfl)) (fun _ _ _ h => h) (Or.inl ⟨by rfl, ?_⟩) ?_ ?_
                          rotate_left
                          · intro w'
                            go_simp
                            with_reducible rfl
                          rotate_left
                          · simp only [Act.put, List.setIfInBounds_toArray, List.set_cons_zero, List.set_cons_succ, i64_w]
                            rfl
                          refine pure_ (i := 31) (N := some 123) (v := ?_) (a' := ?_) #[true, true, true, true, true, true, true, true, true, true, true, true, true, true, true, true, true, true, true, true, true, true, true, true, true, true, true, true, true, true, true, true, false, false] rfl rfl (any_of HT_.out (by kernel_rfl)) (fun _ _ _ h => h) (Or.inl ⟨by rfl, ?_⟩) ?_ ?_
                          rotate_left
                          · intro w'
                            go_simp
                            with_reducible rfl
                          rotate_left
                          · simp only [Act.put, List.setIfInBounds_toArray, List.set_cons_zero, List.set_cons_succ, i64_w]
                            rfl
                          refine pure_ (i := 32) (N := some 124) (v := ?_) (a' := ?_) #[true, true, true, true, true, true, true, true, true, true, true, true, true, true, true, true, true, true, true, true, true, true, true, true, true, true, true, true, true, true, true, true, true, false] rfl rfl (any_of HT_.out (by kernel_rfl)) (fun _ _ _ h => h) (Or.inl ⟨by rfl, ?_⟩) ?_ ?_
                          rotate_left
                          · intro w'
                            go_simp
                            with_reducible rfl
                          rotate_left
                          · simp only [Act.put, List.setIfInBounds_toArray, List.set_cons_zero, List.set_cons_succ, i64_w]
                            rfl
                          refine pure_ (i := 33) (N := some 4) (v := ?_) (a' := ?_) #[true, true, true, true, true, true, true, true, true, true, true, true, true, true, true, true, true, true, true, true, true, true, true, true, true, true, true, true, true, true, true, true, true, true] rfl rfl (any_of HT_.out (by kernel_rfl)) (fun _ _ _ h => h) (Or.inl ⟨by rfl, ?_⟩) ?_ ?_
                          rotate_left
                          · intro w'
                            go_simp
                            with_reducible rfl
                          rotate_left
                          · simp only [Act.put, List.setIfInBounds_toArray, List.set_cons_zero, List.set_cons_succ, i64_w]
                            rfl
                          refine done_ (done_of HT_.out (by kernel_rfl)) ?_
                          try go_wp2
                          go_ret
                          exact ⟨by first | rfl | (simp [errW_none, errW_some] <;> rfl) | (simp [*, errW_none, errW_some] <;> rfl), by repeat (first | (with_reducible first | exact HB.out | apply below_alloc | apply pw_below_drewN | apply below_drew1 | refine below_set ?_ GE398.out | refine below_set ?_ GE410.out | refine below_set ?_ GE418.out | refine below_set ?_ GE419.out) | exact HB.out)⟩
                      · rw [if_neg c75] at H
                        with_reducible exact absurd (Option.some.inj H) (by rw [HRT.out]; simp)
                    · rw [if_neg c73] at H
                      with_reducible exact absurd (Option.some.inj H) (by rw [HRT.out]; simp)
                  · rw [if_neg c72] at H
                    with_reducible exact absurd (Option.some.inj H) (by rw [HRT.out]; simp)
                · rw [if_neg c71] at H
                  with_reducible exact absurd (Option.some.inj H) (by rw [HRT.out]; simp)
              · rw [if_neg c70] at H
                with_reducible exact absurd (Option.some.inj H) (by rw [HRT.out]; simp)
  · replace c4 := Bool.eq_false_iff.mpr c4
    subst c4
    have H1 : (some false) = some r := by rw [if_neg (show ¬ (false = true) by decide)] at H; exact H
    clear H
    have H := H1
    clear H1
    obtain rfl := Option.some.inj H
    go_enter Tryd.func7, Tryd.ntmps7
    go_wp2_with (first | ((with_reducible refine gate_callee (f := 8) rfl ?_); refine goesL_ (some 18) rfl rfl Tryd.func8 (by kernel_rfl) rfl #[] rfl (by (try simp only [List.map_toArray, List.map_cons, List.map_nil]); first | done | rfl | (simp only [List.length_drop, List.length_take]; rfl)) ?_; (with_reducible refine (synopticlaw22_awake.calls k  false _ ?side1 A3.out).mono ?_); (case side1 => exact CornersAt.below HG.out (by repeat (first | (with_reducible first | exact HB.out | apply below_alloc | apply pw_below_drewN | apply below_drew1) | exact HB.out))); rintro e w87 ⟨rfl, hb⟩; refine ⟨_, rfl, ?_⟩; have n0_ := Aside0.mk (below_step (by repeat (first | (with_reducible first | exact HB.out | apply below_alloc | apply pw_below_drewN | apply below_drew1) | exact HB.out)) hb); clear HB; have HB := n0_; clear n0_; (try clear hb); (try clear hb2); (try clear hk); (try clear hi)))
    go_ret
    exact ⟨by first | rfl | (simp [errW_none, errW_some] <;> rfl) | (simp [*, errW_none, errW_some] <;> rfl), by repeat (first | (with_reducible first | exact HB.out | apply below_alloc | apply pw_below_drewN | apply below_drew1) | exact HB.out)⟩

/-- THE ONE PURE STATEMENT of synopticlaw22_PrecisionBounds: yours. -/
def synopticlaw22_PrecisionBounds.Pure : Prop := ∀ (l0 : List Int) (a1 : Int), l0.length ≤ maxLen → l0.length * 1 ≤ 140737488351232 → (∀ x ∈ l0, (Lit.int .u8 x).wf = true) → (Lit.int .i64 a1).wf = true → ∃ k, synopticlaw22_PrecisionBounds.f k l0 a1 = some true
theorem synopticlaw22_PrecisionBounds.walk (P : synopticlaw22_PrecisionBounds.Pure) (a0 : Option Addr) (len0 cap0 : Nat) (z0 : List Int) (a1 : Int) (w : World) (w0 : (a0 = none ∧ len0 = 0 ∧ cap0 = 0 ∧ z0 = []) ∨ ∃ x, a0 = some x ∧ len0 ≤ cap0 ∧ cap0 ≤ maxLen ∧ z0.length = cap0 ∧ (∀ i, i < z0.length → w.cell? (x.add i) = some (.int .u8 (z0.getD i 0))) ∧ ∀ n ∈ z0, (Lit.int .u8 n).wf = true) (y0 : len0 * 1 ≤ 140737488351232) (w1 : (Lit.int .i64 a1).wf = true) (hG : CornersAt w) :
    Calls Tryd.prog 7 #[.slice a0 len0 cap0, .int .i64 a1] w fun e w' => e = .returned (.bool true) ∧ Below w.heap.size w w' := by
  obtain ⟨l0, rfl, hr0, hm0, hw0, hc0⟩ := ReadsInt.ofRowC w0
  obtain ⟨k, h⟩ := P l0 a1 hm0 y0 hw0 w1
  refine (synopticlaw22_PrecisionBounds.calls k _ _ l0 a1 true w (Kd.C_of_reads (d := (0 : Int)) (h1 := fun _ => rfl) hr0) hc0 hG rfl h).mono ?_
  rintro e w' ⟨rfl, hd⟩
  exact ⟨rfl, hd⟩

end Go.Proofs.YtdagdoiedibpgaaDoor.Prt
