-- Written by wip/ext.py, a driver over the kit's print, with texts of this session's own.
import Derived.Test.YtdagdoiedibpgaaDoorPrt0
import Derived.Test.YtdagdoiedibpgaaDoorPrt1
import Derived.Test.YtdagdoiedibpgaaDoorPrt4
import Derived.Test.YtdagdoiedibpgaaDoorPrt11
import Derived.Test.YtdagdoiedibpgaaDoorPrt12
import Derived.Test.YtdagdoiedibpgaaDoorPrt20
import Derived.Test.YtdagdoiedibpgaaDoorPrt21
namespace Go.Proofs.YtdagdoiedibpgaaDoor.Prt
open Go.RowKit Go.Proofs.YtdagdoiedibpgaaDoorW.PrintWords Go.Proofs.YtdagdoiedibpgaaDoorW.PrintLast Go.Proofs.YtdagdoiedibpgaaDoorW.PrintMore
attribute [local go_sem] max2_int min2_int max_two min_two max_three min_three max_four min_four   -- for this text's walks alone
set_option linter.unusedVariables false
set_option linter.unusedSimpArgs false

attribute [local go_sem high] eqA25
/-! ### synopticlaw22_PrecisionDefinite: function 6 -/
mutual
def synopticlaw22_PrecisionDefinite.l0 : Nat → Int → List Int → Int → Int → List Int → Int → Int → Int → Int → Option (Bool)
  | 0, _, _, _, _, _, _, _, _, _ => none
  | k + 1, x7, x8, x33, x34, x365000, x365001, x370000, x370001, x370002 => if x34 < x33 then (if 0 ≤ x34 then (if x34 < (x8.length : Int) then (synopticlaw22_PrecisionDefinite.l0 k x7 (x8.set (x34 : Int).toNat x7) x33 (wrap64 (x34 + 1)) x365000 x365001 x370000 x370001 x370002) else (none)) else (none)) else ((precision_Apply.f k x370000 x370001 x370002 x8).bind fun bt376 => (synopticlaw22_PrecisionDefinite.l1 k x7 x8 bt376.1 bt376.2 (bt376.1.length : Int) 0 x365000 x365001 x370000 x370001 x370002))
def synopticlaw22_PrecisionDefinite.l1 : Nat → Int → List Int → List Int → Int → Int → Int → List Int → Int → Int → Int → Int → Option (Bool)
  | 0, _, _, _, _, _, _, _, _, _, _, _ => none
  | k + 1, x7, x8, x10, x11, x49, x50, x365000, x365001, x370000, x370001, x370002 => if x50 < x49 then (if 0 ≤ x50 then (if x50 < (x10.length : Int) then (if (rd x10 x50) = (wrap64 (x370002 * x7)) then (synopticlaw22_PrecisionDefinite.l1 k x7 x8 x10 x11 x49 (wrap64 (x50 + 1)) x365000 x365001 x370000 x370001 x370002) else (some false)) else (none)) else (none)) else ((synopticfield_Codes_For.f k x365000 x365001 x370000 x370001 x370002).bind fun bt381 => (synopticlaw22_PrecisionDefinite.l2 k x8 x10 x11 bt381.1 true bt381.1 (bt381.1.length : Int) 0 x370000 x370001 x370002))
def synopticlaw22_PrecisionDefinite.l2 : Nat → List Int → List Int → Int → List Int → Bool → List Int → Int → Int → Int → Int → Int → Option (Bool)
  | 0, _, _, _, _, _, _, _, _, _, _, _ => none
  | k + 1, x8, x10, x11, x13, x14, x66, x67, x68, x370000, x370001, x370002 => if x68 < x67 then (if 0 ≤ x68 then (if x68 < (x66.length : Int) then (if x14 = true then (synopticlaw22_PrecisionDefinite.l2 k x8 x10 x11 x13 ((rd x66 x68) == 0) x66 x67 (wrap64 (x68 + 1)) x370000 x370001 x370002) else (synopticlaw22_PrecisionDefinite.l2 k x8 x10 x11 x13 false x66 x67 (wrap64 (x68 + 1)) x370000 x370001 x370002)) else (none)) else (none)) else ((precision_Energy.f x370000 x370001 x370002 x13).bind fun bt386 => (if x11 = 0 then (if (x10.length : Int) = (x8.length : Int) then (if bt386.2.2 = 0 then (some ((bt386.1 == 0 && (bt386.2.1 == 0)) == x14)) else (some false)) else (some false)) else (some false)))
end
def synopticlaw22_PrecisionDefinite.f (k : Nat) (l0 : List Int) (a1 : Int) : Option (Bool) := (synopticlaw22_awake.f k).bind fun t361 => (if t361 = true then ((synopticfield_New.f l0 120).bind fun bt362 => ((synopticfield_Codes_Precision.f bt362.1 bt362.2).bind fun bt365 => ((synopticfield_Mod.f a1 2097153).bind fun t370 => ((synopticref22_Nodes.f bt365.1).bind fun t371 => (if 0 ≤ t371 then (if (t371 : Int).toNat ≤ 35184372088832 then ((some (List.replicate (t371 : Int).toNat 0 : List Int)).bind fun y372 => (synopticlaw22_PrecisionDefinite.l0 k (wrap64 (t370 - 1048576)) y372 (y372.length : Int) 0 bt362.1 bt365.2.2.2 bt365.1 bt365.2.1 bt365.2.2.1)) else (none)) else (none)))))) else (some false))
theorem synopticlaw22_PrecisionDefinite.mono_l : ∀ k, (∀ y0 y1 y2 y3 y4 y5 y6 y7 y8, LeO (synopticlaw22_PrecisionDefinite.l0 k y0 y1 y2 y3 y4 y5 y6 y7 y8) (synopticlaw22_PrecisionDefinite.l0 (k + 1) y0 y1 y2 y3 y4 y5 y6 y7 y8)) ∧ (∀ y0 y1 y2 y3 y4 y5 y6 y7 y8 y9 y10, LeO (synopticlaw22_PrecisionDefinite.l1 k y0 y1 y2 y3 y4 y5 y6 y7 y8 y9 y10) (synopticlaw22_PrecisionDefinite.l1 (k + 1) y0 y1 y2 y3 y4 y5 y6 y7 y8 y9 y10)) ∧ (∀ y0 y1 y2 y3 y4 y5 y6 y7 y8 y9 y10, LeO (synopticlaw22_PrecisionDefinite.l2 k y0 y1 y2 y3 y4 y5 y6 y7 y8 y9 y10) (synopticlaw22_PrecisionDefinite.l2 (k + 1) y0 y1 y2 y3 y4 y5 y6 y7 y8 y9 y10))
  | 0 => ⟨fun _ _ _ _ _ _ _ _ _ r h => by simp [synopticlaw22_PrecisionDefinite.l0] at h, fun _ _ _ _ _ _ _ _ _ _ _ r h => by simp [synopticlaw22_PrecisionDefinite.l1] at h, fun _ _ _ _ _ _ _ _ _ _ _ r h => by simp [synopticlaw22_PrecisionDefinite.l2] at h⟩
  | k + 1 => by
    obtain ⟨ih0, ih1, ih2⟩ := synopticlaw22_PrecisionDefinite.mono_l k
    refine ⟨?_, ?_, ?_⟩
    · intro y0 y1 y2 y3 y4 y5 y6 y7 y8
      unfold synopticlaw22_PrecisionDefinite.l0
      repeat' first
      | (with_reducible exact ih0 _ _ _ _ _ _ _ _ _)
      | (with_reducible exact ih1 _ _ _ _ _ _ _ _ _ _ _)
      | (with_reducible exact ih2 _ _ _ _ _ _ _ _ _ _ _)
      | (with_reducible exact precision_Apply.mono _ _ _ _ _)
      | (with_reducible exact synopticfield_Codes_For.mono _ _ _ _ _ _)
      | (with_reducible exact synopticlaw22_awake.mono _)
      | (with_reducible exact LeO.refl _)
      | (with_reducible exact LeO.none _)
      | (with_reducible refine LeO.ite ?_ ?_)
      | (with_reducible refine LeO.bind ?_ (fun _ => ?_))
      | exact ih0 _ _ _ _ _ _ _ _ _
      | exact ih1 _ _ _ _ _ _ _ _ _ _ _
      | exact ih2 _ _ _ _ _ _ _ _ _ _ _
      | exact precision_Apply.mono _ _ _ _ _
      | exact synopticfield_Codes_For.mono _ _ _ _ _ _
      | exact synopticlaw22_awake.mono _
      | exact LeO.none _
      | refine LeO.ite ?_ ?_
      | refine LeO.bind ?_ (fun _ => ?_)
    · intro y0 y1 y2 y3 y4 y5 y6 y7 y8 y9 y10
      unfold synopticlaw22_PrecisionDefinite.l1
      repeat' first
      | (with_reducible exact ih0 _ _ _ _ _ _ _ _ _)
      | (with_reducible exact ih1 _ _ _ _ _ _ _ _ _ _ _)
      | (with_reducible exact ih2 _ _ _ _ _ _ _ _ _ _ _)
      | (with_reducible exact precision_Apply.mono _ _ _ _ _)
      | (with_reducible exact synopticfield_Codes_For.mono _ _ _ _ _ _)
      | (with_reducible exact synopticlaw22_awake.mono _)
      | (with_reducible exact LeO.refl _)
      | (with_reducible exact LeO.none _)
      | (with_reducible refine LeO.ite ?_ ?_)
      | (with_reducible refine LeO.bind ?_ (fun _ => ?_))
      | exact ih0 _ _ _ _ _ _ _ _ _
      | exact ih1 _ _ _ _ _ _ _ _ _ _ _
      | exact ih2 _ _ _ _ _ _ _ _ _ _ _
      | exact precision_Apply.mono _ _ _ _ _
      | exact synopticfield_Codes_For.mono _ _ _ _ _ _
      | exact synopticlaw22_awake.mono _
      | exact LeO.none _
      | refine LeO.ite ?_ ?_
      | refine LeO.bind ?_ (fun _ => ?_)
    · intro y0 y1 y2 y3 y4 y5 y6 y7 y8 y9 y10
      unfold synopticlaw22_PrecisionDefinite.l2
      repeat' first
      | (with_reducible exact ih0 _ _ _ _ _ _ _ _ _)
      | (with_reducible exact ih1 _ _ _ _ _ _ _ _ _ _ _)
      | (with_reducible exact ih2 _ _ _ _ _ _ _ _ _ _ _)
      | (with_reducible exact precision_Apply.mono _ _ _ _ _)
      | (with_reducible exact synopticfield_Codes_For.mono _ _ _ _ _ _)
      | (with_reducible exact synopticlaw22_awake.mono _)
      | (with_reducible exact LeO.refl _)
      | (with_reducible exact LeO.none _)
      | (with_reducible refine LeO.ite ?_ ?_)
      | (with_reducible refine LeO.bind ?_ (fun _ => ?_))
      | exact ih0 _ _ _ _ _ _ _ _ _
      | exact ih1 _ _ _ _ _ _ _ _ _ _ _
      | exact ih2 _ _ _ _ _ _ _ _ _ _ _
      | exact precision_Apply.mono _ _ _ _ _
      | exact synopticfield_Codes_For.mono _ _ _ _ _ _
      | exact synopticlaw22_awake.mono _
      | exact LeO.none _
      | refine LeO.ite ?_ ?_
      | refine LeO.bind ?_ (fun _ => ?_)
theorem synopticlaw22_PrecisionDefinite.mono : ∀ a0 a1 k, LeO (synopticlaw22_PrecisionDefinite.f k a0 a1) (synopticlaw22_PrecisionDefinite.f (k + 1) a0 a1) := by
  intro a0 a1 k
  obtain ⟨ih0, ih1, ih2⟩ := synopticlaw22_PrecisionDefinite.mono_l k
  unfold synopticlaw22_PrecisionDefinite.f
  repeat' first
      | (with_reducible exact ih0 _ _ _ _ _ _ _ _ _)
      | (with_reducible exact ih1 _ _ _ _ _ _ _ _ _ _ _)
      | (with_reducible exact ih2 _ _ _ _ _ _ _ _ _ _ _)
      | (with_reducible exact precision_Apply.mono _ _ _ _ _)
      | (with_reducible exact synopticfield_Codes_For.mono _ _ _ _ _ _)
      | (with_reducible exact synopticlaw22_awake.mono _)
      | (with_reducible exact LeO.refl _)
      | (with_reducible exact LeO.none _)
      | (with_reducible refine LeO.ite ?_ ?_)
      | (with_reducible refine LeO.bind ?_ (fun _ => ?_))
      | exact ih0 _ _ _ _ _ _ _ _ _
      | exact ih1 _ _ _ _ _ _ _ _ _ _ _
      | exact ih2 _ _ _ _ _ _ _ _ _ _ _
      | exact precision_Apply.mono _ _ _ _ _
      | exact synopticfield_Codes_For.mono _ _ _ _ _ _
      | exact synopticlaw22_awake.mono _
      | exact LeO.none _
      | refine LeO.ite ?_ ?_
      | refine LeO.bind ?_ (fun _ => ?_)
set_option maxHeartbeats 8000000 in
set_option maxRecDepth 100000 in
theorem synopticlaw22_PrecisionDefinite.calls (k : Nat) (A0 : Option Addr) (c0 : Nat) (l0 : List Int) (a1 : Int) (r : Bool) (w : World) (hr0 : Kd.C (Kd.int .u8) w A0 l0.length l0) (hc0 : l0.length ≤ c0) (hG : CornersAt w) (hrt : r = true) (h : synopticlaw22_PrecisionDefinite.f k l0 a1 = some r) :
    Calls Tryd.prog 6 #[.slice A0 l0.length c0, .int .i64 a1] w fun e w' => e = .returned (.bool r) ∧ Below w.heap.size w w' := by
  have HRT := Aside0.mk hrt
  clear hrt
  have hu36 := Tryd.underlying36
  have hu25 := Tryd.underlying25
  have HR0 := Aside0.mk hr0
  have HC0 := Aside0.mk hc0
  clear hr0 hc0
  have HG := Aside0.mk hG
  clear hG
  have HB := Aside0.mk (Below.refl w.heap.size w)
  have H : ((synopticlaw22_awake.f k).bind fun t361 => (if t361 = true then ((synopticfield_New.f l0 120).bind fun bt362 => ((synopticfield_Codes_Precision.f bt362.1 bt362.2).bind fun bt365 => ((synopticfield_Mod.f a1 2097153).bind fun t370 => ((synopticref22_Nodes.f bt365.1).bind fun t371 => (if 0 ≤ t371 then (if (t371 : Int).toNat ≤ 35184372088832 then ((some (List.replicate (t371 : Int).toNat 0 : List Int)).bind fun y372 => (synopticlaw22_PrecisionDefinite.l0 k (wrap64 (t370 - 1048576)) y372 (y372.length : Int) 0 bt362.1 bt365.2.2.2 bt365.1 bt365.2.1 bt365.2.2.1)) else (none)) else (none)))))) else (some false))) = some r := h
  clear h
  replace H := Option.bind_eq_some_iff.mp H
  obtain ⟨t361, A30, H⟩ := H
  replace H : (if t361 = true then ((synopticfield_New.f l0 120).bind fun bt362 => ((synopticfield_Codes_Precision.f bt362.1 bt362.2).bind fun bt365 => ((synopticfield_Mod.f a1 2097153).bind fun t370 => ((synopticref22_Nodes.f bt365.1).bind fun t371 => (if 0 ≤ t371 then (if (t371 : Int).toNat ≤ 35184372088832 then ((some (List.replicate (t371 : Int).toNat 0 : List Int)).bind fun y372 => (synopticlaw22_PrecisionDefinite.l0 k (wrap64 (t370 - 1048576)) y372 (y372.length : Int) 0 bt362.1 bt365.2.2.2 bt365.1 bt365.2.1 bt365.2.2.1)) else (none)) else (none)))))) else (some false)) = some r := H
  have A3 := Aside0.mk A30
  clear A30
  by_cases c4 : t361 = true
  · subst c4
    have H1 : ((synopticfield_New.f l0 120).bind fun bt362 => ((synopticfield_Codes_Precision.f bt362.1 bt362.2).bind fun bt365 => ((synopticfield_Mod.f a1 2097153).bind fun t370 => ((synopticref22_Nodes.f bt365.1).bind fun t371 => (if 0 ≤ t371 then (if (t371 : Int).toNat ≤ 35184372088832 then ((some (List.replicate (t371 : Int).toNat 0 : List Int)).bind fun y372 => (synopticlaw22_PrecisionDefinite.l0 k (wrap64 (t370 - 1048576)) y372 (y372.length : Int) 0 bt362.1 bt365.2.2.2 bt365.1 bt365.2.1 bt365.2.2.1)) else (none)) else (none)))))) = some r := by rw [if_pos rfl] at H; exact H
    clear H
    have H := H1
    clear H1
    replace H := Option.bind_eq_some_iff.mp H
    obtain ⟨⟨t362, t363⟩, A50, H⟩ := H
    replace H : ((synopticfield_Codes_Precision.f t362 t363).bind fun bt365 => ((synopticfield_Mod.f a1 2097153).bind fun t370 => ((synopticref22_Nodes.f bt365.1).bind fun t371 => (if 0 ≤ t371 then (if (t371 : Int).toNat ≤ 35184372088832 then ((some (List.replicate (t371 : Int).toNat 0 : List Int)).bind fun y372 => (synopticlaw22_PrecisionDefinite.l0 k (wrap64 (t370 - 1048576)) y372 (y372.length : Int) 0 t362 bt365.2.2.2 bt365.1 bt365.2.1 bt365.2.2.1)) else (none)) else (none))))) = some r := H
    have A5 := Aside0.mk A50
    clear A50
    replace H := Option.bind_eq_some_iff.mp H
    obtain ⟨⟨t365, t366, t367, t368⟩, A60, H⟩ := H
    replace H : ((synopticfield_Mod.f a1 2097153).bind fun t370 => ((synopticref22_Nodes.f t365).bind fun t371 => (if 0 ≤ t371 then (if (t371 : Int).toNat ≤ 35184372088832 then ((some (List.replicate (t371 : Int).toNat 0 : List Int)).bind fun y372 => (synopticlaw22_PrecisionDefinite.l0 k (wrap64 (t370 - 1048576)) y372 (y372.length : Int) 0 t362 t368 t365 t366 t367)) else (none)) else (none)))) = some r := H
    have A6 := Aside0.mk A60
    clear A60
    replace H := Option.bind_eq_some_iff.mp H
    obtain ⟨t370, A70, H⟩ := H
    replace H : ((synopticref22_Nodes.f t365).bind fun t371 => (if 0 ≤ t371 then (if (t371 : Int).toNat ≤ 35184372088832 then ((some (List.replicate (t371 : Int).toNat 0 : List Int)).bind fun y372 => (synopticlaw22_PrecisionDefinite.l0 k (wrap64 (t370 - 1048576)) y372 (y372.length : Int) 0 t362 t368 t365 t366 t367)) else (none)) else (none))) = some r := H
    have A7 := Aside0.mk A70
    clear A70
    replace H := Option.bind_eq_some_iff.mp H
    obtain ⟨t371, A80, H⟩ := H
    replace H : (if 0 ≤ t371 then (if (t371 : Int).toNat ≤ 35184372088832 then ((some (List.replicate (t371 : Int).toNat 0 : List Int)).bind fun y372 => (synopticlaw22_PrecisionDefinite.l0 k (wrap64 (t370 - 1048576)) y372 (y372.length : Int) 0 t362 t368 t365 t366 t367)) else (none)) else (none)) = some r := H
    have A8 := Aside0.mk A80
    clear A80
    by_cases c9 : 0 ≤ t371
    · rw [if_pos c9] at H
      have c9b0 := eq_true c9
      have c9b1 : decide (0 ≤ t371) = true := decide_eq_true c9
      clear c9
      by_cases c10 : (t371 : Int).toNat ≤ 35184372088832
      · rw [if_pos c10] at H
        have c10b0 := eq_true c10
        have c10b1 : decide ((t371 : Int).toNat ≤ 35184372088832) = true := decide_eq_true c10
        clear c10
        obtain ⟨y372, hy372⟩ : ∃ y_ : List Int, y_ = (List.replicate (t371 : Int).toNat 0) := ⟨_, rfl⟩
        replace H : (synopticlaw22_PrecisionDefinite.l0 k (wrap64 (t370 - 1048576)) y372 (y372.length : Int) 0 t362 t368 t365 t366 t367) = some r := by first | (rw [hy372]; with_reducible exact H) | (have H2_ := (Option.bind_some _ _).symm.trans H; rw [hy372]; with_reducible exact H2_) | (have H2_ := (Option.bind_some _ _).symm.trans H; with_reducible exact H2_) | with_reducible exact H | (rw [hy372]; exact H) | exact H
        have Ny372 := Aside0.mk hy372
        clear hy372
        have H' := Aside0.mk H
        clear H
        go_enter Tryd.func6, Tryd.ntmps6
        go_wp2_with (first | (go_at_call 8; (with_reducible refine (synopticlaw22_awake.calls k  true _ ?side1 A3.out).mono ?_); (case side1 => exact CornersAt.below HG.out (by repeat (first | (with_reducible first | exact HB.out | apply below_alloc | apply pw_below_drewN | apply below_drew1) | exact HB.out))); rintro e w11 ⟨rfl, hb⟩; have n0_ := Aside0.mk (below_step (by repeat (first | (with_reducible first | exact HB.out | apply below_alloc | apply pw_below_drewN | apply below_drew1) | exact HB.out)) hb); clear HB; have HB := n0_; clear n0_; (try clear hb); (try clear hb2); (try clear hk); (try clear hi)) | (go_at_call 14; (with_reducible refine (synopticfield_New.calls _ _ l0 120 t362 t363 w _ ?side1 ?side2 ?side3 A5.out).mono ?_); (case side1 => repeat (first | (with_reducible first | exact HB.out | apply below_alloc | apply pw_below_drewN | apply below_drew1) | exact HB.out)); (case side2 => exact HR0.out); (case side3 => exact HC0.out); rintro e w12 ⟨g364, rfl, hi, hb, hb2⟩; have n0_ := Aside0.mk (hb); have n1_ := Aside0.mk (hi); clear HB; have HB := n0_; have HI364 := n1_; clear n0_ n1_; (try clear hb); (try clear hb2); (try clear hk); (try clear hi)) | (go_at_call 15; (with_reducible refine (synopticfield_Codes_Precision.calls g364 t362 t363 t365 t366 t367 t368 w _ ?side1 ?side2 A6.out).mono ?_); (case side1 => repeat (first | (with_reducible first | exact HI364.out | apply IsS61.alloc | apply IsS61.drewN | apply IsS61.drew | apply IsS61.set_1) | exact HI364.out)); (case side2 => repeat (first | (with_reducible first | exact HB.out | apply below_alloc | apply pw_below_drewN | apply below_drew1 | refine below_set ?_ (IsS61.ge HI364.out)) | exact HB.out)); rintro e w13 ⟨rfl, hi, hb, hk⟩; have n0_ := Aside0.mk (hb); have n1_ := Aside0.mk (hi); clear HB; clear HI364; have HB := n0_; have HI364 := n1_; clear n0_ n1_; (try clear hb); (try clear hb2); (try clear hk); (try clear hi)) | ((with_reducible refine gate_dst (N := 6) rfl ?_); (try (refine gate_guard (by rfl) ?_; dsimp only)); refine box_event ?hg (N := 6) ?hd (cs := #[.int .i64 0, .int .i64 0, .int .i64 0]) (t := 36) ?hr ?_; (case hd => rfl); (case hg => rfl); (case hr => first | (go_simp; done) | (go_simp; rfl)); intro gb369 hg w14 hbox hb; have n0_ := Aside0.mk (IsS61.below (by repeat (first | (with_reducible first | exact HI364.out | apply IsS61.alloc | apply IsS61.drewN | apply IsS61.drew | apply IsS61.set_1) | exact HI364.out)) hb); have n1_ := Aside0.mk (below_step (by repeat (first | (with_reducible first | exact HB.out | apply below_alloc | apply pw_below_drewN | apply below_drew1 | refine below_set ?_ (IsS61.ge HI364.out)) | exact HB.out)) hb); have n2_ := Aside0.mk (hbox); have n3_ := Aside0.mk ((by rw [hg]; exact (below_size (by repeat (first | (with_reducible first | exact HB.out | apply below_alloc | apply pw_below_drewN | apply below_drew1 | refine below_set ?_ (IsS61.ge HI364.out)) | exact HB.out))) : w.heap.size ≤ gb369)); have n4_ := Aside0.mk ((by rw [hg]; exact (below_size (by repeat (first | (with_reducible first | exact HB.out | apply below_alloc | apply pw_below_drewN | apply below_drew1 | refine below_set ?_ (IsS61.ge HI364.out)) | exact HB.out))) : w.heap.size ≤ gb369)); have n5_ := Aside0.mk ((by rw [hg]; exact Nat.ne_of_lt (IsS61.lt (show IsS61 w _ g364 t362 t368 from by repeat (first | (with_reducible first | exact HI364.out | apply IsS61.alloc | apply IsS61.drewN | apply IsS61.drew | apply IsS61.set_1) | exact HI364.out))) : g364 ≠ gb369)); have n6_ := Aside0.mk ((by rw [hg]; exact Nat.ne_of_gt (IsS61.lt (show IsS61 w _ g364 t362 t368 from by repeat (first | (with_reducible first | exact HI364.out | apply IsS61.alloc | apply IsS61.drewN | apply IsS61.drew | apply IsS61.set_1) | exact HI364.out))) : gb369 ≠ g364)); clear HI364; clear HB; have HI364 := n0_; have HB := n1_; have BK369 := n2_; have GW369 := n3_; have GE369 := n4_; have NB364_369 := n5_; have NB369_364 := n6_; clear n0_ n1_ n2_ n3_ n4_ n5_ n6_; clear hb hbox hg; have hnb15 := NB369_364.out; have hnc15 := NB364_369.out; have hcz16_0 : w14.cell? ⟨gb369, 0, none⟩ = some (.int .i64 0) := (blk_cell BK369.out 0).trans rfl; have hcz16_1 : w14.cell? ⟨gb369, 1, none⟩ = some (.int .i64 0) := (blk_cell BK369.out 1).trans rfl; have hcz16_2 : w14.cell? ⟨gb369, 2, none⟩ = some (.int .i64 0) := (blk_cell BK369.out 2).trans rfl; have hfz16_0 := blk_frozen BK369.out 0; have hfz16_1 := blk_frozen BK369.out 1; have hfz16_2 := blk_frozen BK369.out 2) | (go_at_call 28; (with_reducible refine (synopticfield_Mod.calls a1 2097153 t370 _ A7.out).mono ?_); rintro e w' ⟨rfl, ⟨nd, rfl⟩⟩; (try first | exact ⟨rfl, _, World.drewN_drewN _ _ _⟩ | exact ⟨rfl, _, Eq.trans (World.drewN_drewN _ _ _) (congrArg (World.drewN _) (Nat.add_assoc _ _ _))⟩)) | (go_at_call 29; (with_reducible refine (synopticref22_Nodes.calls t365 t371 _ A8.out).mono ?_); rintro e w' ⟨rfl, ⟨nd, rfl⟩⟩; (try first | exact ⟨rfl, _, World.drewN_drewN _ _ _⟩ | exact ⟨rfl, _, Eq.trans (World.drewN_drewN _ _ _) (congrArg (World.drewN _) (Nat.add_assoc _ _ _))⟩)) | ((with_reducible refine gate_dst (N := 31) rfl ?_); (try (refine gate_guard (by rfl) ?_; dsimp only)); refine Kd.R_make (Kd.int .i64) _ 3 rfl (N := 31) rfl 38 _ _ rfl t371 rfl rfl Tryd.underlying38 (.int .i64 0) 8 info3 rfl (by decide) (by omega) 0 (ok := fun _ => True) (okp := fun _ => True) rfl (fun _ hk => hk) trivial (of_decide_eq_true (by first | (with_reducible assumption) | assumption)) (Nat.le_trans (Nat.mul_le_mul_right _ (of_decide_eq_true (by first | (with_reducible assumption) | assumption) : t371.toNat ≤ 35184372088832)) (by omega)) (Below.refl _ _) (Nat.le_refl _) ?_; intro v373 w17 ho18 hb hg_ hnew_; clear hg_ hnew_; (first | rw [← Ny372.out] at ho18 | (simp only [Int.reduceToNat] at ho18; rw [← Ny372.out] at ho18)); have n0_ := Aside0.mk (Kd.R_lower ho18 (below_size (by repeat (first | (with_reducible first | exact HB.out | apply below_alloc | apply pw_below_drewN | apply below_drew1 | refine below_set ?_ (IsS61.ge HI364.out) | refine below_set ?_ GE369.out) | exact HB.out)))); have n1_ := Aside0.mk (IsS61.below (show IsS61 w _ g364 t362 t368 from by repeat (first | (with_reducible first | exact HI364.out | apply IsS61.alloc | apply IsS61.drewN | apply IsS61.drew | apply IsS61.set_1 | refine IsS61.far ?_ NB364_369.out _) | exact HI364.out)) hb); have n2_ := Aside0.mk (blk_below (g := gb369) (o := .cells #[.int .i64 t365, .int .i64 t366, .int .i64 t367] 36 (0, 0)) (by (with_reducible repeat (first | refine blk_drewN ?_ _ | refine blk_drew ?_ | refine blk_alloc ?_ _)); refine blk_put (cs := #[.int .i64 t365, .int .i64 t366, .int .i64 0]) ?_ 2 _ rfl; (with_reducible repeat (first | refine blk_drewN ?_ _ | refine blk_drew ?_ | refine blk_alloc ?_ _)); refine blk_put (cs := #[.int .i64 t365, .int .i64 0, .int .i64 0]) ?_ 1 _ rfl; (with_reducible repeat (first | refine blk_drewN ?_ _ | refine blk_drew ?_ | refine blk_alloc ?_ _)); refine blk_put (cs := #[.int .i64 0, .int .i64 0, .int .i64 0]) ?_ 0 _ rfl; (with_reducible repeat (first | refine blk_drewN ?_ _ | refine blk_drew ?_ | refine blk_alloc ?_ _)); exact BK369.out) hb); have n3_ := Aside0.mk (below_step (by repeat (first | (with_reducible first | exact HB.out | apply below_alloc | apply pw_below_drewN | apply below_drew1 | refine below_set ?_ (IsS61.ge HI364.out) | refine below_set ?_ GE369.out) | exact HB.out)) hb); clear HI364; clear BK369; clear HB; have HO374 := n0_; have HI364 := n1_; have BK369 := n2_; have HB := n3_; clear n0_ n1_ n2_ n3_; clear hb ho18; obtain ⟨Ao19, co19, eo19⟩ := Kd.R_slice HO374.out; subst eo19))
        repeat (go_quiet (fail))
        go_loopg [34] k (fun kq v34 w' => ∃ (x8_1 : List Int) (x34_1 : Int), v34 = .int .i64 x34_1 ∧ Aside0 (synopticlaw22_PrecisionDefinite.l0 kq (wrap64 (t370 - 1048576)) x8_1 (y372.length : Int) x34_1 t362 t368 t365 t366 t367 = some r) ∧ Aside0 (kq ≤ k) ∧ Aside0 (Kd.R (Kd.int .i64) 3 w' w.heap.size (fun _ => True) (.slice Ao19 y372.length co19) x8_1) ∧ Aside0 (w'.heap[gb369]? = some (.cells #[.int .i64 t365, .int .i64 t366, .int .i64 t367] 36 (0, 0))) ∧ Aside0 (IsS61 w w' g364 t362 t368) ∧ Aside0 (Below w.heap.size w w'))
        case atStart => exact ⟨(y372), (0), (by first | rfl | (simp; done) | (simp [*]; done)), H', ⟨Nat.le_refl _⟩, ⟨by (with_reducible repeat (first | apply Kd.R_alloc | apply Kd.R_drewN | apply Kd.R_drew)); exact HO374.out⟩, ⟨by (with_reducible repeat (first | refine blk_drewN ?_ _ | refine blk_drew ?_ | refine blk_alloc ?_ _)); exact BK369.out⟩, ⟨by repeat (first | (with_reducible first | exact HI364.out | apply IsS61.alloc | apply IsS61.drewN | apply IsS61.drew | apply IsS61.set_1 | refine IsS61.far ?_ NB364_369.out _) | exact HI364.out)⟩, ⟨by repeat (first | (with_reducible first | exact HB.out | apply below_alloc | apply pw_below_drewN | apply below_drew1 | refine below_set ?_ (IsS61.ge HI364.out) | refine below_set ?_ GE369.out) | exact HB.out)⟩⟩
        case round =>
          clear H'
          try clear c1
          try clear p2
          try clear c4
          try clear c6
          try clear p6
          try clear c9
          try clear c9b0
          try clear c9b1
          try clear c10
          try clear c10b0
          try clear c10b1
          try clear c15
          try clear hcz16_0
          try clear hcz16_1
          try clear hcz16_2
          try clear hfz16_0
          try clear hfz16_1
          try clear hfz16_2
          obtain ⟨x8_1, x34_1, rfl, HA, HK1, HO_8, BK369, HI364, HB⟩ := hrel
          have hl8_1 := (Kd.R_reads' HO_8.out).1
          rw [hl8_1] at HO_8
          (try simp only [hl8_1])
          (try simp only [hl8_1] at BK369)
          cases gk with
          | zero => exact absurd HA.out (by simp [synopticlaw22_PrecisionDefinite.l0])
          | succ k1 =>
            have H := HA.out
            clear HA
            simp only [synopticlaw22_PrecisionDefinite.l0] at H
            by_cases c20 : x34_1 < (y372.length : Int)
            · rw [if_pos c20] at H
              have c20b0 : decide (x34_1 < (y372.length : Int)) = true := decide_eq_true c20
              (try simp only [hl8_1] at c20b0)
              clear c20
              by_cases c21 : 0 ≤ x34_1
              · rw [if_pos c21] at H
                have c21b0 : decide (0 ≤ x34_1) = true := decide_eq_true c21
                clear c21
                by_cases c22 : x34_1 < (x8_1.length : Int)
                · rw [if_pos c22] at H
                  have c22b0 : decide (x34_1 < (x8_1.length : Int)) = true := decide_eq_true c22
                  clear c22
                  obtain ⟨y375, hy375⟩ : ∃ y_ : List Int, y_ = (x8_1.set (x34_1 : Int).toNat (wrap64 (t370 - 1048576))) := ⟨_, rfl⟩
                  replace H : (synopticlaw22_PrecisionDefinite.l0 k1 (wrap64 (t370 - 1048576)) y375 (y372.length : Int) (wrap64 (x34_1 + 1)) t362 t368 t365 t366 t367) = some r := by first | (rw [hy375]; with_reducible exact H) | (have H2_ := (Option.bind_some _ _).symm.trans H; rw [hy375]; with_reducible exact H2_) | (have H2_ := (Option.bind_some _ _).symm.trans H; with_reducible exact H2_) | with_reducible exact H | (rw [hy375]; exact H) | exact H
                  have Ny375 := Aside0.mk hy375
                  clear hy375
                  have H' := Aside0.mk H
                  clear H
                  have p23 : 0 ≤ (x34_1 : Int) := of_decide_eq_true (by first | (with_reducible assumption) | assumption)
                  have q23 : (x34_1 : Int) < ((x8_1.length : Int) : Int) := of_decide_eq_true (by first | (with_reducible assumption) | assumption)
                  obtain ⟨go23, co23, eo23, gb23, gl23, cl23, HG23⟩ := Kd.R_form HO_8.out (by omega)
                  (first | cases eo23 | (injection eo23 with ea_ en_ ec_; (first | subst ea_ | (injection ea_ with ea_; subst ea_)); subst ec_; clear en_))
                  have GB23 := Aside0.mk gb23
                  have GG23 := Aside0.mk HG23
                  clear gb23 gl23 HG23
                  obtain ⟨hx23_0, hf23_0⟩ := Kd.R_celln 0 HO_8.out (x34_1 : Int) p23 q23
                  replace p23 := eq_true p23
                  replace q23 := eq_true q23
                  have HP24 := Kd.R_putg HO_8.out (x34_1 : Int) (wrap64 (t370 - 1048576))
                  go_wp2_with (first | ((with_reducible refine gate_store (t := 3) (p := 40) rfl ?_); (try (rw [drewN_self wr]; generalize hq_ : World.drewN wr _ = wr; have n0_ := Aside0.mk (Kd.R_at hq_ HO_8.out); have n1_ := Aside0.mk (blk_at hq_ BK369.out); have n2_ := Aside0.mk (IsS61.at_ hq_ HI364.out); have n3_ := Aside0.mk (below_at hq_ HB.out); clear hq_ HO_8 BK369 HI364 HB; have HO_8 := n0_; have BK369 := n1_; have HI364 := n2_; have HB := n3_; clear n0_ n1_ n2_ n3_; (try (have HP24 := Kd.R_putg HO_8.out (x34_1 : Int) (wrap64 (t370 - 1048576)))))); refine store_event (t := 3) (p := 40) (v := ?vo_w25) (w1 := (wr.setCell ⟨go23, (x34_1 : Int).toNat, none⟩ (.int .i64 (wrap64 (t370 - 1048576))))) ?hg ?ho ?hn ?hr ?_; (case ho => rfl); (case hg => rfl); (case hn => rfl); (case hr => first | (go_simp; done) | (go_simp; rfl)); intro w25 hw; have hg : wr.grownBy w25 (some go23) := (by rw [hw]; exact HP24.2); have hp_ : Kd.R (Kd.int .i64) 3 w25 w.heap.size (fun _ => True) (.slice (some ⟨go23, 0, none⟩) x8_1.length co19) y375 := (by rw [hw, Ny375.out]; exact HP24.1); clear HP24; have n0_ := Aside0.mk (hp_); have n1_ := Aside0.mk (blk_grown (g := gb369) (o := .cells #[.int .i64 t365, .int .i64 t366, .int .i64 t367] 36 (0, 0)) (by (with_reducible repeat (first | refine blk_drewN ?_ _ | refine blk_drew ?_ | refine blk_alloc ?_ _)); exact BK369.out) hg (Kd.R_ne HO_8.out BK369.out (by decide))); have n2_ := Aside0.mk (IsS61.grown (by repeat (first | (with_reducible first | exact HI364.out | apply IsS61.alloc | apply IsS61.drewN | apply IsS61.drew | apply IsS61.set_1 | refine IsS61.far ?_ NB364_369.out _) | exact HI364.out)) hg (IsS61.own_ne HI364.out HO_8.out (by decide))); have n3_ := Aside0.mk ((by rw [hw]; exact below_set (HB.out) GB23.out : Below w.heap.size w w25)); clear HO_8; clear BK369; clear HI364; clear HB; have HO_8 := n0_; have BK369 := n1_; have HI364 := n2_; have HB := n3_; clear n0_ n1_ n2_ n3_; clear hg hw hp_))
                  repeat (go_quiet (fail))
                  (try simp only [← hl8_1])
                  go_roundg k1
                  case measure => have := HK1.out; omega
                  case rel => exact ⟨(y375), (wrap64 (x34_1 + 1)), (by first | rfl | (simp; done) | (simp [*]; done)), H', ⟨by have := HK1.out; omega⟩, ⟨by (try simp only [hl8_1]); (with_reducible repeat (first | apply Kd.R_alloc | apply Kd.R_drewN | apply Kd.R_drew)); exact HO_8.out⟩, ⟨by (try simp only [hl8_1]); (with_reducible repeat (first | refine blk_drewN ?_ _ | refine blk_drew ?_ | refine blk_alloc ?_ _)); exact BK369.out⟩, ⟨by repeat (first | (with_reducible first | exact HI364.out | apply IsS61.alloc | apply IsS61.drewN | apply IsS61.drew | apply IsS61.set_1 | refine IsS61.far ?_ NB364_369.out _) | exact HI364.out)⟩, ⟨by repeat (first | (with_reducible first | exact HB.out | apply below_alloc | apply pw_below_drewN | apply below_drew1 | refine below_set ?_ (IsS61.ge HI364.out) | refine below_set ?_ GE369.out) | exact HB.out)⟩⟩
                · rw [if_neg c22] at H
                  exact absurd H (by simp)
              · rw [if_neg c21] at H
                exact absurd H (by simp)
            · rw [if_neg c20] at H
              have c20b0 : decide (x34_1 < (y372.length : Int)) = false := decide_eq_false c20
              (try simp only [hl8_1] at c20b0)
              clear c20
              replace H := Option.bind_eq_some_iff.mp H
              obtain ⟨⟨t376, t379⟩, A260, H⟩ := H
              replace H : (synopticlaw22_PrecisionDefinite.l1 k1 (wrap64 (t370 - 1048576)) x8_1 t376 t379 (t376.length : Int) 0 t362 t368 t365 t366 t367) = some r := H
              have A26 := Aside0.mk A260
              clear A260
              have H' := Aside0.mk H
              clear H
              have hnb27 := NB369_364.out
              have hnc27 := NB364_369.out
              have hcz28_0 : wr.cell? ⟨gb369, 0, none⟩ = some (.int .i64 t365) := (blk_cell BK369.out 0).trans rfl
              have hcz28_1 : wr.cell? ⟨gb369, 1, none⟩ = some (.int .i64 t366) := (blk_cell BK369.out 1).trans rfl
              have hcz28_2 : wr.cell? ⟨gb369, 2, none⟩ = some (.int .i64 t367) := (blk_cell BK369.out 2).trans rfl
              have hfz28_0 := blk_frozen BK369.out 0
              have hfz28_1 := blk_frozen BK369.out 1
              have hfz28_2 := blk_frozen BK369.out 2
              go_wp2_with (first | (go_at_call 18; (with_reducible refine (precision_Apply.calls k1 t365 t366 t367 _ _ x8_1 t376 t379 _ ?side1 ?side2 ?side3 A26.out).mono ?_); (case side1 => repeat (first | exact (Kd.R_reads' HO_8.out).2.2 | (with_reducible refine Kd.C_alloc ?_ _) | (with_reducible refine Kd.C_drewN ?_ _) | (with_reducible refine Kd.C_drew ?_))); (case side2 => exact (Kd.R_reads' HO_8.out).2.1); (case side3 => exact CornersAt.below HG.out (by repeat (first | (with_reducible first | exact HB.out | apply below_alloc | apply pw_below_drewN | apply below_drew1 | refine below_set ?_ (IsS61.ge HI364.out) | refine below_set ?_ GE369.out) | exact HB.out))); rintro e w29 ⟨v377, rfl, ho0, hb⟩; have n0_ := Aside0.mk (Kd.R_elder' (by (with_reducible repeat (first | apply Kd.R_alloc | apply Kd.R_drewN | apply Kd.R_drew)); exact HO_8.out) (Kd.R_base ho0) hb); have n1_ := Aside0.mk (Kd.R_lower (Kd.R_new' ho0 (Kd.R_lt (by (with_reducible repeat (first | apply Kd.R_alloc | apply Kd.R_drewN | apply Kd.R_drew)); exact HO_8.out))) (below_size (by repeat (first | (with_reducible first | exact HB.out | apply below_alloc | apply pw_below_drewN | apply below_drew1 | refine below_set ?_ (IsS61.ge HI364.out) | refine below_set ?_ GE369.out) | exact HB.out)))); have n2_ := Aside0.mk (blk_below (g := gb369) (o := .cells #[.int .i64 t365, .int .i64 t366, .int .i64 t367] 36 (0, 0)) (by (with_reducible repeat (first | refine blk_drewN ?_ _ | refine blk_drew ?_ | refine blk_alloc ?_ _)); exact BK369.out) hb); have n3_ := Aside0.mk (IsS61.below (by repeat (first | (with_reducible first | exact HI364.out | apply IsS61.alloc | apply IsS61.drewN | apply IsS61.drew | apply IsS61.set_1 | refine IsS61.far ?_ NB364_369.out _) | exact HI364.out)) hb); have n4_ := Aside0.mk (below_step (by repeat (first | (with_reducible first | exact HB.out | apply below_alloc | apply pw_below_drewN | apply below_drew1 | refine below_set ?_ (IsS61.ge HI364.out) | refine below_set ?_ GE369.out) | exact HB.out)) hb); clear HO_8; clear BK369; clear HI364; clear HB; have HO_8 := n0_; have HO378 := n1_; have BK369 := n2_; have HI364 := n3_; have HB := n4_; clear n0_ n1_ n2_ n3_ n4_; (try clear hb); (try clear hb2); (try clear hk); (try clear hi); (try clear ho0); obtain ⟨Ao30, co30, eo30⟩ := Kd.R_slice HO378.out; subst eo30))
              repeat (go_quiet (fail))
              go_loopg [50] k1 (fun kq v50 w' => ∃ (x50_2 : Int), v50 = .int .i64 x50_2 ∧ Aside0 (synopticlaw22_PrecisionDefinite.l1 kq (wrap64 (t370 - 1048576)) x8_1 t376 t379 (t376.length : Int) x50_2 t362 t368 t365 t366 t367 = some r) ∧ Aside0 (kq ≤ k1) ∧ Aside0 (Kd.R (Kd.int .i64) 3 w' w.heap.size (fun k_ => some k_ ≠ ((.slice Ao30 t376.length co30) : Value).ownBlock) (.slice Ao19 x8_1.length co19) x8_1) ∧ Aside0 (Kd.R (Kd.int .i64) 3 w' w.heap.size (fun k_ => some k_ ≠ ((.slice Ao19 x8_1.length co19) : Value).ownBlock) (.slice Ao30 t376.length co30) t376) ∧ Aside0 (w'.heap[gb369]? = some (.cells #[.int .i64 t365, .int .i64 t366, .int .i64 t367] 36 (0, 0))) ∧ Aside0 (IsS61 w w' g364 t362 t368) ∧ Aside0 (Below w.heap.size w w'))
              case atStart => exact ⟨(0), (by first | rfl | (simp; done) | (simp [*]; done)), H', ⟨Nat.le_refl _⟩, ⟨by (try simp only [hl8_1]); (with_reducible repeat (first | apply Kd.R_alloc | apply Kd.R_drewN | apply Kd.R_drew)); exact Kd.R_mono HO_8.out (fun _ hk => hk.2)⟩, ⟨by (try simp only [hl8_1]); (with_reducible repeat (first | apply Kd.R_alloc | apply Kd.R_drewN | apply Kd.R_drew)); exact Kd.R_mono HO378.out (fun _ hk => hk.2)⟩, ⟨by (try simp only [hl8_1]); (with_reducible repeat (first | refine blk_drewN ?_ _ | refine blk_drew ?_ | refine blk_alloc ?_ _)); exact BK369.out⟩, ⟨by repeat (first | (with_reducible first | exact HI364.out | apply IsS61.alloc | apply IsS61.drewN | apply IsS61.drew | apply IsS61.set_1 | refine IsS61.far ?_ NB364_369.out _) | exact HI364.out)⟩, ⟨by repeat (first | (with_reducible first | exact HB.out | apply below_alloc | apply pw_below_drewN | apply below_drew1 | refine below_set ?_ (IsS61.ge HI364.out) | refine below_set ?_ GE369.out) | exact HB.out)⟩⟩
              case round =>
                clear H'
                try clear c1
                try clear c2
                try clear p2
                try clear q2
                try clear hx2
                try clear hf2
                try clear c4
                try clear c6
                try clear p6
                try clear c9
                try clear c9b0
                try clear c9b1
                try clear c10
                try clear c10b0
                try clear c10b1
                try clear c15
                try clear c20
                try clear c20b0
                try clear c21
                try clear c21b0
                try clear c22
                try clear c22b0
                try clear p23
                try clear q23
                try clear hx23
                try clear hf23
                try clear c27
                try clear hcz16_0
                try clear hcz16_1
                try clear hcz16_2
                try clear hcz28_0
                try clear hcz28_1
                try clear hcz28_2
                try clear hfz16_0
                try clear hfz16_1
                try clear hfz16_2
                try clear hfz28_0
                try clear hfz28_1
                try clear hfz28_2
                try clear hx23_0
                try clear p2
                try clear p23
                try clear p6
                try clear q23
                obtain ⟨x50_2, rfl, HA, HK2, HO_8, HO_10, BK369, HI364, HB⟩ := hrel
                cases gk with
                | zero => exact absurd HA.out (by simp [synopticlaw22_PrecisionDefinite.l1])
                | succ k2 =>
                  have H := HA.out
                  clear HA
                  simp only [synopticlaw22_PrecisionDefinite.l1] at H
                  by_cases c31 : x50_2 < (t376.length : Int)
                  · rw [if_pos c31] at H
                    have c31b0 : decide (x50_2 < (t376.length : Int)) = true := decide_eq_true c31
                    clear c31
                    by_cases c32 : 0 ≤ x50_2
                    · rw [if_pos c32] at H
                      have c32b0 : decide (0 ≤ x50_2) = true := decide_eq_true c32
                      clear c32
                      by_cases c33 : x50_2 < (t376.length : Int)
                      · rw [if_pos c33] at H
                        have c33b0 : decide (x50_2 < (t376.length : Int)) = true := decide_eq_true c33
                        clear c33
                        by_cases c34 : (rd t376 x50_2) = (wrap64 (t367 * (wrap64 (t370 - 1048576))))
                        · rw [if_pos c34] at H
                          have c34b0 : ((rd t376 x50_2) == (wrap64 (t367 * (wrap64 (t370 - 1048576))))) = true := beq_iff_eq.mpr c34
                          have c34b1 : ((rd t376 x50_2) != (wrap64 (t367 * (wrap64 (t370 - 1048576))))) = false := bne_eq_false_iff_eq.mpr c34
                          clear c34
                          have H' := Aside0.mk H
                          clear H
                          have p380 : 0 ≤ (x50_2 : Int) := of_decide_eq_true (by first | (with_reducible assumption) | assumption)
                          have q380 : x50_2 < (t376.length : Int) := of_decide_eq_true (by first | (with_reducible assumption) | assumption)
                          obtain ⟨ad380, e380, hx380_0⟩ := Kd.at_int (Kd.R_reads' HO_10.out).2.2 x50_2 p380 q380
                          cases e380
                          replace p380 := eq_true p380
                          replace q380 := eq_true q380
                          have hnb35 := NB369_364.out
                          have hnc35 := NB364_369.out
                          have hcz36_0 : wr.cell? ⟨gb369, 0, none⟩ = some (.int .i64 t365) := (blk_cell BK369.out 0).trans rfl
                          have hcz36_1 : wr.cell? ⟨gb369, 1, none⟩ = some (.int .i64 t366) := (blk_cell BK369.out 1).trans rfl
                          have hcz36_2 : wr.cell? ⟨gb369, 2, none⟩ = some (.int .i64 t367) := (blk_cell BK369.out 2).trans rfl
                          have hfz36_0 := blk_frozen BK369.out 0
                          have hfz36_1 := blk_frozen BK369.out 1
                          have hfz36_2 := blk_frozen BK369.out 2
                          go_wp2
                          repeat (go_quiet (fail); try go_wp2)
                          go_roundg k2
                          case measure => have := HK1.out; have := HK2.out; omega
                          case rel => exact ⟨(wrap64 (x50_2 + 1)), (by first | rfl | (simp; done) | (simp [*]; done)), H', ⟨by have := HK1.out; have := HK2.out; omega⟩, ⟨by (try simp only [hl8_1]); (with_reducible repeat (first | apply Kd.R_alloc | apply Kd.R_drewN | apply Kd.R_drew)); exact HO_8.out⟩, ⟨by (try simp only [hl8_1]); (with_reducible repeat (first | apply Kd.R_alloc | apply Kd.R_drewN | apply Kd.R_drew)); exact HO_10.out⟩, ⟨by (try simp only [hl8_1]); (with_reducible repeat (first | refine blk_drewN ?_ _ | refine blk_drew ?_ | refine blk_alloc ?_ _)); exact BK369.out⟩, ⟨by repeat (first | (with_reducible first | exact HI364.out | apply IsS61.alloc | apply IsS61.drewN | apply IsS61.drew | apply IsS61.set_1 | refine IsS61.far ?_ NB364_369.out _) | exact HI364.out)⟩, ⟨by repeat (first | (with_reducible first | exact HB.out | apply below_alloc | apply pw_below_drewN | apply below_drew1 | refine below_set ?_ (IsS61.ge HI364.out) | refine below_set ?_ GE369.out) | exact HB.out)⟩⟩
                        · rw [if_neg c34] at H
                          with_reducible exact absurd (Option.some.inj H) (by rw [HRT.out]; simp)
                      · rw [if_neg c33] at H
                        exact absurd H (by simp)
                    · rw [if_neg c32] at H
                      exact absurd H (by simp)
                  · rw [if_neg c31] at H
                    have c31b0 : decide (x50_2 < (t376.length : Int)) = false := decide_eq_false c31
                    clear c31
                    replace H := Option.bind_eq_some_iff.mp H
                    obtain ⟨⟨t381, t384⟩, A390, H⟩ := H
                    replace H : (synopticlaw22_PrecisionDefinite.l2 k2 x8_1 t376 t379 t381 true t381 (t381.length : Int) 0 t365 t366 t367) = some r := H
                    have A39 := Aside0.mk A390
                    clear A390
                    have H' := Aside0.mk H
                    clear H
                    have hnb40 := NB369_364.out
                    have hnc40 := NB364_369.out
                    have hcz41_0 : wr.cell? ⟨gb369, 0, none⟩ = some (.int .i64 t365) := (blk_cell BK369.out 0).trans rfl
                    have hcz41_1 : wr.cell? ⟨gb369, 1, none⟩ = some (.int .i64 t366) := (blk_cell BK369.out 1).trans rfl
                    have hcz41_2 : wr.cell? ⟨gb369, 2, none⟩ = some (.int .i64 t367) := (blk_cell BK369.out 2).trans rfl
                    have hfz41_0 := blk_frozen BK369.out 0
                    have hfz41_1 := blk_frozen BK369.out 1
                    have hfz41_2 := blk_frozen BK369.out 2
                    go_wp2_with (first | (go_at_call 17; (with_reducible refine (synopticfield_Codes_For.calls k2 g364 t362 t368 t365 t366 t367 t381 t384 w _ ?side1 ?side2 A39.out).mono ?_); (case side1 => repeat (first | (with_reducible first | exact HI364.out | apply IsS61.alloc | apply IsS61.drewN | apply IsS61.drew | apply IsS61.set_1 | refine IsS61.far ?_ NB364_369.out _) | exact HI364.out)); (case side2 => repeat (first | (with_reducible first | exact HB.out | apply below_alloc | apply pw_below_drewN | apply below_drew1 | refine below_set ?_ (IsS61.ge HI364.out) | refine below_set ?_ GE369.out) | exact HB.out)); rintro e w42 ⟨v382, rfl, ho0, hi, hb, hk⟩; have n0_ := Aside0.mk (Kd.R_mono (Kd.R_told (Kd.R_oldK (IsS61.apart (show IsS61 w _ g364 t362 t368 from by repeat (first | (with_reducible first | exact HI364.out | apply IsS61.alloc | apply IsS61.drewN | apply IsS61.drew | apply IsS61.set_1 | refine IsS61.far ?_ NB364_369.out _) | exact HI364.out)) (by (with_reducible repeat (first | apply Kd.R_alloc | apply Kd.R_drewN | apply Kd.R_drew)); exact HO_8.out) (by decide)) hk) (Kd.R_base ho0)) (fun _ h_ => h_.1)); have n1_ := Aside0.mk (Kd.R_mono (Kd.R_told (Kd.R_oldK (IsS61.apart (show IsS61 w _ g364 t362 t368 from by repeat (first | (with_reducible first | exact HI364.out | apply IsS61.alloc | apply IsS61.drewN | apply IsS61.drew | apply IsS61.set_1 | refine IsS61.far ?_ NB364_369.out _) | exact HI364.out)) (by (with_reducible repeat (first | apply Kd.R_alloc | apply Kd.R_drewN | apply Kd.R_drew)); exact HO_10.out) (by decide)) hk) (Kd.R_base ho0)) (fun _ h_ => h_.1)); have n2_ := Aside0.mk (KeepBut.blk hk (g' := gb369) (o := .cells #[.int .i64 t365, .int .i64 t366, .int .i64 t367] 36 (0, 0)) (by (with_reducible repeat (first | refine blk_drewN ?_ _ | refine blk_drew ?_ | refine blk_alloc ?_ _)); exact BK369.out) NB369_364.out (by simp)); have n3_ := Aside0.mk (Kd.R_lower (Kd.R_new' (Kd.R_new' ho0 (Kd.R_lt (by (with_reducible repeat (first | apply Kd.R_alloc | apply Kd.R_drewN | apply Kd.R_drew)); exact HO_8.out))) (Kd.R_lt (by (with_reducible repeat (first | apply Kd.R_alloc | apply Kd.R_drewN | apply Kd.R_drew)); exact HO_10.out))) (below_size (by repeat (first | (with_reducible first | exact HB.out | apply below_alloc | apply pw_below_drewN | apply below_drew1 | refine below_set ?_ (IsS61.ge HI364.out) | refine below_set ?_ GE369.out) | exact HB.out)))); have n4_ := Aside0.mk (hb); have n5_ := Aside0.mk (hi); clear HO_8; clear HO_10; clear BK369; clear HB; clear HI364; have HO_8 := n0_; have HO_10 := n1_; have BK369 := n2_; have HO383 := n3_; have HB := n4_; have HI364 := n5_; clear n0_ n1_ n2_ n3_ n4_ n5_; (try clear hb); (try clear hb2); (try clear hk); (try clear hi); (try clear ho0); obtain ⟨Ao43, co43, eo43⟩ := Kd.R_slice HO383.out; subst eo43))
                    repeat (go_quiet (fail))
                    go_loopg [14, 68] k2 (fun kq v14 v68 w' => ∃ (x14_3 : Bool) (x68_3 : Int), v14 = .bool x14_3 ∧ v68 = .int .i64 x68_3 ∧ Aside0 (synopticlaw22_PrecisionDefinite.l2 kq x8_1 t376 t379 t381 x14_3 t381 (t381.length : Int) x68_3 t365 t366 t367 = some r) ∧ Aside0 (kq ≤ k2) ∧ Aside0 (Kd.R (Kd.int .i64) 3 w' w.heap.size (fun k_ => some k_ ≠ ((.slice Ao30 t376.length co30) : Value).ownBlock ∧ some k_ ≠ ((.slice Ao43 t381.length co43) : Value).ownBlock ∧ some k_ ≠ ((.slice Ao43 t381.length co43) : Value).ownBlock) (.slice Ao19 x8_1.length co19) x8_1) ∧ Aside0 (Kd.R (Kd.int .i64) 3 w' w.heap.size (fun k_ => some k_ ≠ ((.slice Ao19 x8_1.length co19) : Value).ownBlock ∧ some k_ ≠ ((.slice Ao43 t381.length co43) : Value).ownBlock ∧ some k_ ≠ ((.slice Ao43 t381.length co43) : Value).ownBlock) (.slice Ao30 t376.length co30) t376) ∧ Aside0 (Kd.R (Kd.int .i64) 3 w' w.heap.size (fun k_ => some k_ ≠ ((.slice Ao19 x8_1.length co19) : Value).ownBlock ∧ some k_ ≠ ((.slice Ao30 t376.length co30) : Value).ownBlock) (.slice Ao43 t381.length co43) t381) ∧ Aside0 (Kd.R (Kd.int .i64) 3 w' w.heap.size (fun k_ => some k_ ≠ ((.slice Ao19 x8_1.length co19) : Value).ownBlock ∧ some k_ ≠ ((.slice Ao30 t376.length co30) : Value).ownBlock) (.slice Ao43 t381.length co43) t381) ∧ Aside0 (w'.heap[gb369]? = some (.cells #[.int .i64 t365, .int .i64 t366, .int .i64 t367] 36 (0, 0))) ∧ Aside0 (Below w.heap.size w w'))
                    case atStart => exact ⟨(true), (0), (by first | rfl | (simp; done) | (simp [*]; done)), (by first | rfl | (simp; done) | (simp [*]; done)), H', ⟨Nat.le_refl _⟩, ⟨by (try simp only [hl8_1]); (with_reducible repeat (first | apply Kd.R_alloc | apply Kd.R_drewN | apply Kd.R_drew)); exact Kd.R_mono HO_8.out (fun _ hk => ⟨hk.1, ⟨hk.2, hk.2⟩⟩)⟩, ⟨by (try simp only [hl8_1]); (with_reducible repeat (first | apply Kd.R_alloc | apply Kd.R_drewN | apply Kd.R_drew)); exact Kd.R_mono HO_10.out (fun _ hk => ⟨hk.1, ⟨hk.2, hk.2⟩⟩)⟩, ⟨by (try simp only [hl8_1]); (with_reducible repeat (first | apply Kd.R_alloc | apply Kd.R_drewN | apply Kd.R_drew)); exact Kd.R_mono HO383.out (fun _ hk => ⟨hk.1.2, hk.2⟩)⟩, ⟨by (try simp only [hl8_1]); (with_reducible repeat (first | apply Kd.R_alloc | apply Kd.R_drewN | apply Kd.R_drew)); exact Kd.R_mono HO383.out (fun _ hk => ⟨hk.1.2, hk.2⟩)⟩, ⟨by (try simp only [hl8_1]); (with_reducible repeat (first | refine blk_drewN ?_ _ | refine blk_drew ?_ | refine blk_alloc ?_ _)); exact BK369.out⟩, ⟨by repeat (first | (with_reducible first | exact HB.out | apply below_alloc | apply pw_below_drewN | apply below_drew1 | refine below_set ?_ (IsS61.ge HI364.out) | refine below_set ?_ GE369.out) | exact HB.out)⟩⟩
                    case round =>
                      clear H'
                      try clear c1
                      try clear c2
                      try clear p2
                      try clear q2
                      try clear hx2
                      try clear hf2
                      try clear c3
                      try clear p3
                      try clear q3
                      try clear hx3
                      try clear c4
                      try clear c6
                      try clear p6
                      try clear c9
                      try clear c9b0
                      try clear c9b1
                      try clear c10
                      try clear c10b0
                      try clear c10b1
                      try clear c15
                      try clear c20
                      try clear c20b0
                      try clear c21
                      try clear c21b0
                      try clear c22
                      try clear c22b0
                      try clear p23
                      try clear q23
                      try clear hx23
                      try clear hf23
                      try clear c27
                      try clear c31
                      try clear c31b0
                      try clear c32
                      try clear c32b0
                      try clear c33
                      try clear c33b0
                      try clear c34
                      try clear c34b0
                      try clear c34b1
                      try clear c35
                      try clear c37
                      try clear p38
                      try clear q38
                      try clear hx38
                      try clear c40
                      try clear hcz16_0
                      try clear hcz16_1
                      try clear hcz16_2
                      try clear hcz28_0
                      try clear hcz28_1
                      try clear hcz28_2
                      try clear hcz36_0
                      try clear hcz36_1
                      try clear hcz36_2
                      try clear hcz38_0
                      try clear hcz38_1
                      try clear hcz38_2
                      try clear hcz41_0
                      try clear hcz41_1
                      try clear hcz41_2
                      try clear hfz16_0
                      try clear hfz16_1
                      try clear hfz16_2
                      try clear hfz28_0
                      try clear hfz28_1
                      try clear hfz28_2
                      try clear hfz36_0
                      try clear hfz36_1
                      try clear hfz36_2
                      try clear hfz38_0
                      try clear hfz38_1
                      try clear hfz38_2
                      try clear hfz41_0
                      try clear hfz41_1
                      try clear hfz41_2
                      try clear hx23_0
                      try clear hx380_0
                      try clear p2
                      try clear p23
                      try clear p380
                      try clear p6
                      try clear q2
                      try clear q23
                      try clear q380
                      obtain ⟨x14_3, x68_3, rfl, rfl, HA, HK3, HO_8, HO_10, HO_13, HO_66, BK369, HB⟩ := hrel
                      cases gk with
                      | zero => exact absurd HA.out (by simp [synopticlaw22_PrecisionDefinite.l2])
                      | succ k3 =>
                        have H := HA.out
                        clear HA
                        simp only [synopticlaw22_PrecisionDefinite.l2] at H
                        by_cases c44 : x68_3 < (t381.length : Int)
                        · rw [if_pos c44] at H
                          have c44b0 : decide (x68_3 < (t381.length : Int)) = true := decide_eq_true c44
                          clear c44
                          by_cases c45 : 0 ≤ x68_3
                          · rw [if_pos c45] at H
                            have c45b0 : decide (0 ≤ x68_3) = true := decide_eq_true c45
                            clear c45
                            by_cases c46 : x68_3 < (t381.length : Int)
                            · rw [if_pos c46] at H
                              have c46b0 : decide (x68_3 < (t381.length : Int)) = true := decide_eq_true c46
                              clear c46
                              by_cases c47 : x14_3 = true
                              · subst c47
                                have H1 : (synopticlaw22_PrecisionDefinite.l2 k3 x8_1 t376 t379 t381 ((rd t381 x68_3) == 0) t381 (t381.length : Int) (wrap64 (x68_3 + 1)) t365 t366 t367) = some r := by rw [if_pos rfl] at H; exact H
                                clear H
                                have H := H1
                                clear H1
                                have H' := Aside0.mk H
                                clear H
                                have p385 : 0 ≤ (x68_3 : Int) := of_decide_eq_true (by first | (with_reducible assumption) | assumption)
                                have q385 : x68_3 < (t381.length : Int) := of_decide_eq_true (by first | (with_reducible assumption) | assumption)
                                obtain ⟨ad385, e385, hx385_0⟩ := Kd.at_int (Kd.R_reads' HO_66.out).2.2 x68_3 p385 q385
                                cases e385
                                replace p385 := eq_true p385
                                replace q385 := eq_true q385
                                go_wp2
                                repeat (go_quiet (fail); try go_wp2)
                                go_roundg k3
                                case measure => have := HK1.out; have := HK2.out; have := HK3.out; omega
                                case rel => exact ⟨(((rd t381 x68_3) == 0)), (wrap64 (x68_3 + 1)), (by first | rfl | (simp; done) | (simp [*]; done)), (by first | rfl | (simp; done) | (simp [*]; done)), H', ⟨by have := HK1.out; have := HK2.out; have := HK3.out; omega⟩, ⟨by (try simp only [hl8_1]); (with_reducible repeat (first | apply Kd.R_alloc | apply Kd.R_drewN | apply Kd.R_drew)); exact HO_8.out⟩, ⟨by (try simp only [hl8_1]); (with_reducible repeat (first | apply Kd.R_alloc | apply Kd.R_drewN | apply Kd.R_drew)); exact HO_10.out⟩, ⟨by (try simp only [hl8_1]); (with_reducible repeat (first | apply Kd.R_alloc | apply Kd.R_drewN | apply Kd.R_drew)); exact HO_13.out⟩, ⟨by (try simp only [hl8_1]); (with_reducible repeat (first | apply Kd.R_alloc | apply Kd.R_drewN | apply Kd.R_drew)); exact HO_66.out⟩, ⟨by (try simp only [hl8_1]); (with_reducible repeat (first | refine blk_drewN ?_ _ | refine blk_drew ?_ | refine blk_alloc ?_ _)); exact BK369.out⟩, ⟨by repeat (first | (with_reducible first | exact HB.out | apply below_alloc | apply pw_below_drewN | apply below_drew1 | refine below_set ?_ GE369.out) | exact HB.out)⟩⟩
                              · replace c47 := Bool.eq_false_iff.mpr c47
                                subst c47
                                have H1 : (synopticlaw22_PrecisionDefinite.l2 k3 x8_1 t376 t379 t381 false t381 (t381.length : Int) (wrap64 (x68_3 + 1)) t365 t366 t367) = some r := by rw [if_neg (show ¬ (false = true) by decide)] at H; exact H
                                clear H
                                have H := H1
                                clear H1
                                have H' := Aside0.mk H
                                clear H
                                have p385 : 0 ≤ (x68_3 : Int) := of_decide_eq_true (by first | (with_reducible assumption) | assumption)
                                have q385 : x68_3 < (t381.length : Int) := of_decide_eq_true (by first | (with_reducible assumption) | assumption)
                                obtain ⟨ad385, e385, hx385_0⟩ := Kd.at_int (Kd.R_reads' HO_66.out).2.2 x68_3 p385 q385
                                cases e385
                                replace p385 := eq_true p385
                                replace q385 := eq_true q385
                                go_wp2
                                repeat (go_quiet (fail); try go_wp2)
                                go_roundg k3
                                case measure => have := HK1.out; have := HK2.out; have := HK3.out; omega
                                case rel => exact ⟨(false), (wrap64 (x68_3 + 1)), (by first | rfl | (simp; done) | (simp [*]; done)), (by first | rfl | (simp; done) | (simp [*]; done)), H', ⟨by have := HK1.out; have := HK2.out; have := HK3.out; omega⟩, ⟨by (try simp only [hl8_1]); (with_reducible repeat (first | apply Kd.R_alloc | apply Kd.R_drewN | apply Kd.R_drew)); exact HO_8.out⟩, ⟨by (try simp only [hl8_1]); (with_reducible repeat (first | apply Kd.R_alloc | apply Kd.R_drewN | apply Kd.R_drew)); exact HO_10.out⟩, ⟨by (try simp only [hl8_1]); (with_reducible repeat (first | apply Kd.R_alloc | apply Kd.R_drewN | apply Kd.R_drew)); exact HO_13.out⟩, ⟨by (try simp only [hl8_1]); (with_reducible repeat (first | apply Kd.R_alloc | apply Kd.R_drewN | apply Kd.R_drew)); exact HO_66.out⟩, ⟨by (try simp only [hl8_1]); (with_reducible repeat (first | refine blk_drewN ?_ _ | refine blk_drew ?_ | refine blk_alloc ?_ _)); exact BK369.out⟩, ⟨by repeat (first | (with_reducible first | exact HB.out | apply below_alloc | apply pw_below_drewN | apply below_drew1 | refine below_set ?_ GE369.out) | exact HB.out)⟩⟩
                            · rw [if_neg c46] at H
                              exact absurd H (by simp)
                          · rw [if_neg c45] at H
                            exact absurd H (by simp)
                        · rw [if_neg c44] at H
                          have c44b0 : decide (x68_3 < (t381.length : Int)) = false := decide_eq_false c44
                          clear c44
                          replace H := Option.bind_eq_some_iff.mp H
                          obtain ⟨⟨t386, t387, t388⟩, A480, H⟩ := H
                          replace H : (if t379 = 0 then (if (t376.length : Int) = (x8_1.length : Int) then (if t388 = 0 then (some ((t386 == 0 && (t387 == 0)) == x14_3)) else (some false)) else (some false)) else (some false)) = some r := H
                          have A48 := Aside0.mk A480
                          clear A480
                          by_cases c49 : t379 = 0
                          · rw [if_pos c49] at H
                            have c49b0 : (t379 == 0) = true := beq_iff_eq.mpr c49
                            have c49b1 : (t379 != 0) = false := bne_eq_false_iff_eq.mpr c49
                            clear c49
                            by_cases c50 : (t376.length : Int) = (x8_1.length : Int)
                            · rw [if_pos c50] at H
                              have c50b0 : ((t376.length : Int) == (x8_1.length : Int)) = true := beq_iff_eq.mpr c50
                              have c50b1 : ((t376.length : Int) != (x8_1.length : Int)) = false := bne_eq_false_iff_eq.mpr c50
                              have c50b2 : (t376.length == x8_1.length) = true := by first | simpa using c50 | (simp at c50 ⊢; omega)
                              clear c50
                              by_cases c51 : t388 = 0
                              · rw [if_pos c51] at H
                                have c51b0 : (t388 == 0) = true := beq_iff_eq.mpr c51
                                have c51b1 : (t388 != 0) = false := bne_eq_false_iff_eq.mpr c51
                                clear c51
                                obtain rfl := Option.some.inj H
                                have hcz52_0 : wr.cell? ⟨gb369, 0, none⟩ = some (.int .i64 t365) := (blk_cell BK369.out 0).trans rfl
                                have hcz52_1 : wr.cell? ⟨gb369, 1, none⟩ = some (.int .i64 t366) := (blk_cell BK369.out 1).trans rfl
                                have hcz52_2 : wr.cell? ⟨gb369, 2, none⟩ = some (.int .i64 t367) := (blk_cell BK369.out 2).trans rfl
                                have hfz52_0 := blk_frozen BK369.out 0
                                have hfz52_1 := blk_frozen BK369.out 1
                                have hfz52_2 := blk_frozen BK369.out 2
                                go_wp2_with (first | (go_at_call 30; (with_reducible refine (precision_Energy.calls t365 t366 t367 _ _ t381 t386 t387 t388 _ ?side1 ?side2 ?side3 A48.out).mono ?_); (case side1 => repeat (first | exact (Kd.R_reads' HO_13.out).2.2 | (with_reducible refine Kd.C_alloc ?_ _) | (with_reducible refine Kd.C_drewN ?_ _) | (with_reducible refine Kd.C_drew ?_))); (case side2 => exact (Kd.R_reads' HO_13.out).2.1); (case side3 => exact CornersAt.below HG.out (by repeat (first | (with_reducible first | exact HB.out | apply below_alloc | apply pw_below_drewN | apply below_drew1 | refine below_set ?_ GE369.out) | exact HB.out))); rintro e w53 ⟨rfl, hb⟩; have n0_ := Aside0.mk (Kd.R_below (by (with_reducible repeat (first | apply Kd.R_alloc | apply Kd.R_drewN | apply Kd.R_drew)); exact HO_8.out) hb); have n1_ := Aside0.mk (Kd.R_below (by (with_reducible repeat (first | apply Kd.R_alloc | apply Kd.R_drewN | apply Kd.R_drew)); exact HO_10.out) hb); have n2_ := Aside0.mk (Kd.R_below (by (with_reducible repeat (first | apply Kd.R_alloc | apply Kd.R_drewN | apply Kd.R_drew)); exact HO_13.out) hb); have n3_ := Aside0.mk (Kd.R_below (by (with_reducible repeat (first | apply Kd.R_alloc | apply Kd.R_drewN | apply Kd.R_drew)); exact HO_66.out) hb); have n4_ := Aside0.mk (blk_below (g := gb369) (o := .cells #[.int .i64 t365, .int .i64 t366, .int .i64 t367] 36 (0, 0)) (by (with_reducible repeat (first | refine blk_drewN ?_ _ | refine blk_drew ?_ | refine blk_alloc ?_ _)); exact BK369.out) hb); have n5_ := Aside0.mk (below_step (by repeat (first | (with_reducible first | exact HB.out | apply below_alloc | apply pw_below_drewN | apply below_drew1 | refine below_set ?_ GE369.out) | exact HB.out)) hb); clear HO_8; clear HO_10; clear HO_13; clear HO_66; clear BK369; clear HB; have HO_8 := n0_; have HO_10 := n1_; have HO_13 := n2_; have HO_66 := n3_; have BK369 := n4_; have HB := n5_; clear n0_ n1_ n2_ n3_ n4_ n5_; (try clear hb); (try clear hb2); (try clear hk); (try clear hi)) | ((with_reducible refine gate_dst (N := 17) rfl ?_); (try (refine gate_guard (by rfl) ?_; dsimp only)); refine box_event ?hg (N := 17) ?hd (cs := #[.int .i64 0, .int .u64 0]) (t := 25) ?hr ?_; (case hd => rfl); (case hg => rfl); (case hr => first | (go_simp; done) | (go_simp; rfl)); intro gb389 hg w54 hbox hb; have n0_ := Aside0.mk (Kd.R_below (by (with_reducible repeat (first | apply Kd.R_alloc | apply Kd.R_drewN | apply Kd.R_drew)); exact HO_8.out) hb); have n1_ := Aside0.mk (Kd.R_below (by (with_reducible repeat (first | apply Kd.R_alloc | apply Kd.R_drewN | apply Kd.R_drew)); exact HO_10.out) hb); have n2_ := Aside0.mk (Kd.R_below (by (with_reducible repeat (first | apply Kd.R_alloc | apply Kd.R_drewN | apply Kd.R_drew)); exact HO_13.out) hb); have n3_ := Aside0.mk (Kd.R_below (by (with_reducible repeat (first | apply Kd.R_alloc | apply Kd.R_drewN | apply Kd.R_drew)); exact HO_66.out) hb); have n4_ := Aside0.mk (blk_below (g := gb369) (o := .cells #[.int .i64 t365, .int .i64 t366, .int .i64 t367] 36 (0, 0)) (by (with_reducible repeat (first | refine blk_drewN ?_ _ | refine blk_drew ?_ | refine blk_alloc ?_ _)); exact BK369.out) hb); have n5_ := Aside0.mk (below_step (by repeat (first | (with_reducible first | exact HB.out | apply below_alloc | apply pw_below_drewN | apply below_drew1 | refine below_set ?_ GE369.out) | exact HB.out)) hb); have n6_ := Aside0.mk (hbox); have n7_ := Aside0.mk ((by rw [hg]; exact (below_size (by repeat (first | (with_reducible first | exact HB.out | apply below_alloc | apply pw_below_drewN | apply below_drew1 | refine below_set ?_ GE369.out) | exact HB.out))) : w.heap.size ≤ gb389)); have n8_ := Aside0.mk ((by rw [hg]; exact (below_size (by repeat (first | (with_reducible first | exact HB.out | apply below_alloc | apply pw_below_drewN | apply below_drew1 | refine below_set ?_ GE369.out) | exact HB.out))) : w.heap.size ≤ gb389)); have n9_ := Aside0.mk ((by rw [hg]; exact Nat.ne_of_lt (blk_lt (g := gb369) (o := .cells #[.int .i64 t365, .int .i64 t366, .int .i64 t367] 36 (0, 0)) (by (with_reducible repeat (first | refine blk_drewN ?_ _ | refine blk_drew ?_ | refine blk_alloc ?_ _)); exact BK369.out)) : gb369 ≠ gb389)); have n10_ := Aside0.mk ((by rw [hg]; exact Nat.ne_of_gt (blk_lt (g := gb369) (o := .cells #[.int .i64 t365, .int .i64 t366, .int .i64 t367] 36 (0, 0)) (by (with_reducible repeat (first | refine blk_drewN ?_ _ | refine blk_drew ?_ | refine blk_alloc ?_ _)); exact BK369.out)) : gb389 ≠ gb369)); clear HO_8; clear HO_10; clear HO_13; clear HO_66; clear BK369; clear HB; have HO_8 := n0_; have HO_10 := n1_; have HO_13 := n2_; have HO_66 := n3_; have BK369 := n4_; have HB := n5_; have BK389 := n6_; have GW389 := n7_; have GE389 := n8_; have NB369_389 := n9_; have NB389_369 := n10_; clear n0_ n1_ n2_ n3_ n4_ n5_ n6_ n7_ n8_ n9_ n10_; clear hb hbox hg; have hnb55 := NB389_369.out; have hnc55 := NB369_389.out; have hcz56_0 : w54.cell? ⟨gb389, 0, none⟩ = some (.int .i64 0) := (blk_cell BK389.out 0).trans rfl; have hcz56_1 : w54.cell? ⟨gb389, 1, none⟩ = some (.int .u64 0) := (blk_cell BK389.out 1).trans rfl; have hfz56_0 := blk_frozen BK389.out 0; have hfz56_1 := blk_frozen BK389.out 1))
                                repeat (go_quiet (fail))
                                go_ret
                                exact ⟨by first | rfl | (simp [errW_none, errW_some] <;> rfl) | (simp [*, errW_none, errW_some] <;> rfl), by repeat (first | (with_reducible first | exact HB.out | apply below_alloc | apply pw_below_drewN | apply below_drew1 | refine below_set ?_ GE369.out | refine below_set ?_ GE389.out) | exact HB.out)⟩
                              · rw [if_neg c51] at H
                                with_reducible exact absurd (Option.some.inj H) (by rw [HRT.out]; simp)
                            · rw [if_neg c50] at H
                              with_reducible exact absurd (Option.some.inj H) (by rw [HRT.out]; simp)
                          · rw [if_neg c49] at H
                            with_reducible exact absurd (Option.some.inj H) (by rw [HRT.out]; simp)
      · rw [if_neg c10] at H
        exact absurd H (by simp)
    · rw [if_neg c9] at H
      exact absurd H (by simp)
  · replace c4 := Bool.eq_false_iff.mpr c4
    subst c4
    have H1 : (some false) = some r := by rw [if_neg (show ¬ (false = true) by decide)] at H; exact H
    clear H
    have H := H1
    clear H1
    obtain rfl := Option.some.inj H
    go_enter Tryd.func6, Tryd.ntmps6
    go_wp2_with (first | (go_at_call 8; (with_reducible refine (synopticlaw22_awake.calls k  false _ ?side1 A3.out).mono ?_); (case side1 => exact CornersAt.below HG.out (by repeat (first | (with_reducible first | exact HB.out | apply below_alloc | apply pw_below_drewN | apply below_drew1) | exact HB.out))); rintro e w72 ⟨rfl, hb⟩; have n0_ := Aside0.mk (below_step (by repeat (first | (with_reducible first | exact HB.out | apply below_alloc | apply pw_below_drewN | apply below_drew1) | exact HB.out)) hb); clear HB; have HB := n0_; clear n0_; (try clear hb); (try clear hb2); (try clear hk); (try clear hi)))
    repeat (go_quiet (fail))
    go_ret
    exact ⟨by first | rfl | (simp [errW_none, errW_some] <;> rfl) | (simp [*, errW_none, errW_some] <;> rfl), by repeat (first | (with_reducible first | exact HB.out | apply below_alloc | apply pw_below_drewN | apply below_drew1) | exact HB.out)⟩

/-- THE ONE PURE STATEMENT of synopticlaw22_PrecisionDefinite: yours. -/
def synopticlaw22_PrecisionDefinite.Pure : Prop := ∀ (l0 : List Int) (a1 : Int), l0.length ≤ maxLen → l0.length * 1 ≤ 140737488351232 → (∀ x ∈ l0, (Lit.int .u8 x).wf = true) → (Lit.int .i64 a1).wf = true → ∃ k, synopticlaw22_PrecisionDefinite.f k l0 a1 = some true
theorem synopticlaw22_PrecisionDefinite.walk (P : synopticlaw22_PrecisionDefinite.Pure) (a0 : Option Addr) (len0 cap0 : Nat) (z0 : List Int) (a1 : Int) (w : World) (w0 : (a0 = none ∧ len0 = 0 ∧ cap0 = 0 ∧ z0 = []) ∨ ∃ x, a0 = some x ∧ len0 ≤ cap0 ∧ cap0 ≤ maxLen ∧ z0.length = cap0 ∧ (∀ i, i < z0.length → w.cell? (x.add i) = some (.int .u8 (z0.getD i 0))) ∧ ∀ n ∈ z0, (Lit.int .u8 n).wf = true) (y0 : len0 * 1 ≤ 140737488351232) (w1 : (Lit.int .i64 a1).wf = true) (hG : CornersAt w) :
    Calls Tryd.prog 6 #[.slice a0 len0 cap0, .int .i64 a1] w fun e w' => e = .returned (.bool true) ∧ Below w.heap.size w w' := by
  obtain ⟨l0, rfl, hr0, hm0, hw0, hc0⟩ := ReadsInt.ofRowC w0
  obtain ⟨k, h⟩ := P l0 a1 hm0 y0 hw0 w1
  refine (synopticlaw22_PrecisionDefinite.calls k _ _ l0 a1 true w (Kd.C_of_reads (d := (0 : Int)) (h1 := fun _ => rfl) hr0) hc0 hG rfl h).mono ?_
  rintro e w' ⟨rfl, hd⟩
  exact ⟨rfl, hd⟩

end Go.Proofs.YtdagdoiedibpgaaDoor.Prt
