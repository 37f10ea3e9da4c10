-- Written by wip/ext.py, a driver over the kit's print, with texts of this session's own.
import Derived.Test.YtdagdoiedibpgaaDoorPrt0
import Derived.Test.YtdagdoiedibpgaaDoorPrt2
import Derived.Test.YtdagdoiedibpgaaDoorPrt3
import Derived.Test.YtdagdoiedibpgaaDoorPrt13
import Derived.Deep.RegionWith
import Derived.Deep.RegionHeld3
import Derived.BigQuiet
namespace Go.Proofs.YtdagdoiedibpgaaDoor.Prt
open Go.RowKit Go.Proofs.YtdagdoiedibpgaaDoorW.PrintWords Go.Proofs.YtdagdoiedibpgaaDoorW.PrintLast Go.Proofs.YtdagdoiedibpgaaDoorW.PrintMore
attribute [local go_sem] max2_int min2_int max_two min_two max_three min_three max_four min_four   -- for this text's walks alone
set_option linter.unusedVariables false
set_option linter.unusedSimpArgs false

-- EXT energy.in
-- EXTIMPORT Derived.Deep.RegionWith
-- EXTIMPORT Derived.Deep.RegionHeld3
-- EXTIMPORT Derived.BigQuiet
/-- The sum over the elements, from s on. -/
def enxL (A : Int) : List Int → Int × Int → Option (Int × Int)
  | v :: l, s => (accF s (wrap64 (A * v)) v).bind fun s' => enxL A l s'
  | [], s => some s
/-- The sum over the edges, from s on; both ends must be nodes. -/
def eneL (S : Int) (x : List Int) : List S69 → Int × Int → Option (Int × Int)
  | e :: E, s => if 0 ≤ e.f0 ∧ e.f0 < x.length ∧ 0 ≤ e.f1 ∧ e.f1 < x.length then (accF s (wrap64 (S * wrap64 (rd x e.f0 - rd x e.f1))) (wrap64 (rd x e.f0 - rd x e.f1))).bind fun s' => eneL S x E s' else none
  | [], s => some s
set_option maxHeartbeats 4000000 in
set_option maxRecDepth 100000 in
theorem energy_walk (f S A : Int) (A1 : Option Addr) (c1 : Nat) (x : List Int) (E : List S69) (k : Nat) (z0 z1 u0 u1 r0 r1 : Int) (w : World) (hr1 : Kd.C (Kd.int .i64) w A1 x.length x) (hc1 : x.length ≤ c1) (hG : CornersAt w)
    (hv : Aside0 (precision_Vector.f k f S A x = some 0)) (hg : Aside0 (grid_Edges.f f = some (E, 0))) (hl : x.length ≤ 1000000) (hlE : E.length ≤ 1000000)
    (hz : Aside0 (accF (0, 0) 0 0 = some (z0, z1))) (hx : Aside0 (enxL A x (z0, z1) = some (u0, u1))) (he : Aside0 (eneL S x E (u0, u1) = some (r0, r1))) :
    Calls Tryd.prog 30 #[.agg #[.int .i64 f, .int .i64 S, .int .i64 A], .slice A1 x.length c1] w fun e w' => e = .returned (.tuple #[.agg #[.int .i64 r0, .int .u64 r1], .int .i64 0]) ∧ Below w.heap.size w w' := by
  have hu25 := Tryd.underlying25
  have hu36 := Tryd.underlying36
  have hu69 := Tryd.underlying69
  have HR1 := Aside0.mk hr1
  have HC1 := Aside0.mk hc1
  have HG := Aside0.mk hG
  clear hr1 hc1 hG
  go_enter Tryd.func30, Tryd.ntmps30
  go_wp2_with (first
    | (go_at_call 39; (refine (precision_Vector.calls k f S A A1 c1 x 0 _ (Kd.C_alloc (Kd.C_alloc HR1.out _) _) HC1.out hv.out).mono ?_); rintro e w1 ⟨rfl, hb1⟩; have P1 := Aside0.mk (blk_below (blk_alloc (blk_new w (.cells #[.int .i64 f, .int .i64 S, .int .i64 A] 36)) (.cells #[.int .i64 0, .int .u64 0] 25)) hb1); have T1 := Aside0.mk (blk_below (blk_new (w.alloc (.cells #[.int .i64 f, .int .i64 S, .int .i64 A] 36)) (.cells #[.int .i64 0, .int .u64 0] 25)) hb1); have L1 := Aside0.mk (below_step (below_alloc (below_alloc (Below.refl w.heap.size w) _) _) hb1); have q0 := (blk_cell P1.out 0).trans (show _ = some (Value.int .i64 f) from rfl); clear hb1)
    | (go_at_call 40; (refine (grid_Edges.calls f E 0 _ (CornersAt.below HG.out L1.out) hg.out).mono ?_); rintro e w2 ⟨v2, rfl, hR, hb2⟩; have P2 := Aside0.mk (blk_below P1.out hb2); have T2 := Aside0.mk (blk_below T1.out hb2); have L2 := Aside0.mk (below_step L1.out hb2); obtain ⟨A2, c2, hv2, hc2, hC⟩ := Kd.R_reads hR; subst hv2; have EC := Aside0.mk hC; clear hC hR hc2; have HB2 := Aside0.mk hb2; clear hb2)
    | (go_at_call 41; refine (total_new _).mono ?_; rintro e w3 ⟨g, rfl, hg3, hgl, hb3⟩; have B3 := Aside0.mk hb3; clear hb3)
    | (go_at_call 52; refine (acc_calls g 0 0 0 0 z0 z1 _ hg3.out hz.out).mono ?_; rintro e w4 ⟨rfl, hg4, hb4⟩))
  have hzw : (w.alloc (.cells #[.int .i64 f, .int .i64 S, .int .i64 A] 36)).heap.size = w.heap.size + 1 := by simp
  rw [hzw] at T2
  clear hzw T1 P1 L1 q0 HB2 hg3
  have hs2 : w.heap.size + 1 < w2.heap.size := blk_lt T2.out
  have hbw : Below w2.heap.size w2 w4 := B3.out.grown hb4 B3.out.size (fun k_ e => by cases e; omega)
  have RG := Aside0.mk (blk_alloc hg4 (.cells #[.int .i64 z0, .int .u64 z1] 25))
  have R7 := Aside0.mk (blk_new w4 (.cells #[.int .i64 z0, .int .u64 z1] 25))
  have RB := Aside0.mk (below_alloc hbw (.cells #[.int .i64 z0, .int .u64 z1] 25))
  have hg7 : g < w4.heap.size := blk_lt hg4
  clear hbw hg4 hb4 B3
  have hS2 := Aside0.mk hs2
  have p0 := (blk_cell P2.out 0).trans (show _ = some (Value.int .i64 f) from rfl)
  have p1 := (blk_cell P2.out 1).trans (show _ = some (Value.int .i64 S) from rfl)
  have p2 := (blk_cell P2.out 2).trans (show _ = some (Value.int .i64 A) from rfl)
  have PP := Aside0.mk (And.intro p1 p2)
  clear p0 p1 p2
  have XC := Aside0.mk (Kd.C_below HR1.out L2.out)
  clear HR1 HC1 HG hv hg
  generalize w4.heap.size = g7 at *
  go_loopw [38] (fun i wr => ∃ (k : Nat) (s0 s1 : Int), i = .int .i64 k ∧ k ≤ x.length ∧ Aside0 (enxL A (x.drop k) (s0, s1) = some (u0, u1)) ∧
    Aside0 (wr.heap[g]? = some (.cells #[.int .i64 s0, .int .u64 s1] 25 (0, 0))) ∧ Aside0 (wr.heap[g7]? = some (.cells #[.int .i64 s0, .int .u64 s1] 25 (0, 0))) ∧ Aside0 (Below w2.heap.size w2 wr)) (fun i _ => x.length - (intOf i).toNat)
  case atStart => exact ⟨0, z0, z1, rfl, Nat.zero_le _, hx, RG, R7, RB⟩
  case round =>
    clear RG R7 RB
    obtain ⟨k, s0, s1, rfl, hk, HD, RG, R7, RB⟩ := hrel
    by_cases hlt : k < x.length
    · obtain ⟨ad0, e0, x0⟩ := Kd.at_int XC.out (k : Int) (by omega) (by omega)
      rw [Int.toNat_natCast] at x0
      cases e0
      have k1 : (0 : Int) ≤ (k : Int) := by omega
      have k2 : (k : Int) < (x.length : Int) := by omega
      have x0' : wr.cell? (ad0.add k) = some (.int .i64 (rd x k)) := (RB.out.cell (World.block_lt_of_cell? w2 _ x0)).trans x0
      have p2 : wr.cell? ⟨w.heap.size, 2, none⟩ = some (.int .i64 A) := (RB.out.cell (World.block_lt_of_cell? w2 _ PP.out.2)).trans PP.out.2
      obtain ⟨⟨t0, t1⟩, hst, hrest⟩ : ∃ t, accF (s0, s1) (wrap64 (A * rd x k)) (rd x k) = some t ∧ enxL A (x.drop (k + 1)) t = some (u0, u1) := by
        have h := HD.out
        rw [List.drop_eq_getElem_cons hlt] at h
        obtain ⟨t, h1, h2⟩ := Option.bind_eq_some_iff.1 h
        refine ⟨t, ?_, h2⟩
        rw [← h1]
        simp [rd, hlt]
      have HST := Aside0.mk hst
      have HRE := Aside0.mk hrest
      clear hst hrest x0
      generalize rd x k = a at *
      go_wp2_with (go_at_call 52; refine (acc_calls g s0 s1 (wrap64 (A * a)) a t0 t1 _ RG.out HST.out).mono ?_; rintro e w3' ⟨rfl, hg3', hb3'⟩; have r7 : w3'.heap[g7]? = some (.cells #[.int .i64 s0, .int .u64 s1] 25 (0, 0)) := blk_grown R7.out hb3' (by intro e; cases e; omega); have q70 : w3'.cell? ⟨g7, 0, none⟩ = some (.int .i64 s0) := (blk_cell r7 0).trans rfl; have q71 : w3'.cell? ⟨g7, 1, none⟩ = some (.int .u64 s1) := (blk_cell r7 1).trans rfl; have f70 : w3'.frozen? ⟨g7, 0, none⟩ = false := blk_frozen r7 0; have f71 : w3'.frozen? ⟨g7, 1, none⟩ = false := blk_frozen r7 1; have R3 := Aside0.mk r7; have G3 := Aside0.mk hg3'; clear hg3' r7; have B3' := Aside0.mk hb3'; clear hb3')
      go_roundw
      case rel =>
        have e2 : g ≠ g7 := by omega
        have hS2' := hS2.out
        have hgg : w2.heap.size ≤ g7 := by omega
        exact ⟨k + 1, t0, t1, by go_num, by omega, HRE, ⟨blk_far (blk_far G3.out e2 _) e2 _⟩,
          ⟨blk_put (blk_put R3.out 0 (.int .i64 t0) (cs' := #[.int .i64 t0, .int .u64 s1]) rfl) 1 (.int .u64 t1) (cs' := #[.int .i64 t0, .int .u64 t1]) rfl⟩,
          ⟨(((RB.out).grown B3'.out RB.out.size (fun k_ e => by cases e; omega)).setCell (p := ⟨g7, 0, none⟩) hgg _).setCell (p := ⟨g7, 1, none⟩) hgg _⟩⟩
      case measure => simp [intOf]; omega
    · have hk2 : k = x.length := by omega
      have HS := HD.out
      rw [List.drop_of_length_le (by omega)] at HS
      simp only [enxL, Option.some.injEq, Prod.mk.injEq] at HS
      obtain ⟨rfl, rfl⟩ := HS
      have k2 : ¬ (k : Int) < (x.length : Int) := by omega
      clear HD
      go_wp2
      clear k2
      go_loopw [52] (fun i wr => ∃ (k : Nat) (s0 s1 : Int), i = .int .i64 k ∧ k ≤ E.length ∧ Aside0 (eneL S x (E.drop k) (s0, s1) = some (r0, r1)) ∧
        Aside0 (wr.heap[g]? = some (.cells #[.int .i64 s0, .int .u64 s1] 25 (0, 0))) ∧ Aside0 (wr.heap[g7]? = some (.cells #[.int .i64 s0, .int .u64 s1] 25 (0, 0))) ∧ Aside0 (Below w2.heap.size w2 wr)) (fun i _ => E.length - (intOf i).toNat)
      case atStart => exact ⟨0, s0, s1, rfl, Nat.zero_le _, he, RG, R7, RB⟩
      case round =>
        clear RG R7 RB
        clear hk hk2
        obtain ⟨k2, v0, v1, rfl, hk, HD, RG, R7, RB⟩ := hrel
        by_cases hlt : k2 < E.length
        · obtain ⟨ad0, e0, x0, x1⟩ := at_T69 EC.out (k2 : Int) (by omega) (by omega)
          rw [Int.toNat_natCast] at x0 x1
          cases e0
          have j1 : (0 : Int) ≤ (k2 : Int) := by omega
          have j2 : (k2 : Int) < (E.length : Int) := by omega
          have h := HD.out
          rw [List.drop_eq_getElem_cons hlt] at h
          simp only [eneL] at h
          have hrd : rd_T69 E (k2 : Int) = E[k2] := by simp [rd_T69, List.getD, hlt]
          rw [hrd] at x0 x1
          clear hrd
          generalize E[k2] = ed at *
          by_cases hin : 0 ≤ ed.f0 ∧ ed.f0 < (x.length : Int) ∧ 0 ≤ ed.f1 ∧ ed.f1 < (x.length : Int)
          · rw [if_pos hin] at h
            obtain ⟨⟨t0, t1⟩, hst, hrest⟩ := Option.bind_eq_some_iff.1 h
            have HST := Aside0.mk hst
            have HRE := Aside0.mk hrest
            clear hst hrest h HD
            obtain ⟨i0, i1, i2, i3⟩ := hin
            obtain ⟨ad1, e1, y0⟩ := Kd.at_int XC.out ed.f0 i0 i1
            cases e1
            obtain ⟨ad1', e1, y1⟩ := Kd.at_int XC.out ed.f1 i2 i3
            cases e1
            have z0' : wr.cell? (ad0.add (k2 * 2)) = some (.int .i64 ed.f0) := (RB.out.cell (World.block_lt_of_cell? w2 _ x0)).trans x0
            have z1' : wr.cell? ⟨(ad0.add (k2 * 2)).block, (ad0.add (k2 * 2)).off + 1, none⟩ = some (.int .i64 ed.f1) := (RB.out.cell (World.block_lt_of_cell? w2 _ x1)).trans x1
            have y0' : wr.cell? (ad1.add ed.f0.toNat) = some (.int .i64 (rd x ed.f0)) := (RB.out.cell (World.block_lt_of_cell? w2 _ y0)).trans y0
            have y1' : wr.cell? (ad1.add ed.f1.toNat) = some (.int .i64 (rd x ed.f1)) := (RB.out.cell (World.block_lt_of_cell? w2 _ y1)).trans y1
            have y0a : (wr.alloc (.cells #[.int .i64 ed.f0, .int .i64 ed.f1] 69)).cell? (ad1.add ed.f0.toNat) = some (.int .i64 (rd x ed.f0)) := ((below_alloc (Below.refl wr.heap.size wr) _).cell (World.block_lt_of_cell? wr _ y0')).trans y0'
            have y1a : (wr.alloc (.cells #[.int .i64 ed.f0, .int .i64 ed.f1] 69)).cell? (ad1.add ed.f1.toNat) = some (.int .i64 (rd x ed.f1)) := ((below_alloc (Below.refl wr.heap.size wr) _).cell (World.block_lt_of_cell? wr _ y1')).trans y1'
            have p1a : (wr.alloc (.cells #[.int .i64 ed.f0, .int .i64 ed.f1] 69)).cell? ⟨w.heap.size, 1, none⟩ = some (.int .i64 S) := ((below_alloc (Below.refl wr.heap.size wr) _).cell (World.block_lt_of_cell? wr _ ((RB.out.cell (World.block_lt_of_cell? w2 _ PP.out.1)).trans PP.out.1))).trans ((RB.out.cell (World.block_lt_of_cell? w2 _ PP.out.1)).trans PP.out.1)
            have p1 : wr.cell? ⟨w.heap.size, 1, none⟩ = some (.int .i64 S) := (RB.out.cell (World.block_lt_of_cell? w2 _ PP.out.1)).trans PP.out.1
            have hsw : w.heap.size < wr.heap.size := World.block_lt_of_cell? wr _ p1
            generalize rd x ed.f0 = xa at *
            generalize rd x ed.f1 = xb at *
            generalize ed.f0 = f0 at *
            generalize ed.f1 = f1 at *
            clear x0 x1 y0 y1
            go_wp2_with fail
            go_quiet (fail)
            go_wp2_with (go_at_call 52; refine (acc_calls g v0 v1 (wrap64 (S * wrap64 (xa - xb))) (wrap64 (xa - xb)) t0 t1 _ (blk_drewN (blk_alloc RG.out _) _) HST.out).mono ?_; rintro e w3' ⟨rfl, hg3', hb3'⟩; have r7 : w3'.heap[g7]? = some (.cells #[.int .i64 v0, .int .u64 v1] 25 (0, 0)) := blk_grown (blk_drewN (blk_alloc R7.out _) _) hb3' (by intro e; cases e; omega); have q70 : w3'.cell? ⟨g7, 0, none⟩ = some (.int .i64 v0) := (blk_cell r7 0).trans rfl; have q71 : w3'.cell? ⟨g7, 1, none⟩ = some (.int .u64 v1) := (blk_cell r7 1).trans rfl; have f70 : w3'.frozen? ⟨g7, 0, none⟩ = false := blk_frozen r7 0; have f71 : w3'.frozen? ⟨g7, 1, none⟩ = false := blk_frozen r7 1; have R3 := Aside0.mk r7; have G3 := Aside0.mk hg3'; clear hg3' r7; have B3' := Aside0.mk hb3'; clear hb3')
            go_roundw
            case rel =>
              have e2 : g ≠ g7 := by omega
              have hgg : w2.heap.size ≤ g7 := by omega
              have hsz := RB.out.size
              exact ⟨k2 + 1, t0, t1, by go_num, by omega, HRE, ⟨blk_far (blk_far G3.out e2 _) e2 _⟩,
                ⟨blk_put (blk_put R3.out 0 (.int .i64 t0) (cs' := #[.int .i64 t0, .int .u64 v1]) rfl) 1 (.int .u64 t1) (cs' := #[.int .i64 t0, .int .u64 t1]) rfl⟩,
                ⟨(((pw_below_drewN (below_alloc RB.out _) _).grown B3'.out (by simp; omega) (fun k_ e => by cases e; omega)).setCell (p := ⟨g7, 0, none⟩) hgg _).setCell (p := ⟨g7, 1, none⟩) hgg _⟩⟩
            case measure => simp [intOf]; omega
          · rw [if_neg hin] at h
            cases h
        · have HS := HD.out
          rw [List.drop_of_length_le (by omega)] at HS
          simp only [eneL, Option.some.injEq, Prod.mk.injEq] at HS
          obtain ⟨rfl, rfl⟩ := HS
          have j2 : ¬ (k2 : Int) < (E.length : Int) := by omega
          clear HD
          have c70 := (blk_cell R7.out 0).trans (show _ = some (.int .i64 v0) from rfl)
          have c71 := (blk_cell R7.out 1).trans (show _ = some (.int .u64 v1) from rfl)
          have hT : wr.heap[w.heap.size + 1]? = some (.cells #[.int .i64 0, .int .u64 0] 25 (0, 0)) := (RB.out.block _ (blk_lt T2.out)).trans T2.out
          have cn0 := (blk_cell hT 0).trans (show _ = some (.int .i64 0) from rfl)
          have cn1 := (blk_cell hT 1).trans (show _ = some (.int .u64 0) from rfl)
          have fn0 := blk_frozen hT 0
          have fn1 := blk_frozen hT 1
          have HT := Aside0.mk hT
          clear hT
          go_wp2
          refine bodyPost_ret (v := .tuple #[.agg #[.int .i64 v0, .int .u64 v1], .int .i64 0]) (by simp [results, Tryd.results30, go_sem, cn0, cn1]) rfl ⟨rfl, ?_⟩
          have hz := hS2.out
          exact ((below_then L2.out L2.out.size RB.out).setCell (p := ⟨w.heap.size + 1, 0, none⟩) (by show w.heap.size ≤ w.heap.size + 1; omega) _).setCell (p := ⟨w.heap.size + 1, 1, none⟩) (by show w.heap.size ≤ w.heap.size + 1; omega) _
/-- Energy: the sums over the elements and over the edges. -/
def precision_Energy.f (a0_0 : Int) (a0_1 : Int) (a0_2 : Int) (l1 : List Int) : Option (Int × Int × Int) :=
  (precision_Vector.f (l1.length + 1) a0_0 a0_1 a0_2 l1).bind fun t => if t = 0 then ((grid_Edges.f a0_0).bind fun b => if b.2 = 0 then (if l1.length ≤ 1000000 ∧ b.1.length ≤ 1000000 then (accF (0, 0) 0 0).bind fun s => (enxL a0_2 l1 s).bind fun u => (eneL a0_1 l1 b.1 u).bind fun r => some (r.1, r.2, 0) else none) else none) else some (0, 0, t)
theorem precision_Energy.calls (a0_0 : Int) (a0_1 : Int) (a0_2 : Int) (A1 : Option Addr) (c1 : Nat) (l1 : List Int) (r1 : Int) (r2 : Int) (r3 : Int) (w : World) (hr1 : Kd.C (Kd.int .i64) w A1 l1.length l1) (hc1 : l1.length ≤ c1) (hG : CornersAt w) (h : precision_Energy.f a0_0 a0_1 a0_2 l1 = some (r1, r2, r3)) :
    Calls Tryd.prog 30 #[.agg #[.int .i64 a0_0, .int .i64 a0_1, .int .i64 a0_2], .slice A1 l1.length c1] w fun e w' => e = .returned (.tuple #[.agg #[.int .i64 r1, .int .u64 r2], .int .i64 r3]) ∧ Below w.heap.size w w' := by
  unfold precision_Energy.f at h
  obtain ⟨t, hv, h⟩ := Option.bind_eq_some_iff.1 h
  by_cases ht : t = 0
  · subst ht
    rw [if_pos rfl] at h
    obtain ⟨⟨E, t2⟩, hg, h⟩ := Option.bind_eq_some_iff.1 h
    by_cases ht2 : t2 = 0
    · subst ht2
      rw [if_pos rfl] at h
      by_cases hl : l1.length ≤ 1000000 ∧ E.length ≤ 1000000
      · rw [if_pos hl] at h
        obtain ⟨⟨z0, z1⟩, hz, h⟩ := Option.bind_eq_some_iff.1 h
        obtain ⟨⟨u0, u1⟩, hx, h⟩ := Option.bind_eq_some_iff.1 h
        obtain ⟨⟨s0, s1⟩, he, h⟩ := Option.bind_eq_some_iff.1 h
        simp only [Option.some.injEq, Prod.mk.injEq] at h
        obtain ⟨rfl, rfl, rfl⟩ := h
        exact energy_walk a0_0 a0_1 a0_2 A1 c1 l1 E _ z0 z1 u0 u1 s0 s1 w hr1 hc1 hG ⟨hv⟩ ⟨hg⟩ hl.1 hl.2 ⟨hz⟩ ⟨hx⟩ ⟨he⟩
      · rw [if_neg hl] at h
        cases h
    · rw [if_neg ht2] at h
      cases h
  · rw [if_neg ht] at h
    simp only [Option.some.injEq, Prod.mk.injEq] at h
    obtain ⟨rfl, rfl, rfl⟩ := h
    have hu25 := Tryd.underlying25
    have hu36 := Tryd.underlying36
    have HR1 := Aside0.mk hr1
    have HC1 := Aside0.mk hc1
    have c0 : (t == 0) = false := by simpa using ht
    have c1_ : (t != 0) = true := by simpa using ht
    have HV := Aside0.mk hv
    clear hr1 hc1 hG ht hv
    go_enter Tryd.func30, Tryd.ntmps30
    go_wp2_with (go_at_call 39; (refine (precision_Vector.calls _ a0_0 a0_1 a0_2 A1 c1 l1 t _ (Kd.C_alloc (Kd.C_alloc HR1.out _) _) HC1.out HV.out).mono ?_); rintro e w1 ⟨rfl, hb1⟩; have T1 := blk_below (blk_new (w.alloc (.cells #[.int .i64 a0_0, .int .i64 a0_1, .int .i64 a0_2] 36)) (.cells #[.int .i64 0, .int .u64 0] 25)) hb1; have L1 := Aside0.mk (below_step (below_alloc (below_alloc (Below.refl w.heap.size w) _) _) hb1); have hzw : (w.alloc (.cells #[.int .i64 a0_0, .int .i64 a0_1, .int .i64 a0_2] 36)).heap.size = w.heap.size + 1 := (by simp); rw [hzw] at T1; have cn0 := (blk_cell T1 0).trans (show _ = some (Value.int .i64 0) from rfl); have cn1 := (blk_cell T1 1).trans (show _ = some (Value.int .u64 0) from rfl); have fn0 := blk_frozen T1 0; have fn1 := blk_frozen T1 1; clear hzw T1 hb1)
    refine bodyPost_ret (v := .tuple #[.agg #[.int .i64 0, .int .u64 0], .int .i64 t]) (by simp [results, Tryd.results30, go_sem, cn0, cn1]) rfl ⟨rfl, ?_⟩
    exact (L1.out.setCell (p := ⟨w.heap.size + 1, 0, none⟩) (by show w.heap.size ≤ w.heap.size + 1; omega) _).setCell (p := ⟨w.heap.size + 1, 1, none⟩) (by show w.heap.size ≤ w.heap.size + 1; omega) _

end Go.Proofs.YtdagdoiedibpgaaDoor.Prt
