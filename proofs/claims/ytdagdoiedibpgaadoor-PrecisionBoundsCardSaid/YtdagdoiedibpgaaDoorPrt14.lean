-- Written by wip/ext.py, a driver over the kit's print, with texts of this session's own.
import Derived.Test.YtdagdoiedibpgaaDoorPrt0
import Derived.Test.YtdagdoiedibpgaaDoorPrt13
import Derived.Deep.RegionHeld3
namespace Go.Proofs.YtdagdoiedibpgaaDoor.Prt
open Go.RowKit Go.Proofs.YtdagdoiedibpgaaDoorW.PrintWords Go.Proofs.YtdagdoiedibpgaaDoorW.PrintLast Go.Proofs.YtdagdoiedibpgaaDoorW.PrintMore
attribute [local go_sem] max2_int min2_int max_two min_two max_three min_three max_four min_four   -- for this text's walks alone
set_option linter.unusedVariables false
set_option linter.unusedSimpArgs false

-- EXT dot.in
-- EXTIMPORT Derived.Deep.RegionHeld3
set_option maxHeartbeats 2000000 in
set_option maxRecDepth 100000 in
theorem dot_walk (A0 : Option Addr) (c0 : Nat) (l0 : List Int) (A1 : Option Addr) (c1 : Nat) (l1 : List Int) (z0 z1 r0 r1 : Int) (w : World) (hr0 : Kd.C (Kd.int .i64) w A0 l0.length l0) (hr1 : Kd.C (Kd.int .i64) w A1 l1.length l1)
    (hl : (l0.length == l1.length) = true) (hz : Aside0 (accF (0, 0) 0 0 = some (z0, z1))) (hd : Aside0 (dotL l0 l1 (z0, z1) = some (r0, r1))) (hm : l0.length ≤ 1000000) :
    Calls Tryd.prog 21 #[.slice A0 l0.length c0, .slice A1 l1.length c1] w fun e w' => e = .returned (.tuple #[.agg #[.int .i64 r0, .int .u64 r1], .int .i64 0]) ∧ Below w.heap.size w w' := by
  have hu25 := Tryd.underlying25
  have HR0 := Aside0.mk hr0
  have HR1 := Aside0.mk hr1
  have hlI : ((l0.length : Int) == (l1.length : Int)) = true := by simp at hl ⊢; omega
  have hlN : ((l0.length : Int) != (l1.length : Int)) = false := by simp at hl ⊢; omega
  have HL := Aside0.mk (show l0.length = l1.length by simpa using hl)
  clear hr0 hr1
  go_enter Tryd.func21, Tryd.ntmps21
  go_wp2_with (first
    | (go_at_call 41; refine (total_new _).mono ?_; rintro e w1 ⟨g, rfl, hg1, hgl, hb1⟩; obtain ⟨hc1, hf1⟩ := bcell hb1; have hz1 : w.heap.size + 1 ≤ w1.heap.size := (by have h_ := hb1.size; simp at h_; omega))
    | (go_at_call 52; refine (acc_calls g 0 0 0 0 z0 z1 _ hg1.out hz.out).mono ?_; rintro e w2 ⟨rfl, hg2, hb2⟩))
  have rn : w2.heap[w.heap.size]? = some (.cells #[.int .i64 0, .int .u64 0] 25 (0, 0)) := blk_grown (blk_below (blk_new w _) hb1) hb2 (by simp at hgl; intro e; cases e; omega)
  have hgn : w.heap.size + 1 ≤ g := by simpa using hgl
  have hbw : Below w.heap.size w w2 := (bthen (below_alloc (Below.refl _ _) _) hb1).grown hb2 (by omega) (fun k e => by cases e; omega)
  have hz2 : w1.heap.size ≤ w2.heap.size := hb2.size
  have hg1' : g < w1.heap.size := blk_lt hg1.out
  have RN := Aside0.mk (blk_alloc rn (.cells #[.int .i64 z0, .int .u64 z1] 25))
  have RG := Aside0.mk (blk_alloc hg2 (.cells #[.int .i64 z0, .int .u64 z1] 25))
  have R7 := Aside0.mk (blk_new w2 (.cells #[.int .i64 z0, .int .u64 z1] 25))
  have RB := Aside0.mk (below_alloc hbw (.cells #[.int .i64 z0, .int .u64 z1] 25))
  have hg7 : g < w2.heap.size := by omega
  clear rn hbw hg2 hb2 hb1 hc1 hf1 hz1 hg1' hg1 hgl
  generalize w2.heap.size = g7 at *
  go_loopw [20] (fun i wr => ∃ (k : Nat) (s0 s1 : Int), i = .int .i64 k ∧ k ≤ l0.length ∧ Aside0 (dotL (l0.drop k) (l1.drop k) (s0, s1) = some (r0, r1)) ∧ Aside0 (wr.heap[w.heap.size]? = some (.cells #[.int .i64 0, .int .u64 0] 25 (0, 0))) ∧
    Aside0 (wr.heap[g]? = some (.cells #[.int .i64 s0, .int .u64 s1] 25 (0, 0))) ∧ Aside0 (wr.heap[g7]? = some (.cells #[.int .i64 s0, .int .u64 s1] 25 (0, 0))) ∧ Aside0 (Below w.heap.size w wr)) (fun i _ => l0.length - (intOf i).toNat)
  case atStart => exact ⟨0, z0, z1, rfl, Nat.zero_le _, hd, RN, RG, R7, RB⟩
  case round =>
    clear RN RG R7 RB
    obtain ⟨k, s0, s1, rfl, hk, HD, RN, RG, R7, RB⟩ := hrel
    by_cases hlt : k < l0.length
    · obtain ⟨ad0, e0, x0⟩ := Kd.at_int HR0.out (k : Int) (by omega) (by omega)
      obtain ⟨ad1, e1, x1⟩ := Kd.at_int HR1.out (k : Int) (by omega) (by have := HL.out; omega)
      rw [Int.toNat_natCast] at x0 x1
      cases e0
      cases e1
      have k1 : (0 : Int) ≤ (k : Int) := by omega
      have k2 : (k : Int) < (l0.length : Int) := by omega
      have k3 : (k : Int) < (l1.length : Int) := by have := HL.out; omega
      have x0' : wr.cell? (ad0.add k) = some (.int .i64 (rd l0 k)) := (RB.out.cell (World.block_lt_of_cell? w _ x0)).trans x0
      have x1' : wr.cell? (ad1.add k) = some (.int .i64 (rd l1 k)) := (RB.out.cell (World.block_lt_of_cell? w _ x1)).trans x1
      have X0 := Aside0.mk (World.block_lt_of_cell? w _ x0)
      have X1 := Aside0.mk (World.block_lt_of_cell? w _ x1)
      obtain ⟨⟨t0, t1⟩, hst, hrest⟩ : ∃ t, accF (s0, s1) (rd l0 k) (rd l1 k) = some t ∧ dotL (l0.drop (k + 1)) (l1.drop (k + 1)) t = some (r0, r1) := by
        have h := HD.out
        rw [List.drop_eq_getElem_cons hlt, List.drop_eq_getElem_cons (show k < l1.length by omega)] at h
        obtain ⟨t, h1, h2⟩ := Option.bind_eq_some_iff.1 h
        refine ⟨t, ?_, h2⟩
        rw [← h1]
        simp [rd, hlt, show k < l1.length by omega]
      have HST := Aside0.mk hst
      have HRE := Aside0.mk hrest
      clear hst hrest x0 x1
      generalize rd l0 k = a at *
      generalize rd l1 k = b at *
      have n0 : (ad0.add k).block ≠ g7 := by have := X0.out; omega
      have n1 : (ad1.add k).block ≠ g7 := by have := X1.out; omega
      have c70 := blk_cell R7.out 0
      go_wp2_with fail
      go_region_held3 (fun w' => w'.cell? (ad0.add k) = some (.int .i64 a) ∧ w'.cell? (ad1.add k) = some (.int .i64 b))
        (first | go_keep | exact ⟨m0, m1⟩ | exact ⟨(World.cell?_of_block (Below.heap_setCell _ _ _ _ n0)).trans ((World.cell?_of_block (Below.heap_setCell _ _ _ _ n0)).trans m0), (World.cell?_of_block (Below.heap_setCell _ _ _ _ n1)).trans ((World.cell?_of_block (Below.heap_setCell _ _ _ _ n1)).trans m1)⟩)
        (first | (go_at_call 52; refine (acc_calls g s0 s1 a b t0 t1 _ (blk_drew RG.out) HST.out).mono ?_; rintro e w3 ⟨rfl, hg3, hb3⟩; have m0 : w3.cell? (ad0.add k) = some (.int .i64 a) := hb3.cell (show wr.drew.cell? _ = _ from x0') (by intro e; have := X0.out; cases e; omega); have m1 : w3.cell? (ad1.add k) = some (.int .i64 b) := hb3.cell (show wr.drew.cell? _ = _ from x1') (by intro e; have := X1.out; cases e; omega); have r7 : w3.heap[g7]? = some (.cells #[.int .i64 s0, .int .u64 s1] 25 (0, 0)) := blk_grown (blk_drew R7.out) hb3 (by intro e; cases e; omega); have q70 : w3.cell? ⟨g7, 0, none⟩ = some (.int .i64 s0) := (blk_cell r7 0).trans rfl; have q71 : w3.cell? ⟨g7, 1, none⟩ = some (.int .u64 s1) := (blk_cell r7 1).trans rfl; have f70 : w3.frozen? ⟨g7, 0, none⟩ = false := blk_frozen r7 0; have f71 : w3.frozen? ⟨g7, 1, none⟩ = false := blk_frozen r7 1; have R3 := Aside0.mk r7; have G3 := Aside0.mk hg3; clear hg3 r7; have B3 := Aside0.mk hb3; clear hb3))
      go_wp2
      go_roundw
      case rel =>
        have e1 : w.heap.size ≠ g7 := by omega
        have e2 : g ≠ g7 := by omega
        exact ⟨k + 1, t0, t1, by go_num, by omega, HRE, ⟨blk_far (blk_far (blk_grown (blk_drew RN.out) B3.out (by intro e; cases e; omega)) e1 _) e1 _⟩, ⟨blk_far (blk_far G3.out e2 _) e2 _⟩,
          ⟨blk_put (blk_put R3.out 0 (.int .i64 t0) (cs' := #[.int .i64 t0, .int .u64 s1]) rfl) 1 (.int .u64 t1) (cs' := #[.int .i64 t0, .int .u64 t1]) rfl⟩,
          ⟨(((RB.out.drew).grown B3.out RB.out.size (fun k_ e => by cases e; omega)).setCell (p := ⟨g7, 0, none⟩) (by show w.heap.size ≤ g7; omega) _).setCell (p := ⟨g7, 1, none⟩) (by show w.heap.size ≤ g7; omega) _⟩⟩
      case measure => simp [intOf]; omega
    · have hk2 : k = l0.length := by omega
      have HS := HD.out
      rw [List.drop_of_length_le (by omega)] at HS
      simp only [dotL, Option.some.injEq, Prod.mk.injEq] at HS
      obtain ⟨rfl, rfl⟩ := HS
      have k2 : ¬ (k : Int) < (l0.length : Int) := by omega
      clear hk2
      have c70 := (blk_cell R7.out 0).trans (show _ = some (.int .i64 s0) from rfl)
      have c71 := (blk_cell R7.out 1).trans (show _ = some (.int .u64 s1) from rfl)
      have cn0 := (blk_cell RN.out 0).trans (show _ = some (.int .i64 0) from rfl)
      have cn1 := (blk_cell RN.out 1).trans (show _ = some (.int .u64 0) from rfl)
      have fn0 := blk_frozen RN.out 0
      have fn1 := blk_frozen RN.out 1
      go_wp2
      refine bodyPost_ret (v := .tuple #[.agg #[.int .i64 s0, .int .u64 s1], .int .i64 0]) (by simp [results, Tryd.results21, go_sem, cn0, cn1]) rfl ⟨rfl, ?_⟩
      exact (RB.out.setCell (p := ⟨w.heap.size, 0, none⟩) (Nat.le_refl _) _).setCell (p := ⟨w.heap.size, 1, none⟩) (Nat.le_refl _) _

/-- Dot: the sum of the products, of lists that are not too long. -/
def precision_Dot.f (l0 : List Int) (l1 : List Int) : Option (Int × Int × Int) :=
  if l0.length = l1.length then (if l0.length ≤ 1000000 then (accF (0, 0) 0 0).bind fun s => (dotL l0 l1 s).bind fun t => some (t.1, t.2, 0) else none) else some (0, 0, 1)
theorem precision_Dot.calls (A0 : Option Addr) (c0 : Nat) (l0 : List Int) (A1 : Option Addr) (c1 : Nat) (l1 : List Int) (r1 : Int) (r2 : Int) (r3 : Int) (w : World) (hr0 : Kd.C (Kd.int .i64) w A0 l0.length l0) (hc0 : l0.length ≤ c0) (hr1 : Kd.C (Kd.int .i64) w A1 l1.length l1) (hc1 : l1.length ≤ c1) (h : precision_Dot.f l0 l1 = some (r1, r2, r3)) :
    Calls Tryd.prog 21 #[.slice A0 l0.length c0, .slice A1 l1.length c1] w fun e w' => e = .returned (.tuple #[.agg #[.int .i64 r1, .int .u64 r2], .int .i64 r3]) ∧ Below w.heap.size w w' := by
  unfold precision_Dot.f at h
  by_cases hl : l0.length = l1.length
  · rw [if_pos hl] at h
    by_cases hm : l0.length ≤ 1000000
    · rw [if_pos hm] at h
      obtain ⟨⟨z0, z1⟩, hz, h⟩ := Option.bind_eq_some_iff.1 h
      obtain ⟨⟨t0, t1⟩, hd, h⟩ := Option.bind_eq_some_iff.1 h
      simp only [Option.some.injEq, Prod.mk.injEq] at h
      obtain ⟨rfl, rfl, rfl⟩ := h
      exact dot_walk A0 c0 l0 A1 c1 l1 z0 z1 t0 t1 w hr0 hr1 (by simpa using hl) ⟨hz⟩ ⟨hd⟩ hm
    · rw [if_neg hm] at h
      cases h
  · rw [if_neg hl] at h
    simp only [Option.some.injEq, Prod.mk.injEq] at h
    obtain ⟨rfl, rfl, rfl⟩ := h
    have hu25 := Tryd.underlying25
    have hlN : ((l0.length : Int) != (l1.length : Int)) = true := by simp; omega
    have hlM : (l0.length == l1.length) = false := by simpa using hl
    clear hl hr0 hr1
    go_enter Tryd.func21, Tryd.ntmps21
    go_wp2_with fail
    refine bodyPost_ret (v := .tuple #[.agg #[.int .i64 0, .int .u64 0], .int .i64 1]) (by simp [results, Tryd.results21, go_sem]) rfl ⟨rfl, ?_⟩
    exact below_alloc (Below.refl _ _) _

end Go.Proofs.YtdagdoiedibpgaaDoor.Prt
