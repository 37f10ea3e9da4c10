-- Written by wip/ext.py, a driver over the kit's print, with texts of this session's own.
import Derived.Test.YtdagdoiedibpgaaDoorPrt0
import Derived.Test.YtdagdoiedibpgaaDoorPrt6
import Derived.Test.YtdagdoiedibpgaaDoorPrt7
import Derived.Deep.RegionWith
import Derived.Deep.RegionHeld3
namespace Go.Proofs.YtdagdoiedibpgaaDoor.Prt
open Go.RowKit Go.Proofs.YtdagdoiedibpgaaDoorW.PrintWords Go.Proofs.YtdagdoiedibpgaaDoorW.PrintLast Go.Proofs.YtdagdoiedibpgaaDoorW.PrintMore
attribute [local go_sem] max2_int min2_int max_two min_two max_three min_three max_four min_four   -- for this text's walks alone
set_option linter.unusedVariables false
set_option linter.unusedSimpArgs false

-- EXT acc.in
-- EXTIMPORT Derived.Deep.RegionWith
-- EXTIMPORT Derived.Deep.RegionHeld3
theorem total_walk (w : World) : Calls Tryd.prog 41 #[] w fun e w' => e = .returned (.func (.func 52) #[] #[.pointer (some ⟨w.heap.size, 0, none⟩)]) ∧ w' = w.alloc (.cells #[.int .i64 0, .int .u64 0] 25) := by
  have hu25 := Tryd.underlying25
  go_enter Tryd.func41, Tryd.ntmps41
  go_wp2
  go_ret
  exact ⟨rfl, rfl⟩

set_option maxHeartbeats 1000000 in
set_option maxRecDepth 100000 in
theorem acc_walk (g : Nat) (s0 s1 a b p0 p1 r0 r1 : Int) (w : World) (hg : w.heap[g]? = some (.cells #[.int .i64 s0, .int .u64 s1] 25 (0, 0)))
    (hP : Aside0 (precision_Product.f a b = some (p0, p1))) (hA : Aside0 (precision_Add.f s0 s1 p0 p1 = some (r0, r1))) :
    Calls Tryd.prog 52 #[.int .i64 a, .int .i64 b, .pointer (some ⟨g, 0, none⟩)] w fun e w' => e = .returned (.agg #[.int .i64 r0, .int .u64 r1]) ∧ w'.heap[g]? = some (.cells #[.int .i64 r0, .int .u64 r1] 25 (0, 0)) ∧ w.grownBy w' (some g) := by
  have hu25 := Tryd.underlying25
  have c0 : w.cell? ⟨g, 0, none⟩ = some (.int .i64 s0) := (blk_cell hg 0).trans rfl
  have c1 : w.cell? ⟨g, 1, none⟩ = some (.int .u64 s1) := (blk_cell hg 1).trans rfl
  have hlt : g < w.heap.size := blk_lt hg
  have e0 : w.frozen? ⟨g, 0, none⟩ = false := blk_frozen hg 0
  have e1 : w.frozen? ⟨g, 1, none⟩ = false := blk_frozen hg 1
  have HG := Aside0.mk hg
  clear hg
  go_enter Tryd.func52, Tryd.ntmps52
  go_wp2_with fail
  go_region_with
    (first
      | (go_at_call 10; refine (precision_Product.calls a b p0 p1 _ hP.out).mono ?_; rintro e w1 ⟨rfl, hb1⟩; have hz1 : w.heap.size + 1 ≤ w1.heap.size := (by have h_ := hb1.size; simp at h_; omega); have k0 : w1.cell? ⟨g, 0, none⟩ = some (.int .i64 s0) := ((bcell hb1).1 g 0 (by simp; omega)).trans (by go_simp); have k1 : w1.cell? ⟨g, 1, none⟩ = some (.int .u64 s1) := ((bcell hb1).1 g 1 (by simp; omega)).trans (by go_simp); have q0 : w1.frozen? ⟨g, 0, none⟩ = false := ((bcell hb1).2 g 0 (by simp; omega)).trans (by go_simp); have q1 : w1.frozen? ⟨g, 1, none⟩ = false := ((bcell hb1).2 g 1 (by simp; omega)).trans (by go_simp))
      | (go_at_call 9; refine (precision_Add.calls s0 s1 p0 p1 r0 r1 _ hA.out).mono ?_; rintro e w2 ⟨rfl, hb2⟩; have hz2 : w1.heap.size ≤ w2.heap.size := hb2.size; have m0 : w2.cell? ⟨g, 0, none⟩ = some (.int .i64 s0) := ((bcell hb2).1 g 0 (by omega)).trans k0; have m1 : w2.cell? ⟨g, 1, none⟩ = some (.int .u64 s1) := ((bcell hb2).1 g 1 (by omega)).trans k1; have n0 : w2.frozen? ⟨g, 0, none⟩ = false := (((bcell hb2).2 g 0 (by omega)).trans q0); have n1 : w2.frozen? ⟨g, 1, none⟩ = false := (((bcell hb2).2 g 1 (by omega)).trans q1)))
  all_goals
    obtain ⟨hc, hf⟩ := bcell (bthen (bundrew hb1) hb2)
    go_wp2
    refine bodyPost_ret (v := .agg #[.int .i64 r0, .int .u64 r1]) (by simp [results, Tryd.results52, go_sem, hc]) rfl ⟨rfl, ?_, ?_⟩
    · have hb0 : w2.heap[g]? = some (.cells #[.int .i64 s0, .int .u64 s1] 25 (0, 0)) := blk_below (blk_below (blk_drew (blk_alloc HG.out _)) hb1) hb2
      have h1 := blk_put hb0 0 (.int .i64 r0) (cs' := #[.int .i64 r0, .int .u64 s1]) rfl
      have h2 := blk_put h1 1 (.int .u64 r1) (cs' := #[.int .i64 r0, .int .u64 r1]) rfl
      have hne : g ≠ w.heap.size := Nat.ne_of_lt hlt
      have h3 := blk_far h2 (p := ⟨w.heap.size, 0, none⟩) hne (.int .i64 r0)
      exact blk_far h3 (p := ⟨w.heap.size, 1, none⟩) hne (.int .u64 r1)
    · have h0 := gbB (gbB (gbD (gbA (gbR w (some g)) (.cells #[.int .i64 0, .int .u64 0] 25))) hb1) hb2
      have h1 := gbS h0 (p := ⟨g, 0, none⟩) (.inr rfl) (.int .i64 r0)
      have h2 := gbS h1 (p := ⟨g, 1, none⟩) (.inr rfl) (.int .u64 r1)
      have h3 := gbS h2 (p := ⟨w.heap.size, 0, none⟩) (.inl (Nat.le_refl _)) (.int .i64 r0)
      exact gbS h3 (p := ⟨w.heap.size, 1, none⟩) (.inl (Nat.le_refl _)) (.int .u64 r1)

theorem total_new (w : World) : Calls Tryd.prog 41 #[] w fun e w' => ∃ g : Nat, e = .returned (.func (.func 52) #[] #[.pointer (some ⟨g, 0, none⟩)]) ∧ Aside0 (w'.heap[g]? = some (.cells #[.int .i64 0, .int .u64 0] 25 (0, 0))) ∧ w.heap.size ≤ g ∧ Below w.heap.size w w' :=
  (total_walk w).mono fun _ _ ⟨he, hw⟩ => ⟨w.heap.size, he, ⟨hw ▸ blk_new _ _⟩, Nat.le_refl _, hw ▸ below_alloc (Below.refl _ _) _⟩
/-- One step of the sum. -/
def accF (s : Int × Int) (a b : Int) : Option (Int × Int) := (precision_Product.f a b).bind fun p => precision_Add.f s.1 s.2 p.1 p.2
/-- The sum of the products, from s on. -/
def dotL : List Int → List Int → Int × Int → Option (Int × Int)
  | a :: l, b :: m, s => (accF s a b).bind fun s' => dotL l m s'
  | [], _, s => some s
  | _, [], s => some s
theorem acc_calls (g : Nat) (s0 s1 a b r0 r1 : Int) (w : World) (hg : w.heap[g]? = some (.cells #[.int .i64 s0, .int .u64 s1] 25 (0, 0))) (h : accF (s0, s1) a b = some (r0, r1)) :
    Calls Tryd.prog 52 #[.int .i64 a, .int .i64 b, .pointer (some ⟨g, 0, none⟩)] w fun e w' => e = .returned (.agg #[.int .i64 r0, .int .u64 r1]) ∧ w'.heap[g]? = some (.cells #[.int .i64 r0, .int .u64 r1] 25 (0, 0)) ∧ w.grownBy w' (some g) := by
  obtain ⟨⟨p0, p1⟩, hP, hA⟩ := Option.bind_eq_some_iff.1 h
  exact acc_walk g s0 s1 a b p0 p1 r0 r1 w hg ⟨hP⟩ ⟨hA⟩


end Go.Proofs.YtdagdoiedibpgaaDoor.Prt
