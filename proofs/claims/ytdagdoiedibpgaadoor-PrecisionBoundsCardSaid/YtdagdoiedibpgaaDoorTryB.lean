import Derived.Test.YtdagdoiedibpgaaDoorTry6
namespace Go.Proofs.YtdagdoiedibpgaaDoor.Prt
set_option linter.unusedVariables false
set_option linter.unusedSimpArgs false
open Go.RowKit Go.Maps Go.Proofs.YtdagdoiedibpgaaDoorW.PrintWords Go.Proofs.YtdagdoiedibpgaaDoorW.PrintLast Go.Proofs.YtdagdoiedibpgaaDoorW.PrintMore

/-- Three places, as an array. -/
def arr3 (f : Int) (l : List Int) : Value := .agg #[.int .i64 f, .int .i64 (l.getD 0 0), .int .i64 (l.getD 1 0), .int .i64 (l.getD 2 0), .int .i64 f, .int .i64 (l.getD 3 0), .int .i64 (l.getD 4 0), .int .i64 (l.getD 5 0), .int .i64 f, .int .i64 (l.getD 6 0), .int .i64 (l.getD 7 0), .int .i64 (l.getD 8 0)]
set_option maxHeartbeats 4000000 in
set_option maxRecDepth 100000 in
theorem upward_walk (g : Nat) (f a b c h : Int) (v0 v2 v3 c4 c5 c6 : Value) (w : World) (hg : w.heap[g]? = some (.cells #[v0, .int .i64 h, v2, v3, c4, c5, c6] 80 (0, 0)))
    (ha : 0 ≤ a ∧ a ≤ 840) (hb : 0 ≤ b ∧ b ≤ 840) (hc : 0 ≤ c ∧ c ≤ 840) (hh : 0 ≤ h ∧ h ≤ 840) :
    Calls Tryd.prog 63 #[.pointer (some ⟨g, 0, none⟩), .agg #[.int .i64 f, .int .i64 a, .int .i64 b, .int .i64 c]] w fun e w' =>
      e = .returned (.agg #[.int .i64 f, .int .i64 (a + h), .int .i64 b, .int .i64 c, .int .i64 f, .int .i64 a, .int .i64 (b + h), .int .i64 c, .int .i64 f, .int .i64 a, .int .i64 b, .int .i64 (c + h)]) ∧ Below w.heap.size w w' := by
  have hu85 := Tryd.underlying85
  obtain ⟨ha0, ha1⟩ := ha
  obtain ⟨hb0, hb1⟩ := hb
  obtain ⟨hc0, hc1⟩ := hc
  obtain ⟨hh0, hh1⟩ := hh
  have g1 := (blk_cell hg 1).trans (show _ = some (Value.int .i64 h) from rfl)
  have hgl := blk_lt hg
  clear hg
  have m1 := fun W => moved_walk f a b c h 0 0 W ⟨by omega, by omega⟩ ⟨by omega, by omega⟩ ⟨by omega, by omega⟩
  have m2 := fun W => moved_walk f a b c 0 h 0 W ⟨by omega, by omega⟩ ⟨by omega, by omega⟩ ⟨by omega, by omega⟩
  have m3 := fun W => moved_walk f a b c 0 0 h W ⟨by omega, by omega⟩ ⟨by omega, by omega⟩ ⟨by omega, by omega⟩
  simp only [Int.add_zero] at m1 m2 m3
  have M1 := Aside0.mk m1
  have M2 := Aside0.mk m2
  have M3 := Aside0.mk m3
  clear m1 m2 m3
  go_enter Tryd.func63, Tryd.ntmps63
  go_wp2_with fail
  have P1 := blk_alloc (blk_new w (.cells #[.int .i64 f, .int .i64 a, .int .i64 b, .int .i64 c] 85)) (.cells #[.int .i64 0, .int .i64 0, .int .i64 0, .int .i64 0, .int .i64 0, .int .i64 0, .int .i64 0, .int .i64 0, .int .i64 0, .int .i64 0, .int .i64 0, .int .i64 0] 97)
  have R1 := blk_new (w.alloc (.cells #[.int .i64 f, .int .i64 a, .int .i64 b, .int .i64 c] 85)) (.cells #[.int .i64 0, .int .i64 0, .int .i64 0, .int .i64 0, .int .i64 0, .int .i64 0, .int .i64 0, .int .i64 0, .int .i64 0, .int .i64 0, .int .i64 0, .int .i64 0] 97)
  have B1 := below_alloc (below_alloc (Below.refl w.heap.size w) (.cells #[.int .i64 f, .int .i64 a, .int .i64 b, .int .i64 c] 85)) (.cells #[.int .i64 0, .int .i64 0, .int .i64 0, .int .i64 0, .int .i64 0, .int .i64 0, .int .i64 0, .int .i64 0, .int .i64 0, .int .i64 0, .int .i64 0, .int .i64 0] 97)
  have c1 : ((w.alloc (.cells #[.int .i64 f, .int .i64 a, .int .i64 b, .int .i64 c] 85)).alloc (.cells #[.int .i64 0, .int .i64 0, .int .i64 0, .int .i64 0, .int .i64 0, .int .i64 0, .int .i64 0, .int .i64 0, .int .i64 0, .int .i64 0, .int .i64 0, .int .i64 0] 97)).cell? ⟨g, 1, none⟩ = some (.int .i64 h) := (B1.cell (p := ⟨g, 1, none⟩) hgl).trans g1
  have s1 : w.heap.size + 2 ≤ ((w.alloc (.cells #[.int .i64 f, .int .i64 a, .int .i64 b, .int .i64 c] 85)).alloc (.cells #[.int .i64 0, .int .i64 0, .int .i64 0, .int .i64 0, .int .i64 0, .int .i64 0, .int .i64 0, .int .i64 0, .int .i64 0, .int .i64 0, .int .i64 0, .int .i64 0] 97)).heap.size := by simp
  simp only [World.size_alloc] at P1 R1
  generalize (w.alloc (.cells #[.int .i64 f, .int .i64 a, .int .i64 b, .int .i64 c] 85)).alloc (.cells #[.int .i64 0, .int .i64 0, .int .i64 0, .int .i64 0, .int .i64 0, .int .i64 0, .int .i64 0, .int .i64 0, .int .i64 0, .int .i64 0, .int .i64 0, .int .i64 0] 97) = V at *
  have d0 := (blk_cell P1 0).trans (show _ = some (Value.int .i64 f) from rfl)
  have d1 := (blk_cell P1 1).trans (show _ = some (Value.int .i64 a) from rfl)
  have d2 := (blk_cell P1 2).trans (show _ = some (Value.int .i64 b) from rfl)
  have d3 := (blk_cell P1 3).trans (show _ = some (Value.int .i64 c) from rfl)
  have r0 := (blk_cell R1 0).trans (show _ = some (Value.int .i64 0) from rfl)
  have q0 := blk_frozen R1 0
  have r1 := (blk_cell R1 1).trans (show _ = some (Value.int .i64 0) from rfl)
  have q1 := blk_frozen R1 1
  have r2 := (blk_cell R1 2).trans (show _ = some (Value.int .i64 0) from rfl)
  have q2 := blk_frozen R1 2
  have r3 := (blk_cell R1 3).trans (show _ = some (Value.int .i64 0) from rfl)
  have q3 := blk_frozen R1 3
  have r4 := (blk_cell R1 4).trans (show _ = some (Value.int .i64 0) from rfl)
  have q4 := blk_frozen R1 4
  have r5 := (blk_cell R1 5).trans (show _ = some (Value.int .i64 0) from rfl)
  have q5 := blk_frozen R1 5
  have r6 := (blk_cell R1 6).trans (show _ = some (Value.int .i64 0) from rfl)
  have q6 := blk_frozen R1 6
  have r7 := (blk_cell R1 7).trans (show _ = some (Value.int .i64 0) from rfl)
  have q7 := blk_frozen R1 7
  have r8 := (blk_cell R1 8).trans (show _ = some (Value.int .i64 0) from rfl)
  have q8 := blk_frozen R1 8
  have r9 := (blk_cell R1 9).trans (show _ = some (Value.int .i64 0) from rfl)
  have q9 := blk_frozen R1 9
  have r10 := (blk_cell R1 10).trans (show _ = some (Value.int .i64 0) from rfl)
  have q10 := blk_frozen R1 10
  have r11 := (blk_cell R1 11).trans (show _ = some (Value.int .i64 0) from rfl)
  have q11 := blk_frozen R1 11
  have k1 : w.heap.size < V.heap.size := by omega
  have k2 : w.heap.size + 1 < V.heap.size := by omega
  have k3 : g < V.heap.size := by omega
  have hbV : Below V.heap.size V V.drew := below_drew (Below.refl _ _)
  have n1 : ¬ (w.heap.size + 1 = g) := by omega
  have n2 : ¬ (g = w.heap.size + 1) := by omega
  have BB := Aside0.mk B1
  clear B1 P1 R1 g1
  go_region_held3 (fun w' => w'.cell? ⟨g, 1, none⟩ = some (.int .i64 h) ∧ w'.cell? ⟨w.heap.size, 0, none⟩ = some (.int .i64 f) ∧ w'.cell? ⟨w.heap.size, 1, none⟩ = some (.int .i64 a) ∧ w'.cell? ⟨w.heap.size, 2, none⟩ = some (.int .i64 b) ∧ w'.cell? ⟨w.heap.size, 3, none⟩ = some (.int .i64 c))
    (first | go_keep)
    (first
      | (go_at_call 65; (with_reducible refine (M1.out _).mono ?_); rintro e w1 ⟨rfl, hb1⟩; replace hbV := bthen hbV hb1; clear hb1; obtain ⟨hcV, hfV⟩ := bcell hbV)
      | (go_at_call 65; (with_reducible refine (M2.out _).mono ?_); rintro e w2 ⟨rfl, hb2⟩; replace hbV := bthen hbV hb2; clear hb2; obtain ⟨hcV2, hfV2⟩ := bcell hbV)
      | (go_at_call 65; (with_reducible refine (M3.out _).mono ?_); rintro e w3 ⟨rfl, hb3⟩; replace hbV := bthen hbV hb3; clear hb3; obtain ⟨hcV3, hfV3⟩ := bcell hbV))
  go_wp2_with fail
  refine bodyPost_ret (v := .agg #[.int .i64 f, .int .i64 (a + h), .int .i64 b, .int .i64 c, .int .i64 f, .int .i64 a, .int .i64 (b + h), .int .i64 c, .int .i64 f, .int .i64 a, .int .i64 b, .int .i64 (c + h)]) (by simp [results, Tryd.results63, go_sem, hcV3, k2, r0, r1, r2, r3, r4, r5, r6, r7, r8, r9, r10, r11]) rfl ⟨rfl, ?_⟩
  have hR : w.heap.size ≤ w.heap.size + 1 := by omega
  exact ((((((((((((bthen BB.out hbV).setCell (p := ⟨w.heap.size + 1, 0, none⟩) hR _).setCell (p := ⟨w.heap.size + 1, 1, none⟩) hR _).setCell (p := ⟨w.heap.size + 1, 2, none⟩) hR _).setCell (p := ⟨w.heap.size + 1, 3, none⟩) hR _).setCell (p := ⟨w.heap.size + 1, 4, none⟩) hR _).setCell (p := ⟨w.heap.size + 1, 5, none⟩) hR _).setCell (p := ⟨w.heap.size + 1, 6, none⟩) hR _).setCell (p := ⟨w.heap.size + 1, 7, none⟩) hR _).setCell (p := ⟨w.heap.size + 1, 8, none⟩) hR _).setCell (p := ⟨w.heap.size + 1, 9, none⟩) hR _).setCell (p := ⟨w.heap.size + 1, 10, none⟩) hR _).setCell (p := ⟨w.heap.size + 1, 11, none⟩) hR _
end Go.Proofs.YtdagdoiedibpgaaDoor.Prt
namespace Go.Proofs.YtdagdoiedibpgaaDoor.Prt
set_option linter.unusedVariables false
set_option linter.unusedSimpArgs false
open Go.RowKit Go.Maps Go.Proofs.YtdagdoiedibpgaaDoorW.PrintWords Go.Proofs.YtdagdoiedibpgaaDoorW.PrintLast Go.Proofs.YtdagdoiedibpgaaDoorW.PrintMore

set_option maxHeartbeats 4000000 in
set_option maxRecDepth 100000 in
theorem downward_walk (g : Nat) (f a b c h : Int) (v0 v2 v3 c4 c5 c6 : Value) (w : World) (hg : w.heap[g]? = some (.cells #[v0, .int .i64 h, v2, v3, c4, c5, c6] 80 (0, 0)))
    (ha : 0 ≤ a ∧ a ≤ 840) (hb : 0 ≤ b ∧ b ≤ 840) (hc : 0 ≤ c ∧ c ≤ 840) (hh : 0 ≤ h ∧ h ≤ 840) :
    Calls Tryd.prog 64 #[.pointer (some ⟨g, 0, none⟩), .agg #[.int .i64 f, .int .i64 a, .int .i64 b, .int .i64 c]] w fun e w' =>
      e = .returned (.agg #[.int .i64 f, .int .i64 a, .int .i64 (b + h), .int .i64 (c + h), .int .i64 f, .int .i64 (a + h), .int .i64 b, .int .i64 (c + h), .int .i64 f, .int .i64 (a + h), .int .i64 (b + h), .int .i64 c]) ∧ Below w.heap.size w w' := by
  have hu85 := Tryd.underlying85
  obtain ⟨ha0, ha1⟩ := ha
  obtain ⟨hb0, hb1⟩ := hb
  obtain ⟨hc0, hc1⟩ := hc
  obtain ⟨hh0, hh1⟩ := hh
  have g1 := (blk_cell hg 1).trans (show _ = some (Value.int .i64 h) from rfl)
  have hgl := blk_lt hg
  clear hg
  have m1 := fun W => moved_walk f a b c 0 h h W ⟨by omega, by omega⟩ ⟨by omega, by omega⟩ ⟨by omega, by omega⟩
  have m2 := fun W => moved_walk f a b c h 0 h W ⟨by omega, by omega⟩ ⟨by omega, by omega⟩ ⟨by omega, by omega⟩
  have m3 := fun W => moved_walk f a b c h h 0 W ⟨by omega, by omega⟩ ⟨by omega, by omega⟩ ⟨by omega, by omega⟩
  simp only [Int.add_zero] at m1 m2 m3
  have M1 := Aside0.mk m1
  have M2 := Aside0.mk m2
  have M3 := Aside0.mk m3
  clear m1 m2 m3
  go_enter Tryd.func64, Tryd.ntmps64
  go_wp2_with fail
  have P1 := blk_alloc (blk_new w (.cells #[.int .i64 f, .int .i64 a, .int .i64 b, .int .i64 c] 85)) (.cells #[.int .i64 0, .int .i64 0, .int .i64 0, .int .i64 0, .int .i64 0, .int .i64 0, .int .i64 0, .int .i64 0, .int .i64 0, .int .i64 0, .int .i64 0, .int .i64 0] 97)
  have R1 := blk_new (w.alloc (.cells #[.int .i64 f, .int .i64 a, .int .i64 b, .int .i64 c] 85)) (.cells #[.int .i64 0, .int .i64 0, .int .i64 0, .int .i64 0, .int .i64 0, .int .i64 0, .int .i64 0, .int .i64 0, .int .i64 0, .int .i64 0, .int .i64 0, .int .i64 0] 97)
  have B1 := below_alloc (below_alloc (Below.refl w.heap.size w) (.cells #[.int .i64 f, .int .i64 a, .int .i64 b, .int .i64 c] 85)) (.cells #[.int .i64 0, .int .i64 0, .int .i64 0, .int .i64 0, .int .i64 0, .int .i64 0, .int .i64 0, .int .i64 0, .int .i64 0, .int .i64 0, .int .i64 0, .int .i64 0] 97)
  have c1 : ((w.alloc (.cells #[.int .i64 f, .int .i64 a, .int .i64 b, .int .i64 c] 85)).alloc (.cells #[.int .i64 0, .int .i64 0, .int .i64 0, .int .i64 0, .int .i64 0, .int .i64 0, .int .i64 0, .int .i64 0, .int .i64 0, .int .i64 0, .int .i64 0, .int .i64 0] 97)).cell? ⟨g, 1, none⟩ = some (.int .i64 h) := (B1.cell (p := ⟨g, 1, none⟩) hgl).trans g1
  have s1 : w.heap.size + 2 ≤ ((w.alloc (.cells #[.int .i64 f, .int .i64 a, .int .i64 b, .int .i64 c] 85)).alloc (.cells #[.int .i64 0, .int .i64 0, .int .i64 0, .int .i64 0, .int .i64 0, .int .i64 0, .int .i64 0, .int .i64 0, .int .i64 0, .int .i64 0, .int .i64 0, .int .i64 0] 97)).heap.size := by simp
  simp only [World.size_alloc] at P1 R1
  generalize (w.alloc (.cells #[.int .i64 f, .int .i64 a, .int .i64 b, .int .i64 c] 85)).alloc (.cells #[.int .i64 0, .int .i64 0, .int .i64 0, .int .i64 0, .int .i64 0, .int .i64 0, .int .i64 0, .int .i64 0, .int .i64 0, .int .i64 0, .int .i64 0, .int .i64 0] 97) = V at *
  have d0 := (blk_cell P1 0).trans (show _ = some (Value.int .i64 f) from rfl)
  have d1 := (blk_cell P1 1).trans (show _ = some (Value.int .i64 a) from rfl)
  have d2 := (blk_cell P1 2).trans (show _ = some (Value.int .i64 b) from rfl)
  have d3 := (blk_cell P1 3).trans (show _ = some (Value.int .i64 c) from rfl)
  have r0 := (blk_cell R1 0).trans (show _ = some (Value.int .i64 0) from rfl)
  have q0 := blk_frozen R1 0
  have r1 := (blk_cell R1 1).trans (show _ = some (Value.int .i64 0) from rfl)
  have q1 := blk_frozen R1 1
  have r2 := (blk_cell R1 2).trans (show _ = some (Value.int .i64 0) from rfl)
  have q2 := blk_frozen R1 2
  have r3 := (blk_cell R1 3).trans (show _ = some (Value.int .i64 0) from rfl)
  have q3 := blk_frozen R1 3
  have r4 := (blk_cell R1 4).trans (show _ = some (Value.int .i64 0) from rfl)
  have q4 := blk_frozen R1 4
  have r5 := (blk_cell R1 5).trans (show _ = some (Value.int .i64 0) from rfl)
  have q5 := blk_frozen R1 5
  have r6 := (blk_cell R1 6).trans (show _ = some (Value.int .i64 0) from rfl)
  have q6 := blk_frozen R1 6
  have r7 := (blk_cell R1 7).trans (show _ = some (Value.int .i64 0) from rfl)
  have q7 := blk_frozen R1 7
  have r8 := (blk_cell R1 8).trans (show _ = some (Value.int .i64 0) from rfl)
  have q8 := blk_frozen R1 8
  have r9 := (blk_cell R1 9).trans (show _ = some (Value.int .i64 0) from rfl)
  have q9 := blk_frozen R1 9
  have r10 := (blk_cell R1 10).trans (show _ = some (Value.int .i64 0) from rfl)
  have q10 := blk_frozen R1 10
  have r11 := (blk_cell R1 11).trans (show _ = some (Value.int .i64 0) from rfl)
  have q11 := blk_frozen R1 11
  have k1 : w.heap.size < V.heap.size := by omega
  have k2 : w.heap.size + 1 < V.heap.size := by omega
  have k3 : g < V.heap.size := by omega
  have hbV : Below V.heap.size V V.drew := below_drew (Below.refl _ _)
  have n1 : ¬ (w.heap.size + 1 = g) := by omega
  have n2 : ¬ (g = w.heap.size + 1) := by omega
  have BB := Aside0.mk B1
  clear B1 P1 R1 g1
  go_region_held3 (fun w' => w'.cell? ⟨g, 1, none⟩ = some (.int .i64 h) ∧ w'.cell? ⟨w.heap.size, 0, none⟩ = some (.int .i64 f) ∧ w'.cell? ⟨w.heap.size, 1, none⟩ = some (.int .i64 a) ∧ w'.cell? ⟨w.heap.size, 2, none⟩ = some (.int .i64 b) ∧ w'.cell? ⟨w.heap.size, 3, none⟩ = some (.int .i64 c))
    (first | go_keep)
    (first
      | (go_at_call 65; (with_reducible refine (M1.out _).mono ?_); rintro e w1 ⟨rfl, hb1⟩; replace hbV := bthen hbV hb1; clear hb1; obtain ⟨hcV, hfV⟩ := bcell hbV)
      | (go_at_call 65; (with_reducible refine (M2.out _).mono ?_); rintro e w2 ⟨rfl, hb2⟩; replace hbV := bthen hbV hb2; clear hb2; obtain ⟨hcV2, hfV2⟩ := bcell hbV)
      | (go_at_call 65; (with_reducible refine (M3.out _).mono ?_); rintro e w3 ⟨rfl, hb3⟩; replace hbV := bthen hbV hb3; clear hb3; obtain ⟨hcV3, hfV3⟩ := bcell hbV))
  go_wp2_with fail
  refine bodyPost_ret (v := .agg #[.int .i64 f, .int .i64 a, .int .i64 (b + h), .int .i64 (c + h), .int .i64 f, .int .i64 (a + h), .int .i64 b, .int .i64 (c + h), .int .i64 f, .int .i64 (a + h), .int .i64 (b + h), .int .i64 c]) (by simp [results, Tryd.results64, go_sem, hcV3, k2, r0, r1, r2, r3, r4, r5, r6, r7, r8, r9, r10, r11]) rfl ⟨rfl, ?_⟩
  have hR : w.heap.size ≤ w.heap.size + 1 := by omega
  exact ((((((((((((bthen BB.out hbV).setCell (p := ⟨w.heap.size + 1, 0, none⟩) hR _).setCell (p := ⟨w.heap.size + 1, 1, none⟩) hR _).setCell (p := ⟨w.heap.size + 1, 2, none⟩) hR _).setCell (p := ⟨w.heap.size + 1, 3, none⟩) hR _).setCell (p := ⟨w.heap.size + 1, 4, none⟩) hR _).setCell (p := ⟨w.heap.size + 1, 5, none⟩) hR _).setCell (p := ⟨w.heap.size + 1, 6, none⟩) hR _).setCell (p := ⟨w.heap.size + 1, 7, none⟩) hR _).setCell (p := ⟨w.heap.size + 1, 8, none⟩) hR _).setCell (p := ⟨w.heap.size + 1, 9, none⟩) hR _).setCell (p := ⟨w.heap.size + 1, 10, none⟩) hR _).setCell (p := ⟨w.heap.size + 1, 11, none⟩) hR _
end Go.Proofs.YtdagdoiedibpgaaDoor.Prt
