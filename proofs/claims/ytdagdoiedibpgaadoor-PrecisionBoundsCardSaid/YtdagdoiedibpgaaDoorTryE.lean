import Derived.Test.YtdagdoiedibpgaaDoorTry6
import Derived.Test.YtdagdoiedibpgaaDoorTryS
import Derived.Test.YtdagdoiedibpgaaDoorWKept
import Derived.Test.YtdagdoiedibpgaaDoorTryB
namespace Go.Proofs.YtdagdoiedibpgaaDoor.Prt
set_option linter.unusedVariables false
set_option linter.unusedSimpArgs false
open Go.RowKit Go.Maps Go.Proofs.YtdagdoiedibpgaaDoorW.PrintWords Go.Proofs.YtdagdoiedibpgaaDoorW.PrintLast Go.Proofs.YtdagdoiedibpgaaDoorW.PrintMore

/-- Three numbers, ascending. -/
def tri (a b c : Nat) : Nat × Nat × Nat := (min (min a b) c, a + b + c - min (min a b) c - max (max a b) c, max (max a b) c)
theorem perm3 {α : Type} (a b c : α) : [a, b, c].Perm [a, c, b] ∧ [a, b, c].Perm [b, a, c] ∧ [a, b, c].Perm [b, c, a] ∧ [a, b, c].Perm [c, a, b] ∧ [a, b, c].Perm [c, b, a] :=
  ⟨(List.Perm.swap c b []).cons a, List.Perm.swap b a [c], (List.Perm.swap b a [c]).trans ((List.Perm.swap c a []).cons b), ((List.Perm.swap c b []).cons a).trans (List.Perm.swap c a [b]), ((List.Perm.swap b a [c]).trans ((List.Perm.swap c a []).cons b)).trans (List.Perm.swap c b [a])⟩
theorem sorted3 (a b c : Nat) : ([(a : Int), (b : Int), (c : Int)].mergeSort fun x y => decide (x ≤ y)) = [((tri a b c).1 : Int), ((tri a b c).2.1 : Int), ((tri a b c).2.2 : Int)] := by
  have hp := List.mergeSort_perm [(a : Int), (b : Int), (c : Int)] (fun x y => decide (x ≤ y))
  have hs := List.pairwise_mergeSort (le := fun x y : Int => decide (x ≤ y)) (fun x y z h1 h2 => by simp at *; omega) (fun x y => by simp; omega) [(a : Int), (b : Int), (c : Int)]
  refine List.Perm.eq_of_pairwise (le := fun x y : Int => x ≤ y) (fun x y _ _ h1 h2 => by omega) (by simpa using hs) ?_ (hp.trans ?_)
  · simp [tri]; omega
  · obtain ⟨p1, p2, p3, p4, p5⟩ := perm3 (a : Int) (b : Int) (c : Int)
    unfold tri
    by_cases h1 : a ≤ b
    · by_cases h2 : b ≤ c
      · rw [show min (min a b) c = a by omega, show max (max a b) c = c by omega, show a + b + c - a - c = b by omega]
      · by_cases h3 : a ≤ c
        · rw [show min (min a b) c = a by omega, show max (max a b) c = b by omega, show a + b + c - a - b = c by omega]; exact p1
        · rw [show min (min a b) c = c by omega, show max (max a b) c = b by omega, show a + b + c - c - b = a by omega]; exact p4
    · by_cases h2 : a ≤ c
      · rw [show min (min a b) c = b by omega, show max (max a b) c = c by omega, show a + b + c - b - c = a by omega]; exact p2
      · by_cases h3 : b ≤ c
        · rw [show min (min a b) c = b by omega, show max (max a b) c = a by omega, show a + b + c - b - a = c by omega]; exact p3
        · rw [show min (min a b) c = c by omega, show max (max a b) c = a by omega, show a + b + c - c - a = b by omega]; exact p5
/-- A cell's nodes, as they stand in memory. -/
def clC (p : Nat × Nat × Nat) : List Value := [.int .i64 p.1, .int .i64 p.2.1, .int .i64 p.2.2]
/-- The net with its nodes, while its cells are made. -/
structure NetInv (g B m : Nat) (n h : Int) (nv cv : Value) (D : DataW Unit) (cl : List (Nat × Nat × Nat)) (w0 wr : World) : Prop where
  blk : wr.heap[g]? = some (.cells #[.int .i64 n, .int .i64 h, nv, .map (some B), cv, .slice none 0 0, .slice none 0 0] 80 (0, 0))
  own : wr.ownsRow w0.heap.size 88 3 cv cl.length (cl.flatMap clC)
  map : wr.ownsMap Tryd.prog 85 (plainElem Tryd.prog 3) B m D
  bel : Below w0.heap.size w0 wr
  hg : w0.heap.size ≤ g
  hB : w0.heap.size ≤ B
theorem NetInv.grown {g B m : Nat} {n h : Int} {nv cv : Value} {D : DataW Unit} {cl : List (Nat × Nat × Nat)} {w0 wr wr' : World} (H : NetInv g B m n h nv cv D cl w0 wr) (hg : wr.grownBy wr' none) : NetInv g B m n h nv cv D cl w0 wr' :=
  ⟨blk_grown H.blk hg (by simp), H.own.kept hg (by cases hv : cv.ownBlock <;> simp), H.map.kept hg (by simp), H.bel.grown hg H.bel.size (by simp), H.hg, H.hB⟩
theorem NetInv.alloc {g B m : Nat} {n h : Int} {nv cv : Value} {D : DataW Unit} {cl : List (Nat × Nat × Nat)} {w0 wr : World} (H : NetInv g B m n h nv cv D cl w0 wr) (o : Obj) : NetInv g B m n h nv cv D cl w0 (wr.alloc o) := H.grown (gbA (gbR _ _) o)
theorem NetInv.drew {g B m : Nat} {n h : Int} {nv cv : Value} {D : DataW Unit} {cl : List (Nat × Nat × Nat)} {w0 wr : World} (H : NetInv g B m n h nv cv D cl w0 wr) : NetInv g B m n h nv cv D cl w0 wr.drew := H.grown (gbD (gbR _ _))
theorem NetInv.grownK {g B m K : Nat} {n h : Int} {nv cv : Value} {D : DataW Unit} {cl : List (Nat × Nat × Nat)} {w0 wr wr' : World} {cs : Array Value} {t : TypeId} (H : NetInv g B m n h nv cv D cl w0 wr) (hK : wr.heap[K]? = some (.cells cs t (0, 0))) (ht : t ≠ 80) (ht2 : t ≠ 88) (hK0 : w0.heap.size ≤ K) (hgb : wr.grownBy wr' (some K)) :
    NetInv g B m n h nv cv D cl w0 wr' := by
  refine ⟨blk_grown H.blk hgb (fun e => ?_), H.own.kept hgb (.inr (own_ne_blk H.own hK (fun e => ht2 e.symm))), H.map.kept hgb (fun e => blk_ne_map hK H.map (Option.some.inj e).symm), H.bel.grown hgb H.bel.size (fun k e => by cases e; exact hK0), H.hg, H.hB⟩
  have e := Option.some.inj e
  subst e
  rw [H.blk] at hK
  cases hK
  exact ht rfl
/-- A round that adds a cell. -/
theorem NetInv.step {g B m : Nat} {n h : Int} {nv : Value} {A : Option Addr} {cp gg cap : Nat} {D : DataW Unit} {cl : List (Nat × Nat × Nat)} {w0 W4 W5 : World} {o : Obj} {p : Nat × Nat × Nat}
    (H : NetInv g B m n h nv (.slice A cl.length cp) D cl w0 W4)
    (hblk : W5.heap[g]? = some (.cells #[.int .i64 n, .int .i64 h, nv, .map (some B), .slice A cl.length cp, .slice none 0 0, .slice none 0 0] 80 (0, 0)))
    (hown : W5.ownsRow w0.heap.size 88 3 (.slice (some ⟨gg, 0, none⟩) (cl.length + 1) cap) (cl.length + 1) (cl.flatMap clC ++ clC p))
    (hgr : (W4.alloc o).drew.grownBy W5 (Value.slice A cl.length cp).ownBlock) :
    NetInv g B m n h nv (.slice (some ⟨gg, 0, none⟩) (cl.length + 1) cap) D (cl ++ [p]) w0 (W5.setCell ⟨g, 4, none⟩ (.slice (some ⟨gg, 0, none⟩) (cl.length + 1) cap)) := by
  have hgb : W5.grownBy (W5.setCell ⟨g, 4, none⟩ (.slice (some ⟨gg, 0, none⟩) (cl.length + 1) cap)) (some g) := gbS (gbR _ _) (.inr rfl) _
  have hm5 := ((H.map.alloc o).drew).kept hgr (fun e => own_ne_map H.own H.map e.symm)
  have hgB : g ≠ B := blk_ne_map hblk hm5
  refine ⟨blk_put hblk 4 _ rfl, ?_, hm5.kept hgb (fun e => hgB (Option.some.inj e).symm), ?_, H.hg, H.hB⟩
  · simp only [List.length_append, List.length_singleton, List.flatMap_append, List.flatMap_cons, List.flatMap_nil, List.append_nil]
    exact hown.kept hgb (.inr (own_ne_blk hown hblk (by decide)))
  · refine Below.setCell ?_ H.hg _
    exact (below_drew (below_alloc H.bel o)).grown hgr (by have := H.bel.size; simp; omega) (fun k e => (H.own.lt k e).1)
theorem info88 : (Tryd.prog.info? 88).map (fun i => (i.zero, i.size, i.bytes)) = some (some (.agg #[.int .i64 0, .int .i64 0, .int .i64 0]), 3, 24) := by kernel_rfl
/-- A store into a block that is neither the net's, the map's nor the cells' row. -/
theorem NetInv.set {g B m K j : Nat} {n h : Int} {nv cv : Value} {D : DataW Unit} {cl : List (Nat × Nat × Nat)} {w0 wr : World} {cs : Array Value} {t : TypeId} (H : NetInv g B m n h nv cv D cl w0 wr) (hK : wr.heap[K]? = some (.cells cs t (0, 0))) (ht : t ≠ 80) (ht2 : t ≠ 88) (hK0 : w0.heap.size ≤ K) (u : Value) :
    NetInv g B m n h nv cv D cl w0 (wr.setCell ⟨K, j, none⟩ u) := by
  have hgb : wr.grownBy (wr.setCell ⟨K, j, none⟩ u) (some K) := gbS (gbR _ _) (.inr rfl) _
  refine ⟨blk_grown H.blk hgb (fun e => ?_), H.own.kept hgb (.inr (own_ne_blk H.own hK (fun e => ht2 e.symm))), H.map.kept hgb (fun e => blk_ne_map hK H.map (Option.some.inj e).symm), H.bel.setCell hK0 _, H.hg, H.hB⟩
  have e := Option.some.inj e
  subst e
  rw [H.blk] at hK
  cases hK
  exact ht rfl
/-- The index of a place, read off the map. -/
def AtIs (D : DataW Unit) (f a b c k : Nat) : Prop := f < 20 ∧ (a : Int) ≤ 840 ∧ (b : Int) ≤ 840 ∧ (c : Int) ≤ 840 ∧ a + b + c = 840 ∧ plOK (norm f a b c) ∧ D.atKey (pkey (norm f a b c)) (.lit (.int .i64 0)) = .lit (.int .i64 k)
theorem AtIs.calls {g B m f a b c k : Nat} {n h : Int} {nv cv : Value} {D : DataW Unit} {cl : List (Nat × Nat × Nat)} {w0 w : World} (hA : AtIs D f a b c k) (hG : CornersAt w) (H : NetInv g B m n h nv cv D cl w0 w) :
    Calls Tryd.prog 73 #[.pointer (some ⟨g, 0, none⟩), .agg #[.int .i64 f, .int .i64 a, .int .i64 b, .int .i64 c]] w (AtPost k w) := by
  obtain ⟨h1, h2, h3, h4, h5, h6, h7⟩ := hA
  exact at_walk g B f a b c D m k _ _ _ _ _ _ w hG H.blk H.map h1 h2 h3 h4 h5 h6 h7

def CellPost (g B m : Nat) (n h : Int) (nv cv0 : Value) (D : DataW Unit) (cl : List (Nat × Nat × Nat)) (w0 w : World) (e : Ending) (w' : World) : Prop := e = .returned (.tuple #[]) ∧ ∃ cv, NetInv g B m n h nv cv D cl w0 w' ∧ Kept w w' (fun k => k = g ∨ some k = cv0.ownBlock)
set_option maxHeartbeats 4000000 in
set_option maxRecDepth 100000 in
theorem cell_walk (g B m f a0 b0 c0 a1 b1 c1 a2 b2 c2 k0 k1 k2 : Nat) (n h : Int) (nv cv : Value) (D : DataW Unit) (cl : List (Nat × Nat × Nat)) (w0 w : World) (hG : CornersAt w0) (H : NetInv g B m n h nv cv D cl w0 w)
    (h0 : AtIs D f a0 b0 c0 k0) (h1 : AtIs D f a1 b1 c1 k1) (h2 : AtIs D f a2 b2 c2 k2) (hl : cl.length ≤ 100000) :
    Calls Tryd.prog 62 #[.pointer (some ⟨g, 0, none⟩), .agg #[.int .i64 f, .int .i64 a0, .int .i64 b0, .int .i64 c0, .int .i64 f, .int .i64 a1, .int .i64 b1, .int .i64 c1, .int .i64 f, .int .i64 a2, .int .i64 b2, .int .i64 c2]] w (CellPost g B m n h nv cv D (cl ++ [tri k0 k1 k2]) w0 w) := by
  have hu85 := Tryd.underlying85
  have hu80 := Tryd.underlying80
  have HG := Aside0.mk hG
  have HH := Aside0.mk H
  have HS := Aside0.mk (And.intro h0 (And.intro h1 h2))
  clear hG H h0 h1 h2
  have x0 : ∀ W, (Instr.index 97 (.agg #[.int .i64 f, .int .i64 a0, .int .i64 b0, .int .i64 c0, .int .i64 f, .int .i64 a1, .int .i64 b1, .int .i64 c1, .int .i64 f, .int .i64 a2, .int .i64 b2, .int .i64 c2]) (.int .i64 0)).run Tryd.prog W = .ok (.agg #[.int .i64 f, .int .i64 a0, .int .i64 b0, .int .i64 c0]) W := fun _ => by kernel_rfl
  have x1 : ∀ W, (Instr.index 97 (.agg #[.int .i64 f, .int .i64 a0, .int .i64 b0, .int .i64 c0, .int .i64 f, .int .i64 a1, .int .i64 b1, .int .i64 c1, .int .i64 f, .int .i64 a2, .int .i64 b2, .int .i64 c2]) (.int .i64 1)).run Tryd.prog W = .ok (.agg #[.int .i64 f, .int .i64 a1, .int .i64 b1, .int .i64 c1]) W := fun _ => by kernel_rfl
  have x2 : ∀ W, (Instr.index 97 (.agg #[.int .i64 f, .int .i64 a0, .int .i64 b0, .int .i64 c0, .int .i64 f, .int .i64 a1, .int .i64 b1, .int .i64 c1, .int .i64 f, .int .i64 a2, .int .i64 b2, .int .i64 c2]) (.int .i64 2)).run Tryd.prog W = .ok (.agg #[.int .i64 f, .int .i64 a2, .int .i64 b2, .int .i64 c2]) W := fun _ => by kernel_rfl
  go_enter Tryd.func62, Tryd.ntmps62
  go_wp2_with fail
  refine wp_loop_rounds 4 ?_
  rw [rounds_succ]
  go_wp2_with fail
  have H1 := Aside0.mk (((HH.out.alloc (.cells #[.int .i64 f, .int .i64 a0, .int .i64 b0, .int .i64 c0, .int .i64 f, .int .i64 a1, .int .i64 b1, .int .i64 c1, .int .i64 f, .int .i64 a2, .int .i64 b2, .int .i64 c2] 97)).alloc (.cells #[.int .i64 0, .int .i64 0, .int .i64 0] 110)).alloc (.cells #[.int .i64 f, .int .i64 a0, .int .i64 b0, .int .i64 c0] 85))
  have K1 := blk_alloc (blk_new (w.alloc (.cells #[.int .i64 f, .int .i64 a0, .int .i64 b0, .int .i64 c0, .int .i64 f, .int .i64 a1, .int .i64 b1, .int .i64 c1, .int .i64 f, .int .i64 a2, .int .i64 b2, .int .i64 c2] 97)) (.cells #[.int .i64 0, .int .i64 0, .int .i64 0] 110)) (.cells #[.int .i64 f, .int .i64 a0, .int .i64 b0, .int .i64 c0] 85)
  simp only [World.size_alloc] at K1
  have FR1 := Aside0.mk ((((Kept.refl w (fun k => k = g ∨ some k = cv.ownBlock)).alloc (.cells #[.int .i64 f, .int .i64 a0, .int .i64 b0, .int .i64 c0, .int .i64 f, .int .i64 a1, .int .i64 b1, .int .i64 c1, .int .i64 f, .int .i64 a2, .int .i64 b2, .int .i64 c2] 97)).alloc (.cells #[.int .i64 0, .int .i64 0, .int .i64 0] 110)).alloc (.cells #[.int .i64 f, .int .i64 a0, .int .i64 b0, .int .i64 c0] 85))
  have HKw := Aside0.mk (show w.heap.size ≤ w.heap.size + 1 by omega)
  have hK0 : w0.heap.size ≤ w.heap.size + 1 := by have := HH.out.bel.size; omega
  have HK0 := Aside0.mk hK0
  clear hK0 HH
  generalize ((w.alloc (.cells #[.int .i64 f, .int .i64 a0, .int .i64 b0, .int .i64 c0, .int .i64 f, .int .i64 a1, .int .i64 b1, .int .i64 c1, .int .i64 f, .int .i64 a2, .int .i64 b2, .int .i64 c2] 97)).alloc (.cells #[.int .i64 0, .int .i64 0, .int .i64 0] 110)).alloc (.cells #[.int .i64 f, .int .i64 a0, .int .i64 b0, .int .i64 c0] 85) = V1 at *
  have KK1 := Aside0.mk K1
  clear K1
  generalize w.heap.size + 1 = K at *
  refine (HS.out.1.calls (HG.out.below H1.out.bel) H1.out).mono ?_
  intro e w1 hp
  obtain ⟨rfl, hb⟩ := hp
  have H2 := Aside0.mk (H1.out.grown (grown_of_below hb none))
  have K2 := blk_below KK1.out hb
  have cc := (blk_cell K2 0).trans (show _ = some (Value.int .i64 0) from rfl)
  have cf := blk_frozen K2 0
  have KK2 := Aside0.mk (blk_put K2 0 (.int .i64 k0) (cs' := #[.int .i64 k0, .int .i64 0, .int .i64 0]) rfl)
  have FR3 := Aside0.mk ((FR1.out.below hb).setCell (p := ⟨K, 0, none⟩) (.inr HKw.out) (.int .i64 k0))
  have H3 := Aside0.mk (H2.out.set (j := 0) K2 (by decide) (by decide) HK0.out (.int .i64 k0))
  clear hb K2 H1 KK1 H2 FR1
  go_wp2_with fail
  clear cc cf
  generalize w1.setCell ⟨K, 0, none⟩ (.int .i64 k0) = U1 at *
  rw [rounds_succ]
  go_wp2_with fail
  have H1 := Aside0.mk (H3.out.alloc (.cells #[.int .i64 f, .int .i64 a1, .int .i64 b1, .int .i64 c1] 85))
  have FR1 := Aside0.mk (FR3.out.alloc (.cells #[.int .i64 f, .int .i64 a1, .int .i64 b1, .int .i64 c1] 85))
  have KK1 := Aside0.mk (blk_alloc KK2.out (.cells #[.int .i64 f, .int .i64 a1, .int .i64 b1, .int .i64 c1] 85))
  clear H3 KK2 FR3
  generalize U1.alloc (.cells #[.int .i64 f, .int .i64 a1, .int .i64 b1, .int .i64 c1] 85) = V2 at *
  refine (HS.out.2.1.calls (HG.out.below H1.out.bel) H1.out).mono ?_
  intro e w2 hp
  obtain ⟨rfl, hb⟩ := hp
  have H2 := Aside0.mk (H1.out.grown (grown_of_below hb none))
  have K2 := blk_below KK1.out hb
  have cc := (blk_cell K2 1).trans (show _ = some (Value.int .i64 0) from rfl)
  have cf := blk_frozen K2 1
  have KK2 := Aside0.mk (blk_put K2 1 (.int .i64 k1) (cs' := #[.int .i64 k0, .int .i64 k1, .int .i64 0]) rfl)
  have FR3 := Aside0.mk ((FR1.out.below hb).setCell (p := ⟨K, 1, none⟩) (.inr HKw.out) (.int .i64 k1))
  have H3 := Aside0.mk (H2.out.set (j := 1) K2 (by decide) (by decide) HK0.out (.int .i64 k1))
  clear hb K2 H1 KK1 H2 FR1
  go_wp2_with fail
  clear cc cf
  generalize w2.setCell ⟨K, 1, none⟩ (.int .i64 k1) = U2 at *
  rw [rounds_succ]
  go_wp2_with fail
  have H1 := Aside0.mk (H3.out.alloc (.cells #[.int .i64 f, .int .i64 a2, .int .i64 b2, .int .i64 c2] 85))
  have FR1 := Aside0.mk (FR3.out.alloc (.cells #[.int .i64 f, .int .i64 a2, .int .i64 b2, .int .i64 c2] 85))
  have KK1 := Aside0.mk (blk_alloc KK2.out (.cells #[.int .i64 f, .int .i64 a2, .int .i64 b2, .int .i64 c2] 85))
  clear H3 KK2 FR3
  generalize U2.alloc (.cells #[.int .i64 f, .int .i64 a2, .int .i64 b2, .int .i64 c2] 85) = V3 at *
  refine (HS.out.2.2.calls (HG.out.below H1.out.bel) H1.out).mono ?_
  intro e w3 hp
  obtain ⟨rfl, hb⟩ := hp
  have H2 := Aside0.mk (H1.out.grown (grown_of_below hb none))
  have K2 := blk_below KK1.out hb
  have cc := (blk_cell K2 2).trans (show _ = some (Value.int .i64 0) from rfl)
  have cf := blk_frozen K2 2
  have KK2 := Aside0.mk (blk_put K2 2 (.int .i64 k2) (cs' := #[.int .i64 k0, .int .i64 k1, .int .i64 k2]) rfl)
  have FR3 := Aside0.mk ((FR1.out.below hb).setCell (p := ⟨K, 2, none⟩) (.inr HKw.out) (.int .i64 k2))
  have H3 := Aside0.mk (H2.out.set (j := 2) K2 (by decide) (by decide) HK0.out (.int .i64 k2))
  clear hb K2 H1 KK1 H2 FR1
  go_wp2_with fail
  clear cc cf
  generalize w3.setCell ⟨K, 2, none⟩ (.int .i64 k2) = U3 at *
  rw [rounds_succ]
  go_wp2_with fail
  have hsort := sort_ints K 3 110 [(k0 : Int), (k1 : Int), (k2 : Int)] _ U3 KK2.out rfl (by simp)
  rw [sorted3] at hsort
  refine hsort.mono ?_
  rintro e w4 ⟨rfl, hK4, hg4⟩
  obtain ⟨s, hs⟩ : ∃ s, s = tri k0 k1 k2 := ⟨_, rfl⟩
  rw [← hs] at hK4
  have K4 : w4.heap[K]? = some (.cells #[.int .i64 s.1, .int .i64 s.2.1, .int .i64 s.2.2] 110 (0, 0)) := hK4
  have N4 := H3.out.grownK KK2.out (by decide) (by decide) HK0.out hg4
  have FR4 := Aside0.mk (Kept.of_grown hg4 FR3.out (fun k e => by cases e; exact .inr HKw.out))
  have HSS := Aside0.mk hs
  clear hK4 hg4 hsort H3 KK2 hs HS FR3
  obtain ⟨A, cp, hv⟩ := own_shape N4.own
  subst hv
  obtain ⟨s0, s1, s2⟩ := s
  dsimp only at K4
  have d0 := (blk_cell K4 0).trans (show _ = some (Value.int .i64 s0) from rfl)
  have d1 := (blk_cell K4 1).trans (show _ = some (Value.int .i64 s1) from rfl)
  have d2 := (blk_cell K4 2).trans (show _ = some (Value.int .i64 s2) from rfl)
  have c4 := (blk_cell N4.blk 4).trans (show _ = some (Value.slice A _ cp) from rfl)
  have f4 := blk_frozen N4.blk 4
  have hgl := blk_lt N4.blk
  have hKl := blk_lt K4
  have hne : ¬ (K = g) := fun e => by
    subst e
    have := N4.blk
    rw [K4] at this
    cases this
  have hne' : ¬ (g = K) := fun e => hne e.symm
  have NN := Aside0.mk N4
  have HNE := Aside0.mk (own_ne_blk N4.own N4.blk (by decide))
  obtain ⟨i0, hi0, hz0, hz1, hz2⟩ := info_parts info88
  clear N4 K4
  go_wp2_with fail
  go_region_law ((refine step_append_lies _ (by rfl) _ _ _ (by rfl) w0.heap.size 88 i0 _ 3 24 Tryd.underlying77 hi0 hz0 hz1 hz2 rfl (by omega) (.slice A cl.length cp) cl.length (cl.flatMap clC) (by rfl) ((NN.out.own.alloc _).drew) ⟨w4.heap.size, 0, none⟩ 1 1 [.int .i64 s0, .int .i64 s1, .int .i64 s2] (by rfl) (by rfl) (World.news_of_block (cs := #[.int .i64 s0, .int .i64 s1, .int .i64 s2]) (t := 88) (fr := (0, 0)) (heap_alloc_new w4 _)) (by simp [Value.oneCell']) (by omega) (by unfold maxLen; omega) (by omega) (by have := NN.out.bel.size; simp; omega) (w4.heap.size + 1) (by simp) ?_; intro gg cap W5 hown1 hgrow hat hlt5; have b5 := blk_grown (blk_drew (blk_alloc NN.out.blk (.cells #[.int .i64 s0, .int .i64 s1, .int .i64 s2] 88))) hgrow (fun e => HNE.out e.symm); have t2 := (blk_cell b5 4).trans (show _ = some (Value.slice A cl.length cp) from rfl); have t3 := blk_frozen b5 4; have B5 := Aside0.mk b5; have O5 := Aside0.mk hown1; have G5 := Aside0.mk hgrow; clear b5 hown1 hgrow hat))
  all_goals
    go_wp2_with fail
    go_end0
    refine ⟨rfl, .slice (some ⟨gg, 0, none⟩) (cl.length + 1) cap, ?_, Kept.setCell (Kept.of_grown G5.out ((FR4.out.alloc _).drew) (fun k e => .inl (.inr e.symm))) (.inl (.inl rfl)) _⟩
    rw [← HSS.out]
    exact NetInv.step (p := (s0, s1, s2)) NN.out B5.out O5.out G5.out
end Go.Proofs.YtdagdoiedibpgaaDoor.Prt
namespace Go.Proofs.YtdagdoiedibpgaaDoor.Prt
set_option linter.unusedVariables false
set_option linter.unusedSimpArgs false
open Go.RowKit Go.Maps Go.Proofs.YtdagdoiedibpgaaDoorW.PrintWords Go.Proofs.YtdagdoiedibpgaaDoorW.PrintLast Go.Proofs.YtdagdoiedibpgaaDoorW.PrintMore

theorem firstOn_lt (x : Nat → Int) : ∀ d n k, firstOn x d n = some k → k < n + d
  | 0, n, k, h => by simp [firstOn] at h
  | d + 1, n, k, h => by
    unfold firstOn at h
    split at h
    · cases h; omega
    · have := firstOn_lt x d (n + 1) k h; omega
theorem norm_ok (f : Nat) (a b c : Nat) (hf : f < 20) (ha : a ≤ 840) (hb : b ≤ 840) (hc : c ≤ 840) : plOK (norm f a b c) := by
  have hr := wof_range f a b c (by omega) (by omega) (by omega) (by omega) (by omega) (by omega)
  have key : ∀ p : Plc, p.1 < 20 → (0 ≤ p.2.1 ∧ p.2.1 ≤ 840) → (0 ≤ p.2.2.1 ∧ p.2.2.1 ≤ 840) → (0 ≤ p.2.2.2 ∧ p.2.2.2 ≤ 840) → plOK p := by
    intro p h0 h1 h2 h3
    exact ⟨WalkArith.wf_i64 (by omega), WalkArith.wf_i64 (by omega), WalkArith.wf_i64 (by omega), WalkArith.wf_i64 (by omega)⟩
  unfold norm
  split
  · rename_i n hn
    have := firstOn_lt _ _ _ _ hn
    exact key _ (by dsimp only; omega) (hr _) (hr _) (hr _)
  · exact key _ hf ⟨by dsimp only; omega, by dsimp only; omega⟩ ⟨by dsimp only; omega, by dsimp only; omega⟩ ⟨by dsimp only; omega, by dsimp only; omega⟩
theorem atIs_all (n h f a b c : Nat) (hok : ∀ p ∈ nodesTo n h 20 0 0, plOK p) (hf : f < 20) (hs : a + b + c = 840) : AtIs (mapD (nodesTo n h 20 0 0)) f a b c (atF n h (f, (a : Int), (b : Int), (c : Int))) :=
  ⟨hf, by omega, by omega, by omega, hs, norm_ok f a b c hf (by omega) (by omega) (by omega), mapD_at _ _ hok (norm_ok f a b c hf (by omega) (by omega) (by omega))⟩

/-- The cells at a place. -/
def cellsAt (n h f a b c : Nat) : List (Nat × Nat × Nat) :=
  tri (atF n h (f, ((a + h : Nat) : Int), (b : Int), (c : Int))) (atF n h (f, (a : Int), ((b + h : Nat) : Int), (c : Int))) (atF n h (f, (a : Int), (b : Int), ((c + h : Nat) : Int))) ::
    (if h ≤ c then [tri (atF n h (f, (a : Int), ((b + h : Nat) : Int), (c : Int))) (atF n h (f, ((a + h : Nat) : Int), (b : Int), (c : Int))) (atF n h (f, ((a + h : Nat) : Int), ((b + h : Nat) : Int), ((c - h : Nat) : Int)))] else [])

def CellsPost (g B m : Nat) (n h : Int) (nv : Value) (D : DataW Unit) (cl : List (Nat × Nat × Nat)) (w0 : World) (e : Ending) (w' : World) : Prop := e = .returned (.tuple #[]) ∧ ∃ cv, NetInv g B m n h nv cv D cl w0 w'
set_option maxHeartbeats 8000000 in
set_option maxRecDepth 100000 in
theorem cells_walk (g B m f a b c n h : Nat) (nv cv : Value) (cl : List (Nat × Nat × Nat)) (w0 w : World) (hG : CornersAt w0) (H : NetInv g B m n h nv cv (mapD (nodesTo n h 20 0 0)) cl w0 w)
    (hok : ∀ p ∈ nodesTo n h 20 0 0, plOK p) (hf : f < 20) (hs : a + b + c + h = 840) (hl : cl.length ≤ 99999) :
    Calls Tryd.prog 54 #[.pointer (some ⟨g, 0, none⟩), .agg #[.int .i64 f, .int .i64 a, .int .i64 b, .int .i64 c]] w (CellsPost g B m n h nv (mapD (nodesTo n h 20 0 0)) (cl ++ cellsAt n h f a b c) w0) := by
  have hu85 := Tryd.underlying85
  have hu80 := Tryd.underlying80
  obtain ⟨k1, e1, u1⟩ : ∃ k, atF n h (f, ((a + h : Nat) : Int), (b : Int), (c : Int)) = k ∧ AtIs (mapD (nodesTo n h 20 0 0)) f (a + h) b c k := ⟨_, rfl, atIs_all n h f (a + h) b c hok hf (by omega)⟩
  obtain ⟨k2, e2, u2⟩ : ∃ k, atF n h (f, (a : Int), ((b + h : Nat) : Int), (c : Int)) = k ∧ AtIs (mapD (nodesTo n h 20 0 0)) f a (b + h) c k := ⟨_, rfl, atIs_all n h f a (b + h) c hok hf (by omega)⟩
  obtain ⟨k3, e3, u3⟩ : ∃ k, atF n h (f, (a : Int), (b : Int), ((c + h : Nat) : Int)) = k ∧ AtIs (mapD (nodesTo n h 20 0 0)) f a b (c + h) k := ⟨_, rfl, atIs_all n h f a b (c + h) hok hf (by omega)⟩
  have EE := Aside0.mk (And.intro e1 (And.intro e2 e3))
  clear e1 e2 e3
  have CU := fun (W : World) (HW : NetInv g B m n h nv cv (mapD (nodesTo n h 20 0 0)) cl w0 W) => cell_walk g B m f _ _ _ _ _ _ _ _ _ _ _ _ n h nv cv _ cl w0 W hG HW u1 u2 u3 (by omega)
  simp only [Int.natCast_add] at CU
  have CU' := Aside0.mk CU
  have UP := Aside0.mk (fun (W : World) (HW : NetInv g B m n h nv cv (mapD (nodesTo n h 20 0 0)) cl w0 W) => upward_walk g f a b c h _ _ _ _ _ _ W HW.blk ⟨by omega, by omega⟩ ⟨by omega, by omega⟩ ⟨by omega, by omega⟩ ⟨by omega, by omega⟩)
  have HH := Aside0.mk H
  clear CU u3 H
  go_enter Tryd.func54, Tryd.ntmps54
  go_wp2_with fail
  have P1 := blk_new w (.cells #[.int .i64 f, .int .i64 a, .int .i64 b, .int .i64 c] 85)
  have H1 := Aside0.mk (HH.out.alloc (.cells #[.int .i64 f, .int .i64 a, .int .i64 b, .int .i64 c] 85))
  refine (UP.out _ H1.out).mono ?_
  rintro e w1 ⟨rfl, hb1⟩
  have P2 := Aside0.mk (blk_below P1 hb1)
  have H2 := Aside0.mk (H1.out.grown (grown_of_below hb1 none))
  clear P1 H1 hb1 HH
  generalize w.heap.size = P at *
  go_wp2_with fail
  refine (CU'.out _ H2.out).mono ?_
  intro e w2 hp
  obtain ⟨rfl, cv1, N1, KF⟩ := hp
  have hPg : ¬ (P = g ∨ some P = cv.ownBlock) := by
    rintro (e | e)
    · subst e
      have := H2.out.blk
      rw [P2.out] at this
      cases this
    · exact own_ne_blk H2.out.own P2.out (by decide) e.symm
  have P3 := blk_kept P2.out KF hPg
  have NN := Aside0.mk N1
  have g1 := (blk_cell N1.blk 1).trans (show _ = some (Value.int .i64 h) from rfl)
  have p0 := (blk_cell P3 0).trans (show _ = some (Value.int .i64 f) from rfl)
  have p1 := (blk_cell P3 1).trans (show _ = some (Value.int .i64 a) from rfl)
  have p2 := (blk_cell P3 2).trans (show _ = some (Value.int .i64 b) from rfl)
  have p3 := (blk_cell P3 3).trans (show _ = some (Value.int .i64 c) from rfl)
  have PP := Aside0.mk P3
  clear N1 P3 KF P2 H2 hPg
  by_cases hhc : h ≤ c
  · have hi : (h : Int) ≤ (c : Int) := by omega
    go_wp2_with fail
    go_region_held3 (fun w' => w'.cell? ⟨g, 1, none⟩ = some (.int .i64 h) ∧ w'.cell? ⟨P, 3, none⟩ = some (.int .i64 c)) (first | go_keep) (fail)
    go_wp2_with fail
    obtain ⟨c', hc'⟩ : ∃ c' : Nat, c = c' + h := ⟨c - h, by omega⟩
    subst hc'
    have hcc : (c' : Int) + (h : Int) + -(h : Int) = (c' : Int) := by omega
    have hu : IntKind.i64.wrap (-(h : Int)) = -(h : Int) := IntWalk.i64_in _ (by omega)
    have mv := fun W => moved_walk f a b ((c' : Int) + (h : Int)) 0 0 (-(h : Int)) W ⟨by omega, by omega⟩ ⟨by omega, by omega⟩ ⟨by omega, by omega⟩
    rw [hcc] at mv
    simp only [Int.add_zero] at mv
    obtain ⟨k6, e6, d3⟩ : ∃ k, atF n h (f, ((a + h : Nat) : Int), ((b + h : Nat) : Int), (c' : Int)) = k ∧ AtIs (mapD (nodesTo n h 20 0 0)) f (a + h) (b + h) c' k := ⟨_, rfl, atIs_all n h f (a + h) (b + h) c' hok hf (by omega)⟩
    have cd := fun (W : World) (HW : NetInv g B m n h nv cv1 (mapD (nodesTo n h 20 0 0)) (cl ++ [tri k1 k2 k3]) w0 W) => cell_walk g B m f _ _ _ _ _ _ _ _ _ _ _ _ n h nv cv1 _ (cl ++ [tri k1 k2 k3]) w0 W hG HW u2 u1 d3 (by rw [List.length_append, List.length_singleton]; omega)
    have E6 := Aside0.mk e6
    clear e6
    simp only [Int.natCast_add] at cd
    have MV := Aside0.mk mv
    have CD := Aside0.mk cd
    have DN := Aside0.mk (fun (W : World) (HW : W.heap[g]? = some (.cells #[.int .i64 n, .int .i64 h, nv, .map (some B), cv1, .slice none 0 0, .slice none 0 0] 80 (0, 0))) => downward_walk g f a b c' h _ _ _ _ _ _ W HW ⟨by omega, by omega⟩ ⟨by omega, by omega⟩ ⟨by omega, by omega⟩ ⟨by omega, by omega⟩)
    have hPn : ¬ (P = g ∨ some P = cv1.ownBlock) := by
      rintro (e | e)
      · subst e
        have := NN.out.blk
        rw [PP.out] at this
        cases this
      · exact own_ne_blk NN.out.own PP.out (by decide) e.symm
    have HPN := Aside0.mk hPn
    clear mv cd u1 u2 d3 hcc hPn
    rw [Int.natCast_add] at p3
    have hbV : Below w2.heap.size w2 w2.drew.drew := below_drew (below_drew (Below.refl _ _))
    have kP : P < w2.heap.size := blk_lt PP.out
    have kg : g < w2.heap.size := blk_lt NN.out.blk
    go_region_held3 (fun w' => w'.cell? ⟨g, 1, none⟩ = some (.int .i64 h) ∧ w'.cell? ⟨P, 0, none⟩ = some (.int .i64 f) ∧ w'.cell? ⟨P, 1, none⟩ = some (.int .i64 a) ∧ w'.cell? ⟨P, 2, none⟩ = some (.int .i64 b) ∧ w'.cell? ⟨P, 3, none⟩ = some (.int .i64 ((c' : Int) + (h : Int))))
      (first | go_keep | exact ⟨n1, x0, x1, x2, x3⟩)
      (first
        | (go_at_call 65; (with_reducible refine (MV.out _).mono ?_); rintro e w3 ⟨rfl, hb3⟩; replace hbV := bthen hbV hb3; clear hb3; obtain ⟨hcV, hfV⟩ := bcell hbV)
        | (go_at_call 64; (with_reducible refine (DN.out _ (NN.out.grown (grown_of_below hbV none)).blk).mono ?_); rintro e w4 ⟨rfl, hb4⟩; replace hbV := bthen hbV hb4; clear hb4; obtain ⟨hcV2, hfV2⟩ := bcell hbV)
        | (go_at_call 62; (with_reducible refine (CD.out _ (NN.out.grown (grown_of_below hbV none))).mono ?_); intro e w5 hp; obtain ⟨rfl, cv2, N5, K5⟩ := hp; have n1 := (blk_cell N5.blk 1).trans (show _ = some (Value.int .i64 h) from rfl); have P5 := blk_kept (blk_below PP.out hbV) K5 HPN.out; have x0 := (blk_cell P5 0).trans (show _ = some (Value.int .i64 f) from rfl); have x1 := (blk_cell P5 1).trans (show _ = some (Value.int .i64 a) from rfl); have x2 := (blk_cell P5 2).trans (show _ = some (Value.int .i64 b) from rfl); have x3 := (blk_cell P5 3).trans (show _ = some (Value.int .i64 ((c' : Int) + (h : Int))) from rfl); have N6 := Aside0.mk N5; clear N5 K5 P5))
    go_wp2_with fail
    go_end0
    refine ⟨rfl, cv2, ?_⟩
    rw [show cellsAt n h f a b (c' + h) = [tri k1 k2 k3, tri k2 k1 k6] by simp only [cellsAt, EE.out.1, EE.out.2.1, EE.out.2.2, Nat.add_sub_cancel, E6.out]; rw [if_pos hhc]]
    have := N6.out
    rw [List.append_assoc] at this
    exact this
  · have hi : ¬ (h : Int) ≤ (c : Int) := by omega
    go_wp2_with fail
    go_region_held3 (fun w' => w'.cell? ⟨g, 1, none⟩ = some (.int .i64 h) ∧ w'.cell? ⟨P, 3, none⟩ = some (.int .i64 c)) (first | go_keep) (fail)
    go_wp2_with fail
    go_end0
    refine ⟨rfl, cv1, ?_⟩
    rw [show cellsAt n h f a b c = [tri k1 k2 k3] by simp only [cellsAt, EE.out.1, EE.out.2.1, EE.out.2.2]; rw [if_neg hhc]]
    exact NN.out.drew
end Go.Proofs.YtdagdoiedibpgaaDoor.Prt
