import Derived.Test.YtdagdoiedibpgaaDoorTryE
import Derived.Test.YtdagdoiedibpgaaDoorTryS
namespace Go.Proofs.YtdagdoiedibpgaaDoor.Prt
set_option linter.unusedVariables false
set_option linter.unusedSimpArgs false
open Go.RowKit Go.Maps Go.Proofs.YtdagdoiedibpgaaDoorW.PrintWords Go.Proofs.YtdagdoiedibpgaaDoorW.PrintLast Go.Proofs.YtdagdoiedibpgaaDoorW.PrintMore

/-- The cells of a row, of a face, and those made before face f, row a, place b. -/
def cellRow (n h f a : Nat) : List (List (Nat × Nat × Nat)) := (List.range (n - a)).map fun b => cellsAt n h f (a * h) (b * h) ((n - 1 - a - b) * h)
def cellFace (n h f : Nat) : List (List (Nat × Nat × Nat)) := (List.range n).map fun a => (cellRow n h f a).flatten
def cellsTo (n h f a b : Nat) : List (Nat × Nat × Nat) := ((List.range f).map fun f => (cellFace n h f).flatten).flatten ++ ((cellFace n h f).take a).flatten ++ ((cellRow n h f a).take b).flatten
theorem cellsTo_succ (n h f a b : Nat) (hb : a + b < n) : cellsTo n h f a (b + 1) = cellsTo n h f a b ++ cellsAt n h f (a * h) (b * h) ((n - 1 - a - b) * h) := by
  unfold cellsTo
  rw [List.append_assoc (_ ++ _)]
  congr 1
  rw [List.take_add_one, List.flatten_append]
  congr 1
  have : (cellRow n h f a)[b]? = some (cellsAt n h f (a * h) (b * h) ((n - 1 - a - b) * h)) := by
    simp [cellRow, show b < n - a by omega]
  rw [this]; simp
theorem cellsTo_row (n h f a b : Nat) (ha : a < n) (hb : n ≤ a + b) : cellsTo n h f a b = cellsTo n h f (a + 1) 0 := by
  unfold cellsTo
  rw [List.append_assoc, List.append_assoc]
  congr 1
  have h1 : (cellRow n h f a).take b = cellRow n h f a := List.take_of_length_le (by simp [cellRow]; omega)
  have h2 : (cellFace n h f)[a]? = some (cellRow n h f a).flatten := by simp [cellFace, ha]
  rw [h1, List.take_add_one, h2, List.take_zero, List.flatten_append]
  simp
theorem cellsTo_face (n h f : Nat) : cellsTo n h f n 0 = cellsTo n h (f + 1) 0 0 := by
  unfold cellsTo
  have h1 : (cellFace n h f).take n = cellFace n h f := List.take_of_length_le (by simp [cellFace])
  rw [h1, List.range_succ]
  simp
theorem flat_le {α : Type} (k : Nat) : ∀ l : List (List α), (∀ x ∈ l, x.length ≤ k) → l.flatten.length ≤ l.length * k
  | [], _ => by simp
  | x :: r, h => by
    have h1 := h x (by simp)
    have h2 := flat_le k r (fun y hy => h y (by simp [hy]))
    simp only [List.flatten_cons, List.length_append, List.length_cons, Nat.add_mul, Nat.one_mul]
    omega
theorem cellsAt_len (n h f a b c : Nat) : (cellsAt n h f a b c).length ≤ 2 := by
  unfold cellsAt
  split <;> simp
theorem cellsTo_len (n h f a b : Nat) (hn : n ≤ 8) (hf : f ≤ 20) : (cellsTo n h f a b).length ≤ 3000 := by
  have h1 : ∀ f a, ((cellRow n h f a).flatten).length ≤ 16 := fun f a => by
    have := flat_le 2 (cellRow n h f a) (fun x hx => by
      simp only [cellRow, List.mem_map] at hx
      obtain ⟨b, _, rfl⟩ := hx
      exact cellsAt_len _ _ _ _ _ _)
    have h2 : (cellRow n h f a).length ≤ 8 := by simp [cellRow]; omega
    omega
  have h2 : ∀ f, ((cellFace n h f).flatten).length ≤ 128 := fun f => by
    have := flat_le 16 (cellFace n h f) (fun x hx => by
      simp only [cellFace, List.mem_map] at hx
      obtain ⟨b, _, rfl⟩ := hx
      exact h1 _ _)
    have h2 : (cellFace n h f).length ≤ 8 := by simp [cellFace]; omega
    omega
  have h3 : (((List.range f).map fun f => (cellFace n h f).flatten).flatten).length ≤ 2560 := by
    have := flat_le 128 ((List.range f).map fun f => (cellFace n h f).flatten) (fun x hx => by
      simp only [List.mem_map] at hx
      obtain ⟨b, _, rfl⟩ := hx
      exact h2 _)
    simp only [List.length_map, List.length_range] at this
    omega
  have h4 : (((cellFace n h f).take a).flatten).length ≤ 128 := by
    have := flat_le 16 ((cellFace n h f).take a) (fun x hx => by
      have := List.mem_of_mem_take hx
      simp only [cellFace, List.mem_map] at this
      obtain ⟨b, _, rfl⟩ := this
      exact h1 _ _)
    have h2 : ((cellFace n h f).take a).length ≤ 8 := by simp [cellFace]; omega
    omega
  have h5 : (((cellRow n h f a).take b).flatten).length ≤ 16 := by
    have := flat_le 2 ((cellRow n h f a).take b) (fun x hx => by
      have := List.mem_of_mem_take hx
      simp only [cellRow, List.mem_map] at this
      obtain ⟨b, _, rfl⟩ := this
      exact cellsAt_len _ _ _ _ _ _)
    have h2 : ((cellRow n h f a).take b).length ≤ 8 := by simp [cellRow]; omega
    omega
  unfold cellsTo
  simp only [List.length_append]
  omega
def toI (p : Nat × Nat × Nat) : Int × Int × Int := (p.1, p.2.1, p.2.2)
theorem flat_toI (cl : List (Nat × Nat × Nat)) : cl.flatMap clC = (cl.map toI).flatMap encC := by
  induction cl with
  | nil => rfl
  | cons x r ih => rw [List.flatMap_cons, List.map_cons, List.flatMap_cons, ih]; rfl

theorem mem_cellsTo (n h : Nat) (x : Nat × Nat × Nat) : x ∈ cellsTo n h 20 0 0 ↔ ∃ f a b, f < 20 ∧ a + b < n ∧ x ∈ cellsAt n h f (a * h) (b * h) ((n - 1 - a - b) * h) := by
  simp only [cellsTo, List.take_zero, List.flatten_nil, List.append_nil, List.mem_flatten, List.mem_map, List.mem_range]
  constructor
  · rintro ⟨l, ⟨f, hf, rfl⟩, hx⟩
    simp only [cellFace, List.mem_flatten, List.mem_map, List.mem_range] at hx
    obtain ⟨l, ⟨a, ha, rfl⟩, hx⟩ := hx
    simp only [cellRow, List.mem_flatten, List.mem_map, List.mem_range] at hx
    obtain ⟨l, ⟨b, hb, rfl⟩, hx⟩ := hx
    exact ⟨f, a, b, hf, by omega, hx⟩
  · rintro ⟨f, a, b, hf, hab, hx⟩
    refine ⟨_, ⟨f, hf, rfl⟩, ?_⟩
    simp only [cellFace, List.mem_flatten, List.mem_map, List.mem_range]
    refine ⟨_, ⟨a, by omega, rfl⟩, ?_⟩
    simp only [cellRow, List.mem_flatten, List.mem_map, List.mem_range]
    exact ⟨_, ⟨b, by omega, rfl⟩, hx⟩
theorem cellsTo_ne (n h : Nat) (hn : 1 ≤ n) : (cellsTo n h 20 0 0).map toI ≠ [] := by
  intro e
  have e : cellsTo n h 20 0 0 = [] := List.map_eq_nil_iff.1 e
  have := (mem_cellsTo n h _).2 ⟨0, 0, 0, by omega, by omega, List.mem_cons_self ..⟩
  rw [e] at this
  cases this

/-- The edges of the cells, three a cell. -/
def edges3 (x : Int × Int × Int) : List (Int × Int) := [(x.1, x.2.1), (x.1, x.2.2), (x.2.1, x.2.2)]
def edgesOf (l : List (Int × Int × Int)) : List (Int × Int) := l.flatMap edges3
theorem idxF_lt (xs : List Plc) (q : Plc) : idxF xs q < xs.length ∨ idxF xs q = 0 := by
  induction xs using snoc_ind with
  | h0 => right; rfl
  | h1 xs p ih =>
    rw [idxF_snoc, List.length_append, List.length_singleton]
    split
    · left; omega
    · rcases ih with h | h
      · left; omega
      · right; exact h
theorem nodes_pos (n h : Nat) (hn : 1 ≤ n) (hnh : n * h = 840) : 0 < (nodesTo n h 20 0 0).length := by
  have hm : ((0, 0, 0, 840) : Plc) ∈ nodesTo n h 20 0 0 := by
    unfold nodesTo
    rw [List.mem_filter]
    refine ⟨?_, by decide +kernel⟩
    simp only [List.range_zero, List.flatMap_nil, List.take_zero, List.append_nil, List.mem_flatMap, List.mem_range]
    refine ⟨0, by omega, ?_⟩
    simp only [faceL, List.mem_flatMap, List.mem_range]
    refine ⟨0, by omega, ?_⟩
    simp only [rowL, List.mem_map, List.mem_range]
    refine ⟨0, by omega, ?_⟩
    simp only [plAt, Nat.zero_mul, Nat.sub_zero, hnh]
    rfl
  exact List.length_pos_of_mem hm
def bdC (L : Nat) (x : Int × Int × Int) : Prop := 0 ≤ x.1 ∧ x.1 < L ∧ 0 ≤ x.2.1 ∧ x.2.1 < L ∧ 0 ≤ x.2.2 ∧ x.2.2 < L
theorem tri_bd (L a b c : Nat) (ha : a < L) (hb : b < L) (hc : c < L) : bdC L (toI (tri a b c)) := by
  simp only [bdC, toI, tri]
  omega
theorem cells_bd (n h : Nat) (hn : 1 ≤ n) (hnh : n * h = 840) : ∀ x ∈ (cellsTo n h 20 0 0).map toI, bdC (nodesTo n h 20 0 0).length x := by
  intro x hx
  obtain ⟨y, hy, rfl⟩ := List.mem_map.1 hx
  obtain ⟨f, a, b, _, _, hy⟩ := (mem_cellsTo n h y).1 hy
  have hp := nodes_pos n h hn hnh
  have ha : ∀ p, atF n h p < (nodesTo n h 20 0 0).length := fun p => by
    rcases idxF_lt (nodesTo n h 20 0 0) (norm p.1 p.2.1 p.2.2.1 p.2.2.2) with h1 | h1
    · exact h1
    · show idxF _ _ < _
      omega
  unfold cellsAt at hy
  rcases List.mem_cons.1 hy with rfl | hy
  · exact tri_bd _ _ _ _ (ha _) (ha _) (ha _)
  · split at hy
    · rw [List.mem_singleton] at hy
      subst hy
      exact tri_bd _ _ _ _ (ha _) (ha _) (ha _)
    · cases hy
theorem edges_bd {L : Nat} {cl : List (Int × Int × Int)} (h : ∀ x ∈ cl, bdC L x) : ∀ e ∈ edgesOf cl, 0 ≤ e.1 ∧ e.1 < L ∧ 0 ≤ e.2 ∧ e.2 < L := by
  intro e he
  simp only [edgesOf, List.mem_flatMap, edges3, List.mem_cons, List.not_mem_nil, or_false] at he
  obtain ⟨x, hx, he⟩ := he
  have := h x hx
  simp only [bdC] at this
  rcases he with rfl | rfl | rfl <;> simp only <;> omega

/-- The net while its edges are made. -/
structure BInv (g B : Nat) (n h : Int) (nv cv ev : Value) (cl : List (Int × Int × Int)) (el : List (Int × Int)) (w0 wr : World) : Prop where
  blk : wr.heap[g]? = some (.cells #[.int .i64 n, .int .i64 h, nv, .map (some B), cv, ev, .slice none 0 0] 80 (0, 0))
  owc : wr.ownsRow w0.heap.size 88 3 cv cl.length (cl.flatMap encC)
  owe : wr.ownsRow w0.heap.size 69 2 ev el.length (el.flatMap encE)
  bel : Below w0.heap.size w0 wr
  hg : w0.heap.size ≤ g
theorem BInv.grown {g B : Nat} {n h : Int} {nv cv ev : Value} {cl : List (Int × Int × Int)} {el : List (Int × Int)} {w0 wr wr' : World} (H : BInv g B n h nv cv ev cl el w0 wr) (hg : wr.grownBy wr' none) : BInv g B n h nv cv ev cl el w0 wr' :=
  ⟨blk_grown H.blk hg (by simp), H.owc.kept hg (by cases hv : cv.ownBlock <;> simp), H.owe.kept hg (by cases hv : ev.ownBlock <;> simp), H.bel.grown hg H.bel.size (by simp), H.hg⟩
theorem BInv.alloc {g B : Nat} {n h : Int} {nv cv ev : Value} {cl : List (Int × Int × Int)} {el : List (Int × Int)} {w0 wr : World} (H : BInv g B n h nv cv ev cl el w0 wr) (o : Obj) : BInv g B n h nv cv ev cl el w0 (wr.alloc o) := H.grown (gbA (gbR _ _) o)
theorem BInv.drew {g B : Nat} {n h : Int} {nv cv ev : Value} {cl : List (Int × Int × Int)} {el : List (Int × Int)} {w0 wr : World} (H : BInv g B n h nv cv ev cl el w0 wr) : BInv g B n h nv cv ev cl el w0 wr.drew := H.grown (gbD (gbR _ _))
/-- The cells of element i of a row of cells. -/
theorem owc_cells {w : World} {base : Nat} {v : Value} {cl : List (Int × Int × Int)} (ho : w.ownsRow base 88 3 v cl.length (cl.flatMap encC)) (hne : cl ≠ []) : ∃ gg cp, v = .slice (some ⟨gg, 0, none⟩) cl.length cp ∧ base ≤ gg ∧ gg < w.heap.size ∧ cl.length ≤ cp ∧ ∀ i (hi : i < cl.length), w.cell? ⟨gg, i * 3, none⟩ = some (.int .i64 (cl[i]).1) ∧ w.cell? ⟨gg, i * 3 + 1, none⟩ = some (.int .i64 (cl[i]).2.1) ∧ w.cell? ⟨gg, i * 3 + 2, none⟩ = some (.int .i64 (cl[i]).2.2) := by
  rcases ho.2 with ⟨e0, h0⟩ | ⟨g, cap, cur, rfl, hb, hg, hn, hm, hs, ht⟩
  · exact absurd (List.length_eq_zero_iff.1 h0) hne
  · have e1 : (Sort.flatK encC 3 cl.toArray).toList = cl.flatMap encC := flatK_toList encC 3 (fun _ => rfl) (by decide) _
    have hH : Sort.HoldsK encC 3 w g 0 cl.toArray := holds_blk id hg _ (by rw [Sort.size_flatK, List.map_id, e1]; simpa using ht)
    refine ⟨g, cap, rfl, hb, blk_lt hg, hn, fun i hi => ?_⟩
    have hd : cl.toArray[i]! = cl[i] := by rw [getElem!_pos cl.toArray i (by simpa using hi)]; simp
    have c0 := (hH.cell (show i < cl.toArray.size by simpa using hi) (show 0 < 3 by decide)).1
    have c1 := (hH.cell (show i < cl.toArray.size by simpa using hi) (show 1 < 3 by decide)).1
    have c2 := (hH.cell (show i < cl.toArray.size by simpa using hi) (show 2 < 3 by decide)).1
    rw [hd, Nat.zero_add] at c0 c1 c2
    exact ⟨c0, c1, c2⟩

theorem owc_cell {w : World} {base g cp : Nat} {cl : List (Int × Int × Int)} (ho : w.ownsRow base 88 3 (.slice (some ⟨g, 0, none⟩) cl.length cp) cl.length (cl.flatMap encC)) {i : Nat} (hi : i < cl.length) : w.cell? ⟨g, i * 3, none⟩ = some (.int .i64 (cl[i]).1) ∧ w.cell? ⟨g, i * 3 + 1, none⟩ = some (.int .i64 (cl[i]).2.1) ∧ w.cell? ⟨g, i * 3 + 2, none⟩ = some (.int .i64 (cl[i]).2.2) := by
  obtain ⟨gg, cp', e, _, _, _, hc⟩ := owc_cells ho (fun e => by subst e; simp at hi)
  injection e with e1
  injection e1 with e1
  injection e1 with e1
  subst e1
  exact hc i hi
theorem edgesOf_len (l : List (Int × Int × Int)) : (edgesOf l).length = l.length * 3 := by
  induction l with
  | nil => rfl
  | cons x r ih => unfold edgesOf at *; rw [List.flatMap_cons, List.length_append, ih]; simp [edges3]; omega
theorem edgesOf_snoc (l : List (Int × Int × Int)) (x : Int × Int × Int) : edgesOf (l ++ [x]) = edgesOf l ++ edges3 x := by simp [edgesOf]

theorem BInv.step {g B : Nat} {n h : Int} {nv cv : Value} {A : Option Addr} {cp2 gg cap : Nat} {cl : List (Int × Int × Int)} {el : List (Int × Int)} {w0 W4 W5 : World} {o : Obj} {x : Int × Int × Int}
    (H : BInv g B n h nv cv (.slice A el.length cp2) cl el w0 W4)
    (hblk : W5.heap[g]? = some (.cells #[.int .i64 n, .int .i64 h, nv, .map (some B), cv, .slice A el.length cp2, .slice none 0 0] 80 (0, 0)))
    (hown : W5.ownsRow w0.heap.size 69 2 (.slice (some ⟨gg, 0, none⟩) (el.length + 3) cap) (el.length + 3) (el.flatMap encE ++ [.int .i64 x.1, .int .i64 x.2.1, .int .i64 x.1, .int .i64 x.2.2, .int .i64 x.2.1, .int .i64 x.2.2]))
    (hgr : (W4.alloc o).drew.grownBy W5 (Value.slice A el.length cp2).ownBlock) :
    BInv g B n h nv cv (.slice (some ⟨gg, 0, none⟩) (el.length + 3) cap) cl (el ++ edges3 x) w0 (W5.setCell ⟨g, 5, none⟩ (.slice (some ⟨gg, 0, none⟩) (el.length + 3) cap)) := by
  have hgb : W5.grownBy (W5.setCell ⟨g, 5, none⟩ (.slice (some ⟨gg, 0, none⟩) (el.length + 3) cap)) (some g) := gbS (gbR _ _) (.inr rfl) _
  have hc5 := ((H.owc.alloc o).drew).kept hgr (own_ne_own H.owc H.owe (by decide))
  refine ⟨blk_put hblk 5 _ rfl, hc5.kept hgb (.inr (own_ne_blk hc5 hblk (by decide))), ?_, ?_, H.hg⟩
  · have e : (el ++ edges3 x).flatMap encE = el.flatMap encE ++ [.int .i64 x.1, .int .i64 x.2.1, .int .i64 x.1, .int .i64 x.2.2, .int .i64 x.2.1, .int .i64 x.2.2] := by rw [List.flatMap_append]; rfl
    rw [e, List.length_append]
    exact hown.kept hgb (.inr (own_ne_blk hown hblk (by decide)))
  · refine Below.setCell ?_ H.hg _
    exact (below_drew (below_alloc H.bel o)).grown hgr (by have := H.bel.size; simp; omega) (fun k e => (H.owe.lt k e).1)
theorem BInv.next {g B : Nat} {n h : Int} {nv cv ev : Value} {cl : List (Int × Int × Int)} {el : List (Int × Int)} {w0 W : World} (H : BInv g B n h nv cv ev cl el w0 W) (nn : Nat) :
    NxInv g B W.heap.size nn 0 n h nv cv ev el (fun _ => .slice none 0 0) w0 ((W.setCell ⟨g, 6, none⟩ (.slice (some ⟨W.heap.size, 0, none⟩) nn nn)).alloc (.cells (madeCells #[Value.slice none 0 0] nn) 38)) := by
  have hgb : W.grownBy (W.setCell ⟨g, 6, none⟩ (.slice (some ⟨W.heap.size, 0, none⟩) nn nn)) (some g) := gbS (gbR _ _) (.inr rfl) _
  have hr := World.rowIs_made (W.setCell ⟨g, 6, none⟩ (.slice (some ⟨W.heap.size, 0, none⟩) nn nn)) (.slice none 0 0) nn 38
  have hs : (W.setCell ⟨g, 6, none⟩ (.slice (some ⟨W.heap.size, 0, none⟩) nn nn)).heap.size = W.heap.size := by simp
  rw [hs] at hr
  exact ⟨blk_alloc (blk_put H.blk 6 _ rfl) _, (H.owe.kept hgb (.inr (own_ne_blk H.owe H.blk (by decide)))).alloc _, hr, ⟨fun i _ => ⟨[], Nat.le_refl _, World.ownsRow_nil _ _ _ _⟩, fun i j _ _ _ b hb => by cases hb⟩, below_alloc (Below.setCell H.bel H.hg _) _, H.hg, H.bel.size⟩
theorem info69 : (Tryd.prog.info? 69).map (fun i => (i.zero, i.size, i.bytes)) = some (some (.agg #[.int .i64 0, .int .i64 0]), 2, 16) := by kernel_rfl

/-- What Build comes to: the edges are those of the cells, strictly sorted. -/
def BuildPost (n h : Nat) (w : World) (e : Ending) (w' : World) : Prop := ∃ (g B X nn : Nat) (nv cv : Value) (fs : List (Int × Int)) (ev : Value), e = .returned (.pointer (some ⟨g, 0, none⟩)) ∧
  w'.heap[g]? = some (.cells #[.int .i64 n, .int .i64 h, nv, .map (some B), cv, ev, .slice (some ⟨X, 0, none⟩) nn nn] 80 (0, 0)) ∧ w'.ownsRow w.heap.size 69 2 ev fs.length (fs.flatMap encE) ∧ Below w.heap.size w w' ∧ w.heap.size ≤ g ∧
  fs.Pairwise (fun x y => ltE x y = true) ∧ ∀ x, x ∈ fs ↔ x ∈ edgesOf ((cellsTo n h 20 0 0).map toI)

set_option maxHeartbeats 8000000 in
set_option maxRecDepth 100000 in
theorem build_walk (n h : Nat) (w : World) (hG : CornersAt w) (hn : 1 ≤ n) (hn2 : n ≤ 8) (hnh : n * h = 840) :
    Calls Tryd.prog 51 #[.int .i64 n] w (BuildPost n h w) := by
  have hu85 := Tryd.underlying85
  have hu80 := Tryd.underlying80
  have HG := Aside0.mk hG
  have HNH := Aside0.mk hnh
  have hpts := points_walk n h w hG hn hn2 hnh
  clear hG hnh
  go_enter Tryd.func51, Tryd.ntmps51
  go_wp2_with fail
  refine hpts.mono ?_
  rintro e w1 ⟨g, B, nv, rfl, P1⟩
  clear hpts
  have HP := Aside0.mk P1
  have N1 : NetInv g B (nodesTo n h 20 0 0).length n h nv (.slice none 0 0) (mapD (nodesTo n h 20 0 0)) [] w w1 := ⟨P1.blk, World.ownsRow_nil _ _ _ _, P1.map, P1.bel, P1.hg, P1.hB⟩
  have OK := Aside0.mk P1.ok
  have OWN := Aside0.mk P1.own
  clear P1
  go_wp2_with fail
  go_loopw [15] (fun i wr => ∃ (f : Nat) (cv : Value), i = .int .i64 f ∧ f ≤ 20 ∧ NetInv g B (nodesTo n h 20 0 0).length n h nv cv (mapD (nodesTo n h 20 0 0)) (cellsTo n h f 0 0) w wr) (fun i _ => 20 - (intOf i).toNat)
  case atStart => exact ⟨0, _, rfl, by omega, N1⟩
  case round =>
    clear N1
    obtain ⟨f, cv, rfl, hf, N1⟩ := hrel
    obtain ⟨wo, rfl⟩ : ∃ wo : World, wo = wr := ⟨_, rfl⟩
    by_cases hlt : f < 20
    ·
      have f1 : (f : Int) < 20 := by omega
      go_wp2_with fail
      go_loopw [5] (fun i wr => ∃ (a : Nat) (cv : Value), i = .int .i64 a ∧ a ≤ n ∧ NetInv g B (nodesTo n h 20 0 0).length n h nv cv (mapD (nodesTo n h 20 0 0)) (cellsTo n h f a 0) w wr) (fun i _ => n - (intOf i).toNat)
      case atStart => exact ⟨0, _, rfl, by omega, N1⟩
      case round =>
        clear N1 cv
        obtain ⟨a, cv, rfl, ha, N2⟩ := hrel
        obtain ⟨wp, rfl⟩ : ∃ wo : World, wo = wr := ⟨_, rfl⟩
        by_cases hla : a < n
        · have a1 : (a : Int) < (n : Int) := by omega
          go_wp2_with fail
          go_loopw [6] (fun i wr => ∃ (b : Nat) (cv : Value), i = .int .i64 b ∧ b ≤ n - a ∧ NetInv g B (nodesTo n h 20 0 0).length n h nv cv (mapD (nodesTo n h 20 0 0)) (cellsTo n h f a b) w wr) (fun i _ => n - a - (intOf i).toNat)
          case atStart => exact ⟨0, _, rfl, by omega, N2⟩
          case round =>
            clear N2 cv
            obtain ⟨b, cv, rfl, hb, N3⟩ := hrel
            by_cases hlb : a + b < n
            · have b1 : (a : Int) + (b : Int) < (n : Int) := by omega
              obtain ⟨c, hc⟩ : ∃ c : Nat, a + b + c + 1 = n := ⟨n - 1 - a - b, by omega⟩
              have hmul : ∀ x : Nat, x ≤ n → x * h ≤ 840 := fun x hx => by rw [← HNH.out]; exact Nat.mul_le_mul_right h hx
              have hsum : a * h + b * h + c * h + h = 840 := by rw [← Nat.add_mul, ← Nat.add_mul, ← Nat.succ_mul, Nat.succ_eq_add_one, hc]; exact HNH.out
              obtain ⟨pa, hpa⟩ : ∃ pa : Nat, pa = a * h := ⟨_, rfl⟩
              obtain ⟨pb, hpb⟩ : ∃ pb : Nat, pb = b * h := ⟨_, rfl⟩
              obtain ⟨pc, hpc⟩ : ∃ pc : Nat, pc = c * h := ⟨_, rfl⟩
              have hcs := cellsTo_succ n h f a b hlb
              rw [show n - 1 - a - b = c by omega, ← hpa, ← hpb, ← hpc] at hcs
              rw [← hpa, ← hpb, ← hpc] at hsum
              have e1 : (a : Int) * (h : Int) = (pa : Int) := by rw [hpa, Int.natCast_mul]
              have e2 : (b : Int) * (h : Int) = (pb : Int) := by rw [hpb, Int.natCast_mul]
              have e3 : ((n : Int) - 1 - (a : Int) - (b : Int)) * (h : Int) = (pc : Int) := by rw [hpc, Int.natCast_mul]; congr 1; omega
              have u0 : IntKind.i64.wrap ((n : Int) - 1) = (n : Int) - 1 := IntWalk.i64_in _ (by omega)
              have u1 : IntKind.i64.wrap (pa : Int) = pa := IntWalk.i64_in _ (by omega)
              have u2 : IntKind.i64.wrap (pb : Int) = pb := IntWalk.i64_in _ (by omega)
              have u3 : IntKind.i64.wrap ((n : Int) - 1 - (a : Int)) = (n : Int) - 1 - (a : Int) := IntWalk.i64_in _ (by omega)
              have u4 : IntKind.i64.wrap ((n : Int) - 1 - (a : Int) - (b : Int)) = (n : Int) - 1 - (a : Int) - (b : Int) := IntWalk.i64_in _ (by omega)
              have u5 : IntKind.i64.wrap (pc : Int) = pc := IntWalk.i64_in _ (by omega)
              have HCS := Aside0.mk hcs
              have HSM := Aside0.mk hsum
              clear hmul hpa hpb hpc hcs hc hsum
              have g1 := (blk_cell N3.blk 1).trans (show _ = some (Value.int .i64 h) from rfl)
              have N4 := Aside0.mk N3.drew
              have hlen := cellsTo_len n h f a b hn2 hf
              generalize hxs : cellsTo n h f a b = xs at *
              have HXS := Aside0.mk hxs
              have CW := Aside0.mk (cells_walk g B (nodesTo n h 20 0 0).length f pa pb pc n h nv cv xs w _ HG.out N4.out OK.out hlt HSM.out (by omega))
              clear N3 hxs
              go_wp2_with fail
              go_region_held3 (fun w' => w'.cell? ⟨g, 1, none⟩ = some (.int .i64 h)) (first | go_keep | exact n1) (first | (go_at_call 54; (with_reducible refine CW.out.mono ?_); intro e W2 hp; obtain ⟨rfl, cv2, N5⟩ := hp; have n1 := (blk_cell N5.blk 1).trans (show _ = some (Value.int .i64 h) from rfl)))
              go_wp2_with fail
              go_roundw
              case rel => exact ⟨b + 1, cv2, by go_num, by omega, by rw [HCS.out]; exact N5⟩
              case measure => simp [intOf]; omega
            · have b1 : ¬ (a : Int) + (b : Int) < (n : Int) := by omega
              go_wp2_with fail
              go_roundw
              case rel => exact ⟨a + 1, cv, by go_num, by omega, by rw [← cellsTo_row n h f a b hla (by omega)]; exact N3⟩
              case measure => simp [intOf]; omega
        · have a1 : ¬ (a : Int) < (n : Int) := by omega
          have ha2 : a = n := by omega
          go_wp2_with fail
          go_roundw
          case rel => exact ⟨f + 1, cv, by go_num, by omega, by rw [← cellsTo_face n h f, show cellsTo n h f n 0 = cellsTo n h f a 0 by rw [ha2]]; exact N2⟩
          case measure => simp [intOf]; omega
    · have f1 : ¬ (f : Int) < 20 := by omega
      have hf2 : f = 20 := by omega
      subst hf2
      have hne : (cellsTo n h 20 0 0).map toI ≠ [] := cellsTo_ne n h hn
      have HBD := Aside0.mk (cells_bd n h hn HNH.out)
      have hlen : ((cellsTo n h 20 0 0).map toI).length ≤ 3000 := by rw [List.length_map]; exact cellsTo_len n h 20 0 0 hn2 (by omega)
      have HC0 := Aside0.mk (And.intro hne hlen)
      have b1 := N1.blk
      have o1 := N1.own
      rw [flat_toI, ← List.length_map (f := toI)] at o1
      have l1 := N1.bel
      have HGB := Aside0.mk N1.hg
      clear f1 N1 hlt hf hne hlen
      generalize hcle : (cellsTo n h 20 0 0).map toI = cl at *
      have HCL := Aside0.mk hcle
      clear hcle
      obtain ⟨A, cp, hv⟩ := own_shape o1
      subst hv
      have c4 := (blk_cell b1 4).trans (show _ = some (Value.slice A cl.length cp) from rfl)
      have hsort := Aside0.mk (sort_cells w.heap.size cl.length (.slice A cl.length cp) cl wo rfl HC0.out.1 (by have := HC0.out.2; omega) o1)
      have B1 := Aside0.mk b1
      have O1 := Aside0.mk o1
      have L1 := Aside0.mk l1
      clear b1 o1 l1
      go_wp2_with fail
      refine hsort.out.mono ?_
      rintro e w2 ⟨rfl, ys, hperm, hsrt, own2, hg2⟩
      have hyl : ys.length = cl.length := hperm.length_eq
      have hyne : ys ≠ [] := fun e => HC0.out.1 (by subst e; exact List.length_eq_zero_iff.1 (by simpa using hyl.symm))
      have I0 : BInv g B n h nv (.slice A cl.length cp) (.slice none 0 0) ys [] w w2 :=
        ⟨blk_grown B1.out hg2 (fun e => own_ne_blk O1.out B1.out (by decide) e.symm), by rw [hyl]; exact own2, World.ownsRow_nil _ _ _ _, L1.out.grown hg2 L1.out.size (fun k e => (O1.out.lt k e).1), HGB.out⟩
      have HS := Aside0.mk (And.intro hperm (And.intro hsrt hyne))
      have hl3 : ys.length ≤ 3000 := by rw [hyl]; exact HC0.out.2
      rw [← hyl] at I0
      clear hsort own2 hg2 hperm hsrt B1 O1 L1 HC0 hyl c4
      obtain ⟨gc, cpc, hv, hgc, hgl, hcp, hcells⟩ := owc_cells I0.owc hyne
      rw [hv] at I0
      clear hv hyne hgl hcells
      have c4 := (blk_cell I0.blk 4).trans (show _ = some (Value.slice _ _ cpc) from rfl)
      have HI0 := Aside0.mk I0
      clear I0
      go_wp2_with fail
      go_loopw [68] (fun i wr => ∃ (k : Nat) (ev : Value), i = .int .i64 k ∧ k ≤ ys.length ∧ BInv g B n h nv (.slice (some ⟨gc, 0, none⟩) ys.length cpc) ev ys (edgesOf (ys.take k)) w wr) (fun i _ => ys.length - (intOf i).toNat)
      case atStart => exact ⟨0, _, rfl, Nat.zero_le _, HI0.out⟩
      case round =>
        clear HI0 c4
        obtain ⟨k, ev, rfl, hk, I1⟩ := hrel
        obtain ⟨wo, rfl⟩ : ∃ wo : World, wo = wr := ⟨_, rfl⟩
        by_cases hlt : k < ys.length
        · have k1 : (k : Int) < (ys.length : Int) := by omega
          have k0 : (0 : Int) ≤ (k : Int) := by omega
          obtain ⟨q0, q1, q2⟩ := owc_cell I1.owc hlt
          have hys : ys.take (k + 1) = ys.take k ++ [ys[k]] := by rw [List.take_add_one, List.getElem?_eq_getElem hlt]; rfl
          have HYS := Aside0.mk hys
          have htl : (edgesOf (ys.take k)).length ≤ 9000 := by
            have := edgesOf_len (ys.take k)
            rw [List.length_take] at this
            omega
          generalize hx : ys[k] = x at *
          clear hys hx
          have HI := Aside0.mk (I1.alloc (.cells #[.int .i64 x.1, .int .i64 x.2.1, .int .i64 x.2.2] 88))
          have P1 := blk_new wo (.cells #[.int .i64 x.1, .int .i64 x.2.1, .int .i64 x.2.2] 88)
          have HPN := Aside0.mk (show ¬ (wo.heap.size = g) from fun e => by have := blk_lt I1.blk; omega)
          generalize hel : edgesOf (ys.take k) = el at *
          have HEL := Aside0.mk hel
          clear I1 hel
          go_wp2_with fail
          generalize wo.heap.size = P at *
          generalize wo.alloc (.cells #[.int .i64 x.1, .int .i64 x.2.1, .int .i64 x.2.2] 88) = W4 at *
          clear q0 q1 q2
          obtain ⟨A, cp2, hv⟩ := own_shape HI.out.owe
          subst hv
          have d0 := (blk_cell P1 0).trans (show _ = some (Value.int .i64 x.1) from rfl)
          have d1 := (blk_cell P1 1).trans (show _ = some (Value.int .i64 x.2.1) from rfl)
          have d2 := (blk_cell P1 2).trans (show _ = some (Value.int .i64 x.2.2) from rfl)
          have c5 := (blk_cell HI.out.blk 5).trans (show _ = some (Value.slice A _ cp2) from rfl)
          have f5 := blk_frozen HI.out.blk 5
          have hgl := blk_lt HI.out.blk
          have hPl := blk_lt P1
          have hne1 := HPN.out
          have hne2 : ¬ (g = P) := fun e => HPN.out e.symm
          have HNE := Aside0.mk (own_ne_blk HI.out.owe HI.out.blk (by decide))
          obtain ⟨i0, hi0, hz0, hz1, hz2⟩ := info_parts info69
          have PP := Aside0.mk P1
          have HNP := Aside0.mk (own_ne_blk HI.out.owe P1 (by decide))
          clear P1
          refine wp_region_noPanic ?_
          refine wp_region_held_drew (S := (fun w' => w'.cell? ⟨P, 0, none⟩ = some (.int .i64 x.1) ∧ w'.cell? ⟨P, 1, none⟩ = some (.int .i64 x.2.1) ∧ w'.cell? ⟨P, 2, none⟩ = some (.int .i64 x.2.2))) (by kernel_rfl) ?_ (fun hHeld => ?_)
          · (try dsimp only); (first | go_keep | exact ⟨y0, y1, y2⟩)
          refine wpAnyH_take (i := 0) (oi := _) (v := ?tv35) rfl (by kernel_rfl) (by kernel_rfl) (by kernel_rfl) (fun _ _ _ h => h) (Or.inl ⟨by rfl, ?ty35⟩) (by assumption) ?tr35
          case ty35 => (intro w hSw; (try dsimp only at hSw); go_simp; first | done | with_reducible rfl)
          try simp only [Act.put, List.getElem_toArray, List.getElem_cons_zero, List.getElem_cons_succ, List.setIfInBounds_toArray, List.set_cons_zero, List.set_cons_succ]
          refine wpAnyH_take (i := 1) (oi := _) (v := ?tv36) rfl (by kernel_rfl) (by kernel_rfl) (by kernel_rfl) (fun _ _ _ h => h) (Or.inl ⟨by rfl, ?ty36⟩) (by assumption) ?tr36
          case ty36 => (intro w hSw; (try dsimp only at hSw); go_simp; first | done | with_reducible rfl)
          try simp only [Act.put, List.getElem_toArray, List.getElem_cons_zero, List.getElem_cons_succ, List.setIfInBounds_toArray, List.set_cons_zero, List.set_cons_succ]
          refine wpAnyH_take (i := 2) (oi := _) (v := ?tv37) rfl (by kernel_rfl) (by kernel_rfl) (by kernel_rfl) (fun _ _ _ h => h) (Or.inl ⟨by rfl, ?ty37⟩) (by assumption) ?tr37
          case ty37 => (intro w hSw; (try dsimp only at hSw); go_simp; first | done | with_reducible rfl)
          try simp only [Act.put, List.getElem_toArray, List.getElem_cons_zero, List.getElem_cons_succ, List.setIfInBounds_toArray, List.set_cons_zero, List.set_cons_succ]
          refine wpAnyH_take (i := 3) (oi := _) (v := ?tv38) rfl (by kernel_rfl) (by kernel_rfl) (by kernel_rfl) (fun _ _ _ h => h) (Or.inl ⟨by rfl, ?ty38⟩) (by assumption) ?tr38
          case ty38 => (intro w hSw; (try dsimp only at hSw); go_simp; first | done | with_reducible rfl)
          try simp only [Act.put, List.getElem_toArray, List.getElem_cons_zero, List.getElem_cons_succ, List.setIfInBounds_toArray, List.set_cons_zero, List.set_cons_succ]
          refine wpAnyH_take (i := 5) (oi := _) (v := ?tv39) rfl (by kernel_rfl) (by kernel_rfl) (by kernel_rfl) (fun _ _ _ h => h) (Or.inl ⟨by rfl, ?ty39⟩) (by assumption) ?tr39
          case ty39 => (intro w hSw; (try dsimp only at hSw); go_simp; first | done | with_reducible rfl)
          try simp only [Act.put, List.getElem_toArray, List.getElem_cons_zero, List.getElem_cons_succ, List.setIfInBounds_toArray, List.set_cons_zero, List.set_cons_succ]
          refine wpAnyH_take (i := 6) (oi := _) (v := ?tv40) rfl (by kernel_rfl) (by kernel_rfl) (by kernel_rfl) (fun _ _ _ h => h) (Or.inl ⟨by rfl, ?ty40⟩) (by assumption) ?tr40
          case ty40 => (intro w hSw; (try dsimp only at hSw); go_simp; first | done | with_reducible rfl)
          try simp only [Act.put, List.getElem_toArray, List.getElem_cons_zero, List.getElem_cons_succ, List.setIfInBounds_toArray, List.set_cons_zero, List.set_cons_succ]
          refine wpAnyH_take (i := 7) (oi := _) (v := ?tv41) rfl (by kernel_rfl) (by kernel_rfl) (by kernel_rfl) (fun _ _ _ h => h) (Or.inl ⟨by rfl, ?ty41⟩) (by assumption) ?tr41
          case ty41 => (intro w hSw; (try dsimp only at hSw); go_simp; first | done | with_reducible rfl)
          try simp only [Act.put, List.getElem_toArray, List.getElem_cons_zero, List.getElem_cons_succ, List.setIfInBounds_toArray, List.set_cons_zero, List.set_cons_succ]
          refine wpAnyH_take (i := 8) (oi := _) (v := ?tv42) rfl (by kernel_rfl) (by kernel_rfl) (by kernel_rfl) (fun _ _ _ h => h) (Or.inl ⟨by rfl, ?ty42⟩) (by assumption) ?tr42
          case ty42 => (intro w hSw; (try dsimp only at hSw); go_simp; first | done | with_reducible rfl)
          try simp only [Act.put, List.getElem_toArray, List.getElem_cons_zero, List.getElem_cons_succ, List.setIfInBounds_toArray, List.set_cons_zero, List.set_cons_succ]
          refine wpAnyH_take (i := 9) (oi := _) (v := ?tv43) rfl (by kernel_rfl) (by kernel_rfl) (by kernel_rfl) (fun _ _ _ h => h) (Or.inl ⟨by rfl, ?ty43⟩) (by assumption) ?tr43
          case ty43 => (intro w hSw; (try dsimp only at hSw); go_simp; first | done | with_reducible rfl)
          try simp only [Act.put, List.getElem_toArray, List.getElem_cons_zero, List.getElem_cons_succ, List.setIfInBounds_toArray, List.set_cons_zero, List.set_cons_succ]
          refine wpAnyH_take (i := 10) (oi := _) (v := ?tv44) rfl (by kernel_rfl) (by kernel_rfl) (by kernel_rfl) (fun _ _ _ h => h) (Or.inl ⟨by rfl, ?ty44⟩) (by assumption) ?tr44
          case ty44 => (intro w hSw; (try dsimp only at hSw); go_simp; first | done | with_reducible rfl)
          try simp only [Act.put, List.getElem_toArray, List.getElem_cons_zero, List.getElem_cons_succ, List.setIfInBounds_toArray, List.set_cons_zero, List.set_cons_succ]
          refine wpAnyH_take (i := 11) (oi := _) (v := ?tv45) rfl (by kernel_rfl) (by kernel_rfl) (by kernel_rfl) (fun _ _ _ h => h) (Or.inl ⟨by rfl, ?ty45⟩) (by assumption) ?tr45
          case ty45 => (intro w hSw; (try dsimp only at hSw); go_simp; first | done | with_reducible rfl)
          try simp only [Act.put, List.getElem_toArray, List.getElem_cons_zero, List.getElem_cons_succ, List.setIfInBounds_toArray, List.set_cons_zero, List.set_cons_succ]
          refine wpAnyH_take (i := 12) (oi := _) (v := ?tv46) rfl (by kernel_rfl) (by kernel_rfl) (by kernel_rfl) (fun _ _ _ h => h) (Or.inl ⟨by rfl, ?ty46⟩) (by assumption) ?tr46
          case ty46 => (intro w hSw; (try dsimp only at hSw); go_simp; first | done | with_reducible rfl)
          try simp only [Act.put, List.getElem_toArray, List.getElem_cons_zero, List.getElem_cons_succ, List.setIfInBounds_toArray, List.set_cons_zero, List.set_cons_succ]
          refine wpAnyH_take (i := 13) (oi := _) (v := ?tv47) rfl (by kernel_rfl) (by kernel_rfl) (by kernel_rfl) (fun _ _ _ h => h) (Or.inl ⟨by rfl, ?ty47⟩) (by assumption) ?tr47
          case ty47 => (intro w hSw; (try dsimp only at hSw); go_simp; first | done | with_reducible rfl)
          try simp only [Act.put, List.getElem_toArray, List.getElem_cons_zero, List.getElem_cons_succ, List.setIfInBounds_toArray, List.set_cons_zero, List.set_cons_succ]
          refine wpAnyH_take (i := 14) (oi := _) (v := ?tv48) rfl (by kernel_rfl) (by kernel_rfl) (by kernel_rfl) (fun _ _ _ h => h) (Or.inl ⟨by rfl, ?ty48⟩) (by assumption) ?tr48
          case ty48 => (intro w hSw; (try dsimp only at hSw); go_simp; first | done | with_reducible rfl)
          try simp only [Act.put, List.getElem_toArray, List.getElem_cons_zero, List.getElem_cons_succ, List.setIfInBounds_toArray, List.set_cons_zero, List.set_cons_succ]
          refine wpAnyH_take (i := 15) (oi := _) (v := ?tv49) rfl (by kernel_rfl) (by kernel_rfl) (by kernel_rfl) (fun _ _ _ h => h) (Or.inl ⟨by rfl, ?ty49⟩) (by assumption) ?tr49
          case ty49 => (intro w hSw; (try dsimp only at hSw); go_simp; first | done | with_reducible rfl)
          try simp only [Act.put, List.getElem_toArray, List.getElem_cons_zero, List.getElem_cons_succ, List.setIfInBounds_toArray, List.set_cons_zero, List.set_cons_succ]
          refine wpAnyH_take (i := 16) (oi := _) (v := ?tv50) rfl (by kernel_rfl) (by kernel_rfl) (by kernel_rfl) (fun _ _ _ h => h) (Or.inl ⟨by rfl, ?ty50⟩) (by assumption) ?tr50
          case ty50 => (intro w hSw; (try dsimp only at hSw); go_simp; first | done | with_reducible rfl)
          try simp only [Act.put, List.getElem_toArray, List.getElem_cons_zero, List.getElem_cons_succ, List.setIfInBounds_toArray, List.set_cons_zero, List.set_cons_succ]
          refine wpAnyH_take (i := 17) (oi := _) (v := ?tv51) rfl (by kernel_rfl) (by kernel_rfl) (by kernel_rfl) (fun _ _ _ h => h) (Or.inl ⟨by rfl, ?ty51⟩) (by assumption) ?tr51
          case ty51 => (intro w hSw; (try dsimp only at hSw); go_simp; first | done | with_reducible rfl)
          try simp only [Act.put, List.getElem_toArray, List.getElem_cons_zero, List.getElem_cons_succ, List.setIfInBounds_toArray, List.set_cons_zero, List.set_cons_succ]
          refine wpAnyH_take (i := 18) (oi := _) (v := ?tv52) rfl (by kernel_rfl) (by kernel_rfl) (by kernel_rfl) (fun _ _ _ h => h) (Or.inl ⟨by rfl, ?ty52⟩) (by assumption) ?tr52
          case ty52 => (intro w hSw; (try dsimp only at hSw); go_simp; first | done | with_reducible rfl)
          try simp only [Act.put, List.getElem_toArray, List.getElem_cons_zero, List.getElem_cons_succ, List.setIfInBounds_toArray, List.set_cons_zero, List.set_cons_succ]
          refine wpAnyH_take (i := 19) (oi := _) (v := ?tv53) rfl (by kernel_rfl) (by kernel_rfl) (by kernel_rfl) (fun _ _ _ h => h) (Or.inl ⟨by rfl, ?ty53⟩) (by assumption) ?tr53
          case ty53 => (intro w hSw; (try dsimp only at hSw); go_simp; first | done | with_reducible rfl)
          try simp only [Act.put, List.getElem_toArray, List.getElem_cons_zero, List.getElem_cons_succ, List.setIfInBounds_toArray, List.set_cons_zero, List.set_cons_succ]
          refine wpAnyH_ready (rs := [4, 20]) (by kernel_rfl) (by simp) ?_
          refine AllReadyH.cons (o := _) rfl (fun K hK => ?_) ?_
          · go_simp
            refine hK.out _ _ ?_ (fun hHeld => ?_)
            · (try dsimp only); (first | go_keep | exact ⟨y0, y1, y2⟩)
            clear hK K
            try simp only [Act.put, List.getElem_toArray, List.getElem_cons_zero, List.getElem_cons_succ, List.setIfInBounds_toArray, List.set_cons_zero, List.set_cons_succ]
            refine wpAnyH_ready (rs := [20]) (by kernel_rfl) (by simp) ?_
            refine AllReadyH.cons (o := _) rfl (fun K hK => ?_) ?_
            · go_simp
              refine hK.out _ _ ?_ (fun hHeld => ?_)
              · (try dsimp only); (first | go_keep | exact ⟨y0, y1, y2⟩)
              clear hK K
              try simp only [Act.put, List.getElem_toArray, List.getElem_cons_zero, List.getElem_cons_succ, List.setIfInBounds_toArray, List.set_cons_zero, List.set_cons_succ]
              refine wpAnyH_ready (rs := [21]) (by kernel_rfl) (by simp) ?_
              refine AllReadyH.cons (o := _) rfl (fun K hK => ?_) ?_
              · (refine step_append_lies _ (by rfl) _ _ _ (by rfl) w.heap.size 69 i0 _ 2 16 Tryd.underlying65 hi0 hz0 hz1 hz2 rfl (by omega) (.slice A el.length cp2) el.length (el.flatMap encE) (by rfl) ((HI.out.owe.alloc _).drew) ⟨W4.heap.size, 0, none⟩ 3 3 [.int .i64 x.1, .int .i64 x.2.1, .int .i64 x.1, .int .i64 x.2.2, .int .i64 x.2.1, .int .i64 x.2.2] (by rfl) (by rfl) (World.news_of_block (cs := #[.int .i64 x.1, .int .i64 x.2.1, .int .i64 x.1, .int .i64 x.2.2, .int .i64 x.2.1, .int .i64 x.2.2]) (t := 69) (fr := (0, 0)) (heap_alloc_new W4 _)) (by simp [Value.oneCell']) (by omega) (by unfold maxLen; omega) (by omega) (by have := HI.out.bel.size; simp; omega) (W4.heap.size + 1) (by simp) ?_; intro gg cap W5 hown1 hgrow hat hlt5; have b5 := blk_grown (blk_drew (blk_alloc HI.out.blk (.cells #[.int .i64 x.1, .int .i64 x.2.1, .int .i64 x.1, .int .i64 x.2.2, .int .i64 x.2.1, .int .i64 x.2.2] 69))) hgrow (fun e => HNE.out e.symm); have t2 := (blk_cell b5 5).trans (show _ = some (Value.slice A el.length cp2) from rfl); have t3 := blk_frozen b5 5; have p5 := blk_grown (blk_drew (blk_alloc PP.out (.cells #[.int .i64 x.1, .int .i64 x.2.1, .int .i64 x.1, .int .i64 x.2.2, .int .i64 x.2.1, .int .i64 x.2.2] 69))) hgrow (fun e => HNP.out e.symm); have y0 := (blk_cell p5 0).trans (show _ = some (Value.int .i64 x.1) from rfl); have y1 := (blk_cell p5 1).trans (show _ = some (Value.int .i64 x.2.1) from rfl); have y2 := (blk_cell p5 2).trans (show _ = some (Value.int .i64 x.2.2) from rfl); have B5 := Aside0.mk b5; have O5 := Aside0.mk hown1; have G5 := Aside0.mk hgrow; clear b5 p5 hown1 hgrow hat)
                refine hK.out _ _ ?_ (fun hHeld => ?_)
                · (try dsimp only); (first | go_keep | exact ⟨y0, y1, y2⟩)
                clear hK K
                try simp only [Act.put, List.getElem_toArray, List.getElem_cons_zero, List.getElem_cons_succ, List.setIfInBounds_toArray, List.set_cons_zero, List.set_cons_succ]
                refine wpAnyH_take (i := 22) (oi := _) (v := ?tv54) rfl (by kernel_rfl) (by kernel_rfl) (by kernel_rfl) (fun _ _ _ h => h) (Or.inl ⟨by rfl, ?ty54⟩) (by assumption) ?tr54
                case ty54 => (intro w hSw; (try dsimp only at hSw); go_simp; first | done | with_reducible rfl)
                try simp only [Act.put, List.getElem_toArray, List.getElem_cons_zero, List.getElem_cons_succ, List.setIfInBounds_toArray, List.set_cons_zero, List.set_cons_succ]
                refine wpAnyH_take (i := 23) (oi := _) (v := ?tv55) rfl (by kernel_rfl) (by kernel_rfl) (by kernel_rfl) (fun _ _ _ h => h) (Or.inl ⟨by rfl, ?ty55⟩) (by assumption) ?tr55
                case ty55 => (intro w hSw; (try dsimp only at hSw); go_simp; first | done | with_reducible rfl)
                try simp only [Act.put, List.getElem_toArray, List.getElem_cons_zero, List.getElem_cons_succ, List.setIfInBounds_toArray, List.set_cons_zero, List.set_cons_succ]
                refine wpAnyH_ready (rs := [24]) (by kernel_rfl) (by simp) ?_
                refine AllReadyH.cons (o := _) rfl (fun K hK => ?_) ?_
                · go_simp
                  refine hK.out _ _ ?_ (fun hHeld => ?_)
                  · (try dsimp only); (first | go_keep | exact ⟨y0, y1, y2⟩)
                  clear hK K
                  try simp only [Act.put, List.getElem_toArray, List.getElem_cons_zero, List.getElem_cons_succ, List.setIfInBounds_toArray, List.set_cons_zero, List.set_cons_succ]
                  refine wpAnyH_done (by kernel_rfl) ?_ _
                  refine NoPanic.normal ?_
                  go_wp2_with fail
                  go_roundw
                  case rel =>
                    refine ⟨k + 1, .slice (some ⟨gg, 0, none⟩) (el.length + 3) cap, by go_num, by omega, ?_⟩
                    rw [HYS.out, edgesOf_snoc, HEL.out]
                    exact BInv.step HI.out B5.out O5.out G5.out
                  case measure => simp [intOf]; omega
                exact AllReadyH.nil
              exact AllReadyH.nil
            exact AllReadyH.nil
          refine AllReadyH.cons (o := _) rfl (fun K hK => ?_) ?_
          · go_simp
            refine hK.out _ _ ?_ (fun hHeld => ?_)
            · (try dsimp only); (first | go_keep | exact ⟨y0, y1, y2⟩)
            clear hK K
            try simp only [Act.put, List.getElem_toArray, List.getElem_cons_zero, List.getElem_cons_succ, List.setIfInBounds_toArray, List.set_cons_zero, List.set_cons_succ]
            refine wpAnyH_ready (rs := [4]) (by kernel_rfl) (by simp) ?_
            refine AllReadyH.cons (o := _) rfl (fun K hK => ?_) ?_
            · go_simp
              refine hK.out _ _ ?_ (fun hHeld => ?_)
              · (try dsimp only); (first | go_keep | exact ⟨y0, y1, y2⟩)
              clear hK K
              try simp only [Act.put, List.getElem_toArray, List.getElem_cons_zero, List.getElem_cons_succ, List.setIfInBounds_toArray, List.set_cons_zero, List.set_cons_succ]
              refine wpAnyH_ready (rs := [21]) (by kernel_rfl) (by simp) ?_
              refine AllReadyH.cons (o := _) rfl (fun K hK => ?_) ?_
              · (refine step_append_lies _ (by rfl) _ _ _ (by rfl) w.heap.size 69 i0 _ 2 16 Tryd.underlying65 hi0 hz0 hz1 hz2 rfl (by omega) (.slice A el.length cp2) el.length (el.flatMap encE) (by rfl) ((HI.out.owe.alloc _).drew) ⟨W4.heap.size, 0, none⟩ 3 3 [.int .i64 x.1, .int .i64 x.2.1, .int .i64 x.1, .int .i64 x.2.2, .int .i64 x.2.1, .int .i64 x.2.2] (by rfl) (by rfl) (World.news_of_block (cs := #[.int .i64 x.1, .int .i64 x.2.1, .int .i64 x.1, .int .i64 x.2.2, .int .i64 x.2.1, .int .i64 x.2.2]) (t := 69) (fr := (0, 0)) (heap_alloc_new W4 _)) (by simp [Value.oneCell']) (by omega) (by unfold maxLen; omega) (by omega) (by have := HI.out.bel.size; simp; omega) (W4.heap.size + 1) (by simp) ?_; intro gg cap W5 hown1 hgrow hat hlt5; have b5 := blk_grown (blk_drew (blk_alloc HI.out.blk (.cells #[.int .i64 x.1, .int .i64 x.2.1, .int .i64 x.1, .int .i64 x.2.2, .int .i64 x.2.1, .int .i64 x.2.2] 69))) hgrow (fun e => HNE.out e.symm); have t2 := (blk_cell b5 5).trans (show _ = some (Value.slice A el.length cp2) from rfl); have t3 := blk_frozen b5 5; have p5 := blk_grown (blk_drew (blk_alloc PP.out (.cells #[.int .i64 x.1, .int .i64 x.2.1, .int .i64 x.1, .int .i64 x.2.2, .int .i64 x.2.1, .int .i64 x.2.2] 69))) hgrow (fun e => HNP.out e.symm); have y0 := (blk_cell p5 0).trans (show _ = some (Value.int .i64 x.1) from rfl); have y1 := (blk_cell p5 1).trans (show _ = some (Value.int .i64 x.2.1) from rfl); have y2 := (blk_cell p5 2).trans (show _ = some (Value.int .i64 x.2.2) from rfl); have B5 := Aside0.mk b5; have O5 := Aside0.mk hown1; have G5 := Aside0.mk hgrow; clear b5 p5 hown1 hgrow hat)
                refine hK.out _ _ ?_ (fun hHeld => ?_)
                · (try dsimp only); (first | go_keep | exact ⟨y0, y1, y2⟩)
                clear hK K
                try simp only [Act.put, List.getElem_toArray, List.getElem_cons_zero, List.getElem_cons_succ, List.setIfInBounds_toArray, List.set_cons_zero, List.set_cons_succ]
                refine wpAnyH_take (i := 22) (oi := _) (v := ?tv56) rfl (by kernel_rfl) (by kernel_rfl) (by kernel_rfl) (fun _ _ _ h => h) (Or.inl ⟨by rfl, ?ty56⟩) (by assumption) ?tr56
                case ty56 => (intro w hSw; (try dsimp only at hSw); go_simp; first | done | with_reducible rfl)
                try simp only [Act.put, List.getElem_toArray, List.getElem_cons_zero, List.getElem_cons_succ, List.setIfInBounds_toArray, List.set_cons_zero, List.set_cons_succ]
                refine wpAnyH_take (i := 23) (oi := _) (v := ?tv57) rfl (by kernel_rfl) (by kernel_rfl) (by kernel_rfl) (fun _ _ _ h => h) (Or.inl ⟨by rfl, ?ty57⟩) (by assumption) ?tr57
                case ty57 => (intro w hSw; (try dsimp only at hSw); go_simp; first | done | with_reducible rfl)
                try simp only [Act.put, List.getElem_toArray, List.getElem_cons_zero, List.getElem_cons_succ, List.setIfInBounds_toArray, List.set_cons_zero, List.set_cons_succ]
                refine wpAnyH_ready (rs := [24]) (by kernel_rfl) (by simp) ?_
                refine AllReadyH.cons (o := _) rfl (fun K hK => ?_) ?_
                · go_simp
                  refine hK.out _ _ ?_ (fun hHeld => ?_)
                  · (try dsimp only); (first | go_keep | exact ⟨y0, y1, y2⟩)
                  clear hK K
                  try simp only [Act.put, List.getElem_toArray, List.getElem_cons_zero, List.getElem_cons_succ, List.setIfInBounds_toArray, List.set_cons_zero, List.set_cons_succ]
                  refine wpAnyH_done (by kernel_rfl) ?_ _
                  refine NoPanic.normal ?_
                  go_wp2_with fail
                  go_roundw
                  case rel =>
                    refine ⟨k + 1, .slice (some ⟨gg, 0, none⟩) (el.length + 3) cap, by go_num, by omega, ?_⟩
                    rw [HYS.out, edgesOf_snoc, HEL.out]
                    exact BInv.step HI.out B5.out O5.out G5.out
                  case measure => simp [intOf]; omega
                exact AllReadyH.nil
              exact AllReadyH.nil
            exact AllReadyH.nil
          exact AllReadyH.nil
        · have k1 : ¬ (k : Int) < (ys.length : Int) := by omega
          have hke : ys.take k = ys := List.take_of_length_le (by omega)
          rw [hke] at I1
          have hene : edgesOf ys ≠ [] := fun e => HS.out.2.2 (List.length_eq_zero_iff.1 (by have := edgesOf_len ys; rw [e] at this; simp at this; omega))
          have hel := edgesOf_len ys
          generalize hes : edgesOf ys = el at *
          have HES := Aside0.mk (And.intro hes (And.intro hene hel))
          clear hes hke hk hlt hene
          obtain ⟨A, cp2, hv⟩ := own_shape I1.owe
          subst hv
          have c5 := (blk_cell I1.blk 5).trans (show _ = some (Value.slice A el.length cp2) from rfl)
          have hsort := Aside0.mk (sort_edges w.heap.size el.length (.slice A el.length cp2) el wo rfl HES.out.2.1 (by omega) I1.owe)
          have B1 := Aside0.mk I1
          clear I1 hel
          go_wp2_with fail
          refine hsort.out.mono ?_
          rintro e w3 ⟨rfl, es, hperm, hsrt, own3, hg3⟩
          have hel2 : es.length = el.length := hperm.length_eq
          have hene2 : es ≠ [] := fun e => HES.out.2.1 (by subst e; exact List.length_eq_zero_iff.1 (by simpa using hel2.symm))
          have J0 : BInv g B n h nv (.slice (some ⟨gc, 0, none⟩) ys.length cpc) (.slice A el.length cp2) ys es w w3 := by
            refine ⟨blk_grown B1.out.blk hg3 (fun e => own_ne_blk B1.out.owe B1.out.blk (by decide) e.symm), B1.out.owc.kept hg3 (own_ne_own B1.out.owc B1.out.owe (by decide)), by rw [hel2]; exact own3, B1.out.bel.grown hg3 B1.out.bel.size (fun k e => (B1.out.owe.lt k e).1), B1.out.hg⟩
          have HP2 := Aside0.mk (And.intro hperm (And.intro hsrt hene2))
          have hl9 : es.length ≤ 9000 := by have := HES.out.2.2; omega
          clear hsort own3 hg3 B1 hperm hsrt c5
          have c5 := (blk_cell J0.blk 5).trans (show _ = some (Value.slice A el.length cp2) from rfl)
          have hcmp := Aside0.mk (compact_edges w.heap.size es.length (.slice A el.length cp2) es w3 rfl hene2 (by omega) J0.owe)
          have HJ := Aside0.mk J0
          clear J0 hene2 hel2
          go_wp2_with fail
          refine hcmp.out.mono ?_
          rintro e w4 ⟨v', rfl, hov, own4, hg4⟩
          have hne4 : Lib.compact es ≠ [] := by
            obtain ⟨x, r, hx⟩ := List.exists_cons_of_ne_nil HP2.out.2.2
            have := ((compact_sorted es HP2.out.2.1).2 x).2 (by rw [hx]; simp)
            intro e
            rw [e] at this
            cases this
          have b4 := blk_grown HJ.out.blk hg4 (fun e => own_ne_blk HJ.out.owe HJ.out.blk (by decide) e.symm)
          have J1 : BInv g B n h nv (.slice (some ⟨gc, 0, none⟩) ys.length cpc) v' ys (Lib.compact es) w (w4.setCell ⟨g, 5, none⟩ v') := by
            have hgb : w4.grownBy (w4.setCell ⟨g, 5, none⟩ v') (some g) := gbS (gbR _ _) (.inr rfl) _
            have oc4 := HJ.out.owc.kept hg4 (own_ne_own HJ.out.owc HJ.out.owe (by decide))
            exact ⟨blk_put b4 5 _ rfl, oc4.kept hgb (.inr (own_ne_blk oc4 b4 (by decide))), own4.kept hgb (.inr (own_ne_blk own4 b4 (by decide))), Below.setCell (HJ.out.bel.grown hg4 HJ.out.bel.size (fun k e => (HJ.out.owe.lt k e).1)) HJ.out.hg _, HJ.out.hg⟩
          have c5 := (blk_cell b4 5).trans (show _ = some (Value.slice A el.length cp2) from rfl)
          have f5 := blk_frozen b4 5
          have HN := Aside0.mk hne4
          have HJ1 := Aside0.mk J1
          obtain ⟨A', cp', hv⟩ := own_shape own4
          subst hv
          obtain ⟨AN, cN, hnv⟩ := own_shape OWN.out
          subst hnv
          have c2 := (blk_cell b4 2).trans (show _ = some (Value.slice AN (nodesTo n h 20 0 0).length cN) from rfl)
          have f6 := blk_frozen b4 6
          have c6 := (blk_cell b4 6).trans (show _ = some (Value.slice none 0 0) from rfl)
          have hgl := blk_lt b4
          clear hcmp HJ own4 hg4 b4 J1 hov hne4
          have hnl : (nodesTo n h 20 0 0).length ≤ 100000 := nodesTo_len n h 20 0 0 hn2 (by omega) (by omega)
          have hmk := run_make_row' 78 38 (.slice none 0 0) 24 Tryd.underlying78 info38 rfl .i64 .i64 (nodesTo n h 20 0 0).length (by omega) (by omega)
          generalize hnn : (nodesTo n h 20 0 0).length = nn at *
          have X0 := Aside0.mk (HJ1.out.next nn)
          clear HP OWN HNH HG
          go_wp2_with fail
          have X1 := X0.out
          have hsz : (w4.setCell ⟨g, 5, none⟩ (Value.slice A' (Lib.compact es).length cp')).heap.size = w4.heap.size := by simp
          rw [hsz] at X1
          generalize ((w4.setCell ⟨g, 5, none⟩ (Value.slice A' (Lib.compact es).length cp')).setCell ⟨g, 6, none⟩ (.slice (some ⟨w4.heap.size, 0, none⟩) nn nn)).alloc (.cells (madeCells #[Value.slice none 0 0] nn) 38) = W2 at *
          clear X0 c5 c2 f6 c6 hmk HJ1 hgl hsz f5
          generalize w4.heap.size = X at *
          generalize hfs : Lib.compact es = fs at *
          obtain ⟨ge, cpe, hv, hge, hgel, hcpe, hcells⟩ := owe_cells X1.owe HN.out
          injection hv with hv1 hv2 hv3
          subst hv1
          subst hv3
          clear hv2 hgel hcells
          have HFB := Aside0.mk (show ∀ e ∈ fs, 0 ≤ e.1 ∧ e.1 < (nn : Int) ∧ 0 ≤ e.2 ∧ e.2 < (nn : Int) from fun e he => by
            rw [← hfs] at he
            have h1 := ((compact_sorted es HP2.out.2.1).2 e).1 he
            have h2 := HP2.out.1.mem_iff.1 h1
            rw [← HES.out.1] at h2
            exact edges_bd (fun x hx => HBD.out x (HS.out.1.mem_iff.1 hx)) e h2)
          have HFS := Aside0.mk (show fs.Pairwise (fun x y => ltE x y = true) ∧ ∀ x, x ∈ fs ↔ x ∈ edgesOf ((cellsTo n h 20 0 0).map toI) by
            have hcs := compact_sorted es HP2.out.2.1
            rw [hfs] at hcs
            refine ⟨hcs.1, fun x => ?_⟩
            rw [hcs.2, HP2.out.1.mem_iff, ← HES.out.1, HCL.out]
            simp only [edgesOf, List.mem_flatMap, HS.out.1.mem_iff])
          have hfl : fs.length ≤ 9000 := by rw [← hfs]; exact Nat.le_trans (compact_len es) hl9
          go_loopw [124] (fun i wr => ∃ (k : Nat) (vs : Nat → Value), i = .int .i64 k ∧ k ≤ fs.length ∧ NxInv g B X nn (2 * k) n h (.slice AN nn cN) (.slice (some ⟨gc, 0, none⟩) ys.length cpc) (.slice (some ⟨ge, 0, none⟩) fs.length cp') fs vs w wr) (fun i _ => fs.length - (intOf i).toNat)
          case atStart => exact ⟨0, _, rfl, Nat.zero_le _, X1⟩
          case round =>
            clear X1
            obtain ⟨k, vs, rfl, hk, I1⟩ := hrel
            obtain ⟨wo, rfl⟩ : ∃ wo : World, wo = wr := ⟨_, rfl⟩
            by_cases hlt : k < fs.length
            ·
              have k1 : (k : Int) < (fs.length : Int) := by omega
              have k0 : (0 : Int) ≤ (k : Int) := by omega
              obtain ⟨q0, q1⟩ := owe_cell I1.owe hlt
              obtain ⟨b0, b1, b2, b3⟩ := HFB.out fs[k] (List.getElem_mem hlt)
              generalize fs[k] = x at *
              obtain ⟨xa, hxa⟩ : ∃ xa : Nat, x.1 = xa := ⟨x.1.toNat, by omega⟩
              obtain ⟨xb, hxb⟩ : ∃ xb : Nat, x.2 = xb := ⟨x.2.toNat, by omega⟩
              rw [hxa] at q0 b0 b1
              rw [hxb] at q1 b2 b3
              clear hxa hxb
              have HI := Aside0.mk (I1.alloc (.cells #[.int .i64 xa, .int .i64 xb] 69))
              have P1 := blk_new wo (.cells #[.int .i64 xa, .int .i64 xb] 69)
              have hrl := I1.row.lt
              have hgl := blk_lt I1.blk
              have HPN := Aside0.mk (show ¬ (wo.heap.size = g) ∧ ¬ (wo.heap.size = X) from ⟨fun e => by omega, fun e => by omega⟩)
              clear I1 hrl hgl
              go_wp2_with fail
              generalize wo.heap.size = P at *
              generalize wo.alloc (.cells #[.int .i64 xa, .int .i64 xb] 69) = W4 at *
              clear q0 q1
              have hxa : xa < nn := by omega
              have hxb : xb < nn := by omega
              obtain ⟨zs, hzl, hzo⟩ := HI.out.rows.own xa hxa
              obtain ⟨Az, cz, hvz⟩ := own_shape hzo
              have p0 := (blk_cell P1 0).trans (show _ = some (Value.int .i64 xa) from rfl)
              have p1 := (blk_cell P1 1).trans (show _ = some (Value.int .i64 xb) from rfl)
              have c6 := (blk_cell HI.out.blk 6).trans (show _ = some (Value.slice (some ⟨X, 0, none⟩) nn nn) from rfl)
              have cx := HI.out.row.cell hxa
              rw [hvz] at cx hzo
              have hPl := blk_lt P1
              have hgl := blk_lt HI.out.blk
              have hXl := HI.out.row.lt
              have m1 := HPN.out.1
              have m2 := HPN.out.2
              have m3 : ¬ (g = P) := fun e => HPN.out.1 e.symm
              have m4 : ¬ (X = P) := fun e => HPN.out.2 e.symm
              have m5 : ¬ (g = X) := fun e => by
                obtain ⟨c, hc⟩ := rowIs_blk HI.out.row
                subst e
                rw [HI.out.blk] at hc
                cases hc
              have m6 : ¬ (X = g) := fun e => m5 e.symm
              have HZO := Aside0.mk hzo
              have HZ := Aside0.mk (And.intro hzl hvz)
              have PP := Aside0.mk P1
              have hzl2 : zs.length ≤ 20000 := by omega
              have a0 : (0 : Int) ≤ (xa : Int) := by omega
              have a2 : (0 : Int) ≤ (xb : Int) := by omega
              obtain ⟨i0, hi0, hz0, hz1, hz2⟩ := info_parts info3
              clear P1 hzo hzl hvz
              refine wp_region_noPanic ?_
              refine wp_region_held_drew (S := (fun w' => w'.cell? ⟨P, 0, none⟩ = some (.int .i64 xa) ∧ w'.cell? ⟨P, 1, none⟩ = some (.int .i64 xb) ∧ w'.cell? ⟨g, 6, none⟩ = some (.slice (some ⟨X, 0, none⟩) nn nn))) (by kernel_rfl) ?_ (fun hHeld => ?_)
              · (try dsimp only); (first | go_keep | exact ⟨y0, y1, y6⟩)
              refine wpAnyH_take (i := 0) (oi := _) (v := ?tv18) rfl (by kernel_rfl) (by kernel_rfl) (by kernel_rfl) (fun _ _ _ h => h) (Or.inl ⟨by rfl, ?ty18⟩) (by assumption) ?tr18
              case ty18 => (intro w hSw; (try dsimp only at hSw); go_simp; first | done | with_reducible rfl)
              try simp only [Act.put, List.getElem_toArray, List.getElem_cons_zero, List.getElem_cons_succ, List.setIfInBounds_toArray, List.set_cons_zero, List.set_cons_succ]
              refine wpAnyH_take (i := 1) (oi := _) (v := ?tv19) rfl (by kernel_rfl) (by kernel_rfl) (by kernel_rfl) (fun _ _ _ h => h) (Or.inl ⟨by rfl, ?ty19⟩) (by assumption) ?tr19
              case ty19 => (intro w hSw; (try dsimp only at hSw); go_simp; first | done | with_reducible rfl)
              try simp only [Act.put, List.getElem_toArray, List.getElem_cons_zero, List.getElem_cons_succ, List.setIfInBounds_toArray, List.set_cons_zero, List.set_cons_succ]
              refine wpAnyH_take (i := 2) (oi := _) (v := ?tv20) rfl (by kernel_rfl) (by kernel_rfl) (by kernel_rfl) (fun _ _ _ h => h) (Or.inl ⟨by rfl, ?ty20⟩) (by assumption) ?tr20
              case ty20 => (intro w hSw; (try dsimp only at hSw); go_simp; first | done | with_reducible rfl)
              try simp only [Act.put, List.getElem_toArray, List.getElem_cons_zero, List.getElem_cons_succ, List.setIfInBounds_toArray, List.set_cons_zero, List.set_cons_succ]
              refine wpAnyH_take (i := 3) (oi := _) (v := ?tv21) rfl (by kernel_rfl) (by kernel_rfl) (by kernel_rfl) (fun _ _ _ h => h) (Or.inl ⟨by rfl, ?ty21⟩) (by assumption) ?tr21
              case ty21 => (intro w hSw; (try dsimp only at hSw); go_simp; first | done | with_reducible rfl)
              try simp only [Act.put, List.getElem_toArray, List.getElem_cons_zero, List.getElem_cons_succ, List.setIfInBounds_toArray, List.set_cons_zero, List.set_cons_succ]
              refine wpAnyH_take (i := 4) (oi := _) (v := ?tv22) rfl (by kernel_rfl) (by kernel_rfl) (by kernel_rfl) (fun _ _ _ h => h) (Or.inl ⟨by rfl, ?ty22⟩) (by assumption) ?tr22
              case ty22 => (intro w hSw; (try dsimp only at hSw); go_simp; first | done | with_reducible rfl)
              try simp only [Act.put, List.getElem_toArray, List.getElem_cons_zero, List.getElem_cons_succ, List.setIfInBounds_toArray, List.set_cons_zero, List.set_cons_succ]
              refine wpAnyH_take (i := 5) (oi := _) (v := ?tv23) rfl (by kernel_rfl) (by kernel_rfl) (by kernel_rfl) (fun _ _ _ h => h) (Or.inl ⟨by rfl, ?ty23⟩) (by assumption) ?tr23
              case ty23 => (intro w hSw; (try dsimp only at hSw); go_simp; first | done | with_reducible rfl)
              try simp only [Act.put, List.getElem_toArray, List.getElem_cons_zero, List.getElem_cons_succ, List.setIfInBounds_toArray, List.set_cons_zero, List.set_cons_succ]
              refine wpAnyH_take (i := 6) (oi := _) (v := ?tv24) rfl (by kernel_rfl) (by kernel_rfl) (by kernel_rfl) (fun _ _ _ h => h) (Or.inl ⟨by rfl, ?ty24⟩) (by assumption) ?tr24
              case ty24 => (intro w hSw; (try dsimp only at hSw); go_simp; first | done | with_reducible rfl)
              try simp only [Act.put, List.getElem_toArray, List.getElem_cons_zero, List.getElem_cons_succ, List.setIfInBounds_toArray, List.set_cons_zero, List.set_cons_succ]
              refine wpAnyH_take (i := 7) (oi := _) (v := ?tv25) rfl (by kernel_rfl) (by kernel_rfl) (by kernel_rfl) (fun _ _ _ h => h) (Or.inl ⟨by rfl, ?ty25⟩) (by assumption) ?tr25
              case ty25 => (intro w hSw; (try dsimp only at hSw); go_simp; first | done | with_reducible rfl)
              try simp only [Act.put, List.getElem_toArray, List.getElem_cons_zero, List.getElem_cons_succ, List.setIfInBounds_toArray, List.set_cons_zero, List.set_cons_succ]
              refine wpAnyH_take (i := 8) (oi := _) (v := ?tv26) rfl (by kernel_rfl) (by kernel_rfl) (by kernel_rfl) (fun _ _ _ h => h) (Or.inl ⟨by rfl, ?ty26⟩) (by assumption) ?tr26
              case ty26 => (intro w hSw; (try dsimp only at hSw); go_simp; first | done | with_reducible rfl)
              try simp only [Act.put, List.getElem_toArray, List.getElem_cons_zero, List.getElem_cons_succ, List.setIfInBounds_toArray, List.set_cons_zero, List.set_cons_succ]
              refine wpAnyH_take (i := 9) (oi := _) (v := ?tv27) rfl (by kernel_rfl) (by kernel_rfl) (by kernel_rfl) (fun _ _ _ h => h) (Or.inl ⟨by rfl, ?ty27⟩) (by assumption) ?tr27
              case ty27 => (intro w hSw; (try dsimp only at hSw); go_simp; first | done | with_reducible rfl)
              try simp only [Act.put, List.getElem_toArray, List.getElem_cons_zero, List.getElem_cons_succ, List.setIfInBounds_toArray, List.set_cons_zero, List.set_cons_succ]
              refine wpAnyH_take (i := 10) (oi := _) (v := ?tv28) rfl (by kernel_rfl) (by kernel_rfl) (by kernel_rfl) (fun _ _ _ h => h) (Or.inl ⟨by rfl, ?ty28⟩) (by assumption) ?tr28
              case ty28 => (intro w hSw; (try dsimp only at hSw); go_simp; first | done | with_reducible rfl)
              try simp only [Act.put, List.getElem_toArray, List.getElem_cons_zero, List.getElem_cons_succ, List.setIfInBounds_toArray, List.set_cons_zero, List.set_cons_succ]
              refine wpAnyH_take (i := 11) (oi := _) (v := ?tv29) rfl (by kernel_rfl) (by kernel_rfl) (by kernel_rfl) (fun _ _ _ h => h) (Or.inl ⟨by rfl, ?ty29⟩) (by assumption) ?tr29
              case ty29 => (intro w hSw; (try dsimp only at hSw); go_simp; first | done | with_reducible rfl)
              try simp only [Act.put, List.getElem_toArray, List.getElem_cons_zero, List.getElem_cons_succ, List.setIfInBounds_toArray, List.set_cons_zero, List.set_cons_succ]
              refine wpAnyH_take (i := 12) (oi := _) (v := ?tv30) rfl (by kernel_rfl) (by kernel_rfl) (by kernel_rfl) (fun _ _ _ h => h) (Or.inl ⟨by rfl, ?ty30⟩) (by assumption) ?tr30
              case ty30 => (intro w hSw; (try dsimp only at hSw); go_simp; first | done | with_reducible rfl)
              try simp only [Act.put, List.getElem_toArray, List.getElem_cons_zero, List.getElem_cons_succ, List.setIfInBounds_toArray, List.set_cons_zero, List.set_cons_succ]
              refine wpAnyH_take (i := 14) (oi := _) (v := ?tv31) rfl (by kernel_rfl) (by kernel_rfl) (by kernel_rfl) (fun _ _ _ h => h) (Or.inl ⟨by rfl, ?ty31⟩) (by assumption) ?tr31
              case ty31 => (intro w hSw; (try dsimp only at hSw); go_simp; first | done | with_reducible rfl)
              try simp only [Act.put, List.getElem_toArray, List.getElem_cons_zero, List.getElem_cons_succ, List.setIfInBounds_toArray, List.set_cons_zero, List.set_cons_succ]
              refine wpAnyH_take (i := 15) (oi := _) (v := ?tv32) rfl (by kernel_rfl) (by kernel_rfl) (by kernel_rfl) (fun _ _ _ h => h) (Or.inl ⟨by rfl, ?ty32⟩) (by assumption) ?tr32
              case ty32 => (intro w hSw; (try dsimp only at hSw); go_simp; first | done | with_reducible rfl)
              try simp only [Act.put, List.getElem_toArray, List.getElem_cons_zero, List.getElem_cons_succ, List.setIfInBounds_toArray, List.set_cons_zero, List.set_cons_succ]
              refine wpAnyH_ready (rs := [13, 16]) (by kernel_rfl) (by simp) ?_
              refine AllReadyH.cons (o := _) rfl (fun K hK => ?_) ?_
              · go_simp
                refine hK.out _ _ ?_ (fun hHeld => ?_)
                · (try dsimp only); (first | go_keep | exact ⟨y0, y1, y6⟩)
                clear hK K
                try simp only [Act.put, List.getElem_toArray, List.getElem_cons_zero, List.getElem_cons_succ, List.setIfInBounds_toArray, List.set_cons_zero, List.set_cons_succ]
                refine wpAnyH_ready (rs := [16]) (by kernel_rfl) (by simp) ?_
                refine AllReadyH.cons (o := _) rfl (fun K hK => ?_) ?_
                · go_simp
                  refine hK.out _ _ ?_ (fun hHeld => ?_)
                  · (try dsimp only); (first | go_keep | exact ⟨y0, y1, y6⟩)
                  clear hK K
                  try simp only [Act.put, List.getElem_toArray, List.getElem_cons_zero, List.getElem_cons_succ, List.setIfInBounds_toArray, List.set_cons_zero, List.set_cons_succ]
                  refine wpAnyH_ready (rs := [17]) (by kernel_rfl) (by simp) ?_
                  refine AllReadyH.cons (o := _) rfl (fun K hK => ?_) ?_
                  · (refine step_append_lies _ (by rfl) _ _ _ (by rfl) w.heap.size 3 i0 _ 1 8 Tryd.underlying38 hi0 hz0 hz1 hz2 rfl (by omega) (.slice Az zs.length cz) zs.length (zs.map (Value.int .i64)) (by rfl) ((HZO.out.alloc _).drew) ⟨W4.heap.size, 0, none⟩ 1 1 [.int .i64 xb] (by rfl) (by rfl) (World.news_of_block (cs := #[.int .i64 xb]) (t := 3) (fr := (0, 0)) (heap_alloc_new W4 _)) (by simp [Value.oneCell']) (by omega) (by unfold maxLen; omega) (by omega) (by have := HI.out.bel.size; simp; omega) (W4.heap.size + 1) (by simp) ?_; intro gg cap W5 hown1 hgrow hat hlt5; have b5 := blk_grown (blk_drew (blk_alloc HI.out.blk (.cells #[.int .i64 xb] 3))) hgrow (fun e => own_ne_blk HZO.out HI.out.blk (by decide) e.symm); have y6 := (blk_cell b5 6).trans (show _ = some (Value.slice (some ⟨X, 0, none⟩) nn nn) from rfl); have p5 := blk_grown (blk_drew (blk_alloc PP.out (.cells #[.int .i64 xb] 3))) hgrow (fun e => own_ne_blk HZO.out PP.out (by decide) e.symm); have y0 := (blk_cell p5 0).trans (show _ = some (Value.int .i64 xa) from rfl); have y1 := (blk_cell p5 1).trans (show _ = some (Value.int .i64 xb) from rfl); have r5 := rowIs_grown ((HI.out.row.alloc (.cells #[.int .i64 xb] 3)).drew) hgrow (fun e => by obtain ⟨c, hc⟩ := rowIs_blk HI.out.row; exact own_ne_blk HZO.out hc (by decide) e.symm); have yx := r5.cell hxa; have yf := r5.frozen xa; rw [HZ.out.2] at yx; have P5 := Aside0.mk p5; have O5 := Aside0.mk hown1; have G5 := Aside0.mk hgrow; have A5 := Aside0.mk hat; clear b5 p5 r5 hown1 hgrow hat)
                    refine hK.out _ _ ?_ (fun hHeld => ?_)
                    · (try dsimp only); (first | go_keep | exact ⟨y0, y1, y6⟩)
                    clear hK K
                    try simp only [Act.put, List.getElem_toArray, List.getElem_cons_zero, List.getElem_cons_succ, List.setIfInBounds_toArray, List.set_cons_zero, List.set_cons_succ]
                    refine wpAnyH_take (i := 18) (oi := _) (v := ?tv33) rfl (by kernel_rfl) (by kernel_rfl) (by kernel_rfl) (fun _ _ _ h => h) (Or.inl ⟨by rfl, ?ty33⟩) (by assumption) ?tr33
                    case ty33 => (intro w hSw; (try dsimp only at hSw); go_simp; first | done | with_reducible rfl)
                    try simp only [Act.put, List.getElem_toArray, List.getElem_cons_zero, List.getElem_cons_succ, List.setIfInBounds_toArray, List.set_cons_zero, List.set_cons_succ]
                    refine wpAnyH_ready (rs := [19]) (by kernel_rfl) (by simp) ?_
                    refine AllReadyH.cons (o := _) rfl (fun K hK => ?_) ?_
                    · go_simp
                      refine hK.out _ _ ?_ (fun hHeld => ?_)
                      · (try dsimp only); (first | go_keep | exact ⟨y0, y1, y6⟩)
                      clear hK K
                      try simp only [Act.put, List.getElem_toArray, List.getElem_cons_zero, List.getElem_cons_succ, List.setIfInBounds_toArray, List.set_cons_zero, List.set_cons_succ]
                      refine wpAnyH_done (by kernel_rfl) ?_ _
                      refine NoPanic.normal ?_
                      go_wp2_with fail
                      have N6 := NxInv.step (zs := zs) (z := (xb : Int)) HI.out hxa HZ.out.1 (by rw [HZ.out.2]; exact HZO.out) O5.out (by rw [HZ.out.2]; exact G5.out) (by rw [HZ.out.2]; exact A5.out)
                      have P6 := blk_grown P5.out (gbS (gbR W5 (some X)) (p := ⟨X, xa, none⟩) (.inr rfl) (.slice (some ⟨gg, 0, none⟩) (zs.length + 1) cap)) (fun e => m4 (Option.some.inj e).symm)
                      clear y0 y1 y6 yx yf p0 p1 c6 cx hPl hgl hXl P5 O5 G5 A5 HZO HZ PP HI
                      generalize (fun j => if j = xa then Value.slice (some ⟨gg, 0, none⟩) (zs.length + 1) cap else vs j) = vs2 at *
                      generalize W5.setCell ⟨X, xa, none⟩ (.slice (some ⟨gg, 0, none⟩) (zs.length + 1) cap) = W6 at *
                      have HI := Aside0.mk N6
                      clear N6 hzl2
                      obtain ⟨xs, hxl, hxo⟩ := HI.out.rows.own xb hxb
                      obtain ⟨Ax, cx2, hvx⟩ := own_shape hxo
                      have p0 := (blk_cell P6 0).trans (show _ = some (Value.int .i64 xa) from rfl)
                      have p1 := (blk_cell P6 1).trans (show _ = some (Value.int .i64 xb) from rfl)
                      have c6 := (blk_cell HI.out.blk 6).trans (show _ = some (Value.slice (some ⟨X, 0, none⟩) nn nn) from rfl)
                      have cx := HI.out.row.cell hxb
                      rw [hvx] at cx hxo
                      have hPl := blk_lt P6
                      have hgl := blk_lt HI.out.blk
                      have hXl := HI.out.row.lt
                      have HZO := Aside0.mk hxo
                      have HZ := Aside0.mk (And.intro hxl hvx)
                      have PP := Aside0.mk P6
                      have hxl2 : xs.length ≤ 20001 := by omega
                      clear P6 hxo hxl hvx
                      refine wp_region_noPanic ?_
                      refine wp_region_held_drew (S := (fun w' => w'.cell? ⟨P, 0, none⟩ = some (.int .i64 xa) ∧ w'.cell? ⟨P, 1, none⟩ = some (.int .i64 xb) ∧ w'.cell? ⟨g, 6, none⟩ = some (.slice (some ⟨X, 0, none⟩) nn nn))) (by kernel_rfl) ?_ (fun hHeld => ?_)
                      · (try dsimp only); (first | go_keep | exact ⟨y0, y1, y6⟩)
                      refine wpAnyH_take (i := 0) (oi := _) (v := ?tv13000) rfl (by kernel_rfl) (by kernel_rfl) (by kernel_rfl) (fun _ _ _ h => h) (Or.inl ⟨by rfl, ?ty13000⟩) (by assumption) ?tr13000
                      case ty13000 => (intro w hSw; (try dsimp only at hSw); go_simp; first | done | with_reducible rfl)
                      try simp only [Act.put, List.getElem_toArray, List.getElem_cons_zero, List.getElem_cons_succ, List.setIfInBounds_toArray, List.set_cons_zero, List.set_cons_succ]
                      refine wpAnyH_take (i := 1) (oi := _) (v := ?tv23000) rfl (by kernel_rfl) (by kernel_rfl) (by kernel_rfl) (fun _ _ _ h => h) (Or.inl ⟨by rfl, ?ty23000⟩) (by assumption) ?tr23000
                      case ty23000 => (intro w hSw; (try dsimp only at hSw); go_simp; first | done | with_reducible rfl)
                      try simp only [Act.put, List.getElem_toArray, List.getElem_cons_zero, List.getElem_cons_succ, List.setIfInBounds_toArray, List.set_cons_zero, List.set_cons_succ]
                      refine wpAnyH_take (i := 2) (oi := _) (v := ?tv33000) rfl (by kernel_rfl) (by kernel_rfl) (by kernel_rfl) (fun _ _ _ h => h) (Or.inl ⟨by rfl, ?ty33000⟩) (by assumption) ?tr33000
                      case ty33000 => (intro w hSw; (try dsimp only at hSw); go_simp; first | done | with_reducible rfl)
                      try simp only [Act.put, List.getElem_toArray, List.getElem_cons_zero, List.getElem_cons_succ, List.setIfInBounds_toArray, List.set_cons_zero, List.set_cons_succ]
                      refine wpAnyH_take (i := 3) (oi := _) (v := ?tv43000) rfl (by kernel_rfl) (by kernel_rfl) (by kernel_rfl) (fun _ _ _ h => h) (Or.inl ⟨by rfl, ?ty43000⟩) (by assumption) ?tr43000
                      case ty43000 => (intro w hSw; (try dsimp only at hSw); go_simp; first | done | with_reducible rfl)
                      try simp only [Act.put, List.getElem_toArray, List.getElem_cons_zero, List.getElem_cons_succ, List.setIfInBounds_toArray, List.set_cons_zero, List.set_cons_succ]
                      refine wpAnyH_take (i := 4) (oi := _) (v := ?tv53000) rfl (by kernel_rfl) (by kernel_rfl) (by kernel_rfl) (fun _ _ _ h => h) (Or.inl ⟨by rfl, ?ty53000⟩) (by assumption) ?tr53000
                      case ty53000 => (intro w hSw; (try dsimp only at hSw); go_simp; first | done | with_reducible rfl)
                      try simp only [Act.put, List.getElem_toArray, List.getElem_cons_zero, List.getElem_cons_succ, List.setIfInBounds_toArray, List.set_cons_zero, List.set_cons_succ]
                      refine wpAnyH_take (i := 5) (oi := _) (v := ?tv63000) rfl (by kernel_rfl) (by kernel_rfl) (by kernel_rfl) (fun _ _ _ h => h) (Or.inl ⟨by rfl, ?ty63000⟩) (by assumption) ?tr63000
                      case ty63000 => (intro w hSw; (try dsimp only at hSw); go_simp; first | done | with_reducible rfl)
                      try simp only [Act.put, List.getElem_toArray, List.getElem_cons_zero, List.getElem_cons_succ, List.setIfInBounds_toArray, List.set_cons_zero, List.set_cons_succ]
                      refine wpAnyH_take (i := 6) (oi := _) (v := ?tv73000) rfl (by kernel_rfl) (by kernel_rfl) (by kernel_rfl) (fun _ _ _ h => h) (Or.inl ⟨by rfl, ?ty73000⟩) (by assumption) ?tr73000
                      case ty73000 => (intro w hSw; (try dsimp only at hSw); go_simp; first | done | with_reducible rfl)
                      try simp only [Act.put, List.getElem_toArray, List.getElem_cons_zero, List.getElem_cons_succ, List.setIfInBounds_toArray, List.set_cons_zero, List.set_cons_succ]
                      refine wpAnyH_take (i := 7) (oi := _) (v := ?tv83000) rfl (by kernel_rfl) (by kernel_rfl) (by kernel_rfl) (fun _ _ _ h => h) (Or.inl ⟨by rfl, ?ty83000⟩) (by assumption) ?tr83000
                      case ty83000 => (intro w hSw; (try dsimp only at hSw); go_simp; first | done | with_reducible rfl)
                      try simp only [Act.put, List.getElem_toArray, List.getElem_cons_zero, List.getElem_cons_succ, List.setIfInBounds_toArray, List.set_cons_zero, List.set_cons_succ]
                      refine wpAnyH_take (i := 8) (oi := _) (v := ?tv93000) rfl (by kernel_rfl) (by kernel_rfl) (by kernel_rfl) (fun _ _ _ h => h) (Or.inl ⟨by rfl, ?ty93000⟩) (by assumption) ?tr93000
                      case ty93000 => (intro w hSw; (try dsimp only at hSw); go_simp; first | done | with_reducible rfl)
                      try simp only [Act.put, List.getElem_toArray, List.getElem_cons_zero, List.getElem_cons_succ, List.setIfInBounds_toArray, List.set_cons_zero, List.set_cons_succ]
                      refine wpAnyH_take (i := 9) (oi := _) (v := ?tv103000) rfl (by kernel_rfl) (by kernel_rfl) (by kernel_rfl) (fun _ _ _ h => h) (Or.inl ⟨by rfl, ?ty103000⟩) (by assumption) ?tr103000
                      case ty103000 => (intro w hSw; (try dsimp only at hSw); go_simp; first | done | with_reducible rfl)
                      try simp only [Act.put, List.getElem_toArray, List.getElem_cons_zero, List.getElem_cons_succ, List.setIfInBounds_toArray, List.set_cons_zero, List.set_cons_succ]
                      refine wpAnyH_take (i := 10) (oi := _) (v := ?tv113000) rfl (by kernel_rfl) (by kernel_rfl) (by kernel_rfl) (fun _ _ _ h => h) (Or.inl ⟨by rfl, ?ty113000⟩) (by assumption) ?tr113000
                      case ty113000 => (intro w hSw; (try dsimp only at hSw); go_simp; first | done | with_reducible rfl)
                      try simp only [Act.put, List.getElem_toArray, List.getElem_cons_zero, List.getElem_cons_succ, List.setIfInBounds_toArray, List.set_cons_zero, List.set_cons_succ]
                      refine wpAnyH_take (i := 11) (oi := _) (v := ?tv123000) rfl (by kernel_rfl) (by kernel_rfl) (by kernel_rfl) (fun _ _ _ h => h) (Or.inl ⟨by rfl, ?ty123000⟩) (by assumption) ?tr123000
                      case ty123000 => (intro w hSw; (try dsimp only at hSw); go_simp; first | done | with_reducible rfl)
                      try simp only [Act.put, List.getElem_toArray, List.getElem_cons_zero, List.getElem_cons_succ, List.setIfInBounds_toArray, List.set_cons_zero, List.set_cons_succ]
                      refine wpAnyH_take (i := 12) (oi := _) (v := ?tv133000) rfl (by kernel_rfl) (by kernel_rfl) (by kernel_rfl) (fun _ _ _ h => h) (Or.inl ⟨by rfl, ?ty133000⟩) (by assumption) ?tr133000
                      case ty133000 => (intro w hSw; (try dsimp only at hSw); go_simp; first | done | with_reducible rfl)
                      try simp only [Act.put, List.getElem_toArray, List.getElem_cons_zero, List.getElem_cons_succ, List.setIfInBounds_toArray, List.set_cons_zero, List.set_cons_succ]
                      refine wpAnyH_take (i := 14) (oi := _) (v := ?tv143000) rfl (by kernel_rfl) (by kernel_rfl) (by kernel_rfl) (fun _ _ _ h => h) (Or.inl ⟨by rfl, ?ty143000⟩) (by assumption) ?tr143000
                      case ty143000 => (intro w hSw; (try dsimp only at hSw); go_simp; first | done | with_reducible rfl)
                      try simp only [Act.put, List.getElem_toArray, List.getElem_cons_zero, List.getElem_cons_succ, List.setIfInBounds_toArray, List.set_cons_zero, List.set_cons_succ]
                      refine wpAnyH_take (i := 15) (oi := _) (v := ?tv153000) rfl (by kernel_rfl) (by kernel_rfl) (by kernel_rfl) (fun _ _ _ h => h) (Or.inl ⟨by rfl, ?ty153000⟩) (by assumption) ?tr153000
                      case ty153000 => (intro w hSw; (try dsimp only at hSw); go_simp; first | done | with_reducible rfl)
                      try simp only [Act.put, List.getElem_toArray, List.getElem_cons_zero, List.getElem_cons_succ, List.setIfInBounds_toArray, List.set_cons_zero, List.set_cons_succ]
                      refine wpAnyH_ready (rs := [13, 16]) (by kernel_rfl) (by simp) ?_
                      refine AllReadyH.cons (o := _) rfl (fun K hK => ?_) ?_
                      · go_simp
                        refine hK.out _ _ ?_ (fun hHeld => ?_)
                        · (try dsimp only); (first | go_keep | exact ⟨y0, y1, y6⟩)
                        clear hK K
                        try simp only [Act.put, List.getElem_toArray, List.getElem_cons_zero, List.getElem_cons_succ, List.setIfInBounds_toArray, List.set_cons_zero, List.set_cons_succ]
                        refine wpAnyH_ready (rs := [16]) (by kernel_rfl) (by simp) ?_
                        refine AllReadyH.cons (o := _) rfl (fun K hK => ?_) ?_
                        · go_simp
                          refine hK.out _ _ ?_ (fun hHeld => ?_)
                          · (try dsimp only); (first | go_keep | exact ⟨y0, y1, y6⟩)
                          clear hK K
                          try simp only [Act.put, List.getElem_toArray, List.getElem_cons_zero, List.getElem_cons_succ, List.setIfInBounds_toArray, List.set_cons_zero, List.set_cons_succ]
                          refine wpAnyH_ready (rs := [17]) (by kernel_rfl) (by simp) ?_
                          refine AllReadyH.cons (o := _) rfl (fun K hK => ?_) ?_
                          · (refine step_append_lies _ (by rfl) _ _ _ (by rfl) w.heap.size 3 i0 _ 1 8 Tryd.underlying38 hi0 hz0 hz1 hz2 rfl (by omega) (.slice Ax xs.length cx2) xs.length (xs.map (Value.int .i64)) (by rfl) ((HZO.out.alloc _).drew) ⟨W6.heap.size, 0, none⟩ 1 1 [.int .i64 xa] (by rfl) (by rfl) (World.news_of_block (cs := #[.int .i64 xa]) (t := 3) (fr := (0, 0)) (heap_alloc_new W6 _)) (by simp [Value.oneCell']) (by omega) (by unfold maxLen; omega) (by omega) (by have := HI.out.bel.size; simp; omega) (W6.heap.size + 1) (by simp) ?_; intro gg2 cap2 W7 hown1 hgrow hat hlt5; have b5 := blk_grown (blk_drew (blk_alloc HI.out.blk (.cells #[.int .i64 xa] 3))) hgrow (fun e => own_ne_blk HZO.out HI.out.blk (by decide) e.symm); have y6 := (blk_cell b5 6).trans (show _ = some (Value.slice (some ⟨X, 0, none⟩) nn nn) from rfl); have p5 := blk_grown (blk_drew (blk_alloc PP.out (.cells #[.int .i64 xa] 3))) hgrow (fun e => own_ne_blk HZO.out PP.out (by decide) e.symm); have y0 := (blk_cell p5 0).trans (show _ = some (Value.int .i64 xa) from rfl); have y1 := (blk_cell p5 1).trans (show _ = some (Value.int .i64 xb) from rfl); have r5 := rowIs_grown ((HI.out.row.alloc (.cells #[.int .i64 xa] 3)).drew) hgrow (fun e => by obtain ⟨c, hc⟩ := rowIs_blk HI.out.row; exact own_ne_blk HZO.out hc (by decide) e.symm); have yx := r5.cell hxb; have yf := r5.frozen xb; rw [HZ.out.2] at yx; have O5 := Aside0.mk hown1; have G5 := Aside0.mk hgrow; have A5 := Aside0.mk hat; clear b5 p5 r5 hown1 hgrow hat)
                            refine hK.out _ _ ?_ (fun hHeld => ?_)
                            · (try dsimp only); (first | go_keep | exact ⟨y0, y1, y6⟩)
                            clear hK K
                            try simp only [Act.put, List.getElem_toArray, List.getElem_cons_zero, List.getElem_cons_succ, List.setIfInBounds_toArray, List.set_cons_zero, List.set_cons_succ]
                            refine wpAnyH_take (i := 18) (oi := _) (v := ?tv163000) rfl (by kernel_rfl) (by kernel_rfl) (by kernel_rfl) (fun _ _ _ h => h) (Or.inl ⟨by rfl, ?ty163000⟩) (by assumption) ?tr163000
                            case ty163000 => (intro w hSw; (try dsimp only at hSw); go_simp; first | done | with_reducible rfl)
                            try simp only [Act.put, List.getElem_toArray, List.getElem_cons_zero, List.getElem_cons_succ, List.setIfInBounds_toArray, List.set_cons_zero, List.set_cons_succ]
                            refine wpAnyH_ready (rs := [19]) (by kernel_rfl) (by simp) ?_
                            refine AllReadyH.cons (o := _) rfl (fun K hK => ?_) ?_
                            · go_simp
                              refine hK.out _ _ ?_ (fun hHeld => ?_)
                              · (try dsimp only); (first | go_keep | exact ⟨y0, y1, y6⟩)
                              clear hK K
                              try simp only [Act.put, List.getElem_toArray, List.getElem_cons_zero, List.getElem_cons_succ, List.setIfInBounds_toArray, List.set_cons_zero, List.set_cons_succ]
                              refine wpAnyH_done (by kernel_rfl) ?_ _
                              refine NoPanic.normal ?_
                              go_wp2_with fail
                              go_roundw
                              case rel => exact ⟨k + 1, _, by go_num, by omega, NxInv.step (zs := xs) (z := (xa : Int)) HI.out hxb HZ.out.1 (by rw [HZ.out.2]; exact HZO.out) O5.out (by rw [HZ.out.2]; exact G5.out) (by rw [HZ.out.2]; exact A5.out)⟩
                              case measure => simp [intOf]; omega
                            exact AllReadyH.nil
                          exact AllReadyH.nil
                        exact AllReadyH.nil
                      refine AllReadyH.cons (o := _) rfl (fun K hK => ?_) ?_
                      · go_simp
                        refine hK.out _ _ ?_ (fun hHeld => ?_)
                        · (try dsimp only); (first | go_keep | exact ⟨y0, y1, y6⟩)
                        clear hK K
                        try simp only [Act.put, List.getElem_toArray, List.getElem_cons_zero, List.getElem_cons_succ, List.setIfInBounds_toArray, List.set_cons_zero, List.set_cons_succ]
                        refine wpAnyH_ready (rs := [13]) (by kernel_rfl) (by simp) ?_
                        refine AllReadyH.cons (o := _) rfl (fun K hK => ?_) ?_
                        · go_simp
                          refine hK.out _ _ ?_ (fun hHeld => ?_)
                          · (try dsimp only); (first | go_keep | exact ⟨y0, y1, y6⟩)
                          clear hK K
                          try simp only [Act.put, List.getElem_toArray, List.getElem_cons_zero, List.getElem_cons_succ, List.setIfInBounds_toArray, List.set_cons_zero, List.set_cons_succ]
                          refine wpAnyH_ready (rs := [17]) (by kernel_rfl) (by simp) ?_
                          refine AllReadyH.cons (o := _) rfl (fun K hK => ?_) ?_
                          · (refine step_append_lies _ (by rfl) _ _ _ (by rfl) w.heap.size 3 i0 _ 1 8 Tryd.underlying38 hi0 hz0 hz1 hz2 rfl (by omega) (.slice Ax xs.length cx2) xs.length (xs.map (Value.int .i64)) (by rfl) ((HZO.out.alloc _).drew) ⟨W6.heap.size, 0, none⟩ 1 1 [.int .i64 xa] (by rfl) (by rfl) (World.news_of_block (cs := #[.int .i64 xa]) (t := 3) (fr := (0, 0)) (heap_alloc_new W6 _)) (by simp [Value.oneCell']) (by omega) (by unfold maxLen; omega) (by omega) (by have := HI.out.bel.size; simp; omega) (W6.heap.size + 1) (by simp) ?_; intro gg2 cap2 W7 hown1 hgrow hat hlt5; have b5 := blk_grown (blk_drew (blk_alloc HI.out.blk (.cells #[.int .i64 xa] 3))) hgrow (fun e => own_ne_blk HZO.out HI.out.blk (by decide) e.symm); have y6 := (blk_cell b5 6).trans (show _ = some (Value.slice (some ⟨X, 0, none⟩) nn nn) from rfl); have p5 := blk_grown (blk_drew (blk_alloc PP.out (.cells #[.int .i64 xa] 3))) hgrow (fun e => own_ne_blk HZO.out PP.out (by decide) e.symm); have y0 := (blk_cell p5 0).trans (show _ = some (Value.int .i64 xa) from rfl); have y1 := (blk_cell p5 1).trans (show _ = some (Value.int .i64 xb) from rfl); have r5 := rowIs_grown ((HI.out.row.alloc (.cells #[.int .i64 xa] 3)).drew) hgrow (fun e => by obtain ⟨c, hc⟩ := rowIs_blk HI.out.row; exact own_ne_blk HZO.out hc (by decide) e.symm); have yx := r5.cell hxb; have yf := r5.frozen xb; rw [HZ.out.2] at yx; have O5 := Aside0.mk hown1; have G5 := Aside0.mk hgrow; have A5 := Aside0.mk hat; clear b5 p5 r5 hown1 hgrow hat)
                            refine hK.out _ _ ?_ (fun hHeld => ?_)
                            · (try dsimp only); (first | go_keep | exact ⟨y0, y1, y6⟩)
                            clear hK K
                            try simp only [Act.put, List.getElem_toArray, List.getElem_cons_zero, List.getElem_cons_succ, List.setIfInBounds_toArray, List.set_cons_zero, List.set_cons_succ]
                            refine wpAnyH_take (i := 18) (oi := _) (v := ?tv173000) rfl (by kernel_rfl) (by kernel_rfl) (by kernel_rfl) (fun _ _ _ h => h) (Or.inl ⟨by rfl, ?ty173000⟩) (by assumption) ?tr173000
                            case ty173000 => (intro w hSw; (try dsimp only at hSw); go_simp; first | done | with_reducible rfl)
                            try simp only [Act.put, List.getElem_toArray, List.getElem_cons_zero, List.getElem_cons_succ, List.setIfInBounds_toArray, List.set_cons_zero, List.set_cons_succ]
                            refine wpAnyH_ready (rs := [19]) (by kernel_rfl) (by simp) ?_
                            refine AllReadyH.cons (o := _) rfl (fun K hK => ?_) ?_
                            · go_simp
                              refine hK.out _ _ ?_ (fun hHeld => ?_)
                              · (try dsimp only); (first | go_keep | exact ⟨y0, y1, y6⟩)
                              clear hK K
                              try simp only [Act.put, List.getElem_toArray, List.getElem_cons_zero, List.getElem_cons_succ, List.setIfInBounds_toArray, List.set_cons_zero, List.set_cons_succ]
                              refine wpAnyH_done (by kernel_rfl) ?_ _
                              refine NoPanic.normal ?_
                              go_wp2_with fail
                              go_roundw
                              case rel => exact ⟨k + 1, _, by go_num, by omega, NxInv.step (zs := xs) (z := (xa : Int)) HI.out hxb HZ.out.1 (by rw [HZ.out.2]; exact HZO.out) O5.out (by rw [HZ.out.2]; exact G5.out) (by rw [HZ.out.2]; exact A5.out)⟩
                              case measure => simp [intOf]; omega
                            exact AllReadyH.nil
                          exact AllReadyH.nil
                        exact AllReadyH.nil
                      exact AllReadyH.nil
                    exact AllReadyH.nil
                  exact AllReadyH.nil
                exact AllReadyH.nil
              refine AllReadyH.cons (o := _) rfl (fun K hK => ?_) ?_
              · go_simp
                refine hK.out _ _ ?_ (fun hHeld => ?_)
                · (try dsimp only); (first | go_keep | exact ⟨y0, y1, y6⟩)
                clear hK K
                try simp only [Act.put, List.getElem_toArray, List.getElem_cons_zero, List.getElem_cons_succ, List.setIfInBounds_toArray, List.set_cons_zero, List.set_cons_succ]
                refine wpAnyH_ready (rs := [13]) (by kernel_rfl) (by simp) ?_
                refine AllReadyH.cons (o := _) rfl (fun K hK => ?_) ?_
                · go_simp
                  refine hK.out _ _ ?_ (fun hHeld => ?_)
                  · (try dsimp only); (first | go_keep | exact ⟨y0, y1, y6⟩)
                  clear hK K
                  try simp only [Act.put, List.getElem_toArray, List.getElem_cons_zero, List.getElem_cons_succ, List.setIfInBounds_toArray, List.set_cons_zero, List.set_cons_succ]
                  refine wpAnyH_ready (rs := [17]) (by kernel_rfl) (by simp) ?_
                  refine AllReadyH.cons (o := _) rfl (fun K hK => ?_) ?_
                  · (refine step_append_lies _ (by rfl) _ _ _ (by rfl) w.heap.size 3 i0 _ 1 8 Tryd.underlying38 hi0 hz0 hz1 hz2 rfl (by omega) (.slice Az zs.length cz) zs.length (zs.map (Value.int .i64)) (by rfl) ((HZO.out.alloc _).drew) ⟨W4.heap.size, 0, none⟩ 1 1 [.int .i64 xb] (by rfl) (by rfl) (World.news_of_block (cs := #[.int .i64 xb]) (t := 3) (fr := (0, 0)) (heap_alloc_new W4 _)) (by simp [Value.oneCell']) (by omega) (by unfold maxLen; omega) (by omega) (by have := HI.out.bel.size; simp; omega) (W4.heap.size + 1) (by simp) ?_; intro gg cap W5 hown1 hgrow hat hlt5; have b5 := blk_grown (blk_drew (blk_alloc HI.out.blk (.cells #[.int .i64 xb] 3))) hgrow (fun e => own_ne_blk HZO.out HI.out.blk (by decide) e.symm); have y6 := (blk_cell b5 6).trans (show _ = some (Value.slice (some ⟨X, 0, none⟩) nn nn) from rfl); have p5 := blk_grown (blk_drew (blk_alloc PP.out (.cells #[.int .i64 xb] 3))) hgrow (fun e => own_ne_blk HZO.out PP.out (by decide) e.symm); have y0 := (blk_cell p5 0).trans (show _ = some (Value.int .i64 xa) from rfl); have y1 := (blk_cell p5 1).trans (show _ = some (Value.int .i64 xb) from rfl); have r5 := rowIs_grown ((HI.out.row.alloc (.cells #[.int .i64 xb] 3)).drew) hgrow (fun e => by obtain ⟨c, hc⟩ := rowIs_blk HI.out.row; exact own_ne_blk HZO.out hc (by decide) e.symm); have yx := r5.cell hxa; have yf := r5.frozen xa; rw [HZ.out.2] at yx; have P5 := Aside0.mk p5; have O5 := Aside0.mk hown1; have G5 := Aside0.mk hgrow; have A5 := Aside0.mk hat; clear b5 p5 r5 hown1 hgrow hat)
                    refine hK.out _ _ ?_ (fun hHeld => ?_)
                    · (try dsimp only); (first | go_keep | exact ⟨y0, y1, y6⟩)
                    clear hK K
                    try simp only [Act.put, List.getElem_toArray, List.getElem_cons_zero, List.getElem_cons_succ, List.setIfInBounds_toArray, List.set_cons_zero, List.set_cons_succ]
                    refine wpAnyH_take (i := 18) (oi := _) (v := ?tv34) rfl (by kernel_rfl) (by kernel_rfl) (by kernel_rfl) (fun _ _ _ h => h) (Or.inl ⟨by rfl, ?ty34⟩) (by assumption) ?tr34
                    case ty34 => (intro w hSw; (try dsimp only at hSw); go_simp; first | done | with_reducible rfl)
                    try simp only [Act.put, List.getElem_toArray, List.getElem_cons_zero, List.getElem_cons_succ, List.setIfInBounds_toArray, List.set_cons_zero, List.set_cons_succ]
                    refine wpAnyH_ready (rs := [19]) (by kernel_rfl) (by simp) ?_
                    refine AllReadyH.cons (o := _) rfl (fun K hK => ?_) ?_
                    · go_simp
                      refine hK.out _ _ ?_ (fun hHeld => ?_)
                      · (try dsimp only); (first | go_keep | exact ⟨y0, y1, y6⟩)
                      clear hK K
                      try simp only [Act.put, List.getElem_toArray, List.getElem_cons_zero, List.getElem_cons_succ, List.setIfInBounds_toArray, List.set_cons_zero, List.set_cons_succ]
                      refine wpAnyH_done (by kernel_rfl) ?_ _
                      refine NoPanic.normal ?_
                      go_wp2_with fail
                      have N6 := NxInv.step (zs := zs) (z := (xb : Int)) HI.out hxa HZ.out.1 (by rw [HZ.out.2]; exact HZO.out) O5.out (by rw [HZ.out.2]; exact G5.out) (by rw [HZ.out.2]; exact A5.out)
                      have P6 := blk_grown P5.out (gbS (gbR W5 (some X)) (p := ⟨X, xa, none⟩) (.inr rfl) (.slice (some ⟨gg, 0, none⟩) (zs.length + 1) cap)) (fun e => m4 (Option.some.inj e).symm)
                      clear y0 y1 y6 yx yf p0 p1 c6 cx hPl hgl hXl P5 O5 G5 A5 HZO HZ PP HI
                      generalize (fun j => if j = xa then Value.slice (some ⟨gg, 0, none⟩) (zs.length + 1) cap else vs j) = vs2 at *
                      generalize W5.setCell ⟨X, xa, none⟩ (.slice (some ⟨gg, 0, none⟩) (zs.length + 1) cap) = W6 at *
                      have HI := Aside0.mk N6
                      clear N6 hzl2
                      obtain ⟨xs, hxl, hxo⟩ := HI.out.rows.own xb hxb
                      obtain ⟨Ax, cx2, hvx⟩ := own_shape hxo
                      have p0 := (blk_cell P6 0).trans (show _ = some (Value.int .i64 xa) from rfl)
                      have p1 := (blk_cell P6 1).trans (show _ = some (Value.int .i64 xb) from rfl)
                      have c6 := (blk_cell HI.out.blk 6).trans (show _ = some (Value.slice (some ⟨X, 0, none⟩) nn nn) from rfl)
                      have cx := HI.out.row.cell hxb
                      rw [hvx] at cx hxo
                      have hPl := blk_lt P6
                      have hgl := blk_lt HI.out.blk
                      have hXl := HI.out.row.lt
                      have HZO := Aside0.mk hxo
                      have HZ := Aside0.mk (And.intro hxl hvx)
                      have PP := Aside0.mk P6
                      have hxl2 : xs.length ≤ 20001 := by omega
                      clear P6 hxo hxl hvx
                      refine wp_region_noPanic ?_
                      refine wp_region_held_drew (S := (fun w' => w'.cell? ⟨P, 0, none⟩ = some (.int .i64 xa) ∧ w'.cell? ⟨P, 1, none⟩ = some (.int .i64 xb) ∧ w'.cell? ⟨g, 6, none⟩ = some (.slice (some ⟨X, 0, none⟩) nn nn))) (by kernel_rfl) ?_ (fun hHeld => ?_)
                      · (try dsimp only); (first | go_keep | exact ⟨y0, y1, y6⟩)
                      refine wpAnyH_take (i := 0) (oi := _) (v := ?tv14000) rfl (by kernel_rfl) (by kernel_rfl) (by kernel_rfl) (fun _ _ _ h => h) (Or.inl ⟨by rfl, ?ty14000⟩) (by assumption) ?tr14000
                      case ty14000 => (intro w hSw; (try dsimp only at hSw); go_simp; first | done | with_reducible rfl)
                      try simp only [Act.put, List.getElem_toArray, List.getElem_cons_zero, List.getElem_cons_succ, List.setIfInBounds_toArray, List.set_cons_zero, List.set_cons_succ]
                      refine wpAnyH_take (i := 1) (oi := _) (v := ?tv24000) rfl (by kernel_rfl) (by kernel_rfl) (by kernel_rfl) (fun _ _ _ h => h) (Or.inl ⟨by rfl, ?ty24000⟩) (by assumption) ?tr24000
                      case ty24000 => (intro w hSw; (try dsimp only at hSw); go_simp; first | done | with_reducible rfl)
                      try simp only [Act.put, List.getElem_toArray, List.getElem_cons_zero, List.getElem_cons_succ, List.setIfInBounds_toArray, List.set_cons_zero, List.set_cons_succ]
                      refine wpAnyH_take (i := 2) (oi := _) (v := ?tv34000) rfl (by kernel_rfl) (by kernel_rfl) (by kernel_rfl) (fun _ _ _ h => h) (Or.inl ⟨by rfl, ?ty34000⟩) (by assumption) ?tr34000
                      case ty34000 => (intro w hSw; (try dsimp only at hSw); go_simp; first | done | with_reducible rfl)
                      try simp only [Act.put, List.getElem_toArray, List.getElem_cons_zero, List.getElem_cons_succ, List.setIfInBounds_toArray, List.set_cons_zero, List.set_cons_succ]
                      refine wpAnyH_take (i := 3) (oi := _) (v := ?tv44000) rfl (by kernel_rfl) (by kernel_rfl) (by kernel_rfl) (fun _ _ _ h => h) (Or.inl ⟨by rfl, ?ty44000⟩) (by assumption) ?tr44000
                      case ty44000 => (intro w hSw; (try dsimp only at hSw); go_simp; first | done | with_reducible rfl)
                      try simp only [Act.put, List.getElem_toArray, List.getElem_cons_zero, List.getElem_cons_succ, List.setIfInBounds_toArray, List.set_cons_zero, List.set_cons_succ]
                      refine wpAnyH_take (i := 4) (oi := _) (v := ?tv54000) rfl (by kernel_rfl) (by kernel_rfl) (by kernel_rfl) (fun _ _ _ h => h) (Or.inl ⟨by rfl, ?ty54000⟩) (by assumption) ?tr54000
                      case ty54000 => (intro w hSw; (try dsimp only at hSw); go_simp; first | done | with_reducible rfl)
                      try simp only [Act.put, List.getElem_toArray, List.getElem_cons_zero, List.getElem_cons_succ, List.setIfInBounds_toArray, List.set_cons_zero, List.set_cons_succ]
                      refine wpAnyH_take (i := 5) (oi := _) (v := ?tv64000) rfl (by kernel_rfl) (by kernel_rfl) (by kernel_rfl) (fun _ _ _ h => h) (Or.inl ⟨by rfl, ?ty64000⟩) (by assumption) ?tr64000
                      case ty64000 => (intro w hSw; (try dsimp only at hSw); go_simp; first | done | with_reducible rfl)
                      try simp only [Act.put, List.getElem_toArray, List.getElem_cons_zero, List.getElem_cons_succ, List.setIfInBounds_toArray, List.set_cons_zero, List.set_cons_succ]
                      refine wpAnyH_take (i := 6) (oi := _) (v := ?tv74000) rfl (by kernel_rfl) (by kernel_rfl) (by kernel_rfl) (fun _ _ _ h => h) (Or.inl ⟨by rfl, ?ty74000⟩) (by assumption) ?tr74000
                      case ty74000 => (intro w hSw; (try dsimp only at hSw); go_simp; first | done | with_reducible rfl)
                      try simp only [Act.put, List.getElem_toArray, List.getElem_cons_zero, List.getElem_cons_succ, List.setIfInBounds_toArray, List.set_cons_zero, List.set_cons_succ]
                      refine wpAnyH_take (i := 7) (oi := _) (v := ?tv84000) rfl (by kernel_rfl) (by kernel_rfl) (by kernel_rfl) (fun _ _ _ h => h) (Or.inl ⟨by rfl, ?ty84000⟩) (by assumption) ?tr84000
                      case ty84000 => (intro w hSw; (try dsimp only at hSw); go_simp; first | done | with_reducible rfl)
                      try simp only [Act.put, List.getElem_toArray, List.getElem_cons_zero, List.getElem_cons_succ, List.setIfInBounds_toArray, List.set_cons_zero, List.set_cons_succ]
                      refine wpAnyH_take (i := 8) (oi := _) (v := ?tv94000) rfl (by kernel_rfl) (by kernel_rfl) (by kernel_rfl) (fun _ _ _ h => h) (Or.inl ⟨by rfl, ?ty94000⟩) (by assumption) ?tr94000
                      case ty94000 => (intro w hSw; (try dsimp only at hSw); go_simp; first | done | with_reducible rfl)
                      try simp only [Act.put, List.getElem_toArray, List.getElem_cons_zero, List.getElem_cons_succ, List.setIfInBounds_toArray, List.set_cons_zero, List.set_cons_succ]
                      refine wpAnyH_take (i := 9) (oi := _) (v := ?tv104000) rfl (by kernel_rfl) (by kernel_rfl) (by kernel_rfl) (fun _ _ _ h => h) (Or.inl ⟨by rfl, ?ty104000⟩) (by assumption) ?tr104000
                      case ty104000 => (intro w hSw; (try dsimp only at hSw); go_simp; first | done | with_reducible rfl)
                      try simp only [Act.put, List.getElem_toArray, List.getElem_cons_zero, List.getElem_cons_succ, List.setIfInBounds_toArray, List.set_cons_zero, List.set_cons_succ]
                      refine wpAnyH_take (i := 10) (oi := _) (v := ?tv114000) rfl (by kernel_rfl) (by kernel_rfl) (by kernel_rfl) (fun _ _ _ h => h) (Or.inl ⟨by rfl, ?ty114000⟩) (by assumption) ?tr114000
                      case ty114000 => (intro w hSw; (try dsimp only at hSw); go_simp; first | done | with_reducible rfl)
                      try simp only [Act.put, List.getElem_toArray, List.getElem_cons_zero, List.getElem_cons_succ, List.setIfInBounds_toArray, List.set_cons_zero, List.set_cons_succ]
                      refine wpAnyH_take (i := 11) (oi := _) (v := ?tv124000) rfl (by kernel_rfl) (by kernel_rfl) (by kernel_rfl) (fun _ _ _ h => h) (Or.inl ⟨by rfl, ?ty124000⟩) (by assumption) ?tr124000
                      case ty124000 => (intro w hSw; (try dsimp only at hSw); go_simp; first | done | with_reducible rfl)
                      try simp only [Act.put, List.getElem_toArray, List.getElem_cons_zero, List.getElem_cons_succ, List.setIfInBounds_toArray, List.set_cons_zero, List.set_cons_succ]
                      refine wpAnyH_take (i := 12) (oi := _) (v := ?tv134000) rfl (by kernel_rfl) (by kernel_rfl) (by kernel_rfl) (fun _ _ _ h => h) (Or.inl ⟨by rfl, ?ty134000⟩) (by assumption) ?tr134000
                      case ty134000 => (intro w hSw; (try dsimp only at hSw); go_simp; first | done | with_reducible rfl)
                      try simp only [Act.put, List.getElem_toArray, List.getElem_cons_zero, List.getElem_cons_succ, List.setIfInBounds_toArray, List.set_cons_zero, List.set_cons_succ]
                      refine wpAnyH_take (i := 14) (oi := _) (v := ?tv144000) rfl (by kernel_rfl) (by kernel_rfl) (by kernel_rfl) (fun _ _ _ h => h) (Or.inl ⟨by rfl, ?ty144000⟩) (by assumption) ?tr144000
                      case ty144000 => (intro w hSw; (try dsimp only at hSw); go_simp; first | done | with_reducible rfl)
                      try simp only [Act.put, List.getElem_toArray, List.getElem_cons_zero, List.getElem_cons_succ, List.setIfInBounds_toArray, List.set_cons_zero, List.set_cons_succ]
                      refine wpAnyH_take (i := 15) (oi := _) (v := ?tv154000) rfl (by kernel_rfl) (by kernel_rfl) (by kernel_rfl) (fun _ _ _ h => h) (Or.inl ⟨by rfl, ?ty154000⟩) (by assumption) ?tr154000
                      case ty154000 => (intro w hSw; (try dsimp only at hSw); go_simp; first | done | with_reducible rfl)
                      try simp only [Act.put, List.getElem_toArray, List.getElem_cons_zero, List.getElem_cons_succ, List.setIfInBounds_toArray, List.set_cons_zero, List.set_cons_succ]
                      refine wpAnyH_ready (rs := [13, 16]) (by kernel_rfl) (by simp) ?_
                      refine AllReadyH.cons (o := _) rfl (fun K hK => ?_) ?_
                      · go_simp
                        refine hK.out _ _ ?_ (fun hHeld => ?_)
                        · (try dsimp only); (first | go_keep | exact ⟨y0, y1, y6⟩)
                        clear hK K
                        try simp only [Act.put, List.getElem_toArray, List.getElem_cons_zero, List.getElem_cons_succ, List.setIfInBounds_toArray, List.set_cons_zero, List.set_cons_succ]
                        refine wpAnyH_ready (rs := [16]) (by kernel_rfl) (by simp) ?_
                        refine AllReadyH.cons (o := _) rfl (fun K hK => ?_) ?_
                        · go_simp
                          refine hK.out _ _ ?_ (fun hHeld => ?_)
                          · (try dsimp only); (first | go_keep | exact ⟨y0, y1, y6⟩)
                          clear hK K
                          try simp only [Act.put, List.getElem_toArray, List.getElem_cons_zero, List.getElem_cons_succ, List.setIfInBounds_toArray, List.set_cons_zero, List.set_cons_succ]
                          refine wpAnyH_ready (rs := [17]) (by kernel_rfl) (by simp) ?_
                          refine AllReadyH.cons (o := _) rfl (fun K hK => ?_) ?_
                          · (refine step_append_lies _ (by rfl) _ _ _ (by rfl) w.heap.size 3 i0 _ 1 8 Tryd.underlying38 hi0 hz0 hz1 hz2 rfl (by omega) (.slice Ax xs.length cx2) xs.length (xs.map (Value.int .i64)) (by rfl) ((HZO.out.alloc _).drew) ⟨W6.heap.size, 0, none⟩ 1 1 [.int .i64 xa] (by rfl) (by rfl) (World.news_of_block (cs := #[.int .i64 xa]) (t := 3) (fr := (0, 0)) (heap_alloc_new W6 _)) (by simp [Value.oneCell']) (by omega) (by unfold maxLen; omega) (by omega) (by have := HI.out.bel.size; simp; omega) (W6.heap.size + 1) (by simp) ?_; intro gg2 cap2 W7 hown1 hgrow hat hlt5; have b5 := blk_grown (blk_drew (blk_alloc HI.out.blk (.cells #[.int .i64 xa] 3))) hgrow (fun e => own_ne_blk HZO.out HI.out.blk (by decide) e.symm); have y6 := (blk_cell b5 6).trans (show _ = some (Value.slice (some ⟨X, 0, none⟩) nn nn) from rfl); have p5 := blk_grown (blk_drew (blk_alloc PP.out (.cells #[.int .i64 xa] 3))) hgrow (fun e => own_ne_blk HZO.out PP.out (by decide) e.symm); have y0 := (blk_cell p5 0).trans (show _ = some (Value.int .i64 xa) from rfl); have y1 := (blk_cell p5 1).trans (show _ = some (Value.int .i64 xb) from rfl); have r5 := rowIs_grown ((HI.out.row.alloc (.cells #[.int .i64 xa] 3)).drew) hgrow (fun e => by obtain ⟨c, hc⟩ := rowIs_blk HI.out.row; exact own_ne_blk HZO.out hc (by decide) e.symm); have yx := r5.cell hxb; have yf := r5.frozen xb; rw [HZ.out.2] at yx; have O5 := Aside0.mk hown1; have G5 := Aside0.mk hgrow; have A5 := Aside0.mk hat; clear b5 p5 r5 hown1 hgrow hat)
                            refine hK.out _ _ ?_ (fun hHeld => ?_)
                            · (try dsimp only); (first | go_keep | exact ⟨y0, y1, y6⟩)
                            clear hK K
                            try simp only [Act.put, List.getElem_toArray, List.getElem_cons_zero, List.getElem_cons_succ, List.setIfInBounds_toArray, List.set_cons_zero, List.set_cons_succ]
                            refine wpAnyH_take (i := 18) (oi := _) (v := ?tv164000) rfl (by kernel_rfl) (by kernel_rfl) (by kernel_rfl) (fun _ _ _ h => h) (Or.inl ⟨by rfl, ?ty164000⟩) (by assumption) ?tr164000
                            case ty164000 => (intro w hSw; (try dsimp only at hSw); go_simp; first | done | with_reducible rfl)
                            try simp only [Act.put, List.getElem_toArray, List.getElem_cons_zero, List.getElem_cons_succ, List.setIfInBounds_toArray, List.set_cons_zero, List.set_cons_succ]
                            refine wpAnyH_ready (rs := [19]) (by kernel_rfl) (by simp) ?_
                            refine AllReadyH.cons (o := _) rfl (fun K hK => ?_) ?_
                            · go_simp
                              refine hK.out _ _ ?_ (fun hHeld => ?_)
                              · (try dsimp only); (first | go_keep | exact ⟨y0, y1, y6⟩)
                              clear hK K
                              try simp only [Act.put, List.getElem_toArray, List.getElem_cons_zero, List.getElem_cons_succ, List.setIfInBounds_toArray, List.set_cons_zero, List.set_cons_succ]
                              refine wpAnyH_done (by kernel_rfl) ?_ _
                              refine NoPanic.normal ?_
                              go_wp2_with fail
                              go_roundw
                              case rel => exact ⟨k + 1, _, by go_num, by omega, NxInv.step (zs := xs) (z := (xa : Int)) HI.out hxb HZ.out.1 (by rw [HZ.out.2]; exact HZO.out) O5.out (by rw [HZ.out.2]; exact G5.out) (by rw [HZ.out.2]; exact A5.out)⟩
                              case measure => simp [intOf]; omega
                            exact AllReadyH.nil
                          exact AllReadyH.nil
                        exact AllReadyH.nil
                      refine AllReadyH.cons (o := _) rfl (fun K hK => ?_) ?_
                      · go_simp
                        refine hK.out _ _ ?_ (fun hHeld => ?_)
                        · (try dsimp only); (first | go_keep | exact ⟨y0, y1, y6⟩)
                        clear hK K
                        try simp only [Act.put, List.getElem_toArray, List.getElem_cons_zero, List.getElem_cons_succ, List.setIfInBounds_toArray, List.set_cons_zero, List.set_cons_succ]
                        refine wpAnyH_ready (rs := [13]) (by kernel_rfl) (by simp) ?_
                        refine AllReadyH.cons (o := _) rfl (fun K hK => ?_) ?_
                        · go_simp
                          refine hK.out _ _ ?_ (fun hHeld => ?_)
                          · (try dsimp only); (first | go_keep | exact ⟨y0, y1, y6⟩)
                          clear hK K
                          try simp only [Act.put, List.getElem_toArray, List.getElem_cons_zero, List.getElem_cons_succ, List.setIfInBounds_toArray, List.set_cons_zero, List.set_cons_succ]
                          refine wpAnyH_ready (rs := [17]) (by kernel_rfl) (by simp) ?_
                          refine AllReadyH.cons (o := _) rfl (fun K hK => ?_) ?_
                          · (refine step_append_lies _ (by rfl) _ _ _ (by rfl) w.heap.size 3 i0 _ 1 8 Tryd.underlying38 hi0 hz0 hz1 hz2 rfl (by omega) (.slice Ax xs.length cx2) xs.length (xs.map (Value.int .i64)) (by rfl) ((HZO.out.alloc _).drew) ⟨W6.heap.size, 0, none⟩ 1 1 [.int .i64 xa] (by rfl) (by rfl) (World.news_of_block (cs := #[.int .i64 xa]) (t := 3) (fr := (0, 0)) (heap_alloc_new W6 _)) (by simp [Value.oneCell']) (by omega) (by unfold maxLen; omega) (by omega) (by have := HI.out.bel.size; simp; omega) (W6.heap.size + 1) (by simp) ?_; intro gg2 cap2 W7 hown1 hgrow hat hlt5; have b5 := blk_grown (blk_drew (blk_alloc HI.out.blk (.cells #[.int .i64 xa] 3))) hgrow (fun e => own_ne_blk HZO.out HI.out.blk (by decide) e.symm); have y6 := (blk_cell b5 6).trans (show _ = some (Value.slice (some ⟨X, 0, none⟩) nn nn) from rfl); have p5 := blk_grown (blk_drew (blk_alloc PP.out (.cells #[.int .i64 xa] 3))) hgrow (fun e => own_ne_blk HZO.out PP.out (by decide) e.symm); have y0 := (blk_cell p5 0).trans (show _ = some (Value.int .i64 xa) from rfl); have y1 := (blk_cell p5 1).trans (show _ = some (Value.int .i64 xb) from rfl); have r5 := rowIs_grown ((HI.out.row.alloc (.cells #[.int .i64 xa] 3)).drew) hgrow (fun e => by obtain ⟨c, hc⟩ := rowIs_blk HI.out.row; exact own_ne_blk HZO.out hc (by decide) e.symm); have yx := r5.cell hxb; have yf := r5.frozen xb; rw [HZ.out.2] at yx; have O5 := Aside0.mk hown1; have G5 := Aside0.mk hgrow; have A5 := Aside0.mk hat; clear b5 p5 r5 hown1 hgrow hat)
                            refine hK.out _ _ ?_ (fun hHeld => ?_)
                            · (try dsimp only); (first | go_keep | exact ⟨y0, y1, y6⟩)
                            clear hK K
                            try simp only [Act.put, List.getElem_toArray, List.getElem_cons_zero, List.getElem_cons_succ, List.setIfInBounds_toArray, List.set_cons_zero, List.set_cons_succ]
                            refine wpAnyH_take (i := 18) (oi := _) (v := ?tv174000) rfl (by kernel_rfl) (by kernel_rfl) (by kernel_rfl) (fun _ _ _ h => h) (Or.inl ⟨by rfl, ?ty174000⟩) (by assumption) ?tr174000
                            case ty174000 => (intro w hSw; (try dsimp only at hSw); go_simp; first | done | with_reducible rfl)
                            try simp only [Act.put, List.getElem_toArray, List.getElem_cons_zero, List.getElem_cons_succ, List.setIfInBounds_toArray, List.set_cons_zero, List.set_cons_succ]
                            refine wpAnyH_ready (rs := [19]) (by kernel_rfl) (by simp) ?_
                            refine AllReadyH.cons (o := _) rfl (fun K hK => ?_) ?_
                            · go_simp
                              refine hK.out _ _ ?_ (fun hHeld => ?_)
                              · (try dsimp only); (first | go_keep | exact ⟨y0, y1, y6⟩)
                              clear hK K
                              try simp only [Act.put, List.getElem_toArray, List.getElem_cons_zero, List.getElem_cons_succ, List.setIfInBounds_toArray, List.set_cons_zero, List.set_cons_succ]
                              refine wpAnyH_done (by kernel_rfl) ?_ _
                              refine NoPanic.normal ?_
                              go_wp2_with fail
                              go_roundw
                              case rel => exact ⟨k + 1, _, by go_num, by omega, NxInv.step (zs := xs) (z := (xa : Int)) HI.out hxb HZ.out.1 (by rw [HZ.out.2]; exact HZO.out) O5.out (by rw [HZ.out.2]; exact G5.out) (by rw [HZ.out.2]; exact A5.out)⟩
                              case measure => simp [intOf]; omega
                            exact AllReadyH.nil
                          exact AllReadyH.nil
                        exact AllReadyH.nil
                      exact AllReadyH.nil
                    exact AllReadyH.nil
                  exact AllReadyH.nil
                exact AllReadyH.nil
              exact AllReadyH.nil
            · have k1 : ¬ (k : Int) < (fs.length : Int) := by omega
              have c6 := (blk_cell I1.blk 6).trans (show _ = some (Value.slice (some ⟨X, 0, none⟩) nn nn) from rfl)
              have HI := Aside0.mk I1
              clear I1
              go_wp2_with fail
              have c6' := Aside0.mk c6
              clear c6 k1 hlt HFB HBD HS HES HP2 HN
              go_loopw [172] (fun i wr => ∃ (j : Nat), i = .int .i64 j ∧ j ≤ nn ∧ NxInv g B X nn (2 * k) n h (.slice AN nn cN) (.slice (some ⟨gc, 0, none⟩) ys.length cpc) (.slice (some ⟨ge, 0, none⟩) fs.length cp') fs vs w wr) (fun i _ => nn - (intOf i).toNat)
              case atStart => exact ⟨0, rfl, Nat.zero_le _, HI.out⟩
              case round =>
                clear HI c6'
                obtain ⟨j, rfl, hj, I2⟩ := hrel
                obtain ⟨wq, rfl⟩ : ∃ wo : World, wo = wr := ⟨_, rfl⟩
                by_cases hlt : j < nn
                · have J := Aside0.mk (show j + 1 ≤ nn from hlt)
                  have j1 : (j : Int) < (nn : Int) := by omega
                  have j0 : (0 : Int) ≤ (j : Int) := by omega
                  obtain ⟨zs, hzl, hzo⟩ := I2.rows.own j hlt
                  have cx := I2.row.cell hlt
                  have hs := Aside0.mk (sort_row w.heap.size (vs j) zs wq (by omega) hzo)
                  obtain ⟨Az, cz, hvz⟩ := own_shape hzo
                  rw [hvz] at cx hs
                  have HZ := Aside0.mk (And.intro hzl (And.intro hzo hvz))
                  have HI := Aside0.mk I2
                  clear I2 hzl hzo hvz
                  go_wp2_with fail
                  refine hs.out.mono ?_
                  rintro e w7 ⟨rfl, xs, hxl, hxo, hg7⟩
                  rw [← HZ.out.2.2] at hxo hg7
                  have N7 := NxInv.sorted HI.out hlt hxl HZ.out.1 HZ.out.2.1 hxo hg7
                  clear hxo hg7 HI hs
                  go_wp2_with fail
                  go_roundw
                  case rel => exact ⟨j + 1, by go_num, J.out, N7⟩
                  case measure => have := J.out; simp [intOf]; omega
                · have j1 : ¬ (j : Int) < (nn : Int) := by omega
                  have HI := Aside0.mk I2
                  clear I2
                  go_wp2_with fail
                  go_ret
                  exact ⟨g, B, X, nn, _, _, fs, _, rfl, HI.out.blk, HI.out.owe, HI.out.bel, HI.out.hg, HFS.out.1, HFS.out.2⟩
end Go.Proofs.YtdagdoiedibpgaaDoor.Prt
namespace Go.Proofs.YtdagdoiedibpgaaDoor.Prt
set_option linter.unusedVariables false
set_option linter.unusedSimpArgs false
open Go.RowKit Go.Maps Go.Proofs.YtdagdoiedibpgaaDoorW.PrintWords Go.Proofs.YtdagdoiedibpgaaDoorW.PrintLast Go.Proofs.YtdagdoiedibpgaaDoorW.PrintMore
/-- The edges of the grid of a frequency: the pairs in the cells, sorted, each once. -/
def edgesI (n : Nat) : List (Int × Int) := Lib.compact ((edgesOf ((cellsTo n (840 / n) 20 0 0).map toI)).mergeSort (fun x y => !ltE y x))
def edgesS (n : Nat) : List S69 := (edgesI n).map fun x => ⟨x.1, x.2⟩
theorem ltE_iff (x y : Int × Int) : ltE x y = true ↔ x.1 < y.1 ∨ (x.1 = y.1 ∧ x.2 < y.2) := by simp [ltE]
theorem edgesI_spec (n : Nat) : (edgesI n).Pairwise (fun x y => ltE x y = true) ∧ ∀ x, x ∈ edgesI n ↔ x ∈ edgesOf ((cellsTo n (840 / n) 20 0 0).map toI) := by
  have hs := List.pairwise_mergeSort (le := fun x y : Int × Int => !ltE y x) (fun x y z h1 h2 => by simp [ltE] at *; omega) (fun x y => by simp [ltE]; omega) (edgesOf ((cellsTo n (840 / n) 20 0 0).map toI))
  have hc := compact_sorted _ (hs.imp (fun h => by simpa using h))
  exact ⟨hc.1, fun x => by rw [show edgesI n = Lib.compact _ from rfl, hc.2, List.mem_mergeSort]⟩
theorem ltE_irrefl (x : Int × Int) : ltE x x = false := by simp [ltE]
theorem sorted_unique {l m : List (Int × Int)} (hl : l.Pairwise (fun x y => ltE x y = true)) (hm : m.Pairwise (fun x y => ltE x y = true)) (h : ∀ x, x ∈ l ↔ x ∈ m) : l = m := by
  have nl : l.Nodup := hl.imp (fun h e => by subst e; rw [ltE_irrefl] at h; cases h)
  have nm : m.Nodup := hm.imp (fun h e => by subst e; rw [ltE_irrefl] at h; cases h)
  refine List.Perm.eq_of_pairwise (le := fun x y => ltE x y = true) (fun x y _ _ h1 h2 => ?_) hl hm ((List.perm_ext_iff_of_nodup nl nm).2 h)
  rw [ltE_iff] at h1 h2
  omega
theorem reps_E : ∀ (l : List (Int × Int)) (w : World) (base : Nat) (ok : Nat → Prop), Reps (k69.M w base ok) 2 (l.map fun x => (⟨x.1, x.2⟩ : S69)) (l.flatMap encE) := by
  intro l w base ok
  have hlen : ∀ l : List (Int × Int), (l.flatMap encE).length = l.length * 2 := fun l => by
    induction l with
    | nil => rfl
    | cons x r ih => rw [List.flatMap_cons, List.length_append, ih, List.length_cons]; simp [encE]; omega
  refine ⟨by rw [hlen, List.length_map], ?_⟩
  intro j p hj
  rw [List.getElem?_map] at hj
  obtain ⟨x, hx, rfl⟩ := Option.map_eq_some_iff.1 hj
  have e : ((l.flatMap encE).drop (j * 2)).take 2 = encE x := by
    clear hj
    induction l generalizing j with
    | nil => simp at hx
    | cons y r ih =>
      cases j with
      | zero =>
        simp only [List.getElem?_cons_zero, Option.some.injEq] at hx
        subst hx
        rfl
      | succ j =>
        rw [List.getElem?_cons_succ] at hx
        rw [List.flatMap_cons, show (j + 1) * 2 = (encE y).length + j * 2 by simp [encE]; omega, List.drop_append, List.drop_eq_nil_of_le (by omega), List.nil_append, Nat.add_sub_cancel_left]
        exact ih j hx
  rw [e]
  exact k69_mkM w base ok ⟨x.1, x.2⟩

set_option maxHeartbeats 8000000 in
set_option maxRecDepth 100000 in
theorem freq_walk (n : Int) (w : World) : Calls Tryd.prog 50 #[.int .i64 n] w fun e w' => e = .returned (.bool (decide (1 ≤ n ∧ n ≤ 8))) ∧ w' = w := by
  by_cases h1 : n ≥ 1
  · go_enter Tryd.func50, Tryd.ntmps50
    go_wp2_with fail
    go_ret
    exact ⟨by simp [h1], rfl⟩
  · go_enter Tryd.func50, Tryd.ntmps50
    go_wp2_with fail
    go_ret
    exact ⟨by simp; omega, rfl⟩
set_option maxHeartbeats 8000000 in
set_option maxRecDepth 100000 in
theorem edges_walk (n : Int) (r1 : List S69) (r2 : Int) (w : World) (hG : CornersAt w) (h : (if 1 ≤ n ∧ n ≤ 8 then some (edgesS n.toNat, (0 : Int)) else some (([] : List S69), (1 : Int))) = some (r1, r2)) :
    Calls Tryd.prog 40 #[.int .i64 n] w fun e w' => ∃ v0_ : Value, e = .returned (.tuple #[v0_, .int .i64 r2]) ∧ Kd.R k69 69 w' w.heap.size (fun _ => True) v0_ r1 ∧ Below w.heap.size w w' := by
  have hu80 := Tryd.underlying80
  by_cases hn : 1 ≤ n ∧ n ≤ 8
  · rw [if_pos hn] at h
    injection h with h
    injection h with h1 h2
    subst h1
    subst h2
    obtain ⟨m, rfl⟩ : ∃ m : Nat, n = m := ⟨n.toNat, by omega⟩
    have hm : 1 ≤ m ∧ m ≤ 8 := by omega
    have hmh : m * (840 / m) = 840 := by
      have : m = 1 ∨ m = 2 ∨ m = 3 ∨ m = 4 ∨ m = 5 ∨ m = 6 ∨ m = 7 ∨ m = 8 := by omega
      rcases this with rfl | rfl | rfl | rfl | rfl | rfl | rfl | rfl <;> rfl
    have hf := freq_walk m w
    rw [decide_eq_true hn] at hf
    have hb := build_walk m (840 / m) w hG hm.1 hm.2 hmh
    clear hn
    rw [Int.toNat_natCast]
    go_enter Tryd.func40, Tryd.ntmps40
    go_wp2_with (go_at_call 50; refine hf.mono ?_; rintro e w' ⟨rfl, hw⟩; rw [hw]; clear hw)
    refine hb.mono ?_
    rintro e w1 ⟨g, B, X, nn, nv, cv, fs, ev, rfl, hblk, hown, hbel, hg, hsrt, hmem⟩
    have hfs : fs = edgesI m := sorted_unique hsrt (edgesI_spec m).1 (fun x => (hmem x).trans ((edgesI_spec m).2 x).symm)
    subst hfs
    have hR : Kd.R k69 69 w1 w.heap.size (fun _ => True) ev (edgesS m) := ⟨fun _ _ => trivial, (edgesI m).flatMap encE, by rw [edgesS, List.length_map]; exact hown, reps_E _ _ _ _⟩
    obtain ⟨A, c, hv⟩ := own_shape hown
    subst hv
    have c5 := (blk_cell hblk 5).trans (show _ = some (Value.slice A _ c) from rfl)
    have HH := Aside0.mk (And.intro hR hbel)
    clear hR hbel hown hblk hmem hsrt hb hf
    go_wp2_with fail
    refine bodyPost_ret (v := .tuple #[.slice A (edgesI m).length c, .int .i64 0]) (by simp [results, Tryd.results40, go_sem]) rfl ?_
    exact ⟨_, rfl, HH.out.1, HH.out.2⟩
  · rw [if_neg hn] at h
    injection h with h
    injection h with h1 h2
    subst h1
    subst h2
    have hf := freq_walk n w
    rw [decide_eq_false hn] at hf
    clear hn
    go_enter Tryd.func40, Tryd.ntmps40
    go_wp2_with (go_at_call 50; refine hf.mono ?_; rintro e w' ⟨rfl, hw⟩; rw [hw]; clear hw)
    refine bodyPost_ret (v := .tuple #[.slice none 0 0, .int .i64 1]) (by simp [results, Tryd.results40, go_sem]) rfl ?_
    exact ⟨_, rfl, Kd.R_nil _ _ _ _ _, Below.refl _ _⟩
end Go.Proofs.YtdagdoiedibpgaaDoor.Prt
