import Derived.Test.YtdagdoiedibpgaaDoorTry6
import Derived.Test.YtdagdoiedibpgaaDoorShelf
import Derived.Lib.SlicesCompact
import Derived.Shelf.SlicesQ.Load
import Derived.Shelf.GgSortFunc.RowK
import Derived.Deep.OwnRows
namespace Go.Proofs.YtdagdoiedibpgaaDoor.Prt
set_option linter.unusedVariables false
set_option linter.unusedSimpArgs false
open Go.RowKit Go.Maps Go.Proofs.YtdagdoiedibpgaaDoorW.PrintWords Go.Proofs.YtdagdoiedibpgaaDoorW.PrintLast Go.Proofs.YtdagdoiedibpgaaDoorW.PrintMore

/-- A row put into a block of known cells: what the block holds, and that nothing else turned. -/
theorem put_blk {α : Type} [Inhabited α] (enc : α → Value) {w : World} {blk : Nat} {cells : Array Value} {ty : TypeId} {tg : Nat × Nat} (hb : w.heap[blk]? = some (.cells cells ty tg)) (n : Nat) (d : Array α) (os : Array Obj) (hd : d.size ≤ cells.size) :
    (Sort.grow (Sort.putRow enc (Sort.ahead w n) blk 0 d) os).heap[blk]? = some (.cells ((d.toList.map enc) ++ cells.toList.drop d.size).toArray ty tg) ∧ w.grownBy (Sort.grow (Sort.putRow enc (Sort.ahead w n) blk 0 d) os) (some blk) := by
  have hlt : blk < w.heap.size := blk_lt hb
  have hp : ∀ k, (Sort.putRow enc (Sort.ahead w n) blk 0 d).heap[k]? = if blk = k then (w.heap[k]?).map (Sort.onCells (Sort.putCells enc 0 d)) else w.heap[k]? := fun k => by simp [Sort.putRow, Sort.mapBlock, Sort.ahead, Array.getElem?_modify]
  refine ⟨?_, ⟨rfl, rfl, rfl, by simp, fun k hk hr => ?_⟩⟩
  · rw [Sort.heap_grow_old _ _ (by simpa using hlt), hp, if_pos rfl, hb]
    simp only [Option.map_some, Sort.onCells, Option.some.injEq, Obj.cells.injEq, and_true]
    apply Array.ext_getElem?
    intro k
    simp only [Sort.putCells, Array.getElem?_mapIdx, List.getElem?_toArray, List.getElem?_append, List.length_map, Array.length_toList, List.getElem?_map, List.getElem?_drop, Array.getElem?_toList]
    by_cases hk : k < d.size
    · rw [if_pos hk, Array.getElem?_eq_getElem (show k < cells.size by omega), Option.map_some, if_pos ⟨by omega, by omega⟩, Array.getElem?_eq_getElem hk, Option.map_some, Nat.sub_zero, getElem!_pos d k hk]
    · rw [if_neg hk, show d.size + (k - d.size) = k by omega]
      cases cells[k]? with
      | none => rfl
      | some y => rw [Option.map_some, if_neg (by omega)]
  · rw [Sort.heap_grow_old _ _ (by simpa using hk), hp, if_neg (fun e => hr (by rw [e]))]

theorem holds_blk {α : Type} [Inhabited α] (enc : α → Value) {w : World} {blk : Nat} {cells : Array Value} {ty : TypeId} (hb : w.heap[blk]? = some (.cells cells ty (0, 0))) (d : Array α) (hc : cells.toList.take d.size = d.toList.map enc) : Sort.Holds enc w blk 0 d := by
  intro j hj
  have e1 : (cells.toList.take d.size)[j]? = (d.toList.map enc)[j]? := by rw [hc]
  rw [List.getElem?_take, if_pos hj, Array.getElem?_toList, List.getElem?_map, Array.getElem?_toList, Array.getElem?_eq_getElem hj, Option.map_some] at e1
  refine ⟨?_, by rw [Nat.zero_add, blk_frozen hb]⟩
  rw [Nat.zero_add, getElem!_pos d j hj]
  exact (blk_cell hb j).trans e1

/-- slices.Sort of ints in a block of the call's own. -/
theorem sort_ints (blk cap : Nat) (ty : TypeId) (zs : List Int) (cells : Array Value) (w : World) (hb : w.heap[blk]? = some (.cells cells ty (0, 0))) (hc : cells.toList.take zs.length = zs.map (Value.int .i64)) (hl : zs.length ≤ 1000000) :
    Calls Tryd.prog 60 #[.slice (some ⟨blk, 0, none⟩) zs.length cap] w fun e w' => e = .returned (.tuple #[]) ∧ w'.heap[blk]? = some (.cells (((zs.mergeSort (fun x y => decide (x ≤ y))).map (Value.int .i64)) ++ cells.toList.drop zs.length).toArray ty (0, 0)) ∧ w.grownBy w' (some blk) := by
  have hH := holds_blk (Value.int .i64) hb zs.toArray (by simpa using hc)
  have hcon := AnyM.slices_Sort_int Tryd.sortInts blk 0 cap zs w hH (blk_lt hb) (by omega)
  change Calls Tryd.prog 60 _ _ _ at hcon
  refine hcon.mono ?_
  rintro e w' ⟨rfl, n, os, rfl⟩
  have hle : zs.length ≤ cells.size := by
    have := congrArg List.length hc
    simp only [List.length_take, Array.length_toList, List.length_map] at this
    omega
  have hp := put_blk (Value.int .i64) hb n (zs.mergeSort fun x y => decide (x ≤ y)).toArray os (by simpa using hle)
  refine ⟨rfl, ?_, hp.2⟩
  have := hp.1
  simpa using this

/-- The cells of a flat row are the elements' cells, one after another. -/
theorem flatK_toList {α : Type} [Inhabited α] (enc : α → List Value) (k : Nat) (hk : ∀ x, (enc x).length = k) (hk0 : 0 < k) (d : Array α) : (Sort.flatK enc k d).toList = d.toList.flatMap enc := by
  have key : ∀ (l : List α) (t : Nat), (l.flatMap enc).length = l.length * k ∧ ((l.flatMap enc)[t]? = if t < l.length * k then (enc (l[t / k]!))[t % k]? else none) := by
    intro l
    induction l with
    | nil => intro t; simp
    | cons x r ih =>
      intro t
      have hlen : ((x :: r).flatMap enc).length = (x :: r).length * k := by rw [List.flatMap_cons, List.length_append, hk, (ih 0).1, List.length_cons, Nat.add_mul, Nat.one_mul, Nat.add_comm]
      refine ⟨hlen, ?_⟩
      rw [List.flatMap_cons, List.getElem?_append, hk, List.length_cons, Nat.add_mul, Nat.one_mul]
      by_cases ht : t < k
      · rw [if_pos ht, if_pos (by omega), Nat.div_eq_of_lt ht, Nat.mod_eq_of_lt ht]; rfl
      · rw [if_neg ht, (ih (t - k)).2]
        by_cases h2 : t < r.length * k + k
        · rw [if_pos (by omega), if_pos h2]
          have e1 : t / k = (t - k) / k + 1 := by
            rw [Nat.div_eq_sub_div hk0 (by omega)]
          have e2 : t % k = (t - k) % k := by rw [Nat.mod_eq_sub_mod (by omega)]
          rw [e1, e2]
          rfl
        · rw [if_neg (by omega), if_neg h2]
  apply List.ext_getElem?
  intro t
  rw [(key d.toList t).2, Array.getElem?_toList]
  by_cases ht : t < d.size * k
  · have h1 : t / k < d.size := (Nat.div_lt_iff_lt_mul hk0).2 ht
    have h2 : t % k < k := Nat.mod_lt _ hk0
    rw [if_pos (by simpa using ht), Array.getElem?_eq_getElem (by rw [Sort.size_flatK]; exact ht), ← getElem!_pos, Sort.get_flatK _ _ _ _ ht]
    have e : d.toList[t / k]! = d[t / k]! := by
      rw [getElem!_pos d _ h1, getElem!_pos d.toList _ (by simpa using h1)]; simp
    rw [e, List.getElem?_eq_getElem (by rw [hk]; exact h2), getElem!_pos _ _ (by rw [hk]; exact h2)]
  · rw [if_neg (by simpa using ht), Array.getElem?_eq_none (by rw [Sort.size_flatK]; omega)]
end Go.Proofs.YtdagdoiedibpgaaDoor.Prt
namespace Go.Proofs.YtdagdoiedibpgaaDoor.Prt
set_option linter.unusedVariables false
set_option linter.unusedSimpArgs false
open Go.RowKit Go.Maps Go.Proofs.YtdagdoiedibpgaaDoorW.PrintWords Go.Proofs.YtdagdoiedibpgaaDoorW.PrintLast Go.Proofs.YtdagdoiedibpgaaDoorW.PrintMore
open Go.Shelf Go.Sort

def encE (x : Int × Int) : List Value := [.int .i64 x.1, .int .i64 x.2]
def encC (x : Int × Int × Int) : List Value := [.int .i64 x.1, .int .i64 x.2.1, .int .i64 x.2.2]
/-- The first that is not 0. -/
def orI (a b : Int) : Int := if a = 0 then b else a
/-- The world after draws. -/
def DrawnQ (w w' : World) : Prop := ∃ q, w' = w.drewN q

set_option maxHeartbeats 4000000 in
set_option maxRecDepth 100000 in
theorem or2_walk (a b : Int) (p : Nat) (w : World) (c0 : w.cell? ⟨p, 0, none⟩ = some (.int .i64 a)) (c1 : w.cell? ⟨p, 1, none⟩ = some (.int .i64 b)) :
    Calls Tryd.prog 34 #[.slice (some ⟨p, 0, none⟩) 2 2] w fun e w' => e = .returned (.int .i64 (orI a b)) ∧ DrawnQ w w' := by
  go_enter Tryd.func34, Tryd.ntmps34
  go_wp2_with fail
  refine wp_loop_rounds 3 ?_
  rw [rounds_succ]
  by_cases ha : a = 0
  · subst ha
    go_wp2_with fail
    rw [rounds_succ]
    by_cases hb : b = 0
    · subst hb
      go_wp2_with fail
      rw [rounds_succ]
      go_wp2_with fail
      go_ret
      exact ⟨rfl, 0, rfl⟩
    · go_wp2_with fail
      go_ret
      exact ⟨rfl, 0, rfl⟩
  · go_wp2_with fail
    go_ret
    exact ⟨by simp [orI, ha], 0, rfl⟩
set_option maxHeartbeats 4000000 in
set_option maxRecDepth 100000 in
theorem or3_walk (a b c : Int) (p : Nat) (w : World) (c0 : w.cell? ⟨p, 0, none⟩ = some (.int .i64 a)) (c1 : w.cell? ⟨p, 1, none⟩ = some (.int .i64 b)) (c2 : w.cell? ⟨p, 2, none⟩ = some (.int .i64 c)) :
    Calls Tryd.prog 34 #[.slice (some ⟨p, 0, none⟩) 3 3] w fun e w' => e = .returned (.int .i64 (orI a (orI b c))) ∧ DrawnQ w w' := by
  go_enter Tryd.func34, Tryd.ntmps34
  go_wp2_with fail
  refine wp_loop_rounds 4 ?_
  rw [rounds_succ]
  by_cases ha : a = 0
  · subst ha
    go_wp2_with fail
    rw [rounds_succ]
    by_cases hb : b = 0
    · subst hb
      go_wp2_with fail
      rw [rounds_succ]
      by_cases hc : c = 0
      · subst hc
        go_wp2_with fail
        rw [rounds_succ]
        go_wp2_with fail
        go_ret
        exact ⟨rfl, 0, rfl⟩
      · go_wp2_with fail
        go_ret
        exact ⟨rfl, 0, rfl⟩
    · go_wp2_with fail
      go_ret
      exact ⟨by simp [orI, hb], 0, rfl⟩
  · go_wp2_with fail
    go_ret
    exact ⟨by simp [orI, ha], 0, rfl⟩

theorem less_end {V W : World} (hW : ∃ q os', V = grow (W.drewN q) os') (o : Obj) (q4 : Nat) : ∃ q os', (V.alloc o).drewN q4 = grow (W.drewN q) os' := by
  obtain ⟨q, os', rfl⟩ := hW
  exact ⟨q + q4, os' ++ #[o], by rw [alloc_eq_grow, grow_grow]; simp [World.drew, World.drewN, grow, Nat.add_assoc]⟩

set_option maxHeartbeats 4000000 in
set_option maxRecDepth 100000 in
theorem less_edge (x y : Int × Int) (W : World) : Calls Tryd.prog 58 #[.agg #[.int .i64 x.1, .int .i64 x.2], .agg #[.int .i64 y.1, .int .i64 y.2]] W fun e w' => e = .returned (.int .i64 (orI (Lib.compareInt x.1 y.1) (Lib.compareInt x.2 y.2))) ∧ ∃ q os', w' = grow (W.drewN q) os' := by
  have hu69 := Tryd.underlying69
  have hcon := fun a b W' => AnyG.cmp_Compare_int Tryd.cmpInt a b W'
  change ∀ a b W', Calls Tryd.prog 35 _ _ _ at hcon
  have hcon1 := hcon x.1 y.1
  have hcon2 := hcon x.2 y.2
  clear hcon
  generalize hr1 : Lib.compareInt x.1 y.1 = r1 at *
  generalize hr2 : Lib.compareInt x.2 y.2 = r2 at *
  go_enter Tryd.func58, Tryd.ntmps58
  go_wp2_with fail
  have k1 := blk_alloc (blk_new W (.cells #[.int .i64 x.1, .int .i64 x.2] 69)) (.cells #[.int .i64 y.1, .int .i64 y.2] 69)
  have k2 := blk_new (W.alloc (.cells #[.int .i64 x.1, .int .i64 x.2] 69)) (.cells #[.int .i64 y.1, .int .i64 y.2] 69)
  have hW : ∃ q os', (W.alloc (.cells #[.int .i64 x.1, .int .i64 x.2] 69)).alloc (.cells #[.int .i64 y.1, .int .i64 y.2] 69) = grow (W.drewN q) os' := ⟨0, _, by rw [alloc_eq_grow, alloc_eq_grow, grow_grow]; rfl⟩
  simp only [World.size_alloc] at k2
  generalize (W.alloc (.cells #[.int .i64 x.1, .int .i64 x.2] 69)).alloc (.cells #[.int .i64 y.1, .int .i64 y.2] 69) = V at *
  have x0 := (blk_cell k1 0).trans (show _ = some (Value.int .i64 x.1) from rfl)
  have x1 := (blk_cell k1 1).trans (show _ = some (Value.int .i64 x.2) from rfl)
  have y0 := (blk_cell k2 0).trans (show _ = some (Value.int .i64 y.1) from rfl)
  have y1 := (blk_cell k2 1).trans (show _ = some (Value.int .i64 y.2) from rfl)
  generalize W.heap.size = P at *
  have K1 := Aside0.mk k1
  have K2 := Aside0.mk k2
  clear k1 k2
  go_region_held3 (fun w' => w'.cell? ⟨P, 0, none⟩ = some (.int .i64 x.1) ∧ w'.cell? ⟨P, 1, none⟩ = some (.int .i64 x.2) ∧ w'.cell? ⟨P + 1, 0, none⟩ = some (.int .i64 y.1) ∧ w'.cell? ⟨P + 1, 1, none⟩ = some (.int .i64 y.2))
    (first | go_keep | exact ⟨(blk_cell (blk_drewN (blk_drew (blk_alloc K1.out _)) _) 0).trans rfl, (blk_cell (blk_drewN (blk_drew (blk_alloc K1.out _)) _) 1).trans rfl, (blk_cell (blk_drewN (blk_drew (blk_alloc K2.out _)) _) 0).trans rfl, (blk_cell (blk_drewN (blk_drew (blk_alloc K2.out _)) _) 1).trans rfl⟩)
    (first
      | (go_at_call 35; (first | (with_reducible refine (hcon1 _).mono ?_) | (with_reducible refine (hcon2 _).mono ?_)); rintro e w3 ⟨rfl, rfl⟩)
      | (go_at_call 34; (with_reducible refine (or2_walk r1 r2 _ _ ((blk_cell (blk_drew (blk_new V (.cells #[.int .i64 r1, .int .i64 r2] 3))) 0).trans rfl) ((blk_cell (blk_drew (blk_new V (.cells #[.int .i64 r1, .int .i64 r2] 3))) 1).trans rfl)).mono ?_); rintro e w4 ⟨rfl, q4, rfl⟩))
  all_goals
    go_wp2_with fail
    go_ret
    exact ⟨rfl, less_end hW _ _⟩

set_option maxHeartbeats 4000000 in
set_option maxRecDepth 100000 in
theorem less_cell (x y : Int × Int × Int) (W : World) : Calls Tryd.prog 56 #[.agg #[.int .i64 x.1, .int .i64 x.2.1, .int .i64 x.2.2], .agg #[.int .i64 y.1, .int .i64 y.2.1, .int .i64 y.2.2]] W fun e w' => e = .returned (.int .i64 (orI (Lib.compareInt x.1 y.1) (orI (Lib.compareInt x.2.1 y.2.1) (Lib.compareInt x.2.2 y.2.2)))) ∧ ∃ q os', w' = grow (W.drewN q) os' := by
  have hu88 := Tryd.underlying88
  have hcon := fun a b W' => AnyG.cmp_Compare_int Tryd.cmpInt a b W'
  change ∀ a b W', Calls Tryd.prog 35 _ _ _ at hcon
  have hcon1 := hcon x.1 y.1
  have hcon2 := hcon x.2.1 y.2.1
  have hcon3 := hcon x.2.2 y.2.2
  clear hcon
  generalize hr1 : Lib.compareInt x.1 y.1 = r1 at *
  generalize hr2 : Lib.compareInt x.2.1 y.2.1 = r2 at *
  generalize hr3 : Lib.compareInt x.2.2 y.2.2 = r3 at *
  go_enter Tryd.func56, Tryd.ntmps56
  go_wp2_with fail
  have k1 := blk_alloc (blk_new W (.cells #[.int .i64 x.1, .int .i64 x.2.1, .int .i64 x.2.2] 88)) (.cells #[.int .i64 y.1, .int .i64 y.2.1, .int .i64 y.2.2] 88)
  have k2 := blk_new (W.alloc (.cells #[.int .i64 x.1, .int .i64 x.2.1, .int .i64 x.2.2] 88)) (.cells #[.int .i64 y.1, .int .i64 y.2.1, .int .i64 y.2.2] 88)
  have hW : ∃ q os', (W.alloc (.cells #[.int .i64 x.1, .int .i64 x.2.1, .int .i64 x.2.2] 88)).alloc (.cells #[.int .i64 y.1, .int .i64 y.2.1, .int .i64 y.2.2] 88) = grow (W.drewN q) os' := ⟨0, _, by rw [alloc_eq_grow, alloc_eq_grow, grow_grow]; rfl⟩
  simp only [World.size_alloc] at k2
  generalize (W.alloc (.cells #[.int .i64 x.1, .int .i64 x.2.1, .int .i64 x.2.2] 88)).alloc (.cells #[.int .i64 y.1, .int .i64 y.2.1, .int .i64 y.2.2] 88) = V at *
  have x0 := (blk_cell k1 0).trans (show _ = some (Value.int .i64 x.1) from rfl)
  have x1 := (blk_cell k1 1).trans (show _ = some (Value.int .i64 x.2.1) from rfl)
  have x2 := (blk_cell k1 2).trans (show _ = some (Value.int .i64 x.2.2) from rfl)
  have y0 := (blk_cell k2 0).trans (show _ = some (Value.int .i64 y.1) from rfl)
  have y1 := (blk_cell k2 1).trans (show _ = some (Value.int .i64 y.2.1) from rfl)
  have y2 := (blk_cell k2 2).trans (show _ = some (Value.int .i64 y.2.2) from rfl)
  generalize W.heap.size = P at *
  have K1 := Aside0.mk k1
  have K2 := Aside0.mk k2
  clear k1 k2
  go_region_held3 (fun w' => w'.cell? ⟨P, 0, none⟩ = some (.int .i64 x.1) ∧ w'.cell? ⟨P, 1, none⟩ = some (.int .i64 x.2.1) ∧ w'.cell? ⟨P, 2, none⟩ = some (.int .i64 x.2.2) ∧ w'.cell? ⟨P + 1, 0, none⟩ = some (.int .i64 y.1) ∧ w'.cell? ⟨P + 1, 1, none⟩ = some (.int .i64 y.2.1) ∧ w'.cell? ⟨P + 1, 2, none⟩ = some (.int .i64 y.2.2))
    (first | go_keep | exact ⟨(blk_cell (blk_drewN (blk_drew (blk_alloc K1.out _)) _) 0).trans rfl, (blk_cell (blk_drewN (blk_drew (blk_alloc K1.out _)) _) 1).trans rfl, (blk_cell (blk_drewN (blk_drew (blk_alloc K1.out _)) _) 2).trans rfl, (blk_cell (blk_drewN (blk_drew (blk_alloc K2.out _)) _) 0).trans rfl, (blk_cell (blk_drewN (blk_drew (blk_alloc K2.out _)) _) 1).trans rfl, (blk_cell (blk_drewN (blk_drew (blk_alloc K2.out _)) _) 2).trans rfl⟩)
    (first
      | (go_at_call 35; (first | (with_reducible refine (hcon1 _).mono ?_) | (with_reducible refine (hcon2 _).mono ?_) | (with_reducible refine (hcon3 _).mono ?_)); rintro e w3 ⟨rfl, rfl⟩)
      | (go_at_call 34; (with_reducible refine (or3_walk r1 r2 r3 _ _ ((blk_cell (blk_drew (blk_new V (.cells #[.int .i64 r1, .int .i64 r2, .int .i64 r3] 3))) 0).trans rfl) ((blk_cell (blk_drew (blk_new V (.cells #[.int .i64 r1, .int .i64 r2, .int .i64 r3] 3))) 1).trans rfl) ((blk_cell (blk_drew (blk_new V (.cells #[.int .i64 r1, .int .i64 r2, .int .i64 r3] 3))) 2).trans rfl)).mono ?_); rintro e w4 ⟨rfl, q4, rfl⟩))
  all_goals
    go_wp2_with fail
    go_ret
    exact ⟨rfl, less_end hW _ _⟩

/-- The order of the edges, of the cells. -/
def cmpE (x y : Int × Int) : Int := orI (Lib.compareInt x.1 y.1) (Lib.compareInt x.2 y.2)
def cmpC (x y : Int × Int × Int) : Int := orI (Lib.compareInt x.1 y.1) (orI (Lib.compareInt x.2.1 y.2.1) (Lib.compareInt x.2.2 y.2.2))
def ltE (x y : Int × Int) : Bool := decide (x.1 < y.1 ∨ (x.1 = y.1 ∧ x.2 < y.2))
def ltC (x y : Int × Int × Int) : Bool := decide (x.1 < y.1 ∨ (x.1 = y.1 ∧ (x.2.1 < y.2.1 ∨ (x.2.1 = y.2.1 ∧ x.2.2 < y.2.2))))
theorem cmpI (x y : Int) : (Lib.compareInt x y < 0 ↔ x < y) ∧ (Lib.compareInt x y = 0 ↔ x = y) := by
  unfold Lib.compareInt
  by_cases h1 : x < y
  · simp [h1]; omega
  · by_cases h2 : y < x <;> simp [h1, h2] <;> omega
theorem orI_neg (a b : Int) : orI a b < 0 ↔ a < 0 ∨ (a = 0 ∧ b < 0) := by
  unfold orI
  split <;> omega
theorem ltOf_E : ltOf cmpE = ltE := by
  funext x y
  have := orI_neg (Lib.compareInt x.1 y.1) (Lib.compareInt x.2 y.2)
  rw [(cmpI x.1 y.1).1, (cmpI x.1 y.1).2, (cmpI x.2 y.2).1] at this
  simp only [ltOf, cmpE, ltE, this]
theorem ltOf_C : ltOf cmpC = ltC := by
  funext x y
  have := orI_neg (Lib.compareInt x.1 y.1) (orI (Lib.compareInt x.2.1 y.2.1) (Lib.compareInt x.2.2 y.2.2))
  rw [orI_neg (Lib.compareInt x.2.1 y.2.1), (cmpI x.1 y.1).1, (cmpI x.1 y.1).2, (cmpI x.2.1 y.2.1).1, (cmpI x.2.1 y.2.1).2, (cmpI x.2.2 y.2.2).1] at this
  simp only [ltOf, cmpC, ltC, this]
theorem swoE : SWO ltE where
  irrefl x := by simp [ltE]
  trans x y z h1 h2 := by simp [ltE] at *; omega
  ntrans x y z h1 h2 := by simp [ltE] at *; omega
theorem swoC : SWO ltC where
  irrefl x := by simp [ltC]
  trans x y z h1 h2 := by simp [ltC] at *; omega
  ntrans x y z h1 h2 := by simp [ltC] at *; omega

theorem sorted_list {α : Type} [Inhabited α] (lt : α → α → Bool) (d : Array α) (h : SortedIn lt 0 d.size d) : d.toList.Pairwise (fun x y => lt y x = false) := by
  rw [List.pairwise_iff_getElem]
  intro i j hi hj hij
  have := h i j (Nat.zero_le _) hij (by simpa using hj)
  rw [getElem!_pos d i (by simpa using hi), getElem!_pos d j (by simpa using hj)] at this
  simpa using this

/-- A sort of a row of structs in a block. -/
theorem sort_core {α : Type} [Inhabited α] (f : Nat) (fv : Value) (enc : α → List Value) (k : Nat) (hk : ∀ x, (enc x).length = k) (hk0 : 0 < k) (lt : α → α → Bool) (base ty n : Nat) (v : Value) (el : List α) (w : World)
    (H : ∀ blk cap (d : Array α), d.size = el.length → HoldsK enc k w blk 0 d → blk < w.heap.size → Calls Tryd.prog f #[.slice (some ⟨blk, 0, none⟩) d.size cap, fv] w fun e w' => e = .returned (.tuple #[]) ∧ ∃ d' n os, PermIn 0 d.size d d' ∧ SortedIn lt 0 d.size d' ∧ w' = sortWorldK enc k w blk 0 n d' os)
    (hn : n = el.length) (hne : el ≠ []) (ho : w.ownsRow base ty k v n (el.flatMap enc)) :
    Calls Tryd.prog f #[v, fv] w fun e w' => e = .returned (.tuple #[]) ∧ ∃ ys : List α, ys.Perm el ∧ ys.Pairwise (fun x y => lt y x = false) ∧ w'.ownsRow base ty k v n (ys.flatMap enc) ∧ w.grownBy w' v.ownBlock := by
  subst hn
  rcases ho.2 with ⟨e0, h0⟩ | ⟨g, cap, cur, rfl, hb, hg, hn, hm, hs, ht⟩
  · exact absurd (List.length_eq_zero_iff.1 h0) hne
  · have e1 : (flatK enc k el.toArray).toList = el.flatMap enc := flatK_toList enc k hk hk0 _
    have hH : HoldsK enc k w g 0 el.toArray := holds_blk id hg _ (by rw [size_flatK, List.map_id, e1]; simpa using ht)
    have hcon := H g cap el.toArray (by simp) hH (blk_lt hg)
    have hsz : el.toArray.size = el.length := by simp
    rw [hsz] at hcon
    refine hcon.mono ?_
    rintro e w' ⟨rfl, d', m, os, hp, hso, rfl⟩
    have hd : d'.size = el.length := by rw [hp.1]; simp
    have hle : el.length * k ≤ cur.size := by rw [hs]; exact Nat.mul_le_mul_right _ hn
    have hpb := put_blk id hg m (flatK enc k d') os (by rw [size_flatK, hd]; exact hle)
    rw [List.map_id, flatK_toList enc k hk hk0, size_flatK, hd] at hpb
    have hfl : (d'.toList.flatMap enc).length = el.length * k := by
      rw [← flatK_toList enc k hk hk0]; simp [hd]
    refine ⟨rfl, d'.toList, ?_, ?_, ?_, hpb.2⟩
    · have := hp.2.2
      rw [Array.extract_eq_self_of_le (by omega), Array.extract_eq_self_of_le (by simp)] at this
      simpa using this
    · exact sorted_list lt d' (by rw [hd]; simpa using hso)
    · refine ⟨by simpa using hfl, .inr ⟨g, cap, _, rfl, hb, hpb.1, hn, hm, ?_, ?_⟩⟩
      · simp [hfl]; omega
      · rw [List.take_append_of_le_length (by simp [hfl])]
        exact List.take_of_length_le (by omega)

theorem cmpLays_E (blk off size : Nat) (w : World) : CmpLays Tryd.prog 58 #[] encE 2 cmpE blk off size w := fun _ _ _ _ x y => less_edge x y _
theorem cmpLays_C (blk off size : Nat) (w : World) : CmpLays Tryd.prog 56 #[] encC 3 cmpC blk off size w := fun _ _ _ _ x y => less_cell x y _
theorem sort_edges (base n : Nat) (v : Value) (el : List (Int × Int)) (w : World) (hn : n = el.length) (hne : el ≠ []) (hl : el.length ≤ 1000000) (ho : w.ownsRow base 69 2 v n (el.flatMap encE)) :
    Calls Tryd.prog 57 #[v, .func (.func 58) #[] #[]] w fun e w' => e = .returned (.tuple #[]) ∧ ∃ ys : List (Int × Int), ys.Perm el ∧ ys.Pairwise (fun x y => ltE y x = false) ∧ w'.ownsRow base 69 2 v n (ys.flatMap encE) ∧ w.grownBy w' v.ownBlock := by
  have eg : ∀ args w, (callFunc 58 args).run Tryd.prog w = .ok (.enter 58 args) w := enters_of Tryd.func58 (by kernel_rfl) rfl
  refine sort_core 57 _ encE 2 (fun _ => rfl) (by decide) ltE base 69 n v el w (fun blk cap d hd hH hb => ?_) hn hne ho
  have := AnyQ.slices_SortFunc Tryd.sortEdges 2 Tryd.isAgg69 Tryd.sizeOf69 encE (fun _ => rfl) (fun x v hv => by simp [encE] at hv; rcases hv with rfl | rfl <;> rfl) cmpE (by rw [ltOf_E]; exact swoE) 58 #[] blk 0 cap d w eg (cmpLays_E blk 0 d.size w) hH hb (by omega)
  rw [ltOf_E] at this
  exact this
theorem sort_cells (base n : Nat) (v : Value) (el : List (Int × Int × Int)) (w : World) (hn : n = el.length) (hne : el ≠ []) (hl : el.length ≤ 1000000) (ho : w.ownsRow base 88 3 v n (el.flatMap encC)) :
    Calls Tryd.prog 55 #[v, .func (.func 56) #[] #[]] w fun e w' => e = .returned (.tuple #[]) ∧ ∃ ys : List (Int × Int × Int), ys.Perm el ∧ ys.Pairwise (fun x y => ltC y x = false) ∧ w'.ownsRow base 88 3 v n (ys.flatMap encC) ∧ w.grownBy w' v.ownBlock := by
  have eg : ∀ args w, (callFunc 56 args).run Tryd.prog w = .ok (.enter 56 args) w := enters_of Tryd.func56 (by kernel_rfl) rfl
  refine sort_core 55 _ encC 3 (fun _ => rfl) (by decide) ltC base 88 n v el w (fun blk cap d hd hH hb => ?_) hn hne ho
  have := AnyQ.slices_SortFunc Tryd.sortCells 3 Tryd.isAgg88 Tryd.sizeOf88 encC (fun _ => rfl) (fun x v hv => by simp [encC] at hv; rcases hv with rfl | rfl | rfl <;> rfl) cmpC (by rw [ltOf_C]; exact swoC) 56 #[] blk 0 cap d w eg (cmpLays_C blk 0 d.size w) hH hb (by omega)
  rw [ltOf_C] at this
  exact this
end Go.Proofs.YtdagdoiedibpgaaDoor.Prt
namespace Go.Proofs.YtdagdoiedibpgaaDoor.Prt
set_option linter.unusedVariables false
set_option linter.unusedSimpArgs false
open Go.RowKit Go.Maps Go.Proofs.YtdagdoiedibpgaaDoorW.PrintWords Go.Proofs.YtdagdoiedibpgaaDoorW.PrintLast Go.Proofs.YtdagdoiedibpgaaDoorW.PrintMore
open Go.Shelf Go.Sort Go.Lib

theorem eqA69 (d : Nat) (w : World) (x0 y0 x1 y1 : Int) :
    (Op.equalIn (d + 2) 69 (.agg #[.int .i64 x0, .int .i64 x1]) (.agg #[.int .i64 y0, .int .i64 y1])).run Tryd.prog w = .ok (x0 == y0 && (x1 == y1)) w := by
  refine eqA_of Tryd.underlying69 (by kernel_rfl) ?_
  refine eqf_cons (by rfl) (by go_simp; rfl) (by go_simp; rfl) (by go_simp) ?_
  exact eqf_last (by rfl) (by go_simp; rfl) (by go_simp; rfl) (by go_simp)
theorem setMany_set {α : Type} [Inhabited α] (enc : α → List Value) (k : Nat) (hk : ∀ x, (enc x).length = k) (d : Array α) (i : Nat) (x : α) (hi : i < d.size) : setMany (flatK enc k d) (i * k) (enc x) = flatK enc k (d.setIfInBounds i x) := by
  refine ext_get! (by simp) fun t ht => ?_
  have ht' : t < d.size * k := by simpa using ht
  have k0 : 0 < k := by rcases Nat.eq_zero_or_pos k with h | h; · subst h; simp at ht'
                        · exact h
  rw [get_setMany _ _ _ t (by simpa using ht'), get_flatK _ _ _ t ht', get_flatK _ _ _ t (by simpa using ht'), hk]
  by_cases a : t / k = i
  · rw [if_pos ((blk_iff k i t k0).2 a), show t - i * k = t % k by subst a; rw [Nat.mod_eq_sub_div_mul], a, getElem!_set_same d i x hi]
  · rw [if_neg (fun h => a ((blk_iff k i t k0).1 h)), getElem!_set_other d i (t / k) x a]
theorem take_flatMap {α : Type} (enc : α → List Value) (k : Nat) (hk : ∀ x, (enc x).length = k) : ∀ (l : List α) (n : Nat), (l.flatMap enc).take (n * k) = (l.take n).flatMap enc
  | [], n => by simp
  | x :: r, 0 => by simp
  | x :: r, n + 1 => by
    rw [List.flatMap_cons, List.take_succ_cons, List.flatMap_cons, Nat.add_mul, Nat.one_mul, Nat.add_comm, List.take_append, hk, show k + n * k - k = n * k by omega, take_flatMap enc k hk r n, List.take_of_length_le (by rw [hk]; omega)]
theorem take_flat (dk : Array (Int × Int)) (F : Array Value) (k : Nat) (hF : F.size = dk.size * 2) (hk : k ≤ dk.size) (hlow : ∀ t, t < k * 2 → F[t]! = (flatK encE 2 dk)[t]!) : F.toList.take (k * 2) = (dk.toList.take k).flatMap encE := by
  rw [← take_flatMap encE 2 (fun _ => rfl), ← flatK_toList encE 2 (fun _ => rfl) (by decide)]
  apply List.ext_getElem?
  intro t
  rw [List.getElem?_take, List.getElem?_take]
  by_cases ht : t < k * 2
  · rw [if_pos ht, if_pos ht, Array.getElem?_toList, Array.getElem?_toList]
    have h1 : t < F.size := by omega
    have h2 : t < (flatK encE 2 dk).size := by rw [size_flatK]; omega
    rw [Array.getElem?_eq_getElem h1, Array.getElem?_eq_getElem h2, ← getElem!_pos F t h1, ← getElem!_pos (flatK encE 2 dk) t h2, hlow t ht]
  · rw [if_neg ht, if_neg ht]
theorem size_zeroCells (n : Nat) : (Builtin.zeroCells #[Value.int .i64 0, .int .i64 0] n).toList.length = n * 2 := by simp [Builtin.zeroCells]
theorem mem_zeroCells (n : Nat) (v : Value) (h : v ∈ (Builtin.zeroCells #[Value.int .i64 0, .int .i64 0] n).toList) : v.oneCell' = true := by
  simp only [Builtin.zeroCells, Array.toList_map, List.mem_map] at h
  obtain ⟨i, _, rfl⟩ := h
  have : i % 2 = 0 ∨ i % 2 = 1 := by omega
  show (#[Value.int .i64 0, .int .i64 0][i % 2]!).oneCell' = true
  rcases this with e | e <;> rw [e] <;> rfl
theorem run_clear69 (w : World) (ty : TypeId) (b o n c : Nat) (hn : 0 < n) (hc : ∀ j, j < n * 2 → (w.cell? ⟨b, o + j, none⟩).isSome = true) (hf : ∀ j, j < n * 2 → w.frozen? ⟨b, o + j, none⟩ = false) :
    (Builtin.clear_ #[65] ty #[.slice (some ⟨b, o, none⟩) n c]).run Tryd.prog w = .ok (.tuple #[]) (w.setCells b o (Builtin.zeroCells #[Value.int .i64 0, .int .i64 0] n).toList) := by
  have hst := run_storeCells_cells (P := Tryd.prog) b o (Builtin.zeroCells #[Value.int .i64 0, .int .i64 0] n).toList 0 w (by rw [size_zeroCells]; simpa using hc) (by rw [size_zeroCells]; simpa using hf) (fun v hv => mem_zeroCells n v hv)
  simp only [Nat.add_zero] at hst
  have hv := Tryd.zeroValue69
  have ht := Tryd.underlying65
  have hz : (Value.agg #[Value.int .i64 0, .int .i64 0]).cells = #[Value.int .i64 0, .int .i64 0] := rfl
  obtain ⟨m, rfl⟩ : ∃ m, n = m + 1 := ⟨n - 1, by omega⟩
  simp [Builtin.clear_, run_underlying ht, hv, hz, hst]
theorem low_take {d dk : Array (Int × Int)} {m k : Nat} (h : CompInv d m k dk) (hk : k ≤ dk.size) : dk.toList.take k = compactUpTo d m := by
  apply List.ext_getElem?
  intro j
  by_cases hj : j < k
  · rw [h.low j hj, List.getElem?_take, if_pos hj, Array.getElem?_toList, Array.getElem?_eq_getElem (by omega), getElem!_pos dk j (by omega)]
  · rw [List.getElem?_take, if_neg hj, List.getElem?_eq_none (by rw [h.len]; omega)]
theorem store69 {w wr : World} {n blk : Nat} {dk : Array (Int × Int)} {i : Nat} (hi : i < dk.size) (hwr : wr = putRowK encE 2 (Sort.ahead w n) blk 0 dk) (x : Int × Int) :
    ((wr.drew.setCell ⟨blk, i * 2, none⟩ (.int .i64 x.1)).setCell ⟨blk, i * 2 + 1, none⟩ (.int .i64 x.2)) = putRowK encE 2 (Sort.ahead w (n + 1)) blk 0 (dk.setIfInBounds i x) := by
  subst hwr
  have h := setCells_putRow (Sort.ahead w (n + 1)) blk 0 (encE x) (i * 2) (flatK encE 2 dk) (by rw [size_flatK]; show i * 2 + 2 ≤ _; omega)
  rw [setMany_set encE 2 (fun _ => rfl) dk i x hi, Nat.zero_add] at h
  exact h
theorem pair_eq (x y : Int × Int) : (x.1 == y.1 && x.2 == y.2) = decide (x = y) := by
  by_cases h : x = y
  · subst h; simp
  · have : ¬ (x.1 = y.1 ∧ x.2 = y.2) := fun e => h (Prod.ext e.1 e.2)
    rw [decide_eq_false h]
    simpa using this
attribute [local go_sem high] eqA69
set_option maxHeartbeats 4000000 in
set_option maxRecDepth 1000000 in
theorem compact_core (blk cap : Nat) (d : Array (Int × Int)) (w : World) (hH : HoldsK encE 2 w blk 0 d) (hsz : d.size ≤ 1000000) (hcap : d.size ≤ cap) :
    Calls Tryd.prog 59 #[.slice (some ⟨blk, 0, none⟩) d.size cap] w fun e w' => e = .returned (.slice (some ⟨blk, 0, none⟩) (compactUpTo d d.size).length cap) ∧
      ∃ q F, F.size = d.size * 2 ∧ F.toList.take ((compactUpTo d d.size).length * 2) = (compactUpTo d d.size).flatMap encE ∧ w' = putRow id (Sort.ahead w q) blk 0 F := by
  have same : (∀ j, j < d.size → keeps d j = true) → (compactUpTo d d.size).length = d.size ∧ ∀ q, ∃ q' F, F.size = d.size * 2 ∧ F.toList.take ((compactUpTo d d.size).length * 2) = (compactUpTo d d.size).flatMap encE ∧ w.drewN q = putRow id (Sort.ahead w q') blk 0 F := by
    intro hall
    have e : compactUpTo d d.size = d.toList := by rw [compactUpTo_all d _ hall, range_map_get]
    rw [e]
    refine ⟨by simp, fun q => ⟨q, flatK encE 2 d, by simp, ?_, ?_⟩⟩
    · rw [flatK_toList encE 2 (fun _ => rfl) (by decide), List.take_of_length_le]
      rw [← flatK_toList encE 2 (fun _ => rfl) (by decide)]; simp
    · exact (putRow_self id (Sort.ahead w q) blk 0 _ hH).symm
  have HS := Aside0.mk same
  clear same
  by_cases h2 : d.size < 2
  · have HH := Aside0.mk hH
    clear hH
    have i2 : (d.size : Int) < 2 := by omega
    go_enter Tryd.func59, Tryd.ntmps59
    go_wp2_with fail
    go_ret
    obtain ⟨e1, e2⟩ := HS.out (fun j hj => keeps_lt_one d j (by omega))
    exact ⟨by rw [e1]; rfl, e2 0⟩
  · have i2 : ¬ (d.size : Int) < 2 := by omega
    go_enter Tryd.func59, Tryd.ntmps59
    go_wp2_with fail
    go_loopg [3] d.size (fun g s3 wr => ∃ k q : Nat, 1 ≤ k ∧ k ≤ d.size ∧ d.size - k ≤ g ∧ s3 = .int .i64 k ∧ wr = w.drewN q ∧ ∀ j, j < k → keeps d j = true)
    case atStart => exact ⟨1, 0, Nat.le_refl _, by omega, by omega, rfl, rfl, keeps_lt_one d⟩
    case round =>
      obtain ⟨k, q, hk1, hk, hg, rfl, hwr, hall⟩ := hrel
      by_cases hlt : k < d.size
      · have hHk : HoldsK encE 2 wr blk 0 d := by rw [hwr]; exact hH
        have x0 := (hHk.cell hlt (show 0 < 2 by decide)).1
        have x1 := (hHk.cell hlt (show 1 < 2 by decide)).1
        have y0 := (hHk.cell (show k - 1 < d.size by omega) (show 0 < 2 by decide)).1
        have y1 := (hHk.cell (show k - 1 < d.size by omega) (show 1 < 2 by decide)).1
        change _ = some (Value.int .i64 (d[k]!).1) at x0
        change _ = some (Value.int .i64 (d[k]!).2) at x1
        change _ = some (Value.int .i64 (d[k - 1]!).1) at y0
        change _ = some (Value.int .i64 (d[k - 1]!).2) at y1
        rw [Nat.zero_add] at x0 x1 y0 y1
        rw [Nat.add_zero] at x0 y0
        have A := Aside0.mk hall
        have HH := Aside0.mk hH
        have HW := Aside0.mk hwr
        clear hall hH hHk hwr
        generalize hx : d[k]! = x at x0 x1
        generalize hy : d[k - 1]! = y at y0 y1
        have B := Aside0.mk (And.intro hx hy)
        clear hx hy
        have hbe := pair_eq x y
        have k1 : (1 : Int) ≤ (k : Int) := by omega
        have k2 : (k : Int) < (d.size : Int) := by omega
        obtain ⟨m, hm⟩ : ∃ m : Nat, m = k - 1 := ⟨_, rfl⟩
        rw [← hm] at y0 y1 B
        have k3 : (m : Int) < (d.size : Int) := by omega
        have k4 : IntKind.i64.wrap ((k : Int) - 1) = (m : Int) := by rw [IntWalk.i64_in _ (by omega)]; omega
        have M := Aside0.mk hm
        clear hm
        go_wp2_with fail
        go_region_held3 (fun w' => w'.cell? ⟨blk, k * 2, none⟩ = some (.int .i64 x.1) ∧ w'.cell? ⟨blk, k * 2 + 1, none⟩ = some (.int .i64 x.2) ∧ w'.cell? ⟨blk, m * 2, none⟩ = some (.int .i64 y.1) ∧ w'.cell? ⟨blk, m * 2 + 1, none⟩ = some (.int .i64 y.2)) (first | go_keep) (fail)
        by_cases hdup : x = y
        · rw [decide_eq_true hdup]
          go_wp2_with fail
          go_loopg [3, 5] d.size (fun g s3 s5 wr => ∃ (kk k2 q2 : Nat) (dk : Array (Int × Int)), s3 = .int .i64 kk ∧ s5 = .int .i64 k2 ∧ 1 ≤ k2 ∧ k + k2 ≤ d.size ∧ d.size - (k + k2) ≤ g ∧ wr = putRowK encE 2 (Sort.ahead w q2) blk 0 dk ∧ CompInv d (k + k2) kk dk)
          case atStart =>
            exact ⟨k, 1, q + 1, d, rfl, rfl, Nat.le_refl _, by omega, by omega, by rw [HW.out]; exact (putRowK_self encE 2 (Sort.ahead w (q + 1)) blk 0 d (holdsK_ahead encE 2 w (q + 1) blk 0 d HH.out)).symm, CompInv.start A.out (keeps_neg (by omega) (by rw [← M.out, B.out.1, B.out.2, hdup]))⟩
          case round =>
            obtain ⟨kk, k2, q2, dk, rfl, rfl, h1, hle, hg2, hwr, hI⟩ := hrel
            have hkk := hI.lt
            have hds := hI.size
            have hHk : HoldsK encE 2 wr blk 0 dk := by rw [hwr]; exact holdsK_putRowK encE 2 _ blk 0 d dk (holdsK_ahead encE 2 w q2 blk 0 d HH.out) hds
            have W2 := Aside0.mk hwr
            have I2 := Aside0.mk hI
            clear hwr
            by_cases hlt2 : k + k2 < d.size
            · obtain ⟨m2, hm2⟩ : ∃ m2 : Nat, m2 = k2 - 1 := ⟨_, rfl⟩
              have cm0 := (hHk.cell (show k + k2 < dk.size by omega) (show 0 < 2 by decide)).1
              have cm1 := (hHk.cell (show k + k2 < dk.size by omega) (show 1 < 2 by decide)).1
              have cp0 := (hHk.cell (show k + m2 < dk.size by omega) (show 0 < 2 by decide)).1
              have cp1 := (hHk.cell (show k + m2 < dk.size by omega) (show 1 < 2 by decide)).1
              obtain ⟨ck0, fk0⟩ := hHk.cell (show kk < dk.size by omega) (show 0 < 2 by decide)
              obtain ⟨ck1, fk1⟩ := hHk.cell (show kk < dk.size by omega) (show 1 < 2 by decide)
              rw [hI.high (k + k2) (by omega)] at cm0 cm1
              rw [hI.high (k + m2) (by omega)] at cp0 cp1
              change _ = some (Value.int .i64 (d[k + k2]!).1) at cm0
              change _ = some (Value.int .i64 (d[k + k2]!).2) at cm1
              change _ = some (Value.int .i64 (d[k + m2]!).1) at cp0
              change _ = some (Value.int .i64 (d[k + m2]!).2) at cp1
              change _ = some (Value.int .i64 (dk[kk]!).1) at ck0
              change _ = some (Value.int .i64 (dk[kk]!).2) at ck1
              simp only [Nat.zero_add, Nat.add_zero, Nat.add_mul] at cm0 cm1 cp0 cp1 ck0 ck1 fk0 fk1
              have HHk := Aside0.mk hHk
              clear hHk hI
              generalize hu : d[k + k2]! = u at cm0 cm1
              generalize hv : d[k + m2]! = v at cp0 cp1
              generalize dk[kk]! = old at ck0 ck1
              have C := Aside0.mk (And.intro hu hv)
              have hbe2 := pair_eq u v
              have j1 : (1 : Int) ≤ (k2 : Int) := by omega
              have j2 : (k2 : Int) < ((d.size - k : Nat) : Int) := by omega
              have j3 : (m2 : Int) < ((d.size - k : Nat) : Int) := by omega
              have j4 : IntKind.i64.wrap ((k2 : Int) - 1) = (m2 : Int) := by rw [IntWalk.i64_in _ (by omega)]; omega
              have j5 : (kk : Int) < (d.size : Int) := by omega
              have M2 := Aside0.mk hm2
              clear hu hv hm2 x0 x1 y0 y1
              by_cases huv : u = v
              · rw [decide_eq_true huv] at hbe2
                go_wp2_with fail
                go_region_held3 (fun w' => w'.cell? ⟨blk, k * 2 + k2 * 2, none⟩ = some (.int .i64 u.1) ∧ w'.cell? ⟨blk, k * 2 + k2 * 2 + 1, none⟩ = some (.int .i64 u.2) ∧ w'.cell? ⟨blk, k * 2 + m2 * 2, none⟩ = some (.int .i64 v.1) ∧ w'.cell? ⟨blk, k * 2 + m2 * 2 + 1, none⟩ = some (.int .i64 v.2)) (first | go_keep) (fail)
                go_wp2_with fail
                go_roundg (d.size - (k + (k2 + 1)))
                case measure => omega
                case rel => exact ⟨kk, k2 + 1, q2 + 1, dk, rfl, by go_num, by omega, by omega, Nat.le_refl _, by rw [W2.out]; rfl, I2.out.skip (keeps_neg (by omega) (by rw [show k + k2 - 1 = k + m2 by have := M2.out; omega, C.out.1, C.out.2, huv]))⟩
              · rw [decide_eq_false huv] at hbe2
                go_wp2_with fail
                go_region_held3 (fun w' => w'.cell? ⟨blk, k * 2 + k2 * 2, none⟩ = some (.int .i64 u.1) ∧ w'.cell? ⟨blk, k * 2 + k2 * 2 + 1, none⟩ = some (.int .i64 u.2) ∧ w'.cell? ⟨blk, k * 2 + m2 * 2, none⟩ = some (.int .i64 v.1) ∧ w'.cell? ⟨blk, k * 2 + m2 * 2 + 1, none⟩ = some (.int .i64 v.2)) (first | go_keep) (fail)
                go_wp2_with fail
                go_roundg (d.size - (k + (k2 + 1)))
                case measure => omega
                case rel => exact ⟨kk + 1, k2 + 1, q2 + 1, dk.setIfInBounds kk u, by go_num, by go_num, by omega, by omega, Nat.le_refl _, store69 (by omega) W2.out u, by have := I2.out.keep hlt2 (keeps_pos (by rw [show k + k2 - 1 = k + m2 by have := M2.out; omega, C.out.1, C.out.2]; exact huv)); rwa [C.out.1] at this⟩
            · have hend : k + k2 = d.size := by omega
              have hcl : ∀ ty, (Builtin.clear_ #[65] ty #[.slice (some ⟨blk, kk * 2, none⟩) (d.size - kk) (cap - kk)]).run Tryd.prog wr = .ok (.tuple #[]) (wr.setCells blk (kk * 2) (Builtin.zeroCells #[Value.int .i64 0, .int .i64 0] (d.size - kk)).toList) :=
                fun ty => run_clear69 wr ty blk (kk * 2) _ _ (by omega) (fun j hj => by
                  have := (hHk (kk * 2 + j) (by rw [size_flatK]; omega)).1
                  rw [Nat.zero_add] at this
                  rw [this]; rfl) (fun j hj => by
                  have := (hHk (kk * 2 + j) (by rw [size_flatK]; omega)).2
                  rw [Nat.zero_add] at this
                  exact this)
              have j5 : (kk : Int) < (d.size : Int) := by omega
              have j6 : ¬ (k2 : Int) < ((d.size - k : Nat) : Int) := by omega
              clear hHk hI x0 x1 y0 y1
              go_wp2_with fail
              go_ret
              have hI := I2.out
              rw [hend] at hI
              have hF := setCells_putRow (Sort.ahead w q2) blk 0 (Builtin.zeroCells #[Value.int .i64 0, .int .i64 0] (d.size - kk)).toList (kk * 2) (flatK encE 2 dk) (by rw [size_zeroCells, size_flatK]; omega)
              rw [Nat.zero_add] at hF
              refine ⟨by rw [hI.len]; rfl, q2, setMany (flatK encE 2 dk) (kk * 2) (Builtin.zeroCells #[Value.int .i64 0, .int .i64 0] (d.size - kk)).toList, by rw [size_setMany, size_flatK, hds], ?_, ?_⟩
              · rw [hI.len, take_flat dk _ kk (by rw [size_setMany, size_flatK]) (by omega) (fun t ht => by rw [get_setMany _ _ _ _ (by rw [size_flatK]; omega), if_neg (by omega)]), low_take hI (by omega)]
              · rw [W2.out]; exact hF
        · rw [decide_eq_false hdup]
          go_wp2_with fail
          go_roundg (d.size - (k + 1))
          case measure => omega
          case rel =>
            refine ⟨k + 1, q + 1, by omega, by omega, Nat.le_refl _, by go_num, by rw [HW.out]; rfl, fun j hj => ?_⟩
            by_cases e : j = k
            · subst e
              exact keeps_pos (by rw [← M.out, B.out.1, B.out.2]; exact hdup)
            · exact A.out j (by omega)
      · have hkn : k = d.size := by omega
        subst hkn
        clear hH
        go_wp2_with fail
        go_ret
        obtain ⟨e1, e2⟩ := HS.out hall
        exact ⟨by rw [e1]; rfl, e2 q⟩

theorem compact_edges (base n : Nat) (v : Value) (el : List (Int × Int)) (w : World) (hn : n = el.length) (hne : el ≠ []) (hl : el.length ≤ 1000000) (ho : w.ownsRow base 69 2 v n (el.flatMap encE)) :
    Calls Tryd.prog 59 #[v] w fun e w' => ∃ v', e = .returned v' ∧ v'.ownBlock = v.ownBlock ∧ w'.ownsRow base 69 2 v' (compact el).length ((compact el).flatMap encE) ∧ w.grownBy w' v.ownBlock := by
  subst hn
  rcases ho.2 with ⟨e0, h0⟩ | ⟨g, cap, cur, rfl, hb, hg, hn, hm, hs, ht⟩
  · exact absurd (List.length_eq_zero_iff.1 h0) hne
  · have e1 : (flatK encE 2 el.toArray).toList = el.flatMap encE := flatK_toList encE 2 (fun _ => rfl) (by decide) _
    have hH : HoldsK encE 2 w g 0 el.toArray := holds_blk id hg _ (by rw [size_flatK, List.map_id, e1]; simpa using ht)
    have hcon := compact_core g cap el.toArray w hH (by simpa using hl) (by simpa using hn)
    have hsz : el.toArray.size = el.length := by simp
    rw [hsz] at hcon
    refine hcon.mono ?_
    rintro e w' ⟨rfl, q, F, hF, hT, rfl⟩
    have hle : el.length * 2 ≤ cur.size := by rw [hs]; exact Nat.mul_le_mul_right _ hn
    have hcl : (compact el).length ≤ el.length := by
      have := List.length_filter_le (keeps el.toArray) (List.range el.length)
      simp only [List.length_range] at this
      simpa [compact, compactUpTo] using this
    have hpb := put_blk id hg q F #[] (by rw [hF]; exact hle)
    rw [grow_empty, List.map_id, hF] at hpb
    refine ⟨_, rfl, rfl, ⟨?_, .inr ⟨g, cap, _, rfl, hb, hpb.1, by show (compact el).length ≤ cap; omega, hm, ?_, ?_⟩⟩, hpb.2⟩
    · have := congrArg List.length hT
      simp only [List.length_take, Array.length_toList, hF] at this
      change _ = ((compact el).flatMap encE).length at this
      change min ((compact el).length * 2) _ = _ at this
      rw [← this]; omega
    · simp [hF]; omega
    · have : (F.toList ++ cur.toList.drop (el.length * 2)).take ((compact el).length * 2) = F.toList.take ((compact el).length * 2) := List.take_append_of_le_length (by simp [hF]; omega)
      show ((F.toList ++ cur.toList.drop (el.length * 2)).toArray.toList.take ((compact el).length * 2)) = _
      rw [List.toList_toArray, this]
      exact hT

/-- A sorted list, compacted: strictly sorted, with the same members. -/
theorem compact_sorted (el : List (Int × Int)) (hs : el.Pairwise (fun x y => ltE y x = false)) : (compact el).Pairwise (fun x y => ltE x y = true) ∧ ∀ x, x ∈ compact el ↔ x ∈ el := by
  have key : ∀ m, m ≤ el.length → (compactUpTo el.toArray m).Pairwise (fun x y => ltE x y = true) ∧ ∀ x, x ∈ compactUpTo el.toArray m ↔ x ∈ el.take m := by
    intro m
    induction m with
    | zero => intro _; simp [compactUpTo]
    | succ m ih =>
      intro hm
      obtain ⟨i1, i2⟩ := ih (by omega)
      have hd : el.toArray[m]! = el[m] := by rw [getElem!_pos el.toArray m (by simp; omega)]; simp
      have ht : el.take (m + 1) = el.take m ++ [el[m]] := by rw [List.take_add_one, List.getElem?_eq_getElem hm]; rfl
      rw [compactUpTo_succ, hd, ht]
      have hle : ∀ (i j : Nat) (hi : i < j) (hj : j < el.length), ltE el[j] el[i] = false := fun i j hi hj => List.pairwise_iff_getElem.1 hs i j (by omega) hj hi
      by_cases hk : keeps el.toArray m = true
      · rw [if_pos hk]
        refine ⟨?_, fun x => by rw [List.mem_append, List.mem_append, i2]⟩
        rw [List.pairwise_append]
        refine ⟨i1, by simp, fun x hx y hy => ?_⟩
        rw [List.mem_singleton] at hy
        subst hy
        rw [i2] at hx
        obtain ⟨j, hj, rfl⟩ := List.getElem_of_mem hx
        rw [List.length_take] at hj
        rw [List.getElem_take]
        have hm0 : m ≠ 0 := by omega
        have hne : el[m] ≠ el[m - 1] := by
          simp only [keeps, decide_eq_true_eq] at hk
          rcases hk with h | h
          · exact absurd h hm0
          · rw [hd, getElem!_pos el.toArray (m - 1) (by simp; omega)] at h
            simpa using h
        have h1 := hle (m - 1) m (by omega) hm
        have h2 : el[j] = el[m - 1] ∨ ltE el[m - 1] el[j] = false := by
          by_cases e : j = m - 1
          · left; subst e; rfl
          · right; exact hle j (m - 1) (by omega) (by omega)
        have h3 : ¬ ((el[m]).1 = (el[m - 1]).1 ∧ (el[m]).2 = (el[m - 1]).2) := fun e => hne (Prod.ext e.1 e.2)
        generalize el[m] = a at *
        generalize el[m - 1] = b at *
        generalize el[j] = c at *
        simp only [ltE, decide_eq_true_eq, decide_eq_false_iff_not] at *
        rcases h2 with rfl | h2 <;> omega
      · rw [if_neg hk, List.append_nil]
        refine ⟨i1, fun x => ?_⟩
        rw [i2, List.mem_append, List.mem_singleton]
        refine ⟨Or.inl, fun h => h.elim id (fun h => ?_)⟩
        subst h
        have hm0 : m ≠ 0 := fun e => hk (by subst e; exact keeps_lt_one _ 0 (by omega))
        have he : el[m] = el[m - 1] := by
          simp only [keeps, decide_eq_true_eq, not_or] at hk
          have := hk.2
          rw [hd, getElem!_pos el.toArray (m - 1) (by simp; omega)] at this
          simpa using this
        rw [he]
        refine List.mem_take_iff_getElem.2 ⟨m - 1, by omega, rfl⟩
  have := key el.length (Nat.le_refl _)
  rw [List.take_length] at this
  exact this
end Go.Proofs.YtdagdoiedibpgaaDoor.Prt
namespace Go.Proofs.YtdagdoiedibpgaaDoor.Prt
set_option linter.unusedVariables false
set_option linter.unusedSimpArgs false
open Go.RowKit Go.Maps Go.Proofs.YtdagdoiedibpgaaDoorW.PrintWords Go.Proofs.YtdagdoiedibpgaaDoorW.PrintLast Go.Proofs.YtdagdoiedibpgaaDoorW.PrintMore

theorem info38 : (Tryd.prog.info? 38).map (fun i => (i.zero, i.size, i.bytes)) = some (some (.slice none 0 0), 1, 24) := by kernel_rfl

theorem own_ne_own {w : World} {base e e' size size' n n' : Nat} {v v' : Value} {xs xs' : List Value} (h : w.ownsRow base e size v n xs) (h' : w.ownsRow base e' size' v' n' xs') (hne : e ≠ e') : v.ownBlock = none ∨ v.ownBlock ≠ v'.ownBlock := by
  rcases h.2 with ⟨rfl, _⟩ | ⟨g, cap, cur, rfl, _, hg, _⟩
  · exact .inl rfl
  · right
    intro e1
    rcases h'.2 with ⟨rfl, _⟩ | ⟨g', cap', cur', rfl, _, hg', _⟩
    · cases e1
    · have : g = g' := Option.some.inj e1
      subst this
      rw [hg] at hg'
      cases hg'
      exact hne rfl
/-- A family of rows of ints, each in a block of its own. -/
structure Rows3 (base nn k : Nat) (vs : Nat → Value) (wr : World) : Prop where
  own : ∀ i, i < nn → ∃ zs : List Int, zs.length ≤ k ∧ wr.ownsRow base 3 1 (vs i) zs.length (zs.map (Value.int .i64))
  dist : ∀ i j, i < nn → j < nn → i ≠ j → ∀ b, (vs i).ownBlock = some b → (vs j).ownBlock ≠ some b
/-- The net while the neighbours are listed. -/
structure NxInv (g B X nn k : Nat) (n h : Int) (nv cv ev : Value) (el : List (Int × Int)) (vs : Nat → Value) (w0 wr : World) : Prop where
  blk : wr.heap[g]? = some (.cells #[.int .i64 n, .int .i64 h, nv, .map (some B), cv, ev, .slice (some ⟨X, 0, none⟩) nn nn] 80 (0, 0))
  owe : wr.ownsRow w0.heap.size 69 2 ev el.length (el.flatMap encE)
  row : wr.rowIs X 38 nn vs
  rows : Rows3 w0.heap.size nn k vs wr
  bel : Below w0.heap.size w0 wr
  hg : w0.heap.size ≤ g
  hX : w0.heap.size ≤ X
theorem Rows3.kept {base nn k : Nat} {vs : Nat → Value} {wr wr' : World} {row : Option Nat} (H : Rows3 base nn k vs wr) (hg : wr.grownBy wr' row) (hr : ∀ i, i < nn → (vs i).ownBlock = none ∨ (vs i).ownBlock ≠ row) : Rows3 base nn k vs wr' :=
  ⟨fun i hi => (H.own i hi).imp fun _ h => ⟨h.1, h.2.kept hg (hr i hi)⟩, H.dist⟩
theorem rowIs_grown {w w' : World} {row : Option Nat} {X t nn : Nat} {vs : Nat → Value} (h : w.rowIs X t nn vs) (hg : w.grownBy w' row) (hr : some X ≠ row) : w'.rowIs X t nn vs := h.of_block (hg.block X h.lt hr)
theorem NxInv.grown {g B X nn k : Nat} {n h : Int} {nv cv ev : Value} {el : List (Int × Int)} {vs : Nat → Value} {w0 wr wr' : World} (H : NxInv g B X nn k n h nv cv ev el vs w0 wr) (hg : wr.grownBy wr' none) : NxInv g B X nn k n h nv cv ev el vs w0 wr' :=
  ⟨blk_grown H.blk hg (by simp), H.owe.kept hg (by cases hv : ev.ownBlock <;> simp), rowIs_grown H.row hg (by simp), H.rows.kept hg (fun i _ => by cases hv : (vs i).ownBlock <;> simp), H.bel.grown hg H.bel.size (by simp), H.hg, H.hX⟩
theorem NxInv.alloc {g B X nn k : Nat} {n h : Int} {nv cv ev : Value} {el : List (Int × Int)} {vs : Nat → Value} {w0 wr : World} (H : NxInv g B X nn k n h nv cv ev el vs w0 wr) (o : Obj) : NxInv g B X nn k n h nv cv ev el vs w0 (wr.alloc o) := H.grown (gbA (gbR _ _) o)
theorem NxInv.drew {g B X nn k : Nat} {n h : Int} {nv cv ev : Value} {el : List (Int × Int)} {vs : Nat → Value} {w0 wr : World} (H : NxInv g B X nn k n h nv cv ev el vs w0 wr) : NxInv g B X nn k n h nv cv ev el vs w0 wr.drew := H.grown (gbD (gbR _ _))
theorem rowIs_blk {w : World} {X t nn : Nat} {vs : Nat → Value} (h : w.rowIs X t nn vs) : ∃ c, w.heap[X]? = some (.cells c t (0, 0)) := h.imp fun _ h => h.1
/-- A round that adds to a row. -/
theorem NxInv.step {g B X nn k i : Nat} {n h : Int} {nv cv ev : Value} {el : List (Int × Int)} {vs : Nat → Value} {w0 W4 W5 : World} {o : Obj} {gg cap : Nat} {zs : List Int} {z : Int}
    (H : NxInv g B X nn k n h nv cv ev el vs w0 W4) (hi : i < nn) (hz : zs.length ≤ k) (hzo : W4.ownsRow w0.heap.size 3 1 (vs i) zs.length (zs.map (Value.int .i64)))
    (hown : W5.ownsRow w0.heap.size 3 1 (.slice (some ⟨gg, 0, none⟩) (zs.length + 1) cap) (zs.length + 1) (zs.map (Value.int .i64) ++ [.int .i64 z]))
    (hgr : (W4.alloc o).drew.grownBy W5 (vs i).ownBlock) (hat : (vs i).ownBlock = some gg ∨ gg = W4.heap.size + 1) :
    NxInv g B X nn (k + 1) n h nv cv ev el (fun j => if j = i then .slice (some ⟨gg, 0, none⟩) (zs.length + 1) cap else vs j) w0 (W5.setCell ⟨X, i, none⟩ (.slice (some ⟨gg, 0, none⟩) (zs.length + 1) cap)) := by
  have H1 := (H.alloc o).drew
  have hgb : W5.grownBy (W5.setCell ⟨X, i, none⟩ (.slice (some ⟨gg, 0, none⟩) (zs.length + 1) cap)) (some X) := gbS (gbR _ _) (.inr rfl) _
  obtain ⟨cX, hX⟩ := rowIs_blk H.row
  have hXo : some X ≠ (vs i).ownBlock := fun e => own_ne_blk hzo hX (by decide) e.symm
  have hb5 := blk_grown H1.blk hgr (fun e => own_ne_blk hzo H.blk (by decide) e.symm)
  have hr5 := rowIs_grown H1.row hgr hXo
  obtain ⟨cX5, hX5⟩ := rowIs_blk hr5
  have hgX : ¬ (g = X) := fun e => by subst e; rw [H.blk] at hX; cases hX
  have hdis : ∀ j, j < nn → j ≠ i → (vs j).ownBlock = none ∨ (vs j).ownBlock ≠ (vs i).ownBlock := fun j hj hji => by
    cases hv : (vs j).ownBlock with
    | none => exact .inl rfl
    | some b => exact .inr (fun e => H.rows.dist j i hj hi hji b hv e.symm)
  refine ⟨blk_grown hb5 hgb (fun e => hgX (Option.some.inj e)), ?_, (hr5.set i _).congr (fun j _ => rfl), ⟨?_, ?_⟩, ?_, H.hg, H.hX⟩
  · have h5 := H1.owe.kept hgr (own_ne_own H.owe hzo (by decide))
    exact h5.kept hgb (.inr (own_ne_blk h5 hX5 (by decide)))
  · intro j hj
    by_cases e : j = i
    · subst e
      refine ⟨zs ++ [z], by simp; omega, ?_⟩
      simp only [if_true, List.length_append, List.length_singleton, List.map_append, List.map_cons, List.map_nil]
      exact hown.kept hgb (.inr (own_ne_blk hown hX5 (by decide)))
    · obtain ⟨ys, hy, ho⟩ := H1.rows.own j hj
      refine ⟨ys, by omega, ?_⟩
      simp only [if_neg e]
      have h5 := ho.kept hgr (hdis j hj e)
      exact h5.kept hgb (.inr (own_ne_blk h5 hX5 (by decide)))
  · intro a b ha hb hab c
    have lt : ∀ j, j < nn → (vs j).ownBlock ≠ some (W4.heap.size + 1) := fun j hj e => by
      obtain ⟨ys, _, ho⟩ := H.rows.own j hj
      have := (ho.lt _ e).2
      omega
    have key : ∀ j, j < nn → j ≠ i → (vs j).ownBlock ≠ some gg := fun j hj hji e => by
      rcases hat with h' | h'
      · exact H.rows.dist i j hi hj (fun e => hji e.symm) gg h' e
      · exact lt j hj (by rw [e, h'])
    by_cases e1 : a = i
    · subst e1
      simp only [if_true, if_neg (fun e => hab e.symm : ¬ b = a)]
      intro hc
      have : gg = c := Option.some.inj hc
      subst this
      exact key b hb (fun e => hab e.symm)
    · by_cases e2 : b = i
      · subst e2
        simp only [if_true, if_neg hab]
        intro hc e
        have : gg = c := Option.some.inj e
        subst this
        exact key a ha hab hc
      · simp only [if_neg e1, if_neg e2]
        exact H.rows.dist a b ha hb hab c
  · refine Below.setCell ?_ H.hX _
    exact (below_drew (below_alloc H.bel o)).grown hgr (by have := H.bel.size; simp; omega) (fun c e => (hzo.lt c e).1)
/-- A row sorted in its place. -/
theorem NxInv.sorted {g B X nn k i : Nat} {n h : Int} {nv cv ev : Value} {el : List (Int × Int)} {vs : Nat → Value} {w0 W4 W5 : World} {zs ys : List Int}
    (H : NxInv g B X nn k n h nv cv ev el vs w0 W4) (hi : i < nn) (hl : ys.length = zs.length) (hz : zs.length ≤ k) (hzo : W4.ownsRow w0.heap.size 3 1 (vs i) zs.length (zs.map (Value.int .i64)))
    (hown : W5.ownsRow w0.heap.size 3 1 (vs i) ys.length (ys.map (Value.int .i64))) (hgr : W4.grownBy W5 (vs i).ownBlock) : NxInv g B X nn k n h nv cv ev el vs w0 W5 := by
  obtain ⟨cX, hX⟩ := rowIs_blk H.row
  have hXo : some X ≠ (vs i).ownBlock := fun e => own_ne_blk hzo hX (by decide) e.symm
  refine ⟨blk_grown H.blk hgr (fun e => own_ne_blk hzo H.blk (by decide) e.symm), H.owe.kept hgr (own_ne_own H.owe hzo (by decide)), rowIs_grown H.row hgr hXo, ⟨fun j hj => ?_, H.rows.dist⟩, H.bel.grown hgr H.bel.size (fun c e => (hzo.lt c e).1), H.hg, H.hX⟩
  by_cases e : j = i
  · subst e
    exact ⟨ys, by omega, hown⟩
  · obtain ⟨xs, hx, ho⟩ := H.rows.own j hj
    refine ⟨xs, hx, ho.kept hgr ?_⟩
    cases hv : (vs j).ownBlock with
    | none => exact .inl rfl
    | some b => exact .inr (fun e' => H.rows.dist j i hj hi e b hv e'.symm)
theorem owe_cells {w : World} {base : Nat} {v : Value} {cl : List (Int × Int)} (ho : w.ownsRow base 69 2 v cl.length (cl.flatMap encE)) (hne : cl ≠ []) : ∃ gg cp, v = .slice (some ⟨gg, 0, none⟩) cl.length cp ∧ base ≤ gg ∧ gg < w.heap.size ∧ cl.length ≤ cp ∧ ∀ i (hi : i < cl.length), w.cell? ⟨gg, i * 2, none⟩ = some (.int .i64 (cl[i]).1) ∧ w.cell? ⟨gg, i * 2 + 1, none⟩ = some (.int .i64 (cl[i]).2) := by
  rcases ho.2 with ⟨e0, h0⟩ | ⟨g, cap, cur, rfl, hb, hg, hn, hm, hs, ht⟩
  · exact absurd (List.length_eq_zero_iff.1 h0) hne
  · have e1 : (Sort.flatK encE 2 cl.toArray).toList = cl.flatMap encE := flatK_toList encE 2 (fun _ => rfl) (by decide) _
    have hH : Sort.HoldsK encE 2 w g 0 cl.toArray := holds_blk id hg _ (by rw [Sort.size_flatK, List.map_id, e1]; simpa using ht)
    refine ⟨g, cap, rfl, hb, blk_lt hg, hn, fun i hi => ?_⟩
    have hd : cl.toArray[i]! = cl[i] := by rw [getElem!_pos cl.toArray i (by simpa using hi)]; simp
    have c0 := (hH.cell (show i < cl.toArray.size by simpa using hi) (show 0 < 2 by decide)).1
    have c1 := (hH.cell (show i < cl.toArray.size by simpa using hi) (show 1 < 2 by decide)).1
    rw [hd, Nat.zero_add] at c0 c1
    exact ⟨c0, c1⟩
theorem owe_cell {w : World} {base g cp : Nat} {cl : List (Int × Int)} (ho : w.ownsRow base 69 2 (.slice (some ⟨g, 0, none⟩) cl.length cp) cl.length (cl.flatMap encE)) {i : Nat} (hi : i < cl.length) : w.cell? ⟨g, i * 2, none⟩ = some (.int .i64 (cl[i]).1) ∧ w.cell? ⟨g, i * 2 + 1, none⟩ = some (.int .i64 (cl[i]).2) := by
  obtain ⟨gg, cp', e, _, _, _, hc⟩ := owe_cells ho (fun e => by subst e; simp at hi)
  injection e with e1
  injection e1 with e1
  injection e1 with e1
  subst e1
  exact hc i hi
theorem sort_row (base : Nat) (v : Value) (zs : List Int) (w : World) (hl : zs.length ≤ 1000000) (ho : w.ownsRow base 3 1 v zs.length (zs.map (Value.int .i64))) :
    Calls Tryd.prog 60 #[v] w fun e w' => e = .returned (.tuple #[]) ∧ ∃ ys : List Int, ys.length = zs.length ∧ w'.ownsRow base 3 1 v ys.length (ys.map (Value.int .i64)) ∧ w.grownBy w' v.ownBlock := by
  rcases ho.2 with ⟨rfl, h0⟩ | ⟨g, cap, cur, rfl, hb, hg, hn, hm, hs, ht⟩
  · have hcon := AnyM.slices_Sort_int_none Tryd.sortInts none 0 w
    change Calls Tryd.prog 60 _ _ _ at hcon
    refine hcon.mono ?_
    rintro e w' ⟨rfl, rfl⟩
    exact ⟨rfl, zs, rfl, ho, gbR _ _⟩
  · rw [Nat.mul_one] at ht
    refine (sort_ints g cap 3 zs cur w hg ht hl).mono ?_
    rintro e w' ⟨rfl, hb', hg'⟩
    have hlen : (zs.mergeSort fun x y => decide (x ≤ y)).length = zs.length := List.length_mergeSort _
    refine ⟨rfl, zs.mergeSort fun x y => decide (x ≤ y), hlen, ⟨by simp, .inr ⟨g, cap, _, by rw [hlen], hb, hb', by rw [hlen]; exact hn, hm, ?_, ?_⟩⟩, hg'⟩
    · simp only [List.size_toArray, List.length_append, List.length_map, hlen, List.length_drop, Array.length_toList]; omega
    · rw [Nat.mul_one, List.take_left' (by simp)]
theorem compact_len (es : List (Int × Int)) : (Lib.compact es).length ≤ es.length := by
  have := List.length_filter_le (Lib.keeps es.toArray) (List.range es.length)
  simp only [List.length_range] at this
  simpa [Lib.compact, Lib.compactUpTo] using this
end Go.Proofs.YtdagdoiedibpgaaDoor.Prt
