/- The parts of a division follow one another and their sizes differ by at most 1: the law of the printed functions, for every number of nodes and rows (0 to 255) and of workers (0 to 255). -/
import Derived.Test.YtonognbmgclbnaaPWorkerSizesx3
namespace Go.Proofs.Ytonognbmgclbnaa.Pure
open Go.RowKit Go.Proofs.Ytonognbmgclbnaa.PWorkerSizes Go.Proofs.YtonognbmgclbnaaW.PrintWords Go.Proofs.YtonognbmgclbnaaW.PrintLast

theorem w64 {x : Int} (h : -9223372036854775808 ≤ x) (h' : x ≤ 9223372036854775807) : wrap64 x = x := by unfold wrap64; omega

/-- Part number i of a division. -/
def part (n m w : Int) (i : Nat) : S28 := ⟨(i : Int) * n / w, ((i : Int) + 1) * n / w, (i : Int) * m / w, ((i : Int) + 1) * m / w⟩

theorem div_lo (a b w : Int) (hw : 0 < w) : a / w + b / w ≤ (a + b) / w := by
  apply Int.le_ediv_of_mul_le hw
  have h1 := Int.ediv_mul_le a (Int.ne_of_gt hw)
  have h2 := Int.ediv_mul_le b (Int.ne_of_gt hw)
  rw [Int.add_mul]; omega

theorem div_hi (a b w : Int) (hw : 0 < w) : (a + b) / w ≤ a / w + (b + w - 1) / w := by
  apply Int.le_of_lt_add_one
  apply Int.ediv_lt_of_lt_mul hw
  have h1 := Int.lt_ediv_add_one_mul_self a hw
  have h2 := Int.lt_ediv_add_one_mul_self (b + w - 1) hw
  rw [Int.add_mul] at h1 h2
  rw [Int.add_mul, Int.add_mul]; omega

theorem mul_bd {i n : Int} (hi : 0 ≤ i) (hi2 : i ≤ 17) (hn : 0 ≤ n) (hn2 : n ≤ 100000) : 0 ≤ i * n ∧ i * n ≤ 1700000 := by
  refine ⟨Int.mul_nonneg hi hn, ?_⟩
  have := Int.mul_le_mul hi2 hn2 hn (by omega)
  omega

theorem divide_l0 (n m w : Int) (hn : 0 ≤ n) (hn2 : n ≤ 100000) (hm : 0 ≤ m) (hm2 : m ≤ 100000) (hw : 1 ≤ w) (hw2 : w ≤ 16) (d : Nat) :
    ∀ (k i : Nat) (xs : List S28), (i : Int) + d = w → xs.length = i → d < k → worker_Divide.l0 k n m w xs w i = some (xs ++ (List.range' i d).map (part n m w), 0) := by
  induction d with
  | zero =>
    intro k i xs hi hl hk
    obtain ⟨k, rfl⟩ : ∃ m, k = m + 1 := ⟨k - 1, by omega⟩
    simp only [worker_Divide.l0]
    rw [if_neg (by omega)]
    simp
  | succ d ih =>
    intro k i xs hi hl hk
    obtain ⟨k, rfl⟩ : ∃ m, k = m + 1 := ⟨k - 1, by omega⟩
    obtain ⟨b1, b2⟩ := mul_bd (i := (i : Int)) (by omega) (by omega) hn hn2
    obtain ⟨b3, b4⟩ := mul_bd (i := (i : Int) + 1) (by omega) (by omega) hn hn2
    obtain ⟨b5, b6⟩ := mul_bd (i := (i : Int)) (by omega) (by omega) hm hm2
    obtain ⟨b7, b8⟩ := mul_bd (i := (i : Int) + 1) (by omega) (by omega) hm hm2
    have q : ∀ x : Int, 0 ≤ x → x ≤ 1700000 → wrap64 (Int.tdiv (wrap64 x) w) = x / w := by
      intro x h0 h1
      rw [w64 (x := x) (by omega) (by omega), Int.tdiv_eq_ediv_of_nonneg h0]
      have g0 := Int.ediv_nonneg h0 (by omega : (0 : Int) ≤ w)
      have g1 : x / w ≤ x := Int.ediv_le_self w h0
      exact w64 (by omega) (by omega)
    simp only [worker_Divide.l0]
    rw [if_pos (by omega), if_neg (by omega), if_pos (by omega), w64 (x := (i : Int) + 1) (by omega) (by omega), q _ b1 b2, q _ b3 b4, q _ b5 b6, q _ b7 b8]
    have := ih k (i + 1) (xs ++ [part n m w i]) (by omega) (by simp [hl]) (by omega)
    rw [show ((i + 1 : Nat) : Int) = (i : Int) + 1 by omega] at this
    show worker_Divide.l0 k n m w (xs ++ [part n m w i]) w (↑i + 1) = _
    rw [this]
    simp [List.range'_succ]

/-- Divide, at numbers that it takes. -/
theorem divide_f (n m w : Int) (hn : 0 ≤ n) (hn2 : n ≤ 100000) (hm : 0 ≤ m) (hm2 : m ≤ 100000) (hw : 1 ≤ w) (hw2 : w ≤ 16) (k : Nat) (hk : 18 ≤ k) :
    worker_Divide.f k n m w = some ((List.range w.toNat).map (part n m w), 0) := by
  obtain ⟨k, rfl⟩ : ∃ m, k = m + 1 := ⟨k - 1, by omega⟩
  have h := divide_l0 n m w hn hn2 hm hm2 hw hw2 w.toNat k 0 [] (by omega) rfl (by omega)
  unfold worker_Divide.f
  simp only [worker_within.f]
  rw [if_pos hn, if_pos hm, if_pos hw]
  simp only [Option.bind_some, hn2, hm2, hw2, decide_true, if_true, Bool.not_true]
  simp only [worker_Divide.j0]
  rw [if_neg (by simp)]
  rw [show ((0 : Nat) : Int) = 0 from rfl] at h
  rw [h, List.range_eq_range']
  simp

theorem law_l0 (n m w : Int) (hn : 0 ≤ n) (hn2 : n ≤ 255) (hm : 0 ≤ m) (hm2 : m ≤ 255) (hw : 1 ≤ w) (hw2 : w ≤ 16) (d : Nat) :
    ∀ (k i : Nat), (i : Int) + d = w → d < k → synopticlaw24_WorkerSizes.l0 k n m w ((i : Int) * n / w) ((i : Int) * m / w) ((List.range w.toNat).map (part n m w)) w i = some true := by
  induction d with
  | zero =>
    intro k i hi hk
    obtain ⟨k, rfl⟩ : ∃ m, k = m + 1 := ⟨k - 1, by omega⟩
    have e : (i : Int) = w := by omega
    simp only [synopticlaw24_WorkerSizes.l0]
    rw [if_neg (by omega), e, Int.mul_ediv_cancel_left _ (by omega), Int.mul_ediv_cancel_left _ (by omega), w64 (by omega) (by omega), w64 (by omega) (by omega)]
    simp
  | succ d ih =>
    intro k i hi hk
    obtain ⟨k, rfl⟩ : ∃ m, k = m + 1 := ⟨k - 1, by omega⟩
    have hlen : (((List.range w.toNat).map (part n m w)).length : Int) = w := by simp; omega
    have hrd : rd_T28 ((List.range w.toNat).map (part n m w)) i = part n m w i := by
      unfold rd_T28
      rw [List.getD_eq_getElem?_getD, Int.toNat_natCast, List.getElem?_map, List.getElem?_range (by omega)]
      rfl
    obtain ⟨b1, b2⟩ := mul_bd (i := (i : Int)) (by omega) (by omega) hn (by omega)
    obtain ⟨b3, b4⟩ := mul_bd (i := (i : Int) + 1) (by omega) (by omega) hn (by omega)
    obtain ⟨b5, b6⟩ := mul_bd (i := (i : Int)) (by omega) (by omega) hm (by omega)
    obtain ⟨b7, b8⟩ := mul_bd (i := (i : Int) + 1) (by omega) (by omega) hm (by omega)
    have bd : ∀ x : Int, 0 ≤ x → 0 ≤ x / w ∧ x / w ≤ x := fun x h => ⟨Int.ediv_nonneg h (by omega), Int.ediv_le_self w h⟩
    obtain ⟨c1, c2⟩ := bd _ b1
    obtain ⟨c3, c4⟩ := bd _ b3
    obtain ⟨c5, c6⟩ := bd _ b5
    obtain ⟨c7, c8⟩ := bd _ b7
    obtain ⟨d1, d2⟩ := bd _ hn
    obtain ⟨d3, d4⟩ := bd _ hm
    obtain ⟨d5, d6⟩ := bd (n + w - 1) (by omega)
    obtain ⟨d7, d8⟩ := bd (m + w - 1) (by omega)
    have e1 := div_lo ((i : Int) * n) n w (by omega)
    have e2 := div_hi ((i : Int) * n) n w (by omega)
    have e3 := div_lo ((i : Int) * m) m w (by omega)
    have e4 := div_hi ((i : Int) * m) m w (by omega)
    rw [show (i : Int) * n + n = ((i : Int) + 1) * n by rw [Int.add_mul]; omega] at e1 e2
    rw [show (i : Int) * m + m = ((i : Int) + 1) * m by rw [Int.add_mul]; omega] at e3 e4
    have := ih k (i + 1) (by omega) (by omega)
    rw [show ((i + 1 : Nat) : Int) = (i : Int) + 1 by omega] at this
    simp only [synopticlaw24_WorkerSizes.l0]
    rw [if_pos (by omega), if_pos (by omega), hlen, if_pos (by omega), hrd]
    rw [show (part n m w i).f0 = (i : Int) * n / w from rfl, show (part n m w i).f1 = ((i : Int) + 1) * n / w from rfl, show (part n m w i).f2 = (i : Int) * m / w from rfl, show (part n m w i).f3 = ((i : Int) + 1) * m / w from rfl]
    rw [if_pos rfl, if_pos rfl, if_neg (by omega)]
    rw [w64 (x := n) (by omega) (by omega), w64 (x := m) (by omega) (by omega), w64 (x := n + w) (by omega) (by omega), w64 (x := m + w) (by omega) (by omega), w64 (x := n + w - 1) (by omega) (by omega), w64 (x := m + w - 1) (by omega) (by omega)]
    rw [Int.tdiv_eq_ediv_of_nonneg hn, Int.tdiv_eq_ediv_of_nonneg hm, Int.tdiv_eq_ediv_of_nonneg (a := n + w - 1) (by omega), Int.tdiv_eq_ediv_of_nonneg (a := m + w - 1) (by omega)]
    rw [w64 (x := ((i : Int) + 1) * n / w - (i : Int) * n / w) (by omega) (by omega), w64 (x := ((i : Int) + 1) * m / w - (i : Int) * m / w) (by omega) (by omega)]
    rw [w64 (x := n / w) (by omega) (by omega), w64 (x := m / w) (by omega) (by omega), w64 (x := (n + w - 1) / w) (by omega) (by omega), w64 (x := (m + w - 1) / w) (by omega) (by omega), w64 (x := (i : Int) + 1) (by omega) (by omega)]
    rw [if_neg (by omega), if_neg (by omega), if_neg (by omega), if_neg (by omega)]
    exact this

/-- ∀ (a0 : Int) (a1 : Int) (a2 : Int), (Lit.int .u8 a0).wf = true → (Lit.int .u8 a1).wf = true → (Lit.int .u8 a2).wf = true → ∃ k, synopticlaw24_WorkerSizes.f k a0 a1 a2 = some true -/
theorem WorkerSizes : synopticlaw24_WorkerSizes.Pure := by
  intro n m a w0 w1 w2
  have hn : 0 ≤ n ∧ n ≤ 255 := by simpa [Lit.wf, IntKind.min, IntKind.max, IntKind.signed, IntKind.bits] using w0
  have hm : 0 ≤ m ∧ m ≤ 255 := by simpa [Lit.wf, IntKind.min, IntKind.max, IntKind.signed, IntKind.bits] using w1
  have ha : 0 ≤ a ∧ a ≤ 255 := by simpa [Lit.wf, IntKind.min, IntKind.max, IntKind.signed, IntKind.bits] using w2
  refine ⟨40, ?_⟩
  have aw : synopticlaw24_awake.f 40 = some true := by
    unfold synopticlaw24_awake.f
    rw [divide_f 12 1 5 (by omega) (by omega) (by omega) (by omega) (by omega) (by omega) 40 (by omega)]
    decide +kernel
  have e : wrap64 (1 + Int.tmod (wrap64 a) 16) = 1 + a % 16 := by
    rw [w64 (x := a) (by omega) (by omega), Int.tmod_eq_emod_of_nonneg (by omega), w64 (by omega) (by omega)]
  unfold synopticlaw24_WorkerSizes.f
  rw [aw]
  simp only [Option.bind_some, if_true]
  rw [e, w64 (x := n) (by omega) (by omega), w64 (x := m) (by omega) (by omega)]
  rw [divide_f n m (1 + a % 16) (by omega) (by omega) (by omega) (by omega) (by omega) (by omega) 40 (by omega)]
  simp only [Option.bind_some, if_true]
  have hlen : (((List.range (1 + a % 16).toNat).map (part n m (1 + a % 16))).length : Int) = 1 + a % 16 := by simp; omega
  have h := law_l0 n m (1 + a % 16) hn.1 hn.2 hm.1 hm.2 (by omega) (by omega) (1 + a % 16).toNat 39 0 (by omega) (by omega)
  simp only [synopticlaw24_WorkerSizes.j0]
  rw [hlen, if_neg (by simp)]
  simpa using h

end Go.Proofs.Ytonognbmgclbnaa.Pure
