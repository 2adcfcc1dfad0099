import Derived.Test.YtmkgaihppohkkaaTLaw
import Derived.Shelf.Abstract
namespace Go.Proofs.Ytmkgaihppohkkaa.PT
open Go.RowKit Go.Shelf Go.Proofs.YtmkgaihppohkkaaW.PrintWords Go.Proofs.YtmkgaihppohkkaaW.PrintLast Go.Proofs.YtmkgaihppohkkaaW.PrintMore
attribute [local go_sem] max2_int min2_int max_two min_two max_three min_three max_four min_four
set_option linter.unusedVariables false
set_option linter.unusedSimpArgs false
theorem IsInts.lit4 {W : World} {b : Nat} {x0 x1 x2 x3 : Int} (hb : W.heap[b]? = some (.cells #[.int .i64 x0, .int .i64 x1, .int .i64 x2, .int .i64 x3] 3 (0, 0))) : IsInts W (.slice (some ⟨b, 0, none⟩) 4 4) [x0, x1, x2, x3] := by
  refine ⟨_, 4, rfl, Nat.le_refl _, rfl, by simp, fun _ => ⟨_, rfl, ?_⟩⟩
  intro j p hj
  refine ⟨[.int .i64 p], rfl, rfl, ?_⟩
  intro i u hi
  obtain ⟨rfl, rfl⟩ : i = 0 ∧ u = .int .i64 p := by
    cases i with
    | zero => simpa using hi.symm
    | succ i => simp at hi
  rw [Addr.add_lit, blk_cell hb]
  simp only [show (Kd.int .i64).sz = 1 from rfl, Nat.mul_one, Nat.add_zero, Nat.zero_add]
  match j, hj with
  | 0, hj => simp at hj; subst hj; rfl
  | 1, hj => simp at hj; subst hj; rfl
  | 2, hj => simp at hj; subst hj; rfl
  | 3, hj => simp at hj; subst hj; rfl
  | j + 4, hj => simp at hj
theorem bound0 (n : Int) : Right ⟨n, 2, 4, 4, 2, 3, [(-1), 0, 1, 0], [20, 10, 8, 5]⟩ ↔ (1 ≤ n ∧ n ≤ 8) := by
  have hall : (∀ i, i < 4 → NodeOk ⟨n, 2, 4, 4, 2, 3, [(-1), 0, 1, 0], [20, 10, 8, 5]⟩ i) ↔ (NodeOk ⟨n, 2, 4, 4, 2, 3, [(-1), 0, 1, 0], [20, 10, 8, 5]⟩ 0 ∧ NodeOk ⟨n, 2, 4, 4, 2, 3, [(-1), 0, 1, 0], [20, 10, 8, 5]⟩ 1 ∧ NodeOk ⟨n, 2, 4, 4, 2, 3, [(-1), 0, 1, 0], [20, 10, 8, 5]⟩ 2 ∧ NodeOk ⟨n, 2, 4, 4, 2, 3, [(-1), 0, 1, 0], [20, 10, 8, 5]⟩ 3) :=
    ⟨fun h => ⟨h 0 (by omega), h 1 (by omega), h 2 (by omega), h 3 (by omega)⟩, fun ⟨h0, h1, h2, h3⟩ i hi => by
      match i, hi with
      | 0, _ => exact h0
      | 1, _ => exact h1
      | 2, _ => exact h2
      | 3, _ => exact h3⟩
  unfold Right HeadOk
  show (_ ∧ ∀ i, i < 4 → _) ↔ _
  rw [hall]
  simp [NodeOk, rd]
  try omega
theorem bound1 (n : Int) : Right ⟨2, n, 4, 4, 2, 3, [(-1), 0, 1, 0], [20, 10, 8, 5]⟩ ↔ (n = 1 ∨ n = 2 ∨ n = 4 ∨ n = 8) := by
  have hall : (∀ i, i < 4 → NodeOk ⟨2, n, 4, 4, 2, 3, [(-1), 0, 1, 0], [20, 10, 8, 5]⟩ i) ↔ (NodeOk ⟨2, n, 4, 4, 2, 3, [(-1), 0, 1, 0], [20, 10, 8, 5]⟩ 0 ∧ NodeOk ⟨2, n, 4, 4, 2, 3, [(-1), 0, 1, 0], [20, 10, 8, 5]⟩ 1 ∧ NodeOk ⟨2, n, 4, 4, 2, 3, [(-1), 0, 1, 0], [20, 10, 8, 5]⟩ 2 ∧ NodeOk ⟨2, n, 4, 4, 2, 3, [(-1), 0, 1, 0], [20, 10, 8, 5]⟩ 3) :=
    ⟨fun h => ⟨h 0 (by omega), h 1 (by omega), h 2 (by omega), h 3 (by omega)⟩, fun ⟨h0, h1, h2, h3⟩ i hi => by
      match i, hi with
      | 0, _ => exact h0
      | 1, _ => exact h1
      | 2, _ => exact h2
      | 3, _ => exact h3⟩
  unfold Right HeadOk
  show (_ ∧ ∀ i, i < 4 → _) ↔ _
  rw [hall]
  simp [NodeOk, rd]
  try omega
theorem bound2 (n : Int) : Right ⟨2, 2, n, 4, 2, 3, [(-1), 0, 1, 0], [20, 10, 8, 5]⟩ ↔ (1 ≤ n ∧ n ≤ 1048576) := by
  have hall : (∀ i, i < 4 → NodeOk ⟨2, 2, n, 4, 2, 3, [(-1), 0, 1, 0], [20, 10, 8, 5]⟩ i) ↔ (NodeOk ⟨2, 2, n, 4, 2, 3, [(-1), 0, 1, 0], [20, 10, 8, 5]⟩ 0 ∧ NodeOk ⟨2, 2, n, 4, 2, 3, [(-1), 0, 1, 0], [20, 10, 8, 5]⟩ 1 ∧ NodeOk ⟨2, 2, n, 4, 2, 3, [(-1), 0, 1, 0], [20, 10, 8, 5]⟩ 2 ∧ NodeOk ⟨2, 2, n, 4, 2, 3, [(-1), 0, 1, 0], [20, 10, 8, 5]⟩ 3) :=
    ⟨fun h => ⟨h 0 (by omega), h 1 (by omega), h 2 (by omega), h 3 (by omega)⟩, fun ⟨h0, h1, h2, h3⟩ i hi => by
      match i, hi with
      | 0, _ => exact h0
      | 1, _ => exact h1
      | 2, _ => exact h2
      | 3, _ => exact h3⟩
  unfold Right HeadOk
  show (_ ∧ ∀ i, i < 4 → _) ↔ _
  rw [hall]
  simp [NodeOk, rd]
  try omega
theorem bound3 (n : Int) : Right ⟨2, 2, 4, n, 2, 3, [(-1), 0, 1, 0], [20, 10, 8, 5]⟩ ↔ (0 ≤ n ∧ n ≤ 1048576) := by
  have hall : (∀ i, i < 4 → NodeOk ⟨2, 2, 4, n, 2, 3, [(-1), 0, 1, 0], [20, 10, 8, 5]⟩ i) ↔ (NodeOk ⟨2, 2, 4, n, 2, 3, [(-1), 0, 1, 0], [20, 10, 8, 5]⟩ 0 ∧ NodeOk ⟨2, 2, 4, n, 2, 3, [(-1), 0, 1, 0], [20, 10, 8, 5]⟩ 1 ∧ NodeOk ⟨2, 2, 4, n, 2, 3, [(-1), 0, 1, 0], [20, 10, 8, 5]⟩ 2 ∧ NodeOk ⟨2, 2, 4, n, 2, 3, [(-1), 0, 1, 0], [20, 10, 8, 5]⟩ 3) :=
    ⟨fun h => ⟨h 0 (by omega), h 1 (by omega), h 2 (by omega), h 3 (by omega)⟩, fun ⟨h0, h1, h2, h3⟩ i hi => by
      match i, hi with
      | 0, _ => exact h0
      | 1, _ => exact h1
      | 2, _ => exact h2
      | 3, _ => exact h3⟩
  unfold Right HeadOk
  show (_ ∧ ∀ i, i < 4 → _) ↔ _
  rw [hall]
  simp [NodeOk, rd]
  try omega
theorem bound4 (n : Int) : Right ⟨2, 2, 4, 4, n, 3, [(-1), 0, 1, 0], [20, 10, 8, 5]⟩ ↔ (1 ≤ n ∧ n ≤ 8) := by
  have hall : (∀ i, i < 4 → NodeOk ⟨2, 2, 4, 4, n, 3, [(-1), 0, 1, 0], [20, 10, 8, 5]⟩ i) ↔ (NodeOk ⟨2, 2, 4, 4, n, 3, [(-1), 0, 1, 0], [20, 10, 8, 5]⟩ 0 ∧ NodeOk ⟨2, 2, 4, 4, n, 3, [(-1), 0, 1, 0], [20, 10, 8, 5]⟩ 1 ∧ NodeOk ⟨2, 2, 4, 4, n, 3, [(-1), 0, 1, 0], [20, 10, 8, 5]⟩ 2 ∧ NodeOk ⟨2, 2, 4, 4, n, 3, [(-1), 0, 1, 0], [20, 10, 8, 5]⟩ 3) :=
    ⟨fun h => ⟨h 0 (by omega), h 1 (by omega), h 2 (by omega), h 3 (by omega)⟩, fun ⟨h0, h1, h2, h3⟩ i hi => by
      match i, hi with
      | 0, _ => exact h0
      | 1, _ => exact h1
      | 2, _ => exact h2
      | 3, _ => exact h3⟩
  unfold Right HeadOk
  show (_ ∧ ∀ i, i < 4 → _) ↔ _
  rw [hall]
  simp [NodeOk, rd]
  try omega
theorem bound5 (n : Int) : Right ⟨2, 2, 4, 4, 2, n, [(-1), 0, 1, 0], [20, 10, 8, 5]⟩ ↔ (1 ≤ n ∧ n ≤ 16) := by
  have hall : (∀ i, i < 4 → NodeOk ⟨2, 2, 4, 4, 2, n, [(-1), 0, 1, 0], [20, 10, 8, 5]⟩ i) ↔ (NodeOk ⟨2, 2, 4, 4, 2, n, [(-1), 0, 1, 0], [20, 10, 8, 5]⟩ 0 ∧ NodeOk ⟨2, 2, 4, 4, 2, n, [(-1), 0, 1, 0], [20, 10, 8, 5]⟩ 1 ∧ NodeOk ⟨2, 2, 4, 4, 2, n, [(-1), 0, 1, 0], [20, 10, 8, 5]⟩ 2 ∧ NodeOk ⟨2, 2, 4, 4, 2, n, [(-1), 0, 1, 0], [20, 10, 8, 5]⟩ 3) :=
    ⟨fun h => ⟨h 0 (by omega), h 1 (by omega), h 2 (by omega), h 3 (by omega)⟩, fun ⟨h0, h1, h2, h3⟩ i hi => by
      match i, hi with
      | 0, _ => exact h0
      | 1, _ => exact h1
      | 2, _ => exact h2
      | 3, _ => exact h3⟩
  unfold Right HeadOk
  show (_ ∧ ∀ i, i < 4 → _) ↔ _
  rw [hall]
  simp [NodeOk, rd]
  try omega
theorem bound6 (n : Int) : Right ⟨2, 2, 4, 4, 2, 3, [(-1), 0, n, 0], [20, 10, 8, 5]⟩ ↔ (n = 0 ∨ n = 1) := by
  have hall : (∀ i, i < 4 → NodeOk ⟨2, 2, 4, 4, 2, 3, [(-1), 0, n, 0], [20, 10, 8, 5]⟩ i) ↔ (NodeOk ⟨2, 2, 4, 4, 2, 3, [(-1), 0, n, 0], [20, 10, 8, 5]⟩ 0 ∧ NodeOk ⟨2, 2, 4, 4, 2, 3, [(-1), 0, n, 0], [20, 10, 8, 5]⟩ 1 ∧ NodeOk ⟨2, 2, 4, 4, 2, 3, [(-1), 0, n, 0], [20, 10, 8, 5]⟩ 2 ∧ NodeOk ⟨2, 2, 4, 4, 2, 3, [(-1), 0, n, 0], [20, 10, 8, 5]⟩ 3) :=
    ⟨fun h => ⟨h 0 (by omega), h 1 (by omega), h 2 (by omega), h 3 (by omega)⟩, fun ⟨h0, h1, h2, h3⟩ i hi => by
      match i, hi with
      | 0, _ => exact h0
      | 1, _ => exact h1
      | 2, _ => exact h2
      | 3, _ => exact h3⟩
  unfold Right HeadOk
  show (_ ∧ ∀ i, i < 4 → _) ↔ _
  rw [hall]
  simp [NodeOk, rd]
  try omega
theorem bound7 (n : Int) : Right ⟨2, 2, 4, 4, 2, 3, [(-1), 0, 1, 0], [20, 10, 8, n]⟩ ↔ (0 ≤ n ∧ n ≤ 1099511627776) := by
  have hall : (∀ i, i < 4 → NodeOk ⟨2, 2, 4, 4, 2, 3, [(-1), 0, 1, 0], [20, 10, 8, n]⟩ i) ↔ (NodeOk ⟨2, 2, 4, 4, 2, 3, [(-1), 0, 1, 0], [20, 10, 8, n]⟩ 0 ∧ NodeOk ⟨2, 2, 4, 4, 2, 3, [(-1), 0, 1, 0], [20, 10, 8, n]⟩ 1 ∧ NodeOk ⟨2, 2, 4, 4, 2, 3, [(-1), 0, 1, 0], [20, 10, 8, n]⟩ 2 ∧ NodeOk ⟨2, 2, 4, 4, 2, 3, [(-1), 0, 1, 0], [20, 10, 8, n]⟩ 3) :=
    ⟨fun h => ⟨h 0 (by omega), h 1 (by omega), h 2 (by omega), h 3 (by omega)⟩, fun ⟨h0, h1, h2, h3⟩ i hi => by
      match i, hi with
      | 0, _ => exact h0
      | 1, _ => exact h1
      | 2, _ => exact h2
      | 3, _ => exact h3⟩
  unfold Right HeadOk
  show (_ ∧ ∀ i, i < 4 → _) ↔ _
  rw [hall]
  simp [NodeOk, rd]
  try omega
theorem bound8 (n : Int) : Right ⟨2, 2, 4, 4, 2, 3, [n, 0, 1, 0], [20, 10, 8, 5]⟩ ↔ (n = -1) := by
  have hall : (∀ i, i < 4 → NodeOk ⟨2, 2, 4, 4, 2, 3, [n, 0, 1, 0], [20, 10, 8, 5]⟩ i) ↔ (NodeOk ⟨2, 2, 4, 4, 2, 3, [n, 0, 1, 0], [20, 10, 8, 5]⟩ 0 ∧ NodeOk ⟨2, 2, 4, 4, 2, 3, [n, 0, 1, 0], [20, 10, 8, 5]⟩ 1 ∧ NodeOk ⟨2, 2, 4, 4, 2, 3, [n, 0, 1, 0], [20, 10, 8, 5]⟩ 2 ∧ NodeOk ⟨2, 2, 4, 4, 2, 3, [n, 0, 1, 0], [20, 10, 8, 5]⟩ 3) :=
    ⟨fun h => ⟨h 0 (by omega), h 1 (by omega), h 2 (by omega), h 3 (by omega)⟩, fun ⟨h0, h1, h2, h3⟩ i hi => by
      match i, hi with
      | 0, _ => exact h0
      | 1, _ => exact h1
      | 2, _ => exact h2
      | 3, _ => exact h3⟩
  unfold Right HeadOk
  show (_ ∧ ∀ i, i < 4 → _) ↔ _
  rw [hall]
  simp [NodeOk, rd]
  try omega
set_option maxHeartbeats 4000000 in
set_option maxRecDepth 100000 in
theorem bounds_0_lo (x : Int) (n : Int) (h1 : n < 1) (hx : x % 9 = 0) (hx0 : 0 ≤ x) (hx1 : x ≤ 255) (w : World) : Calls Try.prog 7 #[.int .u8 x, .int .i64 n] w fun e w' => e = .returned (.bool true) ∧ Below w.heap.size w w' := by
  have hu := Try.underlying24
  have hd := Aside0.mk (show decide (Right ⟨n, 2, 4, 4, 2, 3, [(-1), 0, 1, 0], [20, 10, 8, 5]⟩) = false from decide_eq_false (fun h => absurd ((bound0 n).1 h) (by omega)))
  have g0 : decide (1 ≤ n) = false := decide_eq_false (by omega)
  go_enter Try.func7, Try.ntmps7
  go_wp2_with (fail)
  refine (K_head _).mono ?_
  rintro e w0 ⟨rfl, hb0⟩
  have HB0 := Aside0.mk hb0
  clear hb0
  go_wp2_with (fail)
  refine (K_base _).mono ?_
  rintro e W1 ⟨v6, v7, rfl, h6, h7, hB1⟩
  obtain ⟨A6, n6, d6, rfl⟩ := h6.slice
  obtain ⟨A7, n7, d7, rfl⟩ := h7.slice
  have HB1 := Aside0.mk (HB0.out.trans (hB1.mono HB0.out.size))
  clear hB1 h6 h7 HB0
  go_wp2_with (fail)
  refine (K_right ⟨n, 2, 4, 4, 2, 3, [(-1), 0, 1, 0], [20, 10, 8, 5]⟩ _ _ _ (IsInts.lit4 ?_) (IsInts.lit4 ?_) (by show 4 ≤ 140737488351232; omega) (by show 4 ≤ 140737488351232; omega)).mono ?_
  rotate_left 2
  · rintro e w' ⟨rfl, hb⟩
    rw [hd.out]
    go_wp2_with (fail)
    go_ret
    exact ⟨rfl, below_step (below_alloc (below_alloc (below_alloc HB1.out _) _) _) hb⟩
  · exact blk_alloc (by simpa using blk_new (W1.alloc _) (.cells #[.int .i64 (-1), .int .i64 0, .int .i64 1, .int .i64 0] 3)) _
  · simpa using blk_new ((W1.alloc _).alloc _) (.cells #[.int .i64 20, .int .i64 10, .int .i64 8, .int .i64 5] 3)
set_option maxHeartbeats 4000000 in
set_option maxRecDepth 100000 in
theorem bounds_0_hi (x : Int) (n : Int) (h1 : 1 ≤ n) (h2 : 8 < n) (hx : x % 9 = 0) (hx0 : 0 ≤ x) (hx1 : x ≤ 255) (w : World) : Calls Try.prog 7 #[.int .u8 x, .int .i64 n] w fun e w' => e = .returned (.bool true) ∧ Below w.heap.size w w' := by
  have hu := Try.underlying24
  have hd := Aside0.mk (show decide (Right ⟨n, 2, 4, 4, 2, 3, [(-1), 0, 1, 0], [20, 10, 8, 5]⟩) = false from decide_eq_false (fun h => absurd ((bound0 n).1 h) (by omega)))
  have g0 : decide (1 ≤ n) = true := decide_eq_true (by omega)
  have g1 : decide (n ≤ 8) = false := decide_eq_false (by omega)
  go_enter Try.func7, Try.ntmps7
  go_wp2_with (fail)
  refine (K_head _).mono ?_
  rintro e w0 ⟨rfl, hb0⟩
  have HB0 := Aside0.mk hb0
  clear hb0
  go_wp2_with (fail)
  refine (K_base _).mono ?_
  rintro e W1 ⟨v6, v7, rfl, h6, h7, hB1⟩
  obtain ⟨A6, n6, d6, rfl⟩ := h6.slice
  obtain ⟨A7, n7, d7, rfl⟩ := h7.slice
  have HB1 := Aside0.mk (HB0.out.trans (hB1.mono HB0.out.size))
  clear hB1 h6 h7 HB0
  go_wp2_with (fail)
  refine (K_right ⟨n, 2, 4, 4, 2, 3, [(-1), 0, 1, 0], [20, 10, 8, 5]⟩ _ _ _ (IsInts.lit4 ?_) (IsInts.lit4 ?_) (by show 4 ≤ 140737488351232; omega) (by show 4 ≤ 140737488351232; omega)).mono ?_
  rotate_left 2
  · rintro e w' ⟨rfl, hb⟩
    rw [hd.out]
    go_wp2_with (fail)
    go_ret
    exact ⟨rfl, below_step (below_alloc (below_alloc (below_alloc HB1.out _) _) _) hb⟩
  · exact blk_alloc (by simpa using blk_new (W1.alloc _) (.cells #[.int .i64 (-1), .int .i64 0, .int .i64 1, .int .i64 0] 3)) _
  · simpa using blk_new ((W1.alloc _).alloc _) (.cells #[.int .i64 20, .int .i64 10, .int .i64 8, .int .i64 5] 3)
set_option maxHeartbeats 4000000 in
set_option maxRecDepth 100000 in
theorem bounds_0_in (x : Int) (n : Int) (h1 : 1 ≤ n) (h2 : n ≤ 8) (hx : x % 9 = 0) (hx0 : 0 ≤ x) (hx1 : x ≤ 255) (w : World) : Calls Try.prog 7 #[.int .u8 x, .int .i64 n] w fun e w' => e = .returned (.bool true) ∧ Below w.heap.size w w' := by
  have hu := Try.underlying24
  have hd := Aside0.mk (show decide (Right ⟨n, 2, 4, 4, 2, 3, [(-1), 0, 1, 0], [20, 10, 8, 5]⟩) = true from decide_eq_true ((bound0 n).2 (by omega)))
  have g0 : decide (1 ≤ n) = true := decide_eq_true (by omega)
  have g1 : decide (n ≤ 8) = true := decide_eq_true (by omega)
  go_enter Try.func7, Try.ntmps7
  go_wp2_with (fail)
  refine (K_head _).mono ?_
  rintro e w0 ⟨rfl, hb0⟩
  have HB0 := Aside0.mk hb0
  clear hb0
  go_wp2_with (fail)
  refine (K_base _).mono ?_
  rintro e W1 ⟨v6, v7, rfl, h6, h7, hB1⟩
  obtain ⟨A6, n6, d6, rfl⟩ := h6.slice
  obtain ⟨A7, n7, d7, rfl⟩ := h7.slice
  have HB1 := Aside0.mk (HB0.out.trans (hB1.mono HB0.out.size))
  clear hB1 h6 h7 HB0
  go_wp2_with (fail)
  refine (K_right ⟨n, 2, 4, 4, 2, 3, [(-1), 0, 1, 0], [20, 10, 8, 5]⟩ _ _ _ (IsInts.lit4 ?_) (IsInts.lit4 ?_) (by show 4 ≤ 140737488351232; omega) (by show 4 ≤ 140737488351232; omega)).mono ?_
  rotate_left 2
  · rintro e w' ⟨rfl, hb⟩
    rw [hd.out]
    go_wp2_with (fail)
    go_ret
    exact ⟨rfl, below_step (below_alloc (below_alloc (below_alloc HB1.out _) _) _) hb⟩
  · exact blk_alloc (by simpa using blk_new (W1.alloc _) (.cells #[.int .i64 (-1), .int .i64 0, .int .i64 1, .int .i64 0] 3)) _
  · simpa using blk_new ((W1.alloc _).alloc _) (.cells #[.int .i64 20, .int .i64 10, .int .i64 8, .int .i64 5] 3)
set_option maxHeartbeats 4000000 in
set_option maxRecDepth 100000 in
theorem bounds_1_e1 (x : Int) (hx : x % 9 = 1) (hx0 : 0 ≤ x) (hx1 : x ≤ 255) (w : World) : Calls Try.prog 7 #[.int .u8 x, .int .i64 1] w fun e w' => e = .returned (.bool true) ∧ Below w.heap.size w w' := by
  have hu := Try.underlying24
  have hd := Aside0.mk (show decide (Right ⟨2, 1, 4, 4, 2, 3, [(-1), 0, 1, 0], [20, 10, 8, 5]⟩) = true from decide_eq_true ((bound1 1).2 (by omega)))
  go_enter Try.func7, Try.ntmps7
  go_wp2_with (fail)
  refine (K_head _).mono ?_
  rintro e w0 ⟨rfl, hb0⟩
  have HB0 := Aside0.mk hb0
  clear hb0
  go_wp2_with (fail)
  refine (K_base _).mono ?_
  rintro e W1 ⟨v6, v7, rfl, h6, h7, hB1⟩
  obtain ⟨A6, n6, d6, rfl⟩ := h6.slice
  obtain ⟨A7, n7, d7, rfl⟩ := h7.slice
  have HB1 := Aside0.mk (HB0.out.trans (hB1.mono HB0.out.size))
  clear hB1 h6 h7 HB0
  go_wp2_with (fail)
  refine (K_right ⟨2, 1, 4, 4, 2, 3, [(-1), 0, 1, 0], [20, 10, 8, 5]⟩ _ _ _ (IsInts.lit4 ?_) (IsInts.lit4 ?_) (by show 4 ≤ 140737488351232; omega) (by show 4 ≤ 140737488351232; omega)).mono ?_
  rotate_left 2
  · rintro e w' ⟨rfl, hb⟩
    rw [hd.out]
    go_wp2_with (fail)
    go_ret
    exact ⟨rfl, below_step (below_alloc (below_alloc (below_alloc HB1.out _) _) _) hb⟩
  · exact blk_alloc (by simpa using blk_new (W1.alloc _) (.cells #[.int .i64 (-1), .int .i64 0, .int .i64 1, .int .i64 0] 3)) _
  · simpa using blk_new ((W1.alloc _).alloc _) (.cells #[.int .i64 20, .int .i64 10, .int .i64 8, .int .i64 5] 3)
set_option maxHeartbeats 4000000 in
set_option maxRecDepth 100000 in
theorem bounds_1_e2 (x : Int) (hx : x % 9 = 1) (hx0 : 0 ≤ x) (hx1 : x ≤ 255) (w : World) : Calls Try.prog 7 #[.int .u8 x, .int .i64 2] w fun e w' => e = .returned (.bool true) ∧ Below w.heap.size w w' := by
  have hu := Try.underlying24
  have hd := Aside0.mk (show decide (Right ⟨2, 2, 4, 4, 2, 3, [(-1), 0, 1, 0], [20, 10, 8, 5]⟩) = true from decide_eq_true ((bound1 2).2 (by omega)))
  go_enter Try.func7, Try.ntmps7
  go_wp2_with (fail)
  refine (K_head _).mono ?_
  rintro e w0 ⟨rfl, hb0⟩
  have HB0 := Aside0.mk hb0
  clear hb0
  go_wp2_with (fail)
  refine (K_base _).mono ?_
  rintro e W1 ⟨v6, v7, rfl, h6, h7, hB1⟩
  obtain ⟨A6, n6, d6, rfl⟩ := h6.slice
  obtain ⟨A7, n7, d7, rfl⟩ := h7.slice
  have HB1 := Aside0.mk (HB0.out.trans (hB1.mono HB0.out.size))
  clear hB1 h6 h7 HB0
  go_wp2_with (fail)
  refine (K_right ⟨2, 2, 4, 4, 2, 3, [(-1), 0, 1, 0], [20, 10, 8, 5]⟩ _ _ _ (IsInts.lit4 ?_) (IsInts.lit4 ?_) (by show 4 ≤ 140737488351232; omega) (by show 4 ≤ 140737488351232; omega)).mono ?_
  rotate_left 2
  · rintro e w' ⟨rfl, hb⟩
    rw [hd.out]
    go_wp2_with (fail)
    go_ret
    exact ⟨rfl, below_step (below_alloc (below_alloc (below_alloc HB1.out _) _) _) hb⟩
  · exact blk_alloc (by simpa using blk_new (W1.alloc _) (.cells #[.int .i64 (-1), .int .i64 0, .int .i64 1, .int .i64 0] 3)) _
  · simpa using blk_new ((W1.alloc _).alloc _) (.cells #[.int .i64 20, .int .i64 10, .int .i64 8, .int .i64 5] 3)
set_option maxHeartbeats 4000000 in
set_option maxRecDepth 100000 in
theorem bounds_1_e4 (x : Int) (hx : x % 9 = 1) (hx0 : 0 ≤ x) (hx1 : x ≤ 255) (w : World) : Calls Try.prog 7 #[.int .u8 x, .int .i64 4] w fun e w' => e = .returned (.bool true) ∧ Below w.heap.size w w' := by
  have hu := Try.underlying24
  have hd := Aside0.mk (show decide (Right ⟨2, 4, 4, 4, 2, 3, [(-1), 0, 1, 0], [20, 10, 8, 5]⟩) = true from decide_eq_true ((bound1 4).2 (by omega)))
  go_enter Try.func7, Try.ntmps7
  go_wp2_with (fail)
  refine (K_head _).mono ?_
  rintro e w0 ⟨rfl, hb0⟩
  have HB0 := Aside0.mk hb0
  clear hb0
  go_wp2_with (fail)
  refine (K_base _).mono ?_
  rintro e W1 ⟨v6, v7, rfl, h6, h7, hB1⟩
  obtain ⟨A6, n6, d6, rfl⟩ := h6.slice
  obtain ⟨A7, n7, d7, rfl⟩ := h7.slice
  have HB1 := Aside0.mk (HB0.out.trans (hB1.mono HB0.out.size))
  clear hB1 h6 h7 HB0
  go_wp2_with (fail)
  refine (K_right ⟨2, 4, 4, 4, 2, 3, [(-1), 0, 1, 0], [20, 10, 8, 5]⟩ _ _ _ (IsInts.lit4 ?_) (IsInts.lit4 ?_) (by show 4 ≤ 140737488351232; omega) (by show 4 ≤ 140737488351232; omega)).mono ?_
  rotate_left 2
  · rintro e w' ⟨rfl, hb⟩
    rw [hd.out]
    go_wp2_with (fail)
    go_ret
    exact ⟨rfl, below_step (below_alloc (below_alloc (below_alloc HB1.out _) _) _) hb⟩
  · exact blk_alloc (by simpa using blk_new (W1.alloc _) (.cells #[.int .i64 (-1), .int .i64 0, .int .i64 1, .int .i64 0] 3)) _
  · simpa using blk_new ((W1.alloc _).alloc _) (.cells #[.int .i64 20, .int .i64 10, .int .i64 8, .int .i64 5] 3)
set_option maxHeartbeats 4000000 in
set_option maxRecDepth 100000 in
theorem bounds_1_e8 (x : Int) (hx : x % 9 = 1) (hx0 : 0 ≤ x) (hx1 : x ≤ 255) (w : World) : Calls Try.prog 7 #[.int .u8 x, .int .i64 8] w fun e w' => e = .returned (.bool true) ∧ Below w.heap.size w w' := by
  have hu := Try.underlying24
  have hd := Aside0.mk (show decide (Right ⟨2, 8, 4, 4, 2, 3, [(-1), 0, 1, 0], [20, 10, 8, 5]⟩) = true from decide_eq_true ((bound1 8).2 (by omega)))
  go_enter Try.func7, Try.ntmps7
  go_wp2_with (fail)
  refine (K_head _).mono ?_
  rintro e w0 ⟨rfl, hb0⟩
  have HB0 := Aside0.mk hb0
  clear hb0
  go_wp2_with (fail)
  refine (K_base _).mono ?_
  rintro e W1 ⟨v6, v7, rfl, h6, h7, hB1⟩
  obtain ⟨A6, n6, d6, rfl⟩ := h6.slice
  obtain ⟨A7, n7, d7, rfl⟩ := h7.slice
  have HB1 := Aside0.mk (HB0.out.trans (hB1.mono HB0.out.size))
  clear hB1 h6 h7 HB0
  go_wp2_with (fail)
  refine (K_right ⟨2, 8, 4, 4, 2, 3, [(-1), 0, 1, 0], [20, 10, 8, 5]⟩ _ _ _ (IsInts.lit4 ?_) (IsInts.lit4 ?_) (by show 4 ≤ 140737488351232; omega) (by show 4 ≤ 140737488351232; omega)).mono ?_
  rotate_left 2
  · rintro e w' ⟨rfl, hb⟩
    rw [hd.out]
    go_wp2_with (fail)
    go_ret
    exact ⟨rfl, below_step (below_alloc (below_alloc (below_alloc HB1.out _) _) _) hb⟩
  · exact blk_alloc (by simpa using blk_new (W1.alloc _) (.cells #[.int .i64 (-1), .int .i64 0, .int .i64 1, .int .i64 0] 3)) _
  · simpa using blk_new ((W1.alloc _).alloc _) (.cells #[.int .i64 20, .int .i64 10, .int .i64 8, .int .i64 5] 3)
set_option maxHeartbeats 4000000 in
set_option maxRecDepth 100000 in
theorem bounds_1_no (x : Int) (n : Int) (h0 : n ≠ 1) (h1 : n ≠ 2) (h2 : n ≠ 4) (h3 : n ≠ 8) (hx : x % 9 = 1) (hx0 : 0 ≤ x) (hx1 : x ≤ 255) (w : World) : Calls Try.prog 7 #[.int .u8 x, .int .i64 n] w fun e w' => e = .returned (.bool true) ∧ Below w.heap.size w w' := by
  have hu := Try.underlying24
  have hd := Aside0.mk (show decide (Right ⟨2, n, 4, 4, 2, 3, [(-1), 0, 1, 0], [20, 10, 8, 5]⟩) = false from decide_eq_false (fun h => absurd ((bound1 n).1 h) (by omega)))
  have g0 : (n == 1) = false := by simpa using h0
  have g1 : (n == 2) = false := by simpa using h1
  have g2 : (n == 4) = false := by simpa using h2
  have g3 : (n == 8) = false := by simpa using h3
  go_enter Try.func7, Try.ntmps7
  go_wp2_with (fail)
  refine (K_head _).mono ?_
  rintro e w0 ⟨rfl, hb0⟩
  have HB0 := Aside0.mk hb0
  clear hb0
  go_wp2_with (fail)
  refine (K_base _).mono ?_
  rintro e W1 ⟨v6, v7, rfl, h6, h7, hB1⟩
  obtain ⟨A6, n6, d6, rfl⟩ := h6.slice
  obtain ⟨A7, n7, d7, rfl⟩ := h7.slice
  have HB1 := Aside0.mk (HB0.out.trans (hB1.mono HB0.out.size))
  clear hB1 h6 h7 HB0
  go_wp2_with (fail)
  refine (K_right ⟨2, n, 4, 4, 2, 3, [(-1), 0, 1, 0], [20, 10, 8, 5]⟩ _ _ _ (IsInts.lit4 ?_) (IsInts.lit4 ?_) (by show 4 ≤ 140737488351232; omega) (by show 4 ≤ 140737488351232; omega)).mono ?_
  rotate_left 2
  · rintro e w' ⟨rfl, hb⟩
    rw [hd.out]
    go_wp2_with (fail)
    go_ret
    exact ⟨rfl, below_step (below_alloc (below_alloc (below_alloc HB1.out _) _) _) hb⟩
  · exact blk_alloc (by simpa using blk_new (W1.alloc _) (.cells #[.int .i64 (-1), .int .i64 0, .int .i64 1, .int .i64 0] 3)) _
  · simpa using blk_new ((W1.alloc _).alloc _) (.cells #[.int .i64 20, .int .i64 10, .int .i64 8, .int .i64 5] 3)
set_option maxHeartbeats 4000000 in
set_option maxRecDepth 100000 in
theorem bounds_2_lo (x : Int) (n : Int) (h1 : n < 1) (hx : x % 9 = 2) (hx0 : 0 ≤ x) (hx1 : x ≤ 255) (w : World) : Calls Try.prog 7 #[.int .u8 x, .int .i64 n] w fun e w' => e = .returned (.bool true) ∧ Below w.heap.size w w' := by
  have hu := Try.underlying24
  have hd := Aside0.mk (show decide (Right ⟨2, 2, n, 4, 2, 3, [(-1), 0, 1, 0], [20, 10, 8, 5]⟩) = false from decide_eq_false (fun h => absurd ((bound2 n).1 h) (by omega)))
  have g0 : decide (1 ≤ n) = false := decide_eq_false (by omega)
  go_enter Try.func7, Try.ntmps7
  go_wp2_with (fail)
  refine (K_head _).mono ?_
  rintro e w0 ⟨rfl, hb0⟩
  have HB0 := Aside0.mk hb0
  clear hb0
  go_wp2_with (fail)
  refine (K_base _).mono ?_
  rintro e W1 ⟨v6, v7, rfl, h6, h7, hB1⟩
  obtain ⟨A6, n6, d6, rfl⟩ := h6.slice
  obtain ⟨A7, n7, d7, rfl⟩ := h7.slice
  have HB1 := Aside0.mk (HB0.out.trans (hB1.mono HB0.out.size))
  clear hB1 h6 h7 HB0
  go_wp2_with (fail)
  refine (K_right ⟨2, 2, n, 4, 2, 3, [(-1), 0, 1, 0], [20, 10, 8, 5]⟩ _ _ _ (IsInts.lit4 ?_) (IsInts.lit4 ?_) (by show 4 ≤ 140737488351232; omega) (by show 4 ≤ 140737488351232; omega)).mono ?_
  rotate_left 2
  · rintro e w' ⟨rfl, hb⟩
    rw [hd.out]
    go_wp2_with (fail)
    go_ret
    exact ⟨rfl, below_step (below_alloc (below_alloc (below_alloc HB1.out _) _) _) hb⟩
  · exact blk_alloc (by simpa using blk_new (W1.alloc _) (.cells #[.int .i64 (-1), .int .i64 0, .int .i64 1, .int .i64 0] 3)) _
  · simpa using blk_new ((W1.alloc _).alloc _) (.cells #[.int .i64 20, .int .i64 10, .int .i64 8, .int .i64 5] 3)
set_option maxHeartbeats 4000000 in
set_option maxRecDepth 100000 in
theorem bounds_2_hi (x : Int) (n : Int) (h1 : 1 ≤ n) (h2 : 1048576 < n) (hx : x % 9 = 2) (hx0 : 0 ≤ x) (hx1 : x ≤ 255) (w : World) : Calls Try.prog 7 #[.int .u8 x, .int .i64 n] w fun e w' => e = .returned (.bool true) ∧ Below w.heap.size w w' := by
  have hu := Try.underlying24
  have hd := Aside0.mk (show decide (Right ⟨2, 2, n, 4, 2, 3, [(-1), 0, 1, 0], [20, 10, 8, 5]⟩) = false from decide_eq_false (fun h => absurd ((bound2 n).1 h) (by omega)))
  have g0 : decide (1 ≤ n) = true := decide_eq_true (by omega)
  have g1 : decide (n ≤ 1048576) = false := decide_eq_false (by omega)
  go_enter Try.func7, Try.ntmps7
  go_wp2_with (fail)
  refine (K_head _).mono ?_
  rintro e w0 ⟨rfl, hb0⟩
  have HB0 := Aside0.mk hb0
  clear hb0
  go_wp2_with (fail)
  refine (K_base _).mono ?_
  rintro e W1 ⟨v6, v7, rfl, h6, h7, hB1⟩
  obtain ⟨A6, n6, d6, rfl⟩ := h6.slice
  obtain ⟨A7, n7, d7, rfl⟩ := h7.slice
  have HB1 := Aside0.mk (HB0.out.trans (hB1.mono HB0.out.size))
  clear hB1 h6 h7 HB0
  go_wp2_with (fail)
  refine (K_right ⟨2, 2, n, 4, 2, 3, [(-1), 0, 1, 0], [20, 10, 8, 5]⟩ _ _ _ (IsInts.lit4 ?_) (IsInts.lit4 ?_) (by show 4 ≤ 140737488351232; omega) (by show 4 ≤ 140737488351232; omega)).mono ?_
  rotate_left 2
  · rintro e w' ⟨rfl, hb⟩
    rw [hd.out]
    go_wp2_with (fail)
    go_ret
    exact ⟨rfl, below_step (below_alloc (below_alloc (below_alloc HB1.out _) _) _) hb⟩
  · exact blk_alloc (by simpa using blk_new (W1.alloc _) (.cells #[.int .i64 (-1), .int .i64 0, .int .i64 1, .int .i64 0] 3)) _
  · simpa using blk_new ((W1.alloc _).alloc _) (.cells #[.int .i64 20, .int .i64 10, .int .i64 8, .int .i64 5] 3)
set_option maxHeartbeats 4000000 in
set_option maxRecDepth 100000 in
theorem bounds_2_in (x : Int) (n : Int) (h1 : 1 ≤ n) (h2 : n ≤ 1048576) (hx : x % 9 = 2) (hx0 : 0 ≤ x) (hx1 : x ≤ 255) (w : World) : Calls Try.prog 7 #[.int .u8 x, .int .i64 n] w fun e w' => e = .returned (.bool true) ∧ Below w.heap.size w w' := by
  have hu := Try.underlying24
  have hd := Aside0.mk (show decide (Right ⟨2, 2, n, 4, 2, 3, [(-1), 0, 1, 0], [20, 10, 8, 5]⟩) = true from decide_eq_true ((bound2 n).2 (by omega)))
  have g0 : decide (1 ≤ n) = true := decide_eq_true (by omega)
  have g1 : decide (n ≤ 1048576) = true := decide_eq_true (by omega)
  go_enter Try.func7, Try.ntmps7
  go_wp2_with (fail)
  refine (K_head _).mono ?_
  rintro e w0 ⟨rfl, hb0⟩
  have HB0 := Aside0.mk hb0
  clear hb0
  go_wp2_with (fail)
  refine (K_base _).mono ?_
  rintro e W1 ⟨v6, v7, rfl, h6, h7, hB1⟩
  obtain ⟨A6, n6, d6, rfl⟩ := h6.slice
  obtain ⟨A7, n7, d7, rfl⟩ := h7.slice
  have HB1 := Aside0.mk (HB0.out.trans (hB1.mono HB0.out.size))
  clear hB1 h6 h7 HB0
  go_wp2_with (fail)
  refine (K_right ⟨2, 2, n, 4, 2, 3, [(-1), 0, 1, 0], [20, 10, 8, 5]⟩ _ _ _ (IsInts.lit4 ?_) (IsInts.lit4 ?_) (by show 4 ≤ 140737488351232; omega) (by show 4 ≤ 140737488351232; omega)).mono ?_
  rotate_left 2
  · rintro e w' ⟨rfl, hb⟩
    rw [hd.out]
    go_wp2_with (fail)
    go_ret
    exact ⟨rfl, below_step (below_alloc (below_alloc (below_alloc HB1.out _) _) _) hb⟩
  · exact blk_alloc (by simpa using blk_new (W1.alloc _) (.cells #[.int .i64 (-1), .int .i64 0, .int .i64 1, .int .i64 0] 3)) _
  · simpa using blk_new ((W1.alloc _).alloc _) (.cells #[.int .i64 20, .int .i64 10, .int .i64 8, .int .i64 5] 3)
set_option maxHeartbeats 4000000 in
set_option maxRecDepth 100000 in
theorem bounds_3_lo (x : Int) (n : Int) (h1 : n < 0) (hx : x % 9 = 3) (hx0 : 0 ≤ x) (hx1 : x ≤ 255) (w : World) : Calls Try.prog 7 #[.int .u8 x, .int .i64 n] w fun e w' => e = .returned (.bool true) ∧ Below w.heap.size w w' := by
  have hu := Try.underlying24
  have hd := Aside0.mk (show decide (Right ⟨2, 2, 4, n, 2, 3, [(-1), 0, 1, 0], [20, 10, 8, 5]⟩) = false from decide_eq_false (fun h => absurd ((bound3 n).1 h) (by omega)))
  have g0 : decide (0 ≤ n) = false := decide_eq_false (by omega)
  go_enter Try.func7, Try.ntmps7
  go_wp2_with (fail)
  refine (K_head _).mono ?_
  rintro e w0 ⟨rfl, hb0⟩
  have HB0 := Aside0.mk hb0
  clear hb0
  go_wp2_with (fail)
  refine (K_base _).mono ?_
  rintro e W1 ⟨v6, v7, rfl, h6, h7, hB1⟩
  obtain ⟨A6, n6, d6, rfl⟩ := h6.slice
  obtain ⟨A7, n7, d7, rfl⟩ := h7.slice
  have HB1 := Aside0.mk (HB0.out.trans (hB1.mono HB0.out.size))
  clear hB1 h6 h7 HB0
  go_wp2_with (fail)
  refine (K_right ⟨2, 2, 4, n, 2, 3, [(-1), 0, 1, 0], [20, 10, 8, 5]⟩ _ _ _ (IsInts.lit4 ?_) (IsInts.lit4 ?_) (by show 4 ≤ 140737488351232; omega) (by show 4 ≤ 140737488351232; omega)).mono ?_
  rotate_left 2
  · rintro e w' ⟨rfl, hb⟩
    rw [hd.out]
    go_wp2_with (fail)
    go_ret
    exact ⟨rfl, below_step (below_alloc (below_alloc (below_alloc HB1.out _) _) _) hb⟩
  · exact blk_alloc (by simpa using blk_new (W1.alloc _) (.cells #[.int .i64 (-1), .int .i64 0, .int .i64 1, .int .i64 0] 3)) _
  · simpa using blk_new ((W1.alloc _).alloc _) (.cells #[.int .i64 20, .int .i64 10, .int .i64 8, .int .i64 5] 3)
set_option maxHeartbeats 4000000 in
set_option maxRecDepth 100000 in
theorem bounds_3_hi (x : Int) (n : Int) (h1 : 0 ≤ n) (h2 : 1048576 < n) (hx : x % 9 = 3) (hx0 : 0 ≤ x) (hx1 : x ≤ 255) (w : World) : Calls Try.prog 7 #[.int .u8 x, .int .i64 n] w fun e w' => e = .returned (.bool true) ∧ Below w.heap.size w w' := by
  have hu := Try.underlying24
  have hd := Aside0.mk (show decide (Right ⟨2, 2, 4, n, 2, 3, [(-1), 0, 1, 0], [20, 10, 8, 5]⟩) = false from decide_eq_false (fun h => absurd ((bound3 n).1 h) (by omega)))
  have g0 : decide (0 ≤ n) = true := decide_eq_true (by omega)
  have g1 : decide (n ≤ 1048576) = false := decide_eq_false (by omega)
  go_enter Try.func7, Try.ntmps7
  go_wp2_with (fail)
  refine (K_head _).mono ?_
  rintro e w0 ⟨rfl, hb0⟩
  have HB0 := Aside0.mk hb0
  clear hb0
  go_wp2_with (fail)
  refine (K_base _).mono ?_
  rintro e W1 ⟨v6, v7, rfl, h6, h7, hB1⟩
  obtain ⟨A6, n6, d6, rfl⟩ := h6.slice
  obtain ⟨A7, n7, d7, rfl⟩ := h7.slice
  have HB1 := Aside0.mk (HB0.out.trans (hB1.mono HB0.out.size))
  clear hB1 h6 h7 HB0
  go_wp2_with (fail)
  refine (K_right ⟨2, 2, 4, n, 2, 3, [(-1), 0, 1, 0], [20, 10, 8, 5]⟩ _ _ _ (IsInts.lit4 ?_) (IsInts.lit4 ?_) (by show 4 ≤ 140737488351232; omega) (by show 4 ≤ 140737488351232; omega)).mono ?_
  rotate_left 2
  · rintro e w' ⟨rfl, hb⟩
    rw [hd.out]
    go_wp2_with (fail)
    go_ret
    exact ⟨rfl, below_step (below_alloc (below_alloc (below_alloc HB1.out _) _) _) hb⟩
  · exact blk_alloc (by simpa using blk_new (W1.alloc _) (.cells #[.int .i64 (-1), .int .i64 0, .int .i64 1, .int .i64 0] 3)) _
  · simpa using blk_new ((W1.alloc _).alloc _) (.cells #[.int .i64 20, .int .i64 10, .int .i64 8, .int .i64 5] 3)
set_option maxHeartbeats 4000000 in
set_option maxRecDepth 100000 in
theorem bounds_3_in (x : Int) (n : Int) (h1 : 0 ≤ n) (h2 : n ≤ 1048576) (hx : x % 9 = 3) (hx0 : 0 ≤ x) (hx1 : x ≤ 255) (w : World) : Calls Try.prog 7 #[.int .u8 x, .int .i64 n] w fun e w' => e = .returned (.bool true) ∧ Below w.heap.size w w' := by
  have hu := Try.underlying24
  have hd := Aside0.mk (show decide (Right ⟨2, 2, 4, n, 2, 3, [(-1), 0, 1, 0], [20, 10, 8, 5]⟩) = true from decide_eq_true ((bound3 n).2 (by omega)))
  have g0 : decide (0 ≤ n) = true := decide_eq_true (by omega)
  have g1 : decide (n ≤ 1048576) = true := decide_eq_true (by omega)
  go_enter Try.func7, Try.ntmps7
  go_wp2_with (fail)
  refine (K_head _).mono ?_
  rintro e w0 ⟨rfl, hb0⟩
  have HB0 := Aside0.mk hb0
  clear hb0
  go_wp2_with (fail)
  refine (K_base _).mono ?_
  rintro e W1 ⟨v6, v7, rfl, h6, h7, hB1⟩
  obtain ⟨A6, n6, d6, rfl⟩ := h6.slice
  obtain ⟨A7, n7, d7, rfl⟩ := h7.slice
  have HB1 := Aside0.mk (HB0.out.trans (hB1.mono HB0.out.size))
  clear hB1 h6 h7 HB0
  go_wp2_with (fail)
  refine (K_right ⟨2, 2, 4, n, 2, 3, [(-1), 0, 1, 0], [20, 10, 8, 5]⟩ _ _ _ (IsInts.lit4 ?_) (IsInts.lit4 ?_) (by show 4 ≤ 140737488351232; omega) (by show 4 ≤ 140737488351232; omega)).mono ?_
  rotate_left 2
  · rintro e w' ⟨rfl, hb⟩
    rw [hd.out]
    go_wp2_with (fail)
    go_ret
    exact ⟨rfl, below_step (below_alloc (below_alloc (below_alloc HB1.out _) _) _) hb⟩
  · exact blk_alloc (by simpa using blk_new (W1.alloc _) (.cells #[.int .i64 (-1), .int .i64 0, .int .i64 1, .int .i64 0] 3)) _
  · simpa using blk_new ((W1.alloc _).alloc _) (.cells #[.int .i64 20, .int .i64 10, .int .i64 8, .int .i64 5] 3)
set_option maxHeartbeats 4000000 in
set_option maxRecDepth 100000 in
theorem bounds_4_lo (x : Int) (n : Int) (h1 : n < 1) (hx : x % 9 = 4) (hx0 : 0 ≤ x) (hx1 : x ≤ 255) (w : World) : Calls Try.prog 7 #[.int .u8 x, .int .i64 n] w fun e w' => e = .returned (.bool true) ∧ Below w.heap.size w w' := by
  have hu := Try.underlying24
  have hd := Aside0.mk (show decide (Right ⟨2, 2, 4, 4, n, 3, [(-1), 0, 1, 0], [20, 10, 8, 5]⟩) = false from decide_eq_false (fun h => absurd ((bound4 n).1 h) (by omega)))
  have g0 : decide (1 ≤ n) = false := decide_eq_false (by omega)
  go_enter Try.func7, Try.ntmps7
  go_wp2_with (fail)
  refine (K_head _).mono ?_
  rintro e w0 ⟨rfl, hb0⟩
  have HB0 := Aside0.mk hb0
  clear hb0
  go_wp2_with (fail)
  refine (K_base _).mono ?_
  rintro e W1 ⟨v6, v7, rfl, h6, h7, hB1⟩
  obtain ⟨A6, n6, d6, rfl⟩ := h6.slice
  obtain ⟨A7, n7, d7, rfl⟩ := h7.slice
  have HB1 := Aside0.mk (HB0.out.trans (hB1.mono HB0.out.size))
  clear hB1 h6 h7 HB0
  go_wp2_with (fail)
  refine (K_right ⟨2, 2, 4, 4, n, 3, [(-1), 0, 1, 0], [20, 10, 8, 5]⟩ _ _ _ (IsInts.lit4 ?_) (IsInts.lit4 ?_) (by show 4 ≤ 140737488351232; omega) (by show 4 ≤ 140737488351232; omega)).mono ?_
  rotate_left 2
  · rintro e w' ⟨rfl, hb⟩
    rw [hd.out]
    go_wp2_with (fail)
    go_ret
    exact ⟨rfl, below_step (below_alloc (below_alloc (below_alloc HB1.out _) _) _) hb⟩
  · exact blk_alloc (by simpa using blk_new (W1.alloc _) (.cells #[.int .i64 (-1), .int .i64 0, .int .i64 1, .int .i64 0] 3)) _
  · simpa using blk_new ((W1.alloc _).alloc _) (.cells #[.int .i64 20, .int .i64 10, .int .i64 8, .int .i64 5] 3)
set_option maxHeartbeats 4000000 in
set_option maxRecDepth 100000 in
theorem bounds_4_hi (x : Int) (n : Int) (h1 : 1 ≤ n) (h2 : 8 < n) (hx : x % 9 = 4) (hx0 : 0 ≤ x) (hx1 : x ≤ 255) (w : World) : Calls Try.prog 7 #[.int .u8 x, .int .i64 n] w fun e w' => e = .returned (.bool true) ∧ Below w.heap.size w w' := by
  have hu := Try.underlying24
  have hd := Aside0.mk (show decide (Right ⟨2, 2, 4, 4, n, 3, [(-1), 0, 1, 0], [20, 10, 8, 5]⟩) = false from decide_eq_false (fun h => absurd ((bound4 n).1 h) (by omega)))
  have g0 : decide (1 ≤ n) = true := decide_eq_true (by omega)
  have g1 : decide (n ≤ 8) = false := decide_eq_false (by omega)
  go_enter Try.func7, Try.ntmps7
  go_wp2_with (fail)
  refine (K_head _).mono ?_
  rintro e w0 ⟨rfl, hb0⟩
  have HB0 := Aside0.mk hb0
  clear hb0
  go_wp2_with (fail)
  refine (K_base _).mono ?_
  rintro e W1 ⟨v6, v7, rfl, h6, h7, hB1⟩
  obtain ⟨A6, n6, d6, rfl⟩ := h6.slice
  obtain ⟨A7, n7, d7, rfl⟩ := h7.slice
  have HB1 := Aside0.mk (HB0.out.trans (hB1.mono HB0.out.size))
  clear hB1 h6 h7 HB0
  go_wp2_with (fail)
  refine (K_right ⟨2, 2, 4, 4, n, 3, [(-1), 0, 1, 0], [20, 10, 8, 5]⟩ _ _ _ (IsInts.lit4 ?_) (IsInts.lit4 ?_) (by show 4 ≤ 140737488351232; omega) (by show 4 ≤ 140737488351232; omega)).mono ?_
  rotate_left 2
  · rintro e w' ⟨rfl, hb⟩
    rw [hd.out]
    go_wp2_with (fail)
    go_ret
    exact ⟨rfl, below_step (below_alloc (below_alloc (below_alloc HB1.out _) _) _) hb⟩
  · exact blk_alloc (by simpa using blk_new (W1.alloc _) (.cells #[.int .i64 (-1), .int .i64 0, .int .i64 1, .int .i64 0] 3)) _
  · simpa using blk_new ((W1.alloc _).alloc _) (.cells #[.int .i64 20, .int .i64 10, .int .i64 8, .int .i64 5] 3)
set_option maxHeartbeats 4000000 in
set_option maxRecDepth 100000 in
theorem bounds_4_in (x : Int) (n : Int) (h1 : 1 ≤ n) (h2 : n ≤ 8) (hx : x % 9 = 4) (hx0 : 0 ≤ x) (hx1 : x ≤ 255) (w : World) : Calls Try.prog 7 #[.int .u8 x, .int .i64 n] w fun e w' => e = .returned (.bool true) ∧ Below w.heap.size w w' := by
  have hu := Try.underlying24
  have hd := Aside0.mk (show decide (Right ⟨2, 2, 4, 4, n, 3, [(-1), 0, 1, 0], [20, 10, 8, 5]⟩) = true from decide_eq_true ((bound4 n).2 (by omega)))
  have g0 : decide (1 ≤ n) = true := decide_eq_true (by omega)
  have g1 : decide (n ≤ 8) = true := decide_eq_true (by omega)
  go_enter Try.func7, Try.ntmps7
  go_wp2_with (fail)
  refine (K_head _).mono ?_
  rintro e w0 ⟨rfl, hb0⟩
  have HB0 := Aside0.mk hb0
  clear hb0
  go_wp2_with (fail)
  refine (K_base _).mono ?_
  rintro e W1 ⟨v6, v7, rfl, h6, h7, hB1⟩
  obtain ⟨A6, n6, d6, rfl⟩ := h6.slice
  obtain ⟨A7, n7, d7, rfl⟩ := h7.slice
  have HB1 := Aside0.mk (HB0.out.trans (hB1.mono HB0.out.size))
  clear hB1 h6 h7 HB0
  go_wp2_with (fail)
  refine (K_right ⟨2, 2, 4, 4, n, 3, [(-1), 0, 1, 0], [20, 10, 8, 5]⟩ _ _ _ (IsInts.lit4 ?_) (IsInts.lit4 ?_) (by show 4 ≤ 140737488351232; omega) (by show 4 ≤ 140737488351232; omega)).mono ?_
  rotate_left 2
  · rintro e w' ⟨rfl, hb⟩
    rw [hd.out]
    go_wp2_with (fail)
    go_ret
    exact ⟨rfl, below_step (below_alloc (below_alloc (below_alloc HB1.out _) _) _) hb⟩
  · exact blk_alloc (by simpa using blk_new (W1.alloc _) (.cells #[.int .i64 (-1), .int .i64 0, .int .i64 1, .int .i64 0] 3)) _
  · simpa using blk_new ((W1.alloc _).alloc _) (.cells #[.int .i64 20, .int .i64 10, .int .i64 8, .int .i64 5] 3)
set_option maxHeartbeats 4000000 in
set_option maxRecDepth 100000 in
theorem bounds_5_lo (x : Int) (n : Int) (h1 : n < 1) (hx : x % 9 = 5) (hx0 : 0 ≤ x) (hx1 : x ≤ 255) (w : World) : Calls Try.prog 7 #[.int .u8 x, .int .i64 n] w fun e w' => e = .returned (.bool true) ∧ Below w.heap.size w w' := by
  have hu := Try.underlying24
  have hd := Aside0.mk (show decide (Right ⟨2, 2, 4, 4, 2, n, [(-1), 0, 1, 0], [20, 10, 8, 5]⟩) = false from decide_eq_false (fun h => absurd ((bound5 n).1 h) (by omega)))
  have g0 : decide (1 ≤ n) = false := decide_eq_false (by omega)
  go_enter Try.func7, Try.ntmps7
  go_wp2_with (fail)
  refine (K_head _).mono ?_
  rintro e w0 ⟨rfl, hb0⟩
  have HB0 := Aside0.mk hb0
  clear hb0
  go_wp2_with (fail)
  refine (K_base _).mono ?_
  rintro e W1 ⟨v6, v7, rfl, h6, h7, hB1⟩
  obtain ⟨A6, n6, d6, rfl⟩ := h6.slice
  obtain ⟨A7, n7, d7, rfl⟩ := h7.slice
  have HB1 := Aside0.mk (HB0.out.trans (hB1.mono HB0.out.size))
  clear hB1 h6 h7 HB0
  go_wp2_with (fail)
  refine (K_right ⟨2, 2, 4, 4, 2, n, [(-1), 0, 1, 0], [20, 10, 8, 5]⟩ _ _ _ (IsInts.lit4 ?_) (IsInts.lit4 ?_) (by show 4 ≤ 140737488351232; omega) (by show 4 ≤ 140737488351232; omega)).mono ?_
  rotate_left 2
  · rintro e w' ⟨rfl, hb⟩
    rw [hd.out]
    go_wp2_with (fail)
    go_ret
    exact ⟨rfl, below_step (below_alloc (below_alloc (below_alloc HB1.out _) _) _) hb⟩
  · exact blk_alloc (by simpa using blk_new (W1.alloc _) (.cells #[.int .i64 (-1), .int .i64 0, .int .i64 1, .int .i64 0] 3)) _
  · simpa using blk_new ((W1.alloc _).alloc _) (.cells #[.int .i64 20, .int .i64 10, .int .i64 8, .int .i64 5] 3)
set_option maxHeartbeats 4000000 in
set_option maxRecDepth 100000 in
theorem bounds_5_hi (x : Int) (n : Int) (h1 : 1 ≤ n) (h2 : 16 < n) (hx : x % 9 = 5) (hx0 : 0 ≤ x) (hx1 : x ≤ 255) (w : World) : Calls Try.prog 7 #[.int .u8 x, .int .i64 n] w fun e w' => e = .returned (.bool true) ∧ Below w.heap.size w w' := by
  have hu := Try.underlying24
  have hd := Aside0.mk (show decide (Right ⟨2, 2, 4, 4, 2, n, [(-1), 0, 1, 0], [20, 10, 8, 5]⟩) = false from decide_eq_false (fun h => absurd ((bound5 n).1 h) (by omega)))
  have g0 : decide (1 ≤ n) = true := decide_eq_true (by omega)
  have g1 : decide (n ≤ 16) = false := decide_eq_false (by omega)
  go_enter Try.func7, Try.ntmps7
  go_wp2_with (fail)
  refine (K_head _).mono ?_
  rintro e w0 ⟨rfl, hb0⟩
  have HB0 := Aside0.mk hb0
  clear hb0
  go_wp2_with (fail)
  refine (K_base _).mono ?_
  rintro e W1 ⟨v6, v7, rfl, h6, h7, hB1⟩
  obtain ⟨A6, n6, d6, rfl⟩ := h6.slice
  obtain ⟨A7, n7, d7, rfl⟩ := h7.slice
  have HB1 := Aside0.mk (HB0.out.trans (hB1.mono HB0.out.size))
  clear hB1 h6 h7 HB0
  go_wp2_with (fail)
  refine (K_right ⟨2, 2, 4, 4, 2, n, [(-1), 0, 1, 0], [20, 10, 8, 5]⟩ _ _ _ (IsInts.lit4 ?_) (IsInts.lit4 ?_) (by show 4 ≤ 140737488351232; omega) (by show 4 ≤ 140737488351232; omega)).mono ?_
  rotate_left 2
  · rintro e w' ⟨rfl, hb⟩
    rw [hd.out]
    go_wp2_with (fail)
    go_ret
    exact ⟨rfl, below_step (below_alloc (below_alloc (below_alloc HB1.out _) _) _) hb⟩
  · exact blk_alloc (by simpa using blk_new (W1.alloc _) (.cells #[.int .i64 (-1), .int .i64 0, .int .i64 1, .int .i64 0] 3)) _
  · simpa using blk_new ((W1.alloc _).alloc _) (.cells #[.int .i64 20, .int .i64 10, .int .i64 8, .int .i64 5] 3)
set_option maxHeartbeats 4000000 in
set_option maxRecDepth 100000 in
theorem bounds_5_in (x : Int) (n : Int) (h1 : 1 ≤ n) (h2 : n ≤ 16) (hx : x % 9 = 5) (hx0 : 0 ≤ x) (hx1 : x ≤ 255) (w : World) : Calls Try.prog 7 #[.int .u8 x, .int .i64 n] w fun e w' => e = .returned (.bool true) ∧ Below w.heap.size w w' := by
  have hu := Try.underlying24
  have hd := Aside0.mk (show decide (Right ⟨2, 2, 4, 4, 2, n, [(-1), 0, 1, 0], [20, 10, 8, 5]⟩) = true from decide_eq_true ((bound5 n).2 (by omega)))
  have g0 : decide (1 ≤ n) = true := decide_eq_true (by omega)
  have g1 : decide (n ≤ 16) = true := decide_eq_true (by omega)
  go_enter Try.func7, Try.ntmps7
  go_wp2_with (fail)
  refine (K_head _).mono ?_
  rintro e w0 ⟨rfl, hb0⟩
  have HB0 := Aside0.mk hb0
  clear hb0
  go_wp2_with (fail)
  refine (K_base _).mono ?_
  rintro e W1 ⟨v6, v7, rfl, h6, h7, hB1⟩
  obtain ⟨A6, n6, d6, rfl⟩ := h6.slice
  obtain ⟨A7, n7, d7, rfl⟩ := h7.slice
  have HB1 := Aside0.mk (HB0.out.trans (hB1.mono HB0.out.size))
  clear hB1 h6 h7 HB0
  go_wp2_with (fail)
  refine (K_right ⟨2, 2, 4, 4, 2, n, [(-1), 0, 1, 0], [20, 10, 8, 5]⟩ _ _ _ (IsInts.lit4 ?_) (IsInts.lit4 ?_) (by show 4 ≤ 140737488351232; omega) (by show 4 ≤ 140737488351232; omega)).mono ?_
  rotate_left 2
  · rintro e w' ⟨rfl, hb⟩
    rw [hd.out]
    go_wp2_with (fail)
    go_ret
    exact ⟨rfl, below_step (below_alloc (below_alloc (below_alloc HB1.out _) _) _) hb⟩
  · exact blk_alloc (by simpa using blk_new (W1.alloc _) (.cells #[.int .i64 (-1), .int .i64 0, .int .i64 1, .int .i64 0] 3)) _
  · simpa using blk_new ((W1.alloc _).alloc _) (.cells #[.int .i64 20, .int .i64 10, .int .i64 8, .int .i64 5] 3)
set_option maxHeartbeats 4000000 in
set_option maxRecDepth 100000 in
theorem bounds_6_e0 (x : Int) (hx : x % 9 = 6) (hx0 : 0 ≤ x) (hx1 : x ≤ 255) (w : World) : Calls Try.prog 7 #[.int .u8 x, .int .i64 0] w fun e w' => e = .returned (.bool true) ∧ Below w.heap.size w w' := by
  have hu := Try.underlying24
  have hd := Aside0.mk (show decide (Right ⟨2, 2, 4, 4, 2, 3, [(-1), 0, 0, 0], [20, 10, 8, 5]⟩) = true from decide_eq_true ((bound6 0).2 (by omega)))
  go_enter Try.func7, Try.ntmps7
  go_wp2_with (fail)
  refine (K_head _).mono ?_
  rintro e w0 ⟨rfl, hb0⟩
  have HB0 := Aside0.mk hb0
  clear hb0
  go_wp2_with (fail)
  refine (K_base _).mono ?_
  rintro e W1 ⟨v6, v7, rfl, h6, h7, hB1⟩
  obtain ⟨A6, n6, d6, rfl⟩ := h6.slice
  obtain ⟨A7, n7, d7, rfl⟩ := h7.slice
  have HB1 := Aside0.mk (HB0.out.trans (hB1.mono HB0.out.size))
  clear hB1 h6 h7 HB0
  go_wp2_with (fail)
  refine (K_right ⟨2, 2, 4, 4, 2, 3, [(-1), 0, 0, 0], [20, 10, 8, 5]⟩ _ _ _ (IsInts.lit4 ?_) (IsInts.lit4 ?_) (by show 4 ≤ 140737488351232; omega) (by show 4 ≤ 140737488351232; omega)).mono ?_
  rotate_left 2
  · rintro e w' ⟨rfl, hb⟩
    rw [hd.out]
    go_wp2_with (fail)
    go_ret
    exact ⟨rfl, below_step (below_alloc (below_alloc (below_alloc HB1.out _) _) _) hb⟩
  · exact blk_alloc (by simpa using blk_new (W1.alloc _) (.cells #[.int .i64 (-1), .int .i64 0, .int .i64 0, .int .i64 0] 3)) _
  · simpa using blk_new ((W1.alloc _).alloc _) (.cells #[.int .i64 20, .int .i64 10, .int .i64 8, .int .i64 5] 3)
set_option maxHeartbeats 4000000 in
set_option maxRecDepth 100000 in
theorem bounds_6_e1 (x : Int) (hx : x % 9 = 6) (hx0 : 0 ≤ x) (hx1 : x ≤ 255) (w : World) : Calls Try.prog 7 #[.int .u8 x, .int .i64 1] w fun e w' => e = .returned (.bool true) ∧ Below w.heap.size w w' := by
  have hu := Try.underlying24
  have hd := Aside0.mk (show decide (Right ⟨2, 2, 4, 4, 2, 3, [(-1), 0, 1, 0], [20, 10, 8, 5]⟩) = true from decide_eq_true ((bound6 1).2 (by omega)))
  go_enter Try.func7, Try.ntmps7
  go_wp2_with (fail)
  refine (K_head _).mono ?_
  rintro e w0 ⟨rfl, hb0⟩
  have HB0 := Aside0.mk hb0
  clear hb0
  go_wp2_with (fail)
  refine (K_base _).mono ?_
  rintro e W1 ⟨v6, v7, rfl, h6, h7, hB1⟩
  obtain ⟨A6, n6, d6, rfl⟩ := h6.slice
  obtain ⟨A7, n7, d7, rfl⟩ := h7.slice
  have HB1 := Aside0.mk (HB0.out.trans (hB1.mono HB0.out.size))
  clear hB1 h6 h7 HB0
  go_wp2_with (fail)
  refine (K_right ⟨2, 2, 4, 4, 2, 3, [(-1), 0, 1, 0], [20, 10, 8, 5]⟩ _ _ _ (IsInts.lit4 ?_) (IsInts.lit4 ?_) (by show 4 ≤ 140737488351232; omega) (by show 4 ≤ 140737488351232; omega)).mono ?_
  rotate_left 2
  · rintro e w' ⟨rfl, hb⟩
    rw [hd.out]
    go_wp2_with (fail)
    go_ret
    exact ⟨rfl, below_step (below_alloc (below_alloc (below_alloc HB1.out _) _) _) hb⟩
  · exact blk_alloc (by simpa using blk_new (W1.alloc _) (.cells #[.int .i64 (-1), .int .i64 0, .int .i64 1, .int .i64 0] 3)) _
  · simpa using blk_new ((W1.alloc _).alloc _) (.cells #[.int .i64 20, .int .i64 10, .int .i64 8, .int .i64 5] 3)
set_option maxHeartbeats 4000000 in
set_option maxRecDepth 100000 in
theorem bounds_6_no (x : Int) (n : Int) (h0 : n ≠ 0) (h1 : n ≠ 1) (hx : x % 9 = 6) (hx0 : 0 ≤ x) (hx1 : x ≤ 255) (w : World) : Calls Try.prog 7 #[.int .u8 x, .int .i64 n] w fun e w' => e = .returned (.bool true) ∧ Below w.heap.size w w' := by
  have hu := Try.underlying24
  have hd := Aside0.mk (show decide (Right ⟨2, 2, 4, 4, 2, 3, [(-1), 0, n, 0], [20, 10, 8, 5]⟩) = false from decide_eq_false (fun h => absurd ((bound6 n).1 h) (by omega)))
  have g0 : (n == 0) = false := by simpa using h0
  have g1 : (n == 1) = false := by simpa using h1
  go_enter Try.func7, Try.ntmps7
  go_wp2_with (fail)
  refine (K_head _).mono ?_
  rintro e w0 ⟨rfl, hb0⟩
  have HB0 := Aside0.mk hb0
  clear hb0
  go_wp2_with (fail)
  refine (K_base _).mono ?_
  rintro e W1 ⟨v6, v7, rfl, h6, h7, hB1⟩
  obtain ⟨A6, n6, d6, rfl⟩ := h6.slice
  obtain ⟨A7, n7, d7, rfl⟩ := h7.slice
  have HB1 := Aside0.mk (HB0.out.trans (hB1.mono HB0.out.size))
  clear hB1 h6 h7 HB0
  go_wp2_with (fail)
  refine (K_right ⟨2, 2, 4, 4, 2, 3, [(-1), 0, n, 0], [20, 10, 8, 5]⟩ _ _ _ (IsInts.lit4 ?_) (IsInts.lit4 ?_) (by show 4 ≤ 140737488351232; omega) (by show 4 ≤ 140737488351232; omega)).mono ?_
  rotate_left 2
  · rintro e w' ⟨rfl, hb⟩
    rw [hd.out]
    go_wp2_with (fail)
    go_ret
    exact ⟨rfl, below_step (below_alloc (below_alloc (below_alloc HB1.out _) _) _) hb⟩
  · exact blk_alloc (by simpa using blk_new (W1.alloc _) (.cells #[.int .i64 (-1), .int .i64 0, .int .i64 n, .int .i64 0] 3)) _
  · simpa using blk_new ((W1.alloc _).alloc _) (.cells #[.int .i64 20, .int .i64 10, .int .i64 8, .int .i64 5] 3)
set_option maxHeartbeats 4000000 in
set_option maxRecDepth 100000 in
theorem bounds_7_lo (x : Int) (n : Int) (h1 : n < 0) (hx : x % 9 = 7) (hx0 : 0 ≤ x) (hx1 : x ≤ 255) (w : World) : Calls Try.prog 7 #[.int .u8 x, .int .i64 n] w fun e w' => e = .returned (.bool true) ∧ Below w.heap.size w w' := by
  have hu := Try.underlying24
  have hd := Aside0.mk (show decide (Right ⟨2, 2, 4, 4, 2, 3, [(-1), 0, 1, 0], [20, 10, 8, n]⟩) = false from decide_eq_false (fun h => absurd ((bound7 n).1 h) (by omega)))
  have g0 : decide (0 ≤ n) = false := decide_eq_false (by omega)
  go_enter Try.func7, Try.ntmps7
  go_wp2_with (fail)
  refine (K_head _).mono ?_
  rintro e w0 ⟨rfl, hb0⟩
  have HB0 := Aside0.mk hb0
  clear hb0
  go_wp2_with (fail)
  refine (K_base _).mono ?_
  rintro e W1 ⟨v6, v7, rfl, h6, h7, hB1⟩
  obtain ⟨A6, n6, d6, rfl⟩ := h6.slice
  obtain ⟨A7, n7, d7, rfl⟩ := h7.slice
  have HB1 := Aside0.mk (HB0.out.trans (hB1.mono HB0.out.size))
  clear hB1 h6 h7 HB0
  go_wp2_with (fail)
  refine (K_right ⟨2, 2, 4, 4, 2, 3, [(-1), 0, 1, 0], [20, 10, 8, n]⟩ _ _ _ (IsInts.lit4 ?_) (IsInts.lit4 ?_) (by show 4 ≤ 140737488351232; omega) (by show 4 ≤ 140737488351232; omega)).mono ?_
  rotate_left 2
  · rintro e w' ⟨rfl, hb⟩
    rw [hd.out]
    go_wp2_with (fail)
    go_ret
    exact ⟨rfl, below_step (below_alloc (below_alloc (below_alloc HB1.out _) _) _) hb⟩
  · exact blk_alloc (by simpa using blk_new (W1.alloc _) (.cells #[.int .i64 (-1), .int .i64 0, .int .i64 1, .int .i64 0] 3)) _
  · simpa using blk_new ((W1.alloc _).alloc _) (.cells #[.int .i64 20, .int .i64 10, .int .i64 8, .int .i64 n] 3)
set_option maxHeartbeats 4000000 in
set_option maxRecDepth 100000 in
theorem bounds_7_hi (x : Int) (n : Int) (h1 : 0 ≤ n) (h2 : 1099511627776 < n) (hx : x % 9 = 7) (hx0 : 0 ≤ x) (hx1 : x ≤ 255) (w : World) : Calls Try.prog 7 #[.int .u8 x, .int .i64 n] w fun e w' => e = .returned (.bool true) ∧ Below w.heap.size w w' := by
  have hu := Try.underlying24
  have hd := Aside0.mk (show decide (Right ⟨2, 2, 4, 4, 2, 3, [(-1), 0, 1, 0], [20, 10, 8, n]⟩) = false from decide_eq_false (fun h => absurd ((bound7 n).1 h) (by omega)))
  have g0 : decide (0 ≤ n) = true := decide_eq_true (by omega)
  have g1 : decide (n ≤ 1099511627776) = false := decide_eq_false (by omega)
  go_enter Try.func7, Try.ntmps7
  go_wp2_with (fail)
  refine (K_head _).mono ?_
  rintro e w0 ⟨rfl, hb0⟩
  have HB0 := Aside0.mk hb0
  clear hb0
  go_wp2_with (fail)
  refine (K_base _).mono ?_
  rintro e W1 ⟨v6, v7, rfl, h6, h7, hB1⟩
  obtain ⟨A6, n6, d6, rfl⟩ := h6.slice
  obtain ⟨A7, n7, d7, rfl⟩ := h7.slice
  have HB1 := Aside0.mk (HB0.out.trans (hB1.mono HB0.out.size))
  clear hB1 h6 h7 HB0
  go_wp2_with (fail)
  refine (K_right ⟨2, 2, 4, 4, 2, 3, [(-1), 0, 1, 0], [20, 10, 8, n]⟩ _ _ _ (IsInts.lit4 ?_) (IsInts.lit4 ?_) (by show 4 ≤ 140737488351232; omega) (by show 4 ≤ 140737488351232; omega)).mono ?_
  rotate_left 2
  · rintro e w' ⟨rfl, hb⟩
    rw [hd.out]
    go_wp2_with (fail)
    go_ret
    exact ⟨rfl, below_step (below_alloc (below_alloc (below_alloc HB1.out _) _) _) hb⟩
  · exact blk_alloc (by simpa using blk_new (W1.alloc _) (.cells #[.int .i64 (-1), .int .i64 0, .int .i64 1, .int .i64 0] 3)) _
  · simpa using blk_new ((W1.alloc _).alloc _) (.cells #[.int .i64 20, .int .i64 10, .int .i64 8, .int .i64 n] 3)
set_option maxHeartbeats 4000000 in
set_option maxRecDepth 100000 in
theorem bounds_7_in (x : Int) (n : Int) (h1 : 0 ≤ n) (h2 : n ≤ 1099511627776) (hx : x % 9 = 7) (hx0 : 0 ≤ x) (hx1 : x ≤ 255) (w : World) : Calls Try.prog 7 #[.int .u8 x, .int .i64 n] w fun e w' => e = .returned (.bool true) ∧ Below w.heap.size w w' := by
  have hu := Try.underlying24
  have hd := Aside0.mk (show decide (Right ⟨2, 2, 4, 4, 2, 3, [(-1), 0, 1, 0], [20, 10, 8, n]⟩) = true from decide_eq_true ((bound7 n).2 (by omega)))
  have g0 : decide (0 ≤ n) = true := decide_eq_true (by omega)
  have g1 : decide (n ≤ 1099511627776) = true := decide_eq_true (by omega)
  go_enter Try.func7, Try.ntmps7
  go_wp2_with (fail)
  refine (K_head _).mono ?_
  rintro e w0 ⟨rfl, hb0⟩
  have HB0 := Aside0.mk hb0
  clear hb0
  go_wp2_with (fail)
  refine (K_base _).mono ?_
  rintro e W1 ⟨v6, v7, rfl, h6, h7, hB1⟩
  obtain ⟨A6, n6, d6, rfl⟩ := h6.slice
  obtain ⟨A7, n7, d7, rfl⟩ := h7.slice
  have HB1 := Aside0.mk (HB0.out.trans (hB1.mono HB0.out.size))
  clear hB1 h6 h7 HB0
  go_wp2_with (fail)
  refine (K_right ⟨2, 2, 4, 4, 2, 3, [(-1), 0, 1, 0], [20, 10, 8, n]⟩ _ _ _ (IsInts.lit4 ?_) (IsInts.lit4 ?_) (by show 4 ≤ 140737488351232; omega) (by show 4 ≤ 140737488351232; omega)).mono ?_
  rotate_left 2
  · rintro e w' ⟨rfl, hb⟩
    rw [hd.out]
    go_wp2_with (fail)
    go_ret
    exact ⟨rfl, below_step (below_alloc (below_alloc (below_alloc HB1.out _) _) _) hb⟩
  · exact blk_alloc (by simpa using blk_new (W1.alloc _) (.cells #[.int .i64 (-1), .int .i64 0, .int .i64 1, .int .i64 0] 3)) _
  · simpa using blk_new ((W1.alloc _).alloc _) (.cells #[.int .i64 20, .int .i64 10, .int .i64 8, .int .i64 n] 3)
set_option maxHeartbeats 4000000 in
set_option maxRecDepth 100000 in
theorem bounds_8_em1 (x : Int) (hx : x % 9 = 8) (hx0 : 0 ≤ x) (hx1 : x ≤ 255) (w : World) : Calls Try.prog 7 #[.int .u8 x, .int .i64 (-1)] w fun e w' => e = .returned (.bool true) ∧ Below w.heap.size w w' := by
  have hu := Try.underlying24
  have hd := Aside0.mk (show decide (Right ⟨2, 2, 4, 4, 2, 3, [(-1), 0, 1, 0], [20, 10, 8, 5]⟩) = true from decide_eq_true ((bound8 (-1)).2 (by omega)))
  go_enter Try.func7, Try.ntmps7
  go_wp2_with (fail)
  refine (K_head _).mono ?_
  rintro e w0 ⟨rfl, hb0⟩
  have HB0 := Aside0.mk hb0
  clear hb0
  go_wp2_with (fail)
  refine (K_base _).mono ?_
  rintro e W1 ⟨v6, v7, rfl, h6, h7, hB1⟩
  obtain ⟨A6, n6, d6, rfl⟩ := h6.slice
  obtain ⟨A7, n7, d7, rfl⟩ := h7.slice
  have HB1 := Aside0.mk (HB0.out.trans (hB1.mono HB0.out.size))
  clear hB1 h6 h7 HB0
  go_wp2_with (fail)
  refine (K_right ⟨2, 2, 4, 4, 2, 3, [(-1), 0, 1, 0], [20, 10, 8, 5]⟩ _ _ _ (IsInts.lit4 ?_) (IsInts.lit4 ?_) (by show 4 ≤ 140737488351232; omega) (by show 4 ≤ 140737488351232; omega)).mono ?_
  rotate_left 2
  · rintro e w' ⟨rfl, hb⟩
    rw [hd.out]
    go_wp2_with (fail)
    go_ret
    exact ⟨rfl, below_step (below_alloc (below_alloc (below_alloc HB1.out _) _) _) hb⟩
  · exact blk_alloc (by simpa using blk_new (W1.alloc _) (.cells #[.int .i64 (-1), .int .i64 0, .int .i64 1, .int .i64 0] 3)) _
  · simpa using blk_new ((W1.alloc _).alloc _) (.cells #[.int .i64 20, .int .i64 10, .int .i64 8, .int .i64 5] 3)
set_option maxHeartbeats 4000000 in
set_option maxRecDepth 100000 in
theorem bounds_8_no (x : Int) (n : Int) (h0 : n ≠ (-1)) (hx : x % 9 = 8) (hx0 : 0 ≤ x) (hx1 : x ≤ 255) (w : World) : Calls Try.prog 7 #[.int .u8 x, .int .i64 n] w fun e w' => e = .returned (.bool true) ∧ Below w.heap.size w w' := by
  have hu := Try.underlying24
  have hd := Aside0.mk (show decide (Right ⟨2, 2, 4, 4, 2, 3, [n, 0, 1, 0], [20, 10, 8, 5]⟩) = false from decide_eq_false (fun h => absurd ((bound8 n).1 h) (by omega)))
  have g0 : (n == (-1)) = false := by simpa using h0
  go_enter Try.func7, Try.ntmps7
  go_wp2_with (fail)
  refine (K_head _).mono ?_
  rintro e w0 ⟨rfl, hb0⟩
  have HB0 := Aside0.mk hb0
  clear hb0
  go_wp2_with (fail)
  refine (K_base _).mono ?_
  rintro e W1 ⟨v6, v7, rfl, h6, h7, hB1⟩
  obtain ⟨A6, n6, d6, rfl⟩ := h6.slice
  obtain ⟨A7, n7, d7, rfl⟩ := h7.slice
  have HB1 := Aside0.mk (HB0.out.trans (hB1.mono HB0.out.size))
  clear hB1 h6 h7 HB0
  go_wp2_with (fail)
  refine (K_right ⟨2, 2, 4, 4, 2, 3, [n, 0, 1, 0], [20, 10, 8, 5]⟩ _ _ _ (IsInts.lit4 ?_) (IsInts.lit4 ?_) (by show 4 ≤ 140737488351232; omega) (by show 4 ≤ 140737488351232; omega)).mono ?_
  rotate_left 2
  · rintro e w' ⟨rfl, hb⟩
    rw [hd.out]
    go_wp2_with (fail)
    go_ret
    exact ⟨rfl, below_step (below_alloc (below_alloc (below_alloc HB1.out _) _) _) hb⟩
  · exact blk_alloc (by simpa using blk_new (W1.alloc _) (.cells #[.int .i64 n, .int .i64 0, .int .i64 1, .int .i64 0] 3)) _
  · simpa using blk_new ((W1.alloc _).alloc _) (.cells #[.int .i64 20, .int .i64 10, .int .i64 8, .int .i64 5] 3)
theorem W_TreeBounds (x n : Int) (W : World) (hx : (Lit.int .u8 x).wf = true) (hn : (Lit.int .i64 n).wf = true) :
    Calls Try.prog 7 #[.int .u8 x, .int .i64 n] W fun e w' => e = .returned (.bool true) ∧ Below W.heap.size W w' := by
  have h1 := u8_range hx
  have hm : x % 9 = 0 ∨ x % 9 = 1 ∨ x % 9 = 2 ∨ x % 9 = 3 ∨ x % 9 = 4 ∨ x % 9 = 5 ∨ x % 9 = 6 ∨ x % 9 = 7 ∨ x % 9 = 8 := by omega
  rcases hm with hm | hm | hm | hm | hm | hm | hm | hm | hm
  · by_cases a : n < 1
    · exact bounds_0_lo x n a hm h1.1 h1.2 W
    · by_cases b : 8 < n
      · exact bounds_0_hi x n (by omega) b hm h1.1 h1.2 W
      · exact bounds_0_in x n (by omega) (by omega) hm h1.1 h1.2 W
  · by_cases a0 : n = 1
    · subst a0; exact bounds_1_e1 x hm h1.1 h1.2 W
    · by_cases a1 : n = 2
      · subst a1; exact bounds_1_e2 x hm h1.1 h1.2 W
      · by_cases a2 : n = 4
        · subst a2; exact bounds_1_e4 x hm h1.1 h1.2 W
        · by_cases a3 : n = 8
          · subst a3; exact bounds_1_e8 x hm h1.1 h1.2 W
          · exact bounds_1_no x n a0 a1 a2 a3 hm h1.1 h1.2 W
  · by_cases a : n < 1
    · exact bounds_2_lo x n a hm h1.1 h1.2 W
    · by_cases b : 1048576 < n
      · exact bounds_2_hi x n (by omega) b hm h1.1 h1.2 W
      · exact bounds_2_in x n (by omega) (by omega) hm h1.1 h1.2 W
  · by_cases a : n < 0
    · exact bounds_3_lo x n a hm h1.1 h1.2 W
    · by_cases b : 1048576 < n
      · exact bounds_3_hi x n (by omega) b hm h1.1 h1.2 W
      · exact bounds_3_in x n (by omega) (by omega) hm h1.1 h1.2 W
  · by_cases a : n < 1
    · exact bounds_4_lo x n a hm h1.1 h1.2 W
    · by_cases b : 8 < n
      · exact bounds_4_hi x n (by omega) b hm h1.1 h1.2 W
      · exact bounds_4_in x n (by omega) (by omega) hm h1.1 h1.2 W
  · by_cases a : n < 1
    · exact bounds_5_lo x n a hm h1.1 h1.2 W
    · by_cases b : 16 < n
      · exact bounds_5_hi x n (by omega) b hm h1.1 h1.2 W
      · exact bounds_5_in x n (by omega) (by omega) hm h1.1 h1.2 W
  · by_cases a0 : n = 0
    · subst a0; exact bounds_6_e0 x hm h1.1 h1.2 W
    · by_cases a1 : n = 1
      · subst a1; exact bounds_6_e1 x hm h1.1 h1.2 W
      · exact bounds_6_no x n a0 a1 hm h1.1 h1.2 W
  · by_cases a : n < 0
    · exact bounds_7_lo x n a hm h1.1 h1.2 W
    · by_cases b : 1099511627776 < n
      · exact bounds_7_hi x n (by omega) b hm h1.1 h1.2 W
      · exact bounds_7_in x n (by omega) (by omega) hm h1.1 h1.2 W
  · by_cases a0 : n = (-1)
    · subst a0; exact bounds_8_em1 x hm h1.1 h1.2 W
    · exact bounds_8_no x n a0 hm h1.1 h1.2 W
end Go.Proofs.Ytmkgaihppohkkaa.PT
