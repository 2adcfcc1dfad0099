import Derived.Test.YtmkgaihppohkkaaPTx5
import Derived.Test.YtmkgaihppohkkaaPTx6
import Derived.Test.YtmkgaihppohkkaaPTx4
import Derived.Test.YtmkgaihppohkkaaPTx4
import Derived.Shelf.Abstract
namespace Go.Proofs.Ytmkgaihppohkkaa.PT
open Go.RowKit Go.Shelf Go.Proofs.YtmkgaihppohkkaaW.PrintWords Go.Proofs.YtmkgaihppohkkaaW.PrintLast Go.Proofs.YtmkgaihppohkkaaW.PrintMore
attribute [local go_sem] max2_int min2_int max_two min_two max_three min_three max_four min_four
set_option linter.unusedVariables false
set_option linter.unusedSimpArgs false
theorem in_f (x l h : Int) : breadlineref04_in.f x l h = some (decide (l ≤ x ∧ x ≤ h)) := by
  unfold breadlineref04_in.f
  split
  · congr 1; rw [Bool.eq_iff_iff]; simp only [decide_eq_true_eq]; omega
  · congr 1; rw [Bool.eq_iff_iff]; simp only [decide_eq_true_eq]; constructor
    · intro h; cases h
    · intro h; omega
theorem ref_right_l0 (c : LConf) (hl : c.ls.length = c.ps.length) (hn : c.ps.length ≤ 12) : ∀ (d : Nat) (i : Nat) (k : Nat), c.ps.length - i = d → i ≤ c.ps.length → d < k →
    breadlineref04_Right.l0 k (i : Int) c.th c.st c.ga c.le c.re c.ti c.ps c.ls = some (decide (∀ j, j < c.ps.length → i ≤ j → NodeOk c j))
  | 0, i, k, hd, hi, hk => by
    obtain ⟨k, rfl⟩ : ∃ m, k = m + 1 := ⟨k - 1, by omega⟩
    simp only [breadlineref04_Right.l0]
    rw [if_neg (by omega), decide_eq_true (fun j h1 h2 => absurd h1 (by omega))]
  | d + 1, i, k, hd, hi, hk => by
    obtain ⟨k, rfl⟩ : ∃ m, k = m + 1 := ⟨k - 1, by omega⟩
    have hw : wrap64 ((i : Int) + 1) = ((i + 1 : Nat) : Int) := by rw [w64 (by omega) (by omega)]; omega
    have hnext := ref_right_l0 c hl hn d (i + 1) k (by omega) (by omega) (by omega)
    have hall : (∀ j, j < c.ps.length → i ≤ j → NodeOk c j) ↔ NodeOk c i ∧ ∀ j, j < c.ps.length → i + 1 ≤ j → NodeOk c j := by
      constructor
      · exact fun h => ⟨h i (by omega) (Nat.le_refl _), fun j h1 h2 => h j h1 (by omega)⟩
      · rintro ⟨h0, h⟩ j h1 h2
        by_cases e : j = i
        · subst e; exact h0
        · exact h j h1 (by omega)
    have hyes : NodeOk c i → some (decide (∀ j, j < c.ps.length → i + 1 ≤ j → NodeOk c j)) = some (decide (∀ j, j < c.ps.length → i ≤ j → NodeOk c j)) := fun h => by
      congr 1; rw [Bool.eq_iff_iff]; simp only [decide_eq_true_eq]; exact ⟨fun h2 => hall.2 ⟨h, h2⟩, fun h2 => (hall.1 h2).2⟩
    have hno : ¬ NodeOk c i → some false = some (decide (∀ j, j < c.ps.length → i ≤ j → NodeOk c j)) := fun h => by
      congr 1; refine (decide_eq_false ?_).symm; exact fun h2 => h (hall.1 h2).1
    simp only [breadlineref04_Right.l0]
    rw [if_pos (by omega), if_pos (by omega), if_pos (by omega)]
    simp only [in_f, Option.bind_some, hw, hnext, decide_eq_true_eq]
    by_cases h0 : i = 0
    · subst h0
      have h00 : ((0 : Nat) : Int) = 0 := rfl
      rw [h00]
      by_cases hA : 0 ≤ rd c.ls 0 ∧ rd c.ls 0 ≤ 1099511627776
      · rw [if_pos hA, if_pos rfl]
        by_cases hB : rd c.ps 0 = -1
        · rw [if_pos hB, if_neg (by omega)]
          exact hyes ⟨hA, by rw [if_pos rfl]; exact hB⟩
        · rw [if_neg hB]
          exact hno (fun h => hB (by have := h.2; rw [if_pos rfl] at this; exact this))
      · rw [if_neg hA]
        exact hno (fun h => hA h.1)
    · have hp : (i : Int) > 0 := by omega
      by_cases hA : 0 ≤ rd c.ls i ∧ rd c.ls i ≤ 1099511627776
      · rw [if_pos hA, if_neg (by omega), if_pos hp, w64 (x := (i : Int) - 1) (by omega) (by omega)]
        by_cases hB : 0 ≤ rd c.ps i ∧ rd c.ps i ≤ (i : Int) - 1
        · rw [if_pos hB]
          exact hyes ⟨hA, by rw [if_neg h0]; omega⟩
        · rw [if_neg hB]
          exact hno (fun h => hB (by have := h.2; rw [if_neg h0] at this; omega))
      · rw [if_neg hA]
        exact hno (fun h => hA h.1)
theorem ref_right_f (c : LConf) : breadlineref04_Right.f 20 c.th c.st c.ga c.le c.re c.ti c.ps c.ls = some (decide (Right c)) := by
  have key : breadlineref04_Right.f 20 c.th c.st c.ga c.le c.re c.ti c.ps c.ls = breadlineref04_Right.j0 20 (!decide ((1 ≤ c.th ∧ c.th ≤ 8) ∧ (c.st = 1 ∨ c.st = 2 ∨ c.st = 4 ∨ c.st = 8) ∧ (1 ≤ c.ga ∧ c.ga ≤ 1048576) ∧ (0 ≤ c.le ∧ c.le ≤ 1048576) ∧ (1 ≤ c.re ∧ c.re ≤ 8) ∧ (1 ≤ c.ti ∧ c.ti ≤ 16))) c.th c.st c.ga c.le c.re c.ti c.ps c.ls := by
    unfold breadlineref04_Right.f
    simp only [in_f, Option.bind_some, decide_eq_true_eq]
    repeat' split
    all_goals
      congr 1
      rw [Bool.eq_iff_iff]
      simp only [Bool.not_eq_true', decide_eq_false_iff_not]
      first | omega | (constructor <;> intro _ <;> omega) | (constructor; (intro _; omega); (intro _; trivial))
  rw [key]
  by_cases h : (1 ≤ c.th ∧ c.th ≤ 8) ∧ (c.st = 1 ∨ c.st = 2 ∨ c.st = 4 ∨ c.st = 8) ∧ (1 ≤ c.ga ∧ c.ga ≤ 1048576) ∧ (0 ≤ c.le ∧ c.le ≤ 1048576) ∧ (1 ≤ c.re ∧ c.re ≤ 8) ∧ (1 ≤ c.ti ∧ c.ti ≤ 16)
  · rw [decide_eq_true h]
    simp only [breadlineref04_Right.j0, Bool.not_true, in_f, Option.bind_some, decide_eq_true_eq, Bool.false_eq_true, if_false]
    by_cases hn : 1 ≤ (c.ps.length : Int) ∧ (c.ps.length : Int) ≤ 12
    · rw [if_pos hn]
      by_cases hl : c.ls.length = c.ps.length
      · simp only [breadlineref04_Right.j1, hl, bne_self_eq_false, Bool.false_eq_true, if_false]
        have hl0 := ref_right_l0 c hl (by omega) c.ps.length 0 18 rfl (by omega) (by omega)
        rw [show (0 : Int) = ((0 : Nat) : Int) from rfl, hl0]
        congr 1
        rw [Bool.eq_iff_iff]
        simp only [decide_eq_true_eq]
        unfold Right HeadOk
        exact ⟨fun H => ⟨⟨h.1, h.2.1, h.2.2.1, h.2.2.2.1, h.2.2.2.2.1, h.2.2.2.2.2, ⟨by omega, by omega⟩, hl⟩, fun i hi => H i hi (Nat.zero_le _)⟩, fun H i hi _ => H.2 i hi⟩
      · have : ((c.ls.length : Int) != (c.ps.length : Int)) = true := by simp; omega
        simp only [breadlineref04_Right.j1, this, if_true]
        congr 1
        exact (decide_eq_false fun H => hl H.1.2.2.2.2.2.2.2).symm
    · rw [if_neg hn]
      simp only [breadlineref04_Right.j1, if_true]
      congr 1
      exact (decide_eq_false fun H => hn (by have := H.1.2.2.2.2.2.2.1; omega)).symm
  · rw [decide_eq_false h]
    simp only [breadlineref04_Right.j0, Bool.not_false, if_true]
    congr 1
    exact (decide_eq_false fun H => h ⟨H.1.1, H.1.2.1, H.1.2.2.1, H.1.2.2.2.1, H.1.2.2.2.2.1, H.1.2.2.2.2.2.1⟩).symm
theorem ref_path_l0 (c : LConf) : ∀ (xs acc : List Int) (u : Int) (k : Nat), IsUp c.ps u xs → xs.length < k → acc.length + xs.length < 1000000 →
    breadlineref04_Path.l0 k acc u c.th c.st c.ga c.le c.re c.ti c.ps c.ls = some (acc ++ xs)
  | [], acc, u, k, h, hk, _ => by
    obtain ⟨k, rfl⟩ : ∃ m, k = m + 1 := ⟨k - 1, by omega⟩
    have h : u < 0 := h
    simp only [breadlineref04_Path.l0]
    rw [if_neg (by omega), List.append_nil]
  | x :: xs, acc, u, k, ⟨hx, h0, h1, _, h⟩, hk, hl => by
    obtain ⟨k, rfl⟩ : ∃ m, k = m + 1 := ⟨k - 1, by omega⟩
    subst hx
    simp only [List.length_cons] at hk hl
    simp only [breadlineref04_Path.l0]
    rw [if_pos (by omega), if_pos (by omega), if_pos h0, if_pos h1, ref_path_l0 c xs (acc ++ [x]) (rd c.ps x) k h (by omega) (by simp; omega)]
    simp
theorem ref_path_f {c : LConf} (hf : Falls c.ps) (hn : c.ps.length ≤ 12) (v : Int) (k : Nat) (hk : 14 < k) : breadlineref04_Path.f k c.th c.st c.ga c.le c.re c.ti c.ps c.ls v = some (pathL c.ps v) := by
  obtain ⟨k, rfl⟩ : ∃ m, k = m + 1 := ⟨k - 1, by omega⟩
  unfold breadlineref04_Path.f
  by_cases h0 : v < 0
  · rw [if_pos h0, pathL_neg h0]
    simp only [breadlineref04_Path.j0, if_true]
  · rw [if_neg h0]
    by_cases h : v ≥ (c.ps.length : Int)
    · rw [decide_eq_true h, pathL_out h]
      simp only [breadlineref04_Path.j0, if_true]
    · rw [decide_eq_false h]
      simp only [breadlineref04_Path.j0, Bool.false_eq_true, if_false]
      have := pathL_len hf v
      rw [ref_path_l0 c (pathL c.ps v) [] v k (pathL_is hf (by omega)) (by omega) (by simp; omega)]
      simp
theorem ref_depth_l0 {c : LConf} (hf : Falls c.ps) (hn : c.ps.length ≤ 12) : ∀ (m : Nat) (i : Nat) (d : Int) (k : Nat), i + m = c.ps.length → m + 15 < k →
    breadlineref04_Depth.l0 k d (i : Int) c.th c.st c.ga c.le c.re c.ti c.ps c.ls = some (depL c.ps m d)
  | 0, i, d, k, hi, hk => by
    obtain ⟨k, rfl⟩ : ∃ m, k = m + 1 := ⟨k - 1, by omega⟩
    simp only [breadlineref04_Depth.l0]
    rw [if_neg (by omega)]; rfl
  | m + 1, i, d, k, hi, hk => by
    obtain ⟨k, rfl⟩ : ∃ m, k = m + 1 := ⟨k - 1, by omega⟩
    have hw : wrap64 ((i : Int) + 1) = ((i + 1 : Nat) : Int) := by rw [w64 (by omega) (by omega)]; omega
    simp only [breadlineref04_Depth.l0]
    rw [if_pos (by omega), ref_path_f hf hn _ k (by omega)]
    simp only [Option.bind_some]
    rw [hw, ref_depth_l0 hf hn m (i + 1) _ k (by omega) (by omega)]
    simp only [depL]
    rw [show c.ps.length - (m + 1) = i by omega]
theorem ref_depth_f {c : LConf} (hf : Falls c.ps) (hn : c.ps.length ≤ 12) : breadlineref04_Depth.f 40 c.th c.st c.ga c.le c.re c.ti c.ps c.ls = some (depthL c.ps) := by
  unfold breadlineref04_Depth.f depthL
  exact ref_depth_l0 hf hn c.ps.length 0 0 40 (by omega) (by omega)
theorem ref_under_l0 (b : Int) (xs : List Int) (hl : xs.length < 1000000) : ∀ (m i k : Nat), i + m = xs.length → m < k → breadlineref04_Under.l0 k b xs (i : Int) = some (decide (b ∈ xs.drop i))
  | 0, i, k, hi, hk => by
    obtain ⟨k, rfl⟩ : ∃ m, k = m + 1 := ⟨k - 1, by omega⟩
    simp only [breadlineref04_Under.l0]
    rw [if_neg (by omega), List.drop_eq_nil_of_le (by omega)]; simp
  | m + 1, i, k, hi, hk => by
    obtain ⟨k, rfl⟩ : ∃ m, k = m + 1 := ⟨k - 1, by omega⟩
    have hw : wrap64 ((i : Int) + 1) = ((i + 1 : Nat) : Int) := by rw [w64 (by omega) (by omega)]; omega
    simp only [breadlineref04_Under.l0]
    have hd : xs.drop i = xs[i] :: xs.drop (i + 1) := List.drop_eq_getElem_cons (by omega)
    rw [if_pos (by omega), if_pos (by omega), rd_lt (show i < xs.length by omega), hw, ref_under_l0 b xs hl m (i + 1) k (by omega) (by omega), hd]
    by_cases h : xs[i] = b
    · rw [if_pos h]; simp [h]
    · rw [if_neg h]; congr 1; rw [Bool.eq_iff_iff]; simp only [decide_eq_true_eq, List.mem_cons]
      exact ⟨.inr, fun h' => h'.elim (fun e => absurd e.symm h) id⟩
theorem ref_under_f {c : LConf} (hf : Falls c.ps) (hn : c.ps.length ≤ 12) (a b : Int) : breadlineref04_Under.f 40 c.th c.st c.ga c.le c.re c.ti c.ps c.ls a b = some (decide (b ∈ pathL c.ps a)) := by
  unfold breadlineref04_Under.f
  rw [ref_path_f hf hn a 40 (by omega)]
  have := pathL_len hf a
  exact ref_under_l0 b (pathL c.ps a) (by omega) (pathL c.ps a).length 0 40 (by omega) (by omega)
theorem ref_leaf_l0 (c : LConf) (hn : c.ps.length ≤ 12) (a : Int) : ∀ (m i k : Nat), i + m = c.ps.length → m < k → breadlineref04_Leaf.l0 k a (i : Int) c.th c.st c.ga c.le c.re c.ti c.ps c.ls = some (decide (0 ≤ a ∧ a < (c.ps.length : Int) ∧ a ∉ c.ps.drop i))
  | 0, i, k, hi, hk => by
    obtain ⟨k, rfl⟩ : ∃ m, k = m + 1 := ⟨k - 1, by omega⟩
    simp only [breadlineref04_Leaf.l0]
    rw [if_neg (by omega), List.drop_eq_nil_of_le (by omega)]
    by_cases h0 : a ≥ 0
    · rw [if_pos h0]; congr 1; rw [Bool.eq_iff_iff]; simp only [decide_eq_true_eq]; exact ⟨fun h => ⟨h0, h, by simp⟩, fun h => h.2.1⟩
    · rw [if_neg h0]; congr 1; exact (decide_eq_false fun h => h0 h.1).symm
  | m + 1, i, k, hi, hk => by
    obtain ⟨k, rfl⟩ : ∃ m, k = m + 1 := ⟨k - 1, by omega⟩
    have hw : wrap64 ((i : Int) + 1) = ((i + 1 : Nat) : Int) := by rw [w64 (by omega) (by omega)]; omega
    have hd : c.ps.drop i = c.ps[i] :: c.ps.drop (i + 1) := List.drop_eq_getElem_cons (by omega)
    simp only [breadlineref04_Leaf.l0]
    rw [if_pos (by omega), if_pos (by omega), rd_lt (show i < c.ps.length by omega), hw, ref_leaf_l0 c hn a m (i + 1) k (by omega) (by omega), hd]
    by_cases h : c.ps[i] = a
    · rw [if_pos h]; congr 1; exact (decide_eq_false fun h' => h'.2.2 (by simp [h])).symm
    · rw [if_neg h]; congr 1; rw [Bool.eq_iff_iff]; simp only [decide_eq_true_eq, List.mem_cons, not_or]
      exact ⟨fun h' => ⟨h'.1, h'.2.1, fun e => h e.symm, h'.2.2⟩, fun h' => ⟨h'.1, h'.2.1, h'.2.2.2⟩⟩
theorem ref_leaf_f (c : LConf) (hn : c.ps.length ≤ 12) (a : Int) : breadlineref04_Leaf.f 20 c.th c.st c.ga c.le c.re c.ti c.ps c.ls a = some (leafB c.ps a) := by
  unfold breadlineref04_Leaf.f leafB
  exact ref_leaf_l0 c hn a c.ps.length 0 20 (by omega) (by omega)
theorem K_ref_right (c : LConf) (v6 v7 : Value) (W : World) (h6 : IsInts W v6 c.ps) (h7 : IsInts W v7 c.ls) : Calls Try.prog 12 #[.agg #[.int .i64 c.th, .int .i64 c.st, .int .i64 c.ga, .int .i64 c.le, .int .i64 c.re, .int .i64 c.ti, v6, v7]] W fun e w' => e = .returned (.bool (decide (Right c))) ∧ Below W.heap.size W w' := by
  obtain ⟨A6, c6, rfl, hc6, hr6⟩ := h6
  obtain ⟨A7, c7, rfl, hc7, hr7⟩ := h7
  exact breadlineref04_Right.calls 20 _ _ _ _ _ _ A6 c6 c.ps A7 c7 c.ls _ W hr6 hc6 hr7 hc7 (ref_right_f c)
theorem K_ref_path (c : LConf) (v6 v7 : Value) (a : Int) (W : World) (h6 : IsInts W v6 c.ps) (h7 : IsInts W v7 c.ls) (hf : Falls c.ps) (hn : c.ps.length ≤ 12) :
    Calls Try.prog 15 #[.agg #[.int .i64 c.th, .int .i64 c.st, .int .i64 c.ga, .int .i64 c.le, .int .i64 c.re, .int .i64 c.ti, v6, v7], .int .i64 a] W fun e w' => ∃ v, e = .returned v ∧ IsInts w' v (pathL c.ps a) ∧ Below W.heap.size W w' := by
  obtain ⟨A6, c6, rfl, hc6, hr6⟩ := h6
  obtain ⟨A7, c7, rfl, hc7, hr7⟩ := h7
  exact (breadlineref04_Path.calls 20 _ _ _ _ _ _ A6 c6 c.ps A7 c7 c.ls a _ W hr6 hc6 hr7 hc7 (ref_path_f hf hn a 20 (by omega))).mono fun _ _ ⟨v, he, hR, hb⟩ => ⟨v, he, .of_R hR, hb⟩
theorem K_ref_depth (c : LConf) (v6 v7 : Value) (W : World) (h6 : IsInts W v6 c.ps) (h7 : IsInts W v7 c.ls) (hf : Falls c.ps) (hn : c.ps.length ≤ 12) :
    Calls Try.prog 17 #[.agg #[.int .i64 c.th, .int .i64 c.st, .int .i64 c.ga, .int .i64 c.le, .int .i64 c.re, .int .i64 c.ti, v6, v7]] W fun e w' => e = .returned (.int .i64 (depthL c.ps)) ∧ Below W.heap.size W w' := by
  obtain ⟨A6, c6, rfl, hc6, hr6⟩ := h6
  obtain ⟨A7, c7, rfl, hc7, hr7⟩ := h7
  exact breadlineref04_Depth.calls 40 _ _ _ _ _ _ A6 c6 c.ps A7 c7 c.ls _ W hr6 hc6 hr7 hc7 (ref_depth_f hf hn)
theorem K_ref_under (c : LConf) (v6 v7 : Value) (a b : Int) (W : World) (h6 : IsInts W v6 c.ps) (h7 : IsInts W v7 c.ls) (hf : Falls c.ps) (hn : c.ps.length ≤ 12) :
    Calls Try.prog 19 #[.agg #[.int .i64 c.th, .int .i64 c.st, .int .i64 c.ga, .int .i64 c.le, .int .i64 c.re, .int .i64 c.ti, v6, v7], .int .i64 a, .int .i64 b] W fun e w' => e = .returned (.bool (decide (b ∈ pathL c.ps a))) ∧ Below W.heap.size W w' := by
  obtain ⟨A6, c6, rfl, hc6, hr6⟩ := h6
  obtain ⟨A7, c7, rfl, hc7, hr7⟩ := h7
  exact breadlineref04_Under.calls 40 _ _ _ _ _ _ A6 c6 c.ps A7 c7 c.ls a b _ W hr6 hc6 hr7 hc7 (ref_under_f hf hn a b)
theorem K_ref_leaf (c : LConf) (v6 v7 : Value) (a : Int) (W : World) (h6 : IsInts W v6 c.ps) (h7 : IsInts W v7 c.ls) (hn : c.ps.length ≤ 12) :
    Calls Try.prog 21 #[.agg #[.int .i64 c.th, .int .i64 c.st, .int .i64 c.ga, .int .i64 c.le, .int .i64 c.re, .int .i64 c.ti, v6, v7], .int .i64 a] W fun e w' => e = .returned (.bool (leafB c.ps a)) ∧ Below W.heap.size W w' := by
  obtain ⟨A6, c6, rfl, hc6, hr6⟩ := h6
  obtain ⟨A7, c7, rfl, hc7, hr7⟩ := h7
  exact breadlineref04_Leaf.calls 20 _ _ _ _ _ _ A6 c6 c.ps A7 c7 c.ls a _ W hr6 hc6 hr7 hc7 (ref_leaf_f c hn a)
theorem K_great (c : LConf) (v6 v7 : Value) (W : World) (h6 : IsInts W v6 c.ps) (h7 : IsInts W v7 c.ls) :
    Calls Try.prog 10 #[.agg #[.int .i64 c.th, .int .i64 c.st, .int .i64 c.ga, .int .i64 c.le, .int .i64 c.re, .int .i64 c.ti, v6, v7]] W fun e w' => e = .returned (.bool (decide (c.ps.length > 100 ∨ c.ls.length > 100))) ∧ Below W.heap.size W w' := by
  obtain ⟨A6, c6, rfl, hc6, hr6⟩ := h6
  obtain ⟨A7, c7, rfl, hc7, hr7⟩ := h7
  refine breadlinelaw04_Great.calls _ _ _ _ _ _ A6 c6 c.ps A7 c7 c.ls _ W hr6 hc6 hr7 hc7 ?_
  unfold breadlinelaw04_Great.f
  split
  · congr 1; exact (decide_eq_true (by omega)).symm
  · congr 1; rw [Bool.eq_iff_iff]; simp only [decide_eq_true_eq]; omega
end Go.Proofs.Ytmkgaihppohkkaa.PT
