-- Printed by the session's own driver (wip/tools/drive.py) on the kit's print.py, with hand-proved functions put in. Not trusted: Lean checks it.
import Derived.Test.YtmkgaihppohkkaaPTx0
import Derived.Test.YtmkgaihppohkkaaPTx1
import Derived.Test.YtmkgaihppohkkaaPTx2
import Derived.Test.YtmkgaihppohkkaaPTx3
namespace Go.Proofs.Ytmkgaihppohkkaa.PT
open Go.RowKit Go.Proofs.YtmkgaihppohkkaaW.PrintWords Go.Proofs.YtmkgaihppohkkaaW.PrintLast Go.Proofs.YtmkgaihppohkkaaW.PrintMore
attribute [local go_sem] max2_int min2_int max_two min_two max_three min_three max_four min_four   -- for this text's walks alone
set_option linter.unusedVariables false
set_option linter.unusedSimpArgs false

/-! ### breadlinelaw04_head: function 9 -/
/-- A setting. -/
structure LConf where
  th : Int
  st : Int
  ga : Int
  le : Int
  re : Int
  ti : Int
  ps : List Int
  ls : List Int
/-- the document's D1. -/
def NodeOk (c : LConf) (i : Nat) : Prop := (0 ≤ rd c.ls (i : Int) ∧ rd c.ls (i : Int) ≤ 1099511627776) ∧ (if i = 0 then rd c.ps (i : Int) = -1 else 0 ≤ rd c.ps (i : Int) ∧ rd c.ps (i : Int) < (i : Int))
instance (c : LConf) (i : Nat) : Decidable (NodeOk c i) := by unfold NodeOk; infer_instance
def HeadOk (c : LConf) : Prop := (1 ≤ c.th ∧ c.th ≤ 8) ∧ (c.st = 1 ∨ c.st = 2 ∨ c.st = 4 ∨ c.st = 8) ∧ (1 ≤ c.ga ∧ c.ga ≤ 1048576) ∧ (0 ≤ c.le ∧ c.le ≤ 1048576) ∧ (1 ≤ c.re ∧ c.re ≤ 8) ∧ (1 ≤ c.ti ∧ c.ti ≤ 16) ∧ (1 ≤ c.ps.length ∧ c.ps.length ≤ 12) ∧ c.ls.length = c.ps.length
instance (c : LConf) : Decidable (HeadOk c) := by unfold HeadOk; infer_instance
def Right (c : LConf) : Prop := HeadOk c ∧ ∀ i, i < c.ps.length → NodeOk c i
instance (c : LConf) : Decidable (Right c) := by unfold Right; infer_instance
theorem ones_of (s : Int) (h0 : 1 ≤ s) (h1 : s ≤ 8) : ∃ n, bits_OnesCount.f (IntKind.u64.wrap s) = some n ∧ (n = 1 ↔ (s = 1 ∨ s = 2 ∨ s = 4 ∨ s = 8)) := by
  have : s = 1 ∨ s = 2 ∨ s = 3 ∨ s = 4 ∨ s = 5 ∨ s = 6 ∨ s = 7 ∨ s = 8 := by omega
  rcases this with rfl | rfl | rfl | rfl | rfl | rfl | rfl | rfl
  · exact ⟨1, by decide +kernel, by decide⟩
  · exact ⟨1, by decide +kernel, by decide⟩
  · exact ⟨2, by decide +kernel, by decide⟩
  · exact ⟨1, by decide +kernel, by decide⟩
  · exact ⟨2, by decide +kernel, by decide⟩
  · exact ⟨2, by decide +kernel, by decide⟩
  · exact ⟨3, by decide +kernel, by decide⟩
  · exact ⟨1, by decide +kernel, by decide⟩
theorem w64 {x : Int} (h0 : -9223372036854775808 ≤ x) (h1 : x ≤ 9223372036854775807) : wrap64 x = x := by unfold wrap64; omega
theorem right_l0 (c : LConf) (hl : c.ls.length = c.ps.length) (hn : c.ps.length ≤ 12) : ∀ (d : Nat) (i : Nat) (k : Nat) (b : Bool), c.ps.length - i = d → i ≤ c.ps.length → d < k →
    tree_Right.l0 k b (c.ps.length : Int) (i : Int) c.th c.st c.ga c.le c.re c.ti c.ps c.ls = some (b && decide (∀ j, j < c.ps.length → i ≤ j → NodeOk c j))
  | 0, i, k, b, hd, hi, hk => by
    obtain ⟨k, rfl⟩ : ∃ m, k = m + 1 := ⟨k - 1, by omega⟩
    simp only [tree_Right.l0]
    rw [if_neg (by omega), decide_eq_true (fun j h1 h2 => absurd h1 (by omega)), Bool.and_true]
  | d + 1, i, k, b, hd, hi, hk => by
    obtain ⟨k, rfl⟩ : ∃ m, k = m + 1 := ⟨k - 1, by omega⟩
    have hw : wrap64 ((i : Int) + 1) = ((i + 1 : Nat) : Int) := by rw [w64 (by omega) (by omega)]; omega
    have hnext := fun b => right_l0 c hl hn d (i + 1) k b (by omega) (by omega) (by omega)
    have hall : (∀ j, j < c.ps.length → i ≤ j → NodeOk c j) ↔ NodeOk c i ∧ ∀ j, j < c.ps.length → i + 1 ≤ j → NodeOk c j := by
      constructor
      · exact fun h => ⟨h i (by omega) (Nat.le_refl _), fun j h1 h2 => h j h1 (by omega)⟩
      · rintro ⟨h0, h⟩ j h1 h2
        by_cases e : j = i
        · subst e; exact h0
        · exact h j h1 (by omega)
    simp only [tree_Right.l0]
    rw [if_pos (by omega)]
    cases b with
    | false =>
      rw [if_neg (by simp), hw, hnext, Bool.false_and, Bool.false_and]
    | true =>
      rw [if_pos rfl, if_pos (by omega), if_pos (by omega), if_pos (by omega)]
      simp only [tree_within.f, List.length_cons, List.length_nil]
      rw [if_pos (by omega)]
      simp only [Option.bind_some]
      rw [hw, hnext, Bool.true_and]
      congr 1
      rw [show (decide (∀ j, j < c.ps.length → i ≤ j → NodeOk c j)) = (decide (NodeOk c i) && decide (∀ j, j < c.ps.length → i + 1 ≤ j → NodeOk c j)) by rw [Bool.eq_iff_iff]; simp only [Bool.and_eq_true, decide_eq_true_eq]; exact hall]
      congr 1
      rw [Bool.eq_iff_iff]
      simp only [List.any_cons, List.any_nil, bOut, Bool.or_false, Bool.not_or, Bool.and_eq_true, Bool.not_eq_true', decide_eq_false_iff_not, decide_eq_true_eq]
      unfold NodeOk
      by_cases h0 : i = 0
      · subst h0
        rw [if_pos rfl, show wrap64 ((mn ((0 : Nat) : Int) 1) - 1) = -1 by decide +kernel, show wrap64 (((0 : Nat) : Int) - 1) = -1 by decide +kernel]
        omega
      · rw [if_neg h0, show mn (i : Int) 1 = 1 by unfold mn; split <;> omega, show wrap64 ((1 : Int) - 1) = 0 by decide +kernel, w64 (x := (i : Int) - 1) (by omega) (by omega)]
        omega
theorem right_f (c : LConf) (hp : c.ps.length ≤ 140737488351232) (hl : c.ls.length ≤ 140737488351232) : tree_Right.f 20 c.th c.st c.ga c.le c.re c.ti c.ps c.ls = some (decide (Right c)) := by
  unfold tree_Right.f
  simp only [tree_within.f, List.length_cons, List.length_nil]
  rw [if_pos (by omega)]
  simp only [Option.bind_some]
  have hb : (![(⟨c.th, 1, 8⟩ : S40), (⟨c.st, 1, 8⟩ : S40), (⟨c.ga, 1, 1048576⟩ : S40), (⟨c.le, 0, 1048576⟩ : S40), (⟨c.re, 1, 8⟩ : S40), (⟨c.ti, 1, 16⟩ : S40), (⟨(c.ps.length : Int), 1, 12⟩ : S40), (⟨(c.ls.length : Int), (c.ps.length : Int), (c.ps.length : Int)⟩ : S40)].any bOut) = true ↔ ((1 ≤ c.th ∧ c.th ≤ 8) ∧ (1 ≤ c.st ∧ c.st ≤ 8) ∧ (1 ≤ c.ga ∧ c.ga ≤ 1048576) ∧ (0 ≤ c.le ∧ c.le ≤ 1048576) ∧ (1 ≤ c.re ∧ c.re ≤ 8) ∧ (1 ≤ c.ti ∧ c.ti ≤ 16) ∧ (1 ≤ c.ps.length ∧ c.ps.length ≤ 12) ∧ c.ls.length = c.ps.length) := by
    simp only [List.any_cons, List.any_nil, bOut, Bool.or_false, Bool.not_or, Bool.and_eq_true, Bool.not_eq_true', decide_eq_false_iff_not]
    omega
  by_cases h : (![(⟨c.th, 1, 8⟩ : S40), (⟨c.st, 1, 8⟩ : S40), (⟨c.ga, 1, 1048576⟩ : S40), (⟨c.le, 0, 1048576⟩ : S40), (⟨c.re, 1, 8⟩ : S40), (⟨c.ti, 1, 16⟩ : S40), (⟨(c.ps.length : Int), 1, 12⟩ : S40), (⟨(c.ls.length : Int), (c.ps.length : Int), (c.ps.length : Int)⟩ : S40)].any bOut) = true
  · have h' := hb.1 h
    rw [if_pos h]
    obtain ⟨n, hn, hn1⟩ := ones_of c.st h'.2.1.1 h'.2.1.2
    rw [hn]
    simp only [Option.bind_some]
    have hl0 := right_l0 c h'.2.2.2.2.2.2.2 h'.2.2.2.2.2.2.1.2 c.ps.length 0 19 true rfl (by omega) (by omega)
    by_cases h1 : n = 1
    · rw [if_pos h1, if_pos (by omega)]
      simp only [tree_Right.j0]
      by_cases h2 : rd c.ps 0 = -1
      · rw [if_neg (by simp [h2]), h, show (0 : Int) = ((0 : Nat) : Int) from rfl, hl0]
        congr 1
        rw [Bool.true_and, Bool.eq_iff_iff]
        simp only [decide_eq_true_eq]
        unfold Right HeadOk
        exact ⟨fun H => ⟨⟨h'.1, hn1.1 h1, h'.2.2⟩, fun i hi => H i hi (Nat.zero_le _)⟩, fun H i hi _ => H.2 i hi⟩
      · rw [if_pos (by simp [h2])]
        congr 1
        refine (decide_eq_false ?_).symm
        intro H
        have := (H.2 0 (by omega)).2
        rw [if_pos rfl] at this
        exact h2 this
    · rw [if_neg h1]
      simp only [tree_Right.j0, if_true]
      congr 1
      refine (decide_eq_false ?_).symm
      exact fun H => h1 (hn1.2 H.1.2.1)
  · rw [if_neg h]
    simp only [tree_Right.j0, if_true]
    congr 1
    refine (decide_eq_false ?_).symm
    rintro ⟨H, _⟩
    refine h (hb.2 ⟨H.1, ?_, H.2.2⟩)
    have := H.2.1
    omega
def Falls (ps : List Int) : Prop := ∀ i, i < ps.length → rd ps (i : Int) < (i : Int)
theorem Right.falls {c : LConf} (h : Right c) : Falls c.ps := fun i hi => by
  have := (h.2 i hi).2
  split at this <;> omega
theorem upL_some {ps : List Int} (hf : Falls ps) : ∀ (k : Nat) (v : Int), v < (ps.length : Int) → v < (k : Int) → ∃ xs, upL ps k v = some xs
  | 0, v, _, h => ⟨[], by unfold upL; rw [if_pos (by omega)]⟩
  | k + 1, v, hl, h => by
    by_cases h0 : v < 0
    · exact ⟨[], by unfold upL; rw [if_pos h0]⟩
    · have hv : rd ps v < v := by have := hf v.toNat (by omega); rw [show ((v.toNat : Nat) : Int) = v by omega] at this; exact this
      obtain ⟨xs, hx⟩ := upL_some hf k (rd ps v) (by omega) (by omega)
      exact ⟨v :: xs, by unfold upL; rw [if_neg h0, if_pos ⟨hl, hv⟩, hx]; rfl⟩
def pathL (ps : List Int) (v : Int) : List Int := (upA ps v).getD []
theorem upA_pathL {ps : List Int} (hf : Falls ps) (v : Int) : upA ps v = some (pathL ps v) := by
  unfold pathL upA
  by_cases h : v ≥ (ps.length : Int)
  · rw [if_pos h]; rfl
  · rw [if_neg h]
    obtain ⟨xs, hx⟩ := upL_some hf (v.toNat + 1) v (by omega) (by omega)
    rw [hx]; rfl
theorem pathL_is {ps : List Int} (hf : Falls ps) {v : Int} (h : v < (ps.length : Int)) : IsUp ps v (pathL ps v) := by
  have := upA_pathL hf v
  unfold upA at this
  rw [if_neg (by omega)] at this
  exact upL_is _ _ _ _ this
theorem isUp_unique {ps : List Int} : ∀ {xs ys : List Int} {v : Int}, IsUp ps v xs → IsUp ps v ys → xs = ys
  | [], [], _, _, _ => rfl
  | [], _ :: _, _, h, ⟨_, h0, _⟩ => absurd h (by show ¬ (_ < _); omega)
  | _ :: _, [], _, ⟨_, h0, _⟩, h => absurd h (by show ¬ (_ < _); omega)
  | _ :: _, _ :: _, _, ⟨rfl, _, _, _, h⟩, ⟨rfl, _, _, _, k⟩ => by rw [isUp_unique h k]
theorem pathL_len {ps : List Int} (hf : Falls ps) (v : Int) : (pathL ps v).length ≤ ps.length := upA_len _ _ _ (upA_pathL hf v)
theorem pathL_neg {ps : List Int} {v : Int} (h : v < 0) : pathL ps v = [] := by
  unfold pathL upA
  rw [if_neg (by omega)]
  unfold upL
  rw [if_pos h]; rfl
theorem pathL_out {ps : List Int} {v : Int} (h : (ps.length : Int) ≤ v) : pathL ps v = [] := by
  unfold pathL upA
  rw [if_pos h]; rfl
theorem pathL_step {ps : List Int} (hf : Falls ps) {v : Int} (h0 : 0 ≤ v) (h : v < (ps.length : Int)) : pathL ps v = v :: pathL ps (rd ps v) := by
  have hv : rd ps v < v := by have := hf v.toNat (by omega); rw [show ((v.toNat : Nat) : Int) = v by omega] at this; exact this
  exact isUp_unique (pathL_is hf h) ⟨rfl, h0, h, hv, pathL_is hf (by omega)⟩
theorem path_f {c : LConf} (hf : Falls c.ps) (hn : c.ps.length < 1000000) (v : Int) : tree_Path.f c.th c.st c.ga c.le c.re c.ti c.ps c.ls v = some (pathL c.ps v) := by
  unfold tree_Path.f
  rw [if_pos hn, upA_pathL hf]
theorem under_f {c : LConf} (hf : Falls c.ps) (hn : c.ps.length < 1000000) (a b : Int) : tree_Under.f c.th c.st c.ga c.le c.re c.ti c.ps c.ls a b = some (decide (b ∈ pathL c.ps a)) := by
  unfold tree_Under.f
  rw [if_pos hn, upA_pathL hf]; rfl
def depL (ps : List Int) : Nat → Int → Int
  | 0, d => d
  | m + 1, d => depL ps m (mx d ((pathL ps (((ps.length - (m + 1) : Nat)) : Int)).length : Int))
def depthL (ps : List Int) : Int := depL ps ps.length 0
theorem depth_l0 {c : LConf} (hf : Falls c.ps) (hn : c.ps.length ≤ 12) : ∀ (m : Nat) (i : Nat) (d : Int) (k : Nat), i + m = c.ps.length → m < k →
    tree_Depth.l0 k d (c.ps.length : Int) (i : Int) c.th c.st c.ga c.le c.re c.ti c.ps c.ls = some (depL c.ps m d)
  | 0, i, d, k, hi, hk => by
    obtain ⟨k, rfl⟩ : ∃ m, k = m + 1 := ⟨k - 1, by omega⟩
    simp only [tree_Depth.l0]
    rw [if_neg (by omega)]; rfl
  | m + 1, i, d, k, hi, hk => by
    obtain ⟨k, rfl⟩ : ∃ m, k = m + 1 := ⟨k - 1, by omega⟩
    have hw : wrap64 ((i : Int) + 1) = ((i + 1 : Nat) : Int) := by rw [w64 (by omega) (by omega)]; omega
    simp only [tree_Depth.l0]
    rw [if_pos (by omega), path_f hf (by omega)]
    simp only [Option.bind_some]
    rw [hw, depth_l0 hf hn m (i + 1) _ k (by omega) (by omega)]
    simp only [depL]
    rw [show c.ps.length - (m + 1) = i by omega]
theorem depth_f {c : LConf} (hf : Falls c.ps) (hn : c.ps.length ≤ 12) : tree_Depth.f 20 c.th c.st c.ga c.le c.re c.ti c.ps c.ls = some (depthL c.ps) := by
  unfold tree_Depth.f depthL
  exact depth_l0 hf hn c.ps.length 0 0 20 (by omega) (by omega)
theorem rd_lt {xs : List Int} {i : Nat} (h : i < xs.length) : rd xs (i : Int) = xs[i] := by simp [rd, List.getD, h]
def leafB (ps : List Int) (a : Int) : Bool := decide (0 ≤ a ∧ a < (ps.length : Int) ∧ a ∉ ps)
theorem index_l0 (a : Int) (xs : List Int) (hl : xs.length < 1000000) : ∀ (m i k : Nat), i + m = xs.length → m < k → ∃ r, slices_Index_int_int.l0 k xs a (xs.length : Int) (i : Int) = some r ∧ (r ≥ 0 ↔ a ∈ xs.drop i)
  | 0, i, k, hi, hk => by
    obtain ⟨k, rfl⟩ : ∃ m, k = m + 1 := ⟨k - 1, by omega⟩
    refine ⟨-1, ?_, ?_⟩
    · simp only [slices_Index_int_int.l0]; rw [if_neg (by omega)]
    · rw [List.drop_eq_nil_of_le (by omega)]; simp
  | m + 1, i, k, hi, hk => by
    obtain ⟨k, rfl⟩ : ∃ m, k = m + 1 := ⟨k - 1, by omega⟩
    have hw : wrap64 ((i : Int) + 1) = ((i + 1 : Nat) : Int) := by rw [w64 (by omega) (by omega)]; omega
    have hd : xs.drop i = xs[i] :: xs.drop (i + 1) := List.drop_eq_getElem_cons (by omega)
    by_cases h : a = xs[i]
    · refine ⟨(i : Int), ?_, ?_⟩
      · simp only [slices_Index_int_int.l0]
        rw [if_pos (by omega), if_pos (by omega), if_pos (by omega), rd_lt (show i < xs.length by omega), if_pos h]
      · rw [hd, List.mem_cons]; exact ⟨fun _ => .inl h, fun _ => by omega⟩
    · obtain ⟨r, hr, h2⟩ := index_l0 a xs hl m (i + 1) k (by omega) (by omega)
      refine ⟨r, ?_, ?_⟩
      · simp only [slices_Index_int_int.l0]
        rw [if_pos (by omega), if_pos (by omega), if_pos (by omega), rd_lt (show i < xs.length by omega), if_neg h, hw, hr]
      · rw [h2, hd, List.mem_cons]; exact ⟨.inr, fun h' => h'.elim (fun e => absurd e h) id⟩
theorem leaf_f (c : LConf) (hn : c.ps.length ≤ 12) (a : Int) : tree_Leaf.f 20 c.th c.st c.ga c.le c.re c.ti c.ps c.ls a = some (leafB c.ps a) := by
  unfold tree_Leaf.f leafB
  by_cases h0 : a ≥ 0
  · rw [if_pos h0]
    by_cases h1 : a < (c.ps.length : Int)
    · rw [if_pos h1]
      obtain ⟨r, hr, h2⟩ := index_l0 a c.ps (by omega) c.ps.length 0 20 (by omega) (by omega)
      have hr' : slices_Index_int_int.l0 20 c.ps a (c.ps.length : Int) 0 = some r := hr
      simp only [slices_Contains_int_int.f, slices_Index_int_int.f, hr', Option.bind_some]
      congr 1
      rw [Bool.eq_iff_iff]
      simp only [Bool.not_eq_true', decide_eq_false_iff_not, decide_eq_true_eq, h2, List.drop_zero]
      exact ⟨fun h => ⟨h0, h1, h⟩, fun h => h.2.2⟩
    · rw [if_neg h1]; congr 1; exact (decide_eq_false fun h => h1 h.2.1).symm
  · rw [if_neg h0]; congr 1; exact (decide_eq_false fun h => h0 h.1).symm
theorem same_l0 (xs ys : List Int) (hl : xs.length = ys.length) (hb : xs.length < 1000000) : ∀ (m i k : Nat), i + m = xs.length → m < k → breadlineref03_SameInts.l0 k xs ys (i : Int) = some (decide (xs.drop i = ys.drop i))
  | 0, i, k, hi, hk => by
    obtain ⟨k, rfl⟩ : ∃ m, k = m + 1 := ⟨k - 1, by omega⟩
    simp only [breadlineref03_SameInts.l0]
    rw [if_neg (by omega), List.drop_eq_nil_of_le (by omega), List.drop_eq_nil_of_le (by omega)]; simp
  | m + 1, i, k, hi, hk => by
    obtain ⟨k, rfl⟩ : ∃ m, k = m + 1 := ⟨k - 1, by omega⟩
    have hw : wrap64 ((i : Int) + 1) = ((i + 1 : Nat) : Int) := by rw [w64 (by omega) (by omega)]; omega
    have hd : xs.drop i = xs[i] :: xs.drop (i + 1) := List.drop_eq_getElem_cons (by omega)
    have hd2 : ys.drop i = ys[i] :: ys.drop (i + 1) := List.drop_eq_getElem_cons (by omega)
    simp only [breadlineref03_SameInts.l0]
    rw [if_pos (by omega), if_pos (by omega), if_pos (by omega), rd_lt (show i < xs.length by omega), rd_lt (show i < ys.length by omega), hw, same_l0 xs ys hl hb m (i + 1) k (by omega) (by omega), hd, hd2]
    by_cases h : xs[i] = ys[i]
    · rw [if_pos h]; congr 1; rw [Bool.eq_iff_iff]; simp only [decide_eq_true_eq, List.cons.injEq]; exact ⟨fun e => ⟨h, e⟩, fun e => e.2⟩
    · rw [if_neg h]; congr 1; exact (decide_eq_false fun e => h (List.cons.inj e).1).symm
theorem same_f (xs ys : List Int) (hb : xs.length < 1000) : breadlineref03_SameInts.f 1000 xs ys = some (decide (xs = ys)) := by
  unfold breadlineref03_SameInts.f
  by_cases h : (xs.length : Int) = (ys.length : Int)
  · rw [if_pos h]
    exact same_l0 xs ys (by omega) (by omega) xs.length 0 1000 (by omega) (by omega)
  · rw [if_neg h]; congr 1; exact (decide_eq_false fun e => h (by rw [e])).symm
/-- the slice value v holds the ints xs. -/
def IsInts (W : World) (v : Value) (xs : List Int) : Prop := ∃ A c, v = .slice A xs.length c ∧ xs.length ≤ c ∧ Kd.C (Kd.int .i64) W A xs.length xs
theorem IsInts.below {W W' : World} {v : Value} {xs : List Int} (h : IsInts W v xs) (hb : Below W.heap.size W W') : IsInts W' v xs := by
  obtain ⟨A, c, e, hc, hr⟩ := h
  exact ⟨A, c, e, hc, Kd.C_below hr hb⟩
theorem IsInts.of_R {e : Nat} {W : World} {base : Nat} {ok : Nat → Prop} {v : Value} {xs : List Int} (h : (Kd.int .i64).R e W base ok v xs) : IsInts W v xs := by
  obtain ⟨A, c, e1, h1, h2⟩ := Kd.R_reads h
  exact ⟨A, c, e1, h1, h2⟩
theorem IsInts.nil (W : World) : IsInts W (.slice none 0 0) [] := ⟨none, 0, rfl, Nat.le_refl _, ⟨rfl, by decide, fun h => absurd h (by decide)⟩⟩
theorem IsInts.slice {W : World} {v : Value} {xs : List Int} (h : IsInts W v xs) : ∃ A n c, v = .slice A n c := by
  obtain ⟨A, c, e, _⟩ := h
  exact ⟨A, _, c, e⟩
theorem IsInts.len {W : World} {A : Option Addr} {n c : Nat} {xs : List Int} (h : IsInts W (.slice A n c) xs) : n = xs.length := by
  obtain ⟨A', c', e, _⟩ := h
  injection e
theorem IsInts.bound {W : World} {v : Value} {xs : List Int} (h : IsInts W v xs) : xs.length ≤ 9223372036854775807 := by
  obtain ⟨A, c, e, hc, hr⟩ := h
  exact hr.2.1
theorem box8 {W : World} {g t : Nat} {x0 x1 x2 x3 x4 x5 x6 x7 : Value} (h : W.heap[g]? = some (.cells #[x0, x1, x2, x3, x4, x5, x6, x7] t (0, 0))) :
    W.cell? ⟨g, 0, none⟩ = some x0 ∧ W.cell? ⟨g, 1, none⟩ = some x1 ∧ W.cell? ⟨g, 2, none⟩ = some x2 ∧ W.cell? ⟨g, 3, none⟩ = some x3 ∧ W.cell? ⟨g, 4, none⟩ = some x4 ∧ W.cell? ⟨g, 5, none⟩ = some x5 ∧ W.cell? ⟨g, 6, none⟩ = some x6 ∧ W.cell? ⟨g, 7, none⟩ = some x7 :=
  ⟨(blk_cell h 0).trans rfl, (blk_cell h 1).trans rfl, (blk_cell h 2).trans rfl, (blk_cell h 3).trans rfl, (blk_cell h 4).trans rfl, (blk_cell h 5).trans rfl, (blk_cell h 6).trans rfl, (blk_cell h 7).trans rfl⟩
theorem K_right (c : LConf) (v6 v7 : Value) (W : World) (h6 : IsInts W v6 c.ps) (h7 : IsInts W v7 c.ls) (hp : c.ps.length ≤ 140737488351232) (hl : c.ls.length ≤ 140737488351232) :
    Calls Try.prog 11 #[.agg #[.int .i64 c.th, .int .i64 c.st, .int .i64 c.ga, .int .i64 c.le, .int .i64 c.re, .int .i64 c.ti, v6, v7]] W fun e w' => e = .returned (.bool (decide (Right c))) ∧ Below W.heap.size W w' := by
  obtain ⟨A6, c6, rfl, hc6, hr6⟩ := h6
  obtain ⟨A7, c7, rfl, hc7, hr7⟩ := h7
  exact tree_Right.calls 20 _ _ _ _ _ _ A6 c6 c.ps A7 c7 c.ls _ W hr6 hc6 hr7 hc7 (right_f c hp hl)
theorem K_path (c : LConf) (v6 v7 : Value) (a : Int) (W : World) (h6 : IsInts W v6 c.ps) (h7 : IsInts W v7 c.ls) (hf : Falls c.ps) (hn : c.ps.length ≤ 12) :
    Calls Try.prog 14 #[.agg #[.int .i64 c.th, .int .i64 c.st, .int .i64 c.ga, .int .i64 c.le, .int .i64 c.re, .int .i64 c.ti, v6, v7], .int .i64 a] W fun e w' => ∃ v, e = .returned v ∧ IsInts w' v (pathL c.ps a) ∧ Below W.heap.size W w' := by
  obtain ⟨A6, c6, rfl, hc6, hr6⟩ := h6
  obtain ⟨A7, c7, rfl, hc7, hr7⟩ := h7
  exact (tree_Path.calls _ _ _ _ _ _ A6 c6 c.ps A7 c7 c.ls a _ W hr6 hc6 hr7 hc7 (path_f hf (by omega) a)).mono fun _ _ ⟨v, he, hR, hb⟩ => ⟨v, he, .of_R hR, hb⟩
theorem K_depth (c : LConf) (v6 v7 : Value) (W : World) (h6 : IsInts W v6 c.ps) (h7 : IsInts W v7 c.ls) (hf : Falls c.ps) (hn : c.ps.length ≤ 12) :
    Calls Try.prog 16 #[.agg #[.int .i64 c.th, .int .i64 c.st, .int .i64 c.ga, .int .i64 c.le, .int .i64 c.re, .int .i64 c.ti, v6, v7]] W fun e w' => e = .returned (.int .i64 (depthL c.ps)) ∧ Below W.heap.size W w' := by
  obtain ⟨A6, c6, rfl, hc6, hr6⟩ := h6
  obtain ⟨A7, c7, rfl, hc7, hr7⟩ := h7
  exact tree_Depth.calls 20 _ _ _ _ _ _ A6 c6 c.ps A7 c7 c.ls _ W hr6 hc6 hr7 hc7 (depth_f hf hn)
theorem K_under (c : LConf) (v6 v7 : Value) (a b : Int) (W : World) (h6 : IsInts W v6 c.ps) (h7 : IsInts W v7 c.ls) (hf : Falls c.ps) (hn : c.ps.length ≤ 12) :
    Calls Try.prog 18 #[.agg #[.int .i64 c.th, .int .i64 c.st, .int .i64 c.ga, .int .i64 c.le, .int .i64 c.re, .int .i64 c.ti, v6, v7], .int .i64 a, .int .i64 b] W fun e w' => e = .returned (.bool (decide (b ∈ pathL c.ps a))) ∧ Below W.heap.size W w' := by
  obtain ⟨A6, c6, rfl, hc6, hr6⟩ := h6
  obtain ⟨A7, c7, rfl, hc7, hr7⟩ := h7
  exact tree_Under.calls _ _ _ _ _ _ A6 c6 c.ps A7 c7 c.ls a b _ W hr6 hc6 hr7 hc7 (under_f hf (by omega) a b)
theorem K_leaf (c : LConf) (v6 v7 : Value) (a : Int) (W : World) (h6 : IsInts W v6 c.ps) (h7 : IsInts W v7 c.ls) (hn : c.ps.length ≤ 12) :
    Calls Try.prog 20 #[.agg #[.int .i64 c.th, .int .i64 c.st, .int .i64 c.ga, .int .i64 c.le, .int .i64 c.re, .int .i64 c.ti, v6, v7], .int .i64 a] W fun e w' => e = .returned (.bool (leafB c.ps a)) ∧ Below W.heap.size W w' := by
  obtain ⟨A6, c6, rfl, hc6, hr6⟩ := h6
  obtain ⟨A7, c7, rfl, hc7, hr7⟩ := h7
  exact tree_Leaf.calls 20 _ _ _ _ _ _ A6 c6 c.ps A7 c7 c.ls a _ W hr6 hc6 hr7 hc7 (leaf_f c hn a)
theorem K_same (v1 v2 : Value) (xs ys : List Int) (W : World) (h1 : IsInts W v1 xs) (h2 : IsInts W v2 ys) (hl : xs.length < 1000) :
    Calls Try.prog 13 #[v1, v2] W fun e w' => e = .returned (.bool (decide (xs = ys))) ∧ Below W.heap.size W w' := by
  obtain ⟨A1, c1, rfl, hc1, hr1⟩ := h1
  obtain ⟨A2, c2, rfl, hc2, hr2⟩ := h2
  exact (breadlineref03_SameInts.calls 1000 A1 c1 xs A2 c2 ys _ W hr1 hc1 hr2 hc2 (same_f xs ys hl)).mono fun _ _ ⟨he, ⟨n, hn⟩⟩ => ⟨he, by rw [hn]; exact pw_below_drewN (Below.refl _ _) n⟩
theorem K_base (W : World) : Calls Try.prog 22 #[] W fun e w' => ∃ v6 v7 : Value, e = .returned (.agg #[.int .i64 2, .int .i64 2, .int .i64 4, .int .i64 4, .int .i64 2, .int .i64 3, v6, v7]) ∧ IsInts w' v6 [-1, 0, 1, 0] ∧ IsInts w' v7 [20, 10, 8, 5] ∧ Below W.heap.size W w' :=
  (breadlinelaw04_Base.calls 2 2 4 4 2 3 [-1, 0, 1, 0] [20, 10, 8, 5] W rfl).mono fun _ _ ⟨v6, v7, he, h6, h7, hb⟩ => ⟨v6, v7, he, .of_R h6, .of_R h7, hb⟩
def baseC : LConf := ⟨2, 2, 4, 4, 2, 3, [-1, 0, 1, 0], [20, 10, 8, 5]⟩
theorem base_right : Right baseC := by decide +kernel
theorem IsInts.lit3 (W : World) (a b c : Int) : IsInts (W.alloc (.cells #[.int .i64 a, .int .i64 b, .int .i64 c] 3)) (.slice (some ⟨W.heap.size, 0, none⟩) 3 3) [a, b, c] := by
  refine ⟨_, 3, rfl, Nat.le_refl _, rfl, by simp, fun _ => ⟨_, rfl, ?_⟩⟩
  intro j p hj
  refine ⟨[.int .i64 p], rfl, rfl, ?_⟩
  intro i u hi
  obtain ⟨rfl, rfl⟩ : i = 0 ∧ u = .int .i64 p := by
    cases i with
    | zero => simpa using hi.symm
    | succ i => simp at hi
  have hb := blk_new W (.cells #[.int .i64 a, .int .i64 b, .int .i64 c] 3)
  rw [Addr.add_lit, blk_cell hb]
  simp only [show (Kd.int .i64).sz = 1 from rfl, Nat.mul_one, Nat.add_zero, Nat.zero_add]
  match j, hj with
  | 0, hj => simp at hj; subst hj; rfl
  | 1, hj => simp at hj; subst hj; rfl
  | 2, hj => simp at hj; subst hj; rfl
  | j + 3, hj => simp at hj
set_option maxHeartbeats 8000000 in
set_option maxRecDepth 100000 in
/-- the live question: true. -/
theorem K_head (w : World) : Calls Try.prog 9 #[] w fun e w' => e = .returned (.bool true) ∧ Below w.heap.size w w' := by
  have hu := Try.underlying24
  go_enter Try.func9, Try.ntmps9
  go_wp2_with (fail)
  refine (K_base _).mono ?_
  rintro e w1 ⟨v6, v7, rfl, h6, h7, hB1⟩
  obtain ⟨A6, n6, d6, rfl⟩ := h6.slice
  obtain ⟨A7, n7, d7, rfl⟩ := h7.slice
  have HB0 := Aside0.mk hB1
  have HB := Aside0.mk (Below.refl w1.heap.size w1)
  have H6 := Aside0.mk h6
  have H7 := Aside0.mk h7
  have BK := Aside0.mk (blk_new w1 (.cells #[.int .i64 2, .int .i64 2, .int .i64 4, .int .i64 4, .int .i64 2, .int .i64 3, .slice A6 n6 d6, .slice A7 n7 d7] 24))
  clear hB1 h6 h7
  have hf : Falls baseC.ps := base_right.falls
  have cR : ∀ W, IsInts W (.slice A6 n6 d6) [-1, 0, 1, 0] → IsInts W (.slice A7 n7 d7) [20, 10, 8, 5] → Calls Try.prog 11 #[.agg #[.int .i64 2, .int .i64 2, .int .i64 4, .int .i64 4, .int .i64 2, .int .i64 3, .slice A6 n6 d6, .slice A7 n7 d7]] W fun e w' => e = .returned (.bool true) ∧ Below W.heap.size W w' := fun W h6 h7 => K_right baseC _ _ W h6 h7 (by decide) (by decide)
  have cZ : ∀ W, Calls Try.prog 11 #[.agg #[.int .i64 0, .int .i64 0, .int .i64 0, .int .i64 0, .int .i64 0, .int .i64 0, .slice none 0 0, .slice none 0 0]] W fun e w' => e = .returned (.bool false) ∧ Below W.heap.size W w' := fun W => K_right ⟨0, 0, 0, 0, 0, 0, [], []⟩ _ _ W (.nil W) (.nil W) (by decide) (by decide)
  have cP2 : ∀ W, IsInts W (.slice A6 n6 d6) [-1, 0, 1, 0] → IsInts W (.slice A7 n7 d7) [20, 10, 8, 5] → Calls Try.prog 14 #[.agg #[.int .i64 2, .int .i64 2, .int .i64 4, .int .i64 4, .int .i64 2, .int .i64 3, .slice A6 n6 d6, .slice A7 n7 d7], .int .i64 2] W fun e w' => ∃ v, e = .returned v ∧ IsInts w' v [2, 1, 0] ∧ Below W.heap.size W w' := fun W h6 h7 => K_path baseC _ _ 2 W h6 h7 hf (by decide)
  have cP4 : ∀ W, IsInts W (.slice A6 n6 d6) [-1, 0, 1, 0] → IsInts W (.slice A7 n7 d7) [20, 10, 8, 5] → Calls Try.prog 14 #[.agg #[.int .i64 2, .int .i64 2, .int .i64 4, .int .i64 4, .int .i64 2, .int .i64 3, .slice A6 n6 d6, .slice A7 n7 d7], .int .i64 4] W fun e w' => ∃ v, e = .returned v ∧ IsInts w' v [] ∧ Below W.heap.size W w' := fun W h6 h7 => K_path baseC _ _ 4 W h6 h7 hf (by decide)
  have cS : ∀ v1 v2 W, IsInts W v1 [2, 1, 0] → IsInts W v2 [2, 1, 0] → Calls Try.prog 13 #[v1, v2] W fun e w' => e = .returned (.bool true) ∧ Below W.heap.size W w' := fun v1 v2 W h1 h2 => K_same v1 v2 [2, 1, 0] [2, 1, 0] W h1 h2 (by decide)
  have cD : ∀ W, IsInts W (.slice A6 n6 d6) [-1, 0, 1, 0] → IsInts W (.slice A7 n7 d7) [20, 10, 8, 5] → Calls Try.prog 16 #[.agg #[.int .i64 2, .int .i64 2, .int .i64 4, .int .i64 4, .int .i64 2, .int .i64 3, .slice A6 n6 d6, .slice A7 n7 d7]] W fun e w' => e = .returned (.int .i64 3) ∧ Below W.heap.size W w' := fun W h6 h7 => K_depth baseC _ _ W h6 h7 hf (by decide)
  have cU1 : ∀ W, IsInts W (.slice A6 n6 d6) [-1, 0, 1, 0] → IsInts W (.slice A7 n7 d7) [20, 10, 8, 5] → Calls Try.prog 18 #[.agg #[.int .i64 2, .int .i64 2, .int .i64 4, .int .i64 4, .int .i64 2, .int .i64 3, .slice A6 n6 d6, .slice A7 n7 d7], .int .i64 2, .int .i64 0] W fun e w' => e = .returned (.bool true) ∧ Below W.heap.size W w' := fun W h6 h7 => K_under baseC _ _ 2 0 W h6 h7 hf (by decide)
  have cU2 : ∀ W, IsInts W (.slice A6 n6 d6) [-1, 0, 1, 0] → IsInts W (.slice A7 n7 d7) [20, 10, 8, 5] → Calls Try.prog 18 #[.agg #[.int .i64 2, .int .i64 2, .int .i64 4, .int .i64 4, .int .i64 2, .int .i64 3, .slice A6 n6 d6, .slice A7 n7 d7], .int .i64 0, .int .i64 2] W fun e w' => e = .returned (.bool false) ∧ Below W.heap.size W w' := fun W h6 h7 => K_under baseC _ _ 0 2 W h6 h7 hf (by decide)
  have cL1 : ∀ W, IsInts W (.slice A6 n6 d6) [-1, 0, 1, 0] → IsInts W (.slice A7 n7 d7) [20, 10, 8, 5] → Calls Try.prog 20 #[.agg #[.int .i64 2, .int .i64 2, .int .i64 4, .int .i64 4, .int .i64 2, .int .i64 3, .slice A6 n6 d6, .slice A7 n7 d7], .int .i64 3] W fun e w' => e = .returned (.bool true) ∧ Below W.heap.size W w' := fun W h6 h7 => K_leaf baseC _ _ 3 W h6 h7 (by decide)
  have cL2 : ∀ W, IsInts W (.slice A6 n6 d6) [-1, 0, 1, 0] → IsInts W (.slice A7 n7 d7) [20, 10, 8, 5] → Calls Try.prog 20 #[.agg #[.int .i64 2, .int .i64 2, .int .i64 4, .int .i64 4, .int .i64 2, .int .i64 3, .slice A6 n6 d6, .slice A7 n7 d7], .int .i64 1] W fun e w' => e = .returned (.bool false) ∧ Below W.heap.size W w' := fun W h6 h7 => K_leaf baseC _ _ 1 W h6 h7 (by decide)
  have cL3 : ∀ W, IsInts W (.slice A6 n6 d6) [-1, 0, 1, 0] → IsInts W (.slice A7 n7 d7) [20, 10, 8, 5] → Calls Try.prog 20 #[.agg #[.int .i64 2, .int .i64 2, .int .i64 4, .int .i64 4, .int .i64 2, .int .i64 3, .slice A6 n6 d6, .slice A7 n7 d7], .int .i64 (-1)] W fun e w' => e = .returned (.bool false) ∧ Below W.heap.size W w' := fun W h6 h7 => K_leaf baseC _ _ (-1) W h6 h7 (by decide)
  replace cR := Aside0.mk cR
  replace cZ := Aside0.mk cZ
  replace cP2 := Aside0.mk cP2
  replace cP4 := Aside0.mk cP4
  replace cS := Aside0.mk cS
  replace cD := Aside0.mk cD
  replace cU1 := Aside0.mk cU1
  replace cU2 := Aside0.mk cU2
  replace cL1 := Aside0.mk cL1
  replace cL2 := Aside0.mk cL2
  replace cL3 := Aside0.mk cL3
  clear hf
  go_wp2_with (fail)
  (go_at_call 11; (with_reducible refine (cR.out _ (H6.out.below (by repeat (first | (with_reducible first | exact HB.out | apply below_alloc | apply pw_below_drewN | apply below_drew1) | exact HB.out))) (H7.out.below (by repeat (first | (with_reducible first | exact HB.out | apply below_alloc | apply pw_below_drewN | apply below_drew1) | exact HB.out)))).mono ?_); rintro e w' ⟨rfl, hb⟩; have HB' := Aside0.mk (below_step (by repeat (first | (with_reducible first | exact HB.out | apply below_alloc | apply pw_below_drewN | apply below_drew1) | exact HB.out)) hb); have BK' : Aside0 (w'.heap[w1.heap.size]? = some (.cells #[.int .i64 2, .int .i64 2, .int .i64 4, .int .i64 4, .int .i64 2, .int .i64 3, .slice A6 n6 d6, .slice A7 n7 d7] 24 (0, 0))) := ⟨blk_below (by (with_reducible repeat (first | exact BK.out | refine blk_drewN ?_ _ | refine blk_drew ?_ | refine blk_alloc ?_ _))) hb⟩; (try clear q0 q1 q2 q3 q4 q5 q6 q7); replace BK := BK'; clear BK'; obtain ⟨q0, q1, q2, q3, q4, q5, q6, q7⟩ := box8 BK.out; replace HB := HB'; clear HB' hb)
  go_wp2_with (fail)
  (go_at_call 11; (with_reducible refine (cZ.out _).mono ?_); rintro e w' ⟨rfl, hb⟩; have HB' := Aside0.mk (below_step (by repeat (first | (with_reducible first | exact HB.out | apply below_alloc | apply pw_below_drewN | apply below_drew1) | exact HB.out)) hb); have BK' : Aside0 (w'.heap[w1.heap.size]? = some (.cells #[.int .i64 2, .int .i64 2, .int .i64 4, .int .i64 4, .int .i64 2, .int .i64 3, .slice A6 n6 d6, .slice A7 n7 d7] 24 (0, 0))) := ⟨blk_below (by (with_reducible repeat (first | exact BK.out | refine blk_drewN ?_ _ | refine blk_drew ?_ | refine blk_alloc ?_ _))) hb⟩; (try clear q0 q1 q2 q3 q4 q5 q6 q7); replace BK := BK'; clear BK'; obtain ⟨q0, q1, q2, q3, q4, q5, q6, q7⟩ := box8 BK.out; replace HB := HB'; clear HB' hb)
  go_wp2_with (fail)
  (go_at_call 14; (with_reducible refine (cP2.out _ (H6.out.below (by repeat (first | (with_reducible first | exact HB.out | apply below_alloc | apply pw_below_drewN | apply below_drew1) | exact HB.out))) (H7.out.below (by repeat (first | (with_reducible first | exact HB.out | apply below_alloc | apply pw_below_drewN | apply below_drew1) | exact HB.out)))).mono ?_); rintro e w' ⟨p2, rfl, hp2, hb⟩; have HB' := Aside0.mk (below_step (by repeat (first | (with_reducible first | exact HB.out | apply below_alloc | apply pw_below_drewN | apply below_drew1) | exact HB.out)) hb); have BK' : Aside0 (w'.heap[w1.heap.size]? = some (.cells #[.int .i64 2, .int .i64 2, .int .i64 4, .int .i64 4, .int .i64 2, .int .i64 3, .slice A6 n6 d6, .slice A7 n7 d7] 24 (0, 0))) := ⟨blk_below (by (with_reducible repeat (first | exact BK.out | refine blk_drewN ?_ _ | refine blk_drew ?_ | refine blk_alloc ?_ _))) hb⟩; (try clear q0 q1 q2 q3 q4 q5 q6 q7); replace BK := BK'; clear BK'; obtain ⟨q0, q1, q2, q3, q4, q5, q6, q7⟩ := box8 BK.out; replace HB := HB'; clear HB' hb; obtain ⟨A2, n2, d2, rfl⟩ := hp2.slice; have HP2 := Aside0.mk hp2; clear hp2)
  go_wp2_with (fail)
  (go_at_call 13; (with_reducible refine (cS.out _ _ _ (HP2.out.below (below_alloc (Below.refl _ _) _)) (IsInts.lit3 _ _ _ _)).mono ?_); rintro e w' ⟨rfl, hb⟩; have HB' := Aside0.mk (below_step (by repeat (first | (with_reducible first | exact HB.out | apply below_alloc | apply pw_below_drewN | apply below_drew1) | exact HB.out)) hb); have BK' : Aside0 (w'.heap[w1.heap.size]? = some (.cells #[.int .i64 2, .int .i64 2, .int .i64 4, .int .i64 4, .int .i64 2, .int .i64 3, .slice A6 n6 d6, .slice A7 n7 d7] 24 (0, 0))) := ⟨blk_below (by (with_reducible repeat (first | exact BK.out | refine blk_drewN ?_ _ | refine blk_drew ?_ | refine blk_alloc ?_ _))) hb⟩; (try clear q0 q1 q2 q3 q4 q5 q6 q7); replace BK := BK'; clear BK'; obtain ⟨q0, q1, q2, q3, q4, q5, q6, q7⟩ := box8 BK.out; replace HB := HB'; clear HB' hb)
  go_wp2_with (fail)
  (go_at_call 14; (with_reducible refine (cP4.out _ (H6.out.below (by repeat (first | (with_reducible first | exact HB.out | apply below_alloc | apply pw_below_drewN | apply below_drew1) | exact HB.out))) (H7.out.below (by repeat (first | (with_reducible first | exact HB.out | apply below_alloc | apply pw_below_drewN | apply below_drew1) | exact HB.out)))).mono ?_); rintro e w' ⟨p4, rfl, hp4, hb⟩; have HB' := Aside0.mk (below_step (by repeat (first | (with_reducible first | exact HB.out | apply below_alloc | apply pw_below_drewN | apply below_drew1) | exact HB.out)) hb); have BK' : Aside0 (w'.heap[w1.heap.size]? = some (.cells #[.int .i64 2, .int .i64 2, .int .i64 4, .int .i64 4, .int .i64 2, .int .i64 3, .slice A6 n6 d6, .slice A7 n7 d7] 24 (0, 0))) := ⟨blk_below (by (with_reducible repeat (first | exact BK.out | refine blk_drewN ?_ _ | refine blk_drew ?_ | refine blk_alloc ?_ _))) hb⟩; (try clear q0 q1 q2 q3 q4 q5 q6 q7); replace BK := BK'; clear BK'; obtain ⟨q0, q1, q2, q3, q4, q5, q6, q7⟩ := box8 BK.out; replace HB := HB'; clear HB' hb; obtain ⟨A4, n4, d4, rfl⟩ := hp4.slice; obtain rfl : n4 = 0 := hp4.len; clear hp4)
  go_wp2_with (fail)
  (go_at_call 16; (with_reducible refine (cD.out _ (H6.out.below (by repeat (first | (with_reducible first | exact HB.out | apply below_alloc | apply pw_below_drewN | apply below_drew1) | exact HB.out))) (H7.out.below (by repeat (first | (with_reducible first | exact HB.out | apply below_alloc | apply pw_below_drewN | apply below_drew1) | exact HB.out)))).mono ?_); rintro e w' ⟨rfl, hb⟩; have HB' := Aside0.mk (below_step (by repeat (first | (with_reducible first | exact HB.out | apply below_alloc | apply pw_below_drewN | apply below_drew1) | exact HB.out)) hb); have BK' : Aside0 (w'.heap[w1.heap.size]? = some (.cells #[.int .i64 2, .int .i64 2, .int .i64 4, .int .i64 4, .int .i64 2, .int .i64 3, .slice A6 n6 d6, .slice A7 n7 d7] 24 (0, 0))) := ⟨blk_below (by (with_reducible repeat (first | exact BK.out | refine blk_drewN ?_ _ | refine blk_drew ?_ | refine blk_alloc ?_ _))) hb⟩; (try clear q0 q1 q2 q3 q4 q5 q6 q7); replace BK := BK'; clear BK'; obtain ⟨q0, q1, q2, q3, q4, q5, q6, q7⟩ := box8 BK.out; replace HB := HB'; clear HB' hb)
  go_wp2_with (fail)
  (go_at_call 18; (with_reducible refine (cU1.out _ (H6.out.below (by repeat (first | (with_reducible first | exact HB.out | apply below_alloc | apply pw_below_drewN | apply below_drew1) | exact HB.out))) (H7.out.below (by repeat (first | (with_reducible first | exact HB.out | apply below_alloc | apply pw_below_drewN | apply below_drew1) | exact HB.out)))).mono ?_); rintro e w' ⟨rfl, hb⟩; have HB' := Aside0.mk (below_step (by repeat (first | (with_reducible first | exact HB.out | apply below_alloc | apply pw_below_drewN | apply below_drew1) | exact HB.out)) hb); have BK' : Aside0 (w'.heap[w1.heap.size]? = some (.cells #[.int .i64 2, .int .i64 2, .int .i64 4, .int .i64 4, .int .i64 2, .int .i64 3, .slice A6 n6 d6, .slice A7 n7 d7] 24 (0, 0))) := ⟨blk_below (by (with_reducible repeat (first | exact BK.out | refine blk_drewN ?_ _ | refine blk_drew ?_ | refine blk_alloc ?_ _))) hb⟩; (try clear q0 q1 q2 q3 q4 q5 q6 q7); replace BK := BK'; clear BK'; obtain ⟨q0, q1, q2, q3, q4, q5, q6, q7⟩ := box8 BK.out; replace HB := HB'; clear HB' hb)
  go_wp2_with (fail)
  (go_at_call 18; (with_reducible refine (cU2.out _ (H6.out.below (by repeat (first | (with_reducible first | exact HB.out | apply below_alloc | apply pw_below_drewN | apply below_drew1) | exact HB.out))) (H7.out.below (by repeat (first | (with_reducible first | exact HB.out | apply below_alloc | apply pw_below_drewN | apply below_drew1) | exact HB.out)))).mono ?_); rintro e w' ⟨rfl, hb⟩; have HB' := Aside0.mk (below_step (by repeat (first | (with_reducible first | exact HB.out | apply below_alloc | apply pw_below_drewN | apply below_drew1) | exact HB.out)) hb); have BK' : Aside0 (w'.heap[w1.heap.size]? = some (.cells #[.int .i64 2, .int .i64 2, .int .i64 4, .int .i64 4, .int .i64 2, .int .i64 3, .slice A6 n6 d6, .slice A7 n7 d7] 24 (0, 0))) := ⟨blk_below (by (with_reducible repeat (first | exact BK.out | refine blk_drewN ?_ _ | refine blk_drew ?_ | refine blk_alloc ?_ _))) hb⟩; (try clear q0 q1 q2 q3 q4 q5 q6 q7); replace BK := BK'; clear BK'; obtain ⟨q0, q1, q2, q3, q4, q5, q6, q7⟩ := box8 BK.out; replace HB := HB'; clear HB' hb)
  go_wp2_with (fail)
  (go_at_call 20; (with_reducible refine (cL1.out _ (H6.out.below (by repeat (first | (with_reducible first | exact HB.out | apply below_alloc | apply pw_below_drewN | apply below_drew1) | exact HB.out))) (H7.out.below (by repeat (first | (with_reducible first | exact HB.out | apply below_alloc | apply pw_below_drewN | apply below_drew1) | exact HB.out)))).mono ?_); rintro e w' ⟨rfl, hb⟩; have HB' := Aside0.mk (below_step (by repeat (first | (with_reducible first | exact HB.out | apply below_alloc | apply pw_below_drewN | apply below_drew1) | exact HB.out)) hb); have BK' : Aside0 (w'.heap[w1.heap.size]? = some (.cells #[.int .i64 2, .int .i64 2, .int .i64 4, .int .i64 4, .int .i64 2, .int .i64 3, .slice A6 n6 d6, .slice A7 n7 d7] 24 (0, 0))) := ⟨blk_below (by (with_reducible repeat (first | exact BK.out | refine blk_drewN ?_ _ | refine blk_drew ?_ | refine blk_alloc ?_ _))) hb⟩; (try clear q0 q1 q2 q3 q4 q5 q6 q7); replace BK := BK'; clear BK'; obtain ⟨q0, q1, q2, q3, q4, q5, q6, q7⟩ := box8 BK.out; replace HB := HB'; clear HB' hb)
  go_wp2_with (fail)
  (go_at_call 20; (with_reducible refine (cL2.out _ (H6.out.below (by repeat (first | (with_reducible first | exact HB.out | apply below_alloc | apply pw_below_drewN | apply below_drew1) | exact HB.out))) (H7.out.below (by repeat (first | (with_reducible first | exact HB.out | apply below_alloc | apply pw_below_drewN | apply below_drew1) | exact HB.out)))).mono ?_); rintro e w' ⟨rfl, hb⟩; have HB' := Aside0.mk (below_step (by repeat (first | (with_reducible first | exact HB.out | apply below_alloc | apply pw_below_drewN | apply below_drew1) | exact HB.out)) hb); have BK' : Aside0 (w'.heap[w1.heap.size]? = some (.cells #[.int .i64 2, .int .i64 2, .int .i64 4, .int .i64 4, .int .i64 2, .int .i64 3, .slice A6 n6 d6, .slice A7 n7 d7] 24 (0, 0))) := ⟨blk_below (by (with_reducible repeat (first | exact BK.out | refine blk_drewN ?_ _ | refine blk_drew ?_ | refine blk_alloc ?_ _))) hb⟩; (try clear q0 q1 q2 q3 q4 q5 q6 q7); replace BK := BK'; clear BK'; obtain ⟨q0, q1, q2, q3, q4, q5, q6, q7⟩ := box8 BK.out; replace HB := HB'; clear HB' hb)
  go_wp2_with (fail)
  (go_at_call 20; (with_reducible refine (cL3.out _ (H6.out.below (by repeat (first | (with_reducible first | exact HB.out | apply below_alloc | apply pw_below_drewN | apply below_drew1) | exact HB.out))) (H7.out.below (by repeat (first | (with_reducible first | exact HB.out | apply below_alloc | apply pw_below_drewN | apply below_drew1) | exact HB.out)))).mono ?_); rintro e w' ⟨rfl, hb⟩; have HB' := Aside0.mk (below_step (by repeat (first | (with_reducible first | exact HB.out | apply below_alloc | apply pw_below_drewN | apply below_drew1) | exact HB.out)) hb); have BK' : Aside0 (w'.heap[w1.heap.size]? = some (.cells #[.int .i64 2, .int .i64 2, .int .i64 4, .int .i64 4, .int .i64 2, .int .i64 3, .slice A6 n6 d6, .slice A7 n7 d7] 24 (0, 0))) := ⟨blk_below (by (with_reducible repeat (first | exact BK.out | refine blk_drewN ?_ _ | refine blk_drew ?_ | refine blk_alloc ?_ _))) hb⟩; (try clear q0 q1 q2 q3 q4 q5 q6 q7); replace BK := BK'; clear BK'; obtain ⟨q0, q1, q2, q3, q4, q5, q6, q7⟩ := box8 BK.out; replace HB := HB'; clear HB' hb)
  go_wp2_with (fail)
  go_ret
  exact ⟨rfl, HB0.out.trans ((by repeat (first | (with_reducible first | exact HB.out | apply below_alloc | apply pw_below_drewN | apply below_drew1) | exact HB.out) : Below w1.heap.size w1 _).mono HB0.out.size)⟩
def breadlinelaw04_head.f : Option Bool := some true
theorem breadlinelaw04_head.calls (r : Bool) (w : World) (h : breadlinelaw04_head.f = some r) : Calls Try.prog 9 #[] w fun e w' => e = .returned (.bool r) ∧ Below w.heap.size w w' := by
  obtain rfl := Option.some.inj h
  exact K_head w

/-! ### breadlinelaw04_Great: function 10 -/
def breadlinelaw04_Great.f (a0_0 : Int) (a0_1 : Int) (a0_2 : Int) (a0_3 : Int) (a0_4 : Int) (a0_5 : Int) (l0_6 : List Int) (l0_7 : List Int) : Option (Bool) := if (l0_6.length : Int) > 100 then (some true) else (some (decide ((l0_7.length : Int) > 100)))
set_option maxHeartbeats 8000000 in
set_option maxRecDepth 100000 in
theorem breadlinelaw04_Great.calls (a0_0 : Int) (a0_1 : Int) (a0_2 : Int) (a0_3 : Int) (a0_4 : Int) (a0_5 : Int) (A0_6 : Option Addr) (c0_6 : Nat) (l0_6 : List Int) (A0_7 : Option Addr) (c0_7 : Nat) (l0_7 : List Int) (r : Bool) (w : World) (hr0_6 : Kd.C (Kd.int .i64) w A0_6 l0_6.length l0_6) (hc0_6 : l0_6.length ≤ c0_6) (hr0_7 : Kd.C (Kd.int .i64) w A0_7 l0_7.length l0_7) (hc0_7 : l0_7.length ≤ c0_7) (h : breadlinelaw04_Great.f a0_0 a0_1 a0_2 a0_3 a0_4 a0_5 l0_6 l0_7 = some r) :
    Calls Try.prog 10 #[.agg #[.int .i64 a0_0, .int .i64 a0_1, .int .i64 a0_2, .int .i64 a0_3, .int .i64 a0_4, .int .i64 a0_5, .slice A0_6 l0_6.length c0_6, .slice A0_7 l0_7.length c0_7]] w fun e w' => e = .returned (.bool r) ∧ Below w.heap.size w w' := by
  have hu24 := Try.underlying24
  have HR0_6 := Aside0.mk hr0_6
  have HC0_6 := Aside0.mk hc0_6
  clear hr0_6 hc0_6
  have HR0_7 := Aside0.mk hr0_7
  have HC0_7 := Aside0.mk hc0_7
  clear hr0_7 hc0_7
  have HB := Aside0.mk (Below.refl w.heap.size w)
  have H : (if (l0_6.length : Int) > 100 then (some true) else (some (decide ((l0_7.length : Int) > 100)))) = some r := h
  clear h
  by_cases c2 : (l0_6.length : Int) > 100
  · rw [if_pos c2] at H
    have c2b0 : decide (100 < (l0_6.length : Int)) = true := decide_eq_true c2
    have c2b1 : decide (100 < l0_6.length) = true := decide_eq_true (by omega)
    clear c2
    obtain rfl := Option.some.inj H
    go_enter Try.func10, Try.ntmps10
    go_wp2_with (first | ((with_reducible refine gate_dst (N := 1) rfl ?_); (try (refine gate_guard (by rfl) ?_; dsimp only)); refine box_event ?hg (N := 1) ?hd (cs := #[.int .i64 a0_0, .int .i64 a0_1, .int .i64 a0_2, .int .i64 a0_3, .int .i64 a0_4, .int .i64 a0_5, .slice A0_6 l0_6.length c0_6, .slice A0_7 l0_7.length c0_7]) (t := 24) ?hr ?_; (case hd => rfl); (case hg => rfl); (case hr => first | (go_simp; done) | (go_simp; rfl)); intro gb132 hg w3 hbox hb; have n0_ := Aside0.mk (below_step (by repeat (first | (with_reducible first | exact HB.out | apply below_alloc | apply pw_below_drewN | apply below_drew1) | exact HB.out)) hb); have n1_ := Aside0.mk (hbox); have n2_ := Aside0.mk ((by rw [hg]; exact (below_size (by repeat (first | (with_reducible first | exact HB.out | apply below_alloc | apply pw_below_drewN | apply below_drew1) | exact HB.out))) : w.heap.size ≤ gb132)); have n3_ := Aside0.mk ((by rw [hg]; exact (below_size (by repeat (first | (with_reducible first | exact HB.out | apply below_alloc | apply pw_below_drewN | apply below_drew1) | exact HB.out))) : w.heap.size ≤ gb132)); clear HB; have HB := n0_; have BK132 := n1_; have GW132 := n2_; have GE132 := n3_; clear n0_ n1_ n2_ n3_; clear hb hbox hg; have hcz4_0 : w3.cell? ⟨gb132, 0, none⟩ = some (.int .i64 a0_0) := (blk_cell BK132.out 0).trans rfl; have hcz4_1 : w3.cell? ⟨gb132, 1, none⟩ = some (.int .i64 a0_1) := (blk_cell BK132.out 1).trans rfl; have hcz4_2 : w3.cell? ⟨gb132, 2, none⟩ = some (.int .i64 a0_2) := (blk_cell BK132.out 2).trans rfl; have hcz4_3 : w3.cell? ⟨gb132, 3, none⟩ = some (.int .i64 a0_3) := (blk_cell BK132.out 3).trans rfl; have hcz4_4 : w3.cell? ⟨gb132, 4, none⟩ = some (.int .i64 a0_4) := (blk_cell BK132.out 4).trans rfl; have hcz4_5 : w3.cell? ⟨gb132, 5, none⟩ = some (.int .i64 a0_5) := (blk_cell BK132.out 5).trans rfl; have hcz4_6 : w3.cell? ⟨gb132, 6, none⟩ = some (.slice A0_6 l0_6.length c0_6) := (blk_cell BK132.out 6).trans rfl; have hcz4_7 : w3.cell? ⟨gb132, 7, none⟩ = some (.slice A0_7 l0_7.length c0_7) := (blk_cell BK132.out 7).trans rfl; have hfz4_0 := blk_frozen BK132.out 0; have hfz4_1 := blk_frozen BK132.out 1; have hfz4_2 := blk_frozen BK132.out 2; have hfz4_3 := blk_frozen BK132.out 3; have hfz4_4 := blk_frozen BK132.out 4; have hfz4_5 := blk_frozen BK132.out 5; have hfz4_6 := blk_frozen BK132.out 6; have hfz4_7 := blk_frozen BK132.out 7))
    go_ret
    exact ⟨by first | rfl | (simp [errW_none, errW_some] <;> rfl) | (simp [*, errW_none, errW_some] <;> rfl), by repeat (first | (with_reducible first | exact HB.out | apply below_alloc | apply pw_below_drewN | apply below_drew1 | refine below_set ?_ GE132.out) | exact HB.out)⟩
  · rw [if_neg c2] at H
    have c2b0 : decide (100 < (l0_6.length : Int)) = false := decide_eq_false c2
    have c2b1 : decide (100 < l0_6.length) = false := decide_eq_false (by omega)
    clear c2
    obtain rfl := Option.some.inj H
    go_enter Try.func10, Try.ntmps10
    go_wp2_with (first | ((with_reducible refine gate_dst (N := 1) rfl ?_); (try (refine gate_guard (by rfl) ?_; dsimp only)); refine box_event ?hg (N := 1) ?hd (cs := #[.int .i64 a0_0, .int .i64 a0_1, .int .i64 a0_2, .int .i64 a0_3, .int .i64 a0_4, .int .i64 a0_5, .slice A0_6 l0_6.length c0_6, .slice A0_7 l0_7.length c0_7]) (t := 24) ?hr ?_; (case hd => rfl); (case hg => rfl); (case hr => first | (go_simp; done) | (go_simp; rfl)); intro gb132 hg w5 hbox hb; have n0_ := Aside0.mk (below_step (by repeat (first | (with_reducible first | exact HB.out | apply below_alloc | apply pw_below_drewN | apply below_drew1) | exact HB.out)) hb); have n1_ := Aside0.mk (hbox); have n2_ := Aside0.mk ((by rw [hg]; exact (below_size (by repeat (first | (with_reducible first | exact HB.out | apply below_alloc | apply pw_below_drewN | apply below_drew1) | exact HB.out))) : w.heap.size ≤ gb132)); have n3_ := Aside0.mk ((by rw [hg]; exact (below_size (by repeat (first | (with_reducible first | exact HB.out | apply below_alloc | apply pw_below_drewN | apply below_drew1) | exact HB.out))) : w.heap.size ≤ gb132)); clear HB; have HB := n0_; have BK132 := n1_; have GW132 := n2_; have GE132 := n3_; clear n0_ n1_ n2_ n3_; clear hb hbox hg; have hcz6_0 : w5.cell? ⟨gb132, 0, none⟩ = some (.int .i64 a0_0) := (blk_cell BK132.out 0).trans rfl; have hcz6_1 : w5.cell? ⟨gb132, 1, none⟩ = some (.int .i64 a0_1) := (blk_cell BK132.out 1).trans rfl; have hcz6_2 : w5.cell? ⟨gb132, 2, none⟩ = some (.int .i64 a0_2) := (blk_cell BK132.out 2).trans rfl; have hcz6_3 : w5.cell? ⟨gb132, 3, none⟩ = some (.int .i64 a0_3) := (blk_cell BK132.out 3).trans rfl; have hcz6_4 : w5.cell? ⟨gb132, 4, none⟩ = some (.int .i64 a0_4) := (blk_cell BK132.out 4).trans rfl; have hcz6_5 : w5.cell? ⟨gb132, 5, none⟩ = some (.int .i64 a0_5) := (blk_cell BK132.out 5).trans rfl; have hcz6_6 : w5.cell? ⟨gb132, 6, none⟩ = some (.slice A0_6 l0_6.length c0_6) := (blk_cell BK132.out 6).trans rfl; have hcz6_7 : w5.cell? ⟨gb132, 7, none⟩ = some (.slice A0_7 l0_7.length c0_7) := (blk_cell BK132.out 7).trans rfl; have hfz6_0 := blk_frozen BK132.out 0; have hfz6_1 := blk_frozen BK132.out 1; have hfz6_2 := blk_frozen BK132.out 2; have hfz6_3 := blk_frozen BK132.out 3; have hfz6_4 := blk_frozen BK132.out 4; have hfz6_5 := blk_frozen BK132.out 5; have hfz6_6 := blk_frozen BK132.out 6; have hfz6_7 := blk_frozen BK132.out 7))
    go_ret
    exact ⟨by first | rfl | (simp [errW_none, errW_some] <;> rfl) | (simp [*, errW_none, errW_some] <;> rfl), by repeat (first | (with_reducible first | exact HB.out | apply below_alloc | apply pw_below_drewN | apply below_drew1 | refine below_set ?_ GE132.out) | exact HB.out)⟩

/-! ### breadlineref04_in: function 25 -/
def breadlineref04_in.f (a0 : Int) (a1 : Int) (a2 : Int) : Option (Bool) := if a0 ≥ a1 then (some (decide (a0 ≤ a2))) else (some false)
set_option maxHeartbeats 8000000 in
set_option maxRecDepth 100000 in
theorem breadlineref04_in.calls (a0 : Int) (a1 : Int) (a2 : Int) (r : Bool) (w : World) (h : breadlineref04_in.f a0 a1 a2 = some r) :
    Calls Try.prog 25 #[.int .i64 a0, .int .i64 a1, .int .i64 a2] w fun e w' => e = .returned (.bool r) ∧ Drawn0 w w' := by
  have H : (if a0 ≥ a1 then (some (decide (a0 ≤ a2))) else (some false)) = some r := h
  clear h
  by_cases c4 : a0 ≥ a1
  · rw [if_pos c4] at H
    have c4b0 : decide (a1 ≤ a0) = true := decide_eq_true c4
    clear c4
    obtain rfl := Option.some.inj H
    go_enter Try.func25, Try.ntmps25
    go_wp2
    go_ret
    exact ⟨by first | rfl | (simp; done) | (simp [*]; done), by repeat (first | exact Drawn0.refl _ | apply Drawn0.step)⟩
  · rw [if_neg c4] at H
    have c4b0 : decide (a1 ≤ a0) = false := decide_eq_false c4
    clear c4
    obtain rfl := Option.some.inj H
    go_enter Try.func25, Try.ntmps25
    go_wp2
    go_ret
    exact ⟨by first | rfl | (simp; done) | (simp [*]; done), by repeat (first | exact Drawn0.refl _ | apply Drawn0.step)⟩

end Go.Proofs.Ytmkgaihppohkkaa.PT
