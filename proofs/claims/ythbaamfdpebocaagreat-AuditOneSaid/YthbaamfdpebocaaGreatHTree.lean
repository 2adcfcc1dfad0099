import Derived.Test.YthbaamfdpebocaaGreatPAx12
import Derived.Test.YthbaamfdpebocaaGreatPAx9
import Derived.Test.YthbaamfdpebocaaGreatPAx7
import Derived.Test.YthbaamfdpebocaaGreatPAx11
import Derived.Test.YthbaamfdpebocaaGreatPAx13
import Derived.Test.YthbaamfdpebocaaGreatPAx5
import Derived.Shelf.Abstract
namespace Go.Proofs.YthbaamfdpebocaaGreat.PA
open Go.RowKit Go.Shelf Go.Proofs.YthbaamfdpebocaaGreatW.PrintWords Go.Proofs.YthbaamfdpebocaaGreatW.PrintLast Go.Proofs.YthbaamfdpebocaaGreatW.PrintMore
attribute [local go_sem] max2_int min2_int max_two min_two max_three min_three max_four min_four
set_option linter.unusedVariables false
set_option linter.unusedSimpArgs false
/-- A setting. -/
structure LConf where
  th : Int
  st : Int
  ga : Int
  le : Int
  re : Int
  ti : Int
  ps : List Int
  ls : List Int
/-- the document's D1. -/
def NodeOk (c : LConf) (i : Nat) : Prop := (0 ≤ rd c.ls (i : Int) ∧ rd c.ls (i : Int) ≤ 1099511627776) ∧ (if i = 0 then rd c.ps (i : Int) = -1 else 0 ≤ rd c.ps (i : Int) ∧ rd c.ps (i : Int) < (i : Int))
instance (c : LConf) (i : Nat) : Decidable (NodeOk c i) := by unfold NodeOk; infer_instance
def HeadOk (c : LConf) : Prop := (1 ≤ c.th ∧ c.th ≤ 8) ∧ (c.st = 1 ∨ c.st = 2 ∨ c.st = 4 ∨ c.st = 8) ∧ (1 ≤ c.ga ∧ c.ga ≤ 1048576) ∧ (0 ≤ c.le ∧ c.le ≤ 1048576) ∧ (1 ≤ c.re ∧ c.re ≤ 8) ∧ (1 ≤ c.ti ∧ c.ti ≤ 16) ∧ (1 ≤ c.ps.length ∧ c.ps.length ≤ 12) ∧ c.ls.length = c.ps.length
instance (c : LConf) : Decidable (HeadOk c) := by unfold HeadOk; infer_instance
def Right (c : LConf) : Prop := HeadOk c ∧ ∀ i, i < c.ps.length → NodeOk c i
instance (c : LConf) : Decidable (Right c) := by unfold Right; infer_instance
theorem ones_of (s : Int) (h0 : 1 ≤ s) (h1 : s ≤ 8) : ∃ n, bits_OnesCount.f (IntKind.u64.wrap s) = some n ∧ (n = 1 ↔ (s = 1 ∨ s = 2 ∨ s = 4 ∨ s = 8)) := by
  have : s = 1 ∨ s = 2 ∨ s = 3 ∨ s = 4 ∨ s = 5 ∨ s = 6 ∨ s = 7 ∨ s = 8 := by omega
  rcases this with rfl | rfl | rfl | rfl | rfl | rfl | rfl | rfl
  · exact ⟨1, by decide +kernel, by decide⟩
  · exact ⟨1, by decide +kernel, by decide⟩
  · exact ⟨2, by decide +kernel, by decide⟩
  · exact ⟨1, by decide +kernel, by decide⟩
  · exact ⟨2, by decide +kernel, by decide⟩
  · exact ⟨2, by decide +kernel, by decide⟩
  · exact ⟨3, by decide +kernel, by decide⟩
  · exact ⟨1, by decide +kernel, by decide⟩
theorem w64 {x : Int} (h0 : -9223372036854775808 ≤ x) (h1 : x ≤ 9223372036854775807) : wrap64 x = x := by unfold wrap64; omega
theorem in_f (x l h : Int) : breadlineref04_in.f x l h = some (decide (l ≤ x ∧ x ≤ h)) := by
  unfold breadlineref04_in.f
  split
  · congr 1; rw [Bool.eq_iff_iff]; simp only [decide_eq_true_eq]; omega
  · congr 1; rw [Bool.eq_iff_iff]; simp only [decide_eq_true_eq]; constructor
    · intro h; cases h
    · intro h; omega
theorem ref_right_l0 (c : LConf) (hl : c.ls.length = c.ps.length) (hn : c.ps.length ≤ 12) : ∀ (d : Nat) (i : Nat) (k : Nat), c.ps.length - i = d → i ≤ c.ps.length → d < k →
    breadlineref04_Right.l0 k (i : Int) c.th c.st c.ga c.le c.re c.ti c.ps c.ls = some (decide (∀ j, j < c.ps.length → i ≤ j → NodeOk c j))
  | 0, i, k, hd, hi, hk => by
    obtain ⟨k, rfl⟩ : ∃ m, k = m + 1 := ⟨k - 1, by omega⟩
    simp only [breadlineref04_Right.l0]
    rw [if_neg (by omega), decide_eq_true (fun j h1 h2 => absurd h1 (by omega))]
  | d + 1, i, k, hd, hi, hk => by
    obtain ⟨k, rfl⟩ : ∃ m, k = m + 1 := ⟨k - 1, by omega⟩
    have hw : wrap64 ((i : Int) + 1) = ((i + 1 : Nat) : Int) := by rw [w64 (by omega) (by omega)]; omega
    have hnext := ref_right_l0 c hl hn d (i + 1) k (by omega) (by omega) (by omega)
    have hall : (∀ j, j < c.ps.length → i ≤ j → NodeOk c j) ↔ NodeOk c i ∧ ∀ j, j < c.ps.length → i + 1 ≤ j → NodeOk c j := by
      constructor
      · exact fun h => ⟨h i (by omega) (Nat.le_refl _), fun j h1 h2 => h j h1 (by omega)⟩
      · rintro ⟨h0, h⟩ j h1 h2
        by_cases e : j = i
        · subst e; exact h0
        · exact h j h1 (by omega)
    have hyes : NodeOk c i → some (decide (∀ j, j < c.ps.length → i + 1 ≤ j → NodeOk c j)) = some (decide (∀ j, j < c.ps.length → i ≤ j → NodeOk c j)) := fun h => by
      congr 1; rw [Bool.eq_iff_iff]; simp only [decide_eq_true_eq]; exact ⟨fun h2 => hall.2 ⟨h, h2⟩, fun h2 => (hall.1 h2).2⟩
    have hno : ¬ NodeOk c i → some false = some (decide (∀ j, j < c.ps.length → i ≤ j → NodeOk c j)) := fun h => by
      congr 1; refine (decide_eq_false ?_).symm; exact fun h2 => h (hall.1 h2).1
    simp only [breadlineref04_Right.l0]
    rw [if_pos (by omega), if_pos (by omega), if_pos (by omega)]
    simp only [in_f, Option.bind_some, hw, hnext, decide_eq_true_eq]
    by_cases h0 : i = 0
    · subst h0
      have h00 : ((0 : Nat) : Int) = 0 := rfl
      rw [h00]
      by_cases hA : 0 ≤ rd c.ls 0 ∧ rd c.ls 0 ≤ 1099511627776
      · rw [if_pos hA, if_pos rfl]
        by_cases hB : rd c.ps 0 = -1
        · rw [if_pos hB, if_neg (by omega)]
          exact hyes ⟨hA, by rw [if_pos rfl]; exact hB⟩
        · rw [if_neg hB]
          exact hno (fun h => hB (by have := h.2; rw [if_pos rfl] at this; exact this))
      · rw [if_neg hA]
        exact hno (fun h => hA h.1)
    · have hp : (i : Int) > 0 := by omega
      by_cases hA : 0 ≤ rd c.ls i ∧ rd c.ls i ≤ 1099511627776
      · rw [if_pos hA, if_neg (by omega), if_pos hp, w64 (x := (i : Int) - 1) (by omega) (by omega)]
        by_cases hB : 0 ≤ rd c.ps i ∧ rd c.ps i ≤ (i : Int) - 1
        · rw [if_pos hB]
          exact hyes ⟨hA, by rw [if_neg h0]; omega⟩
        · rw [if_neg hB]
          exact hno (fun h => hB (by have := h.2; rw [if_neg h0] at this; omega))
      · rw [if_neg hA]
        exact hno (fun h => hA h.1)
theorem ref_right_f (c : LConf) : breadlineref04_Right.f 20 c.th c.st c.ga c.le c.re c.ti c.ps c.ls = some (decide (Right c)) := by
  have key : breadlineref04_Right.f 20 c.th c.st c.ga c.le c.re c.ti c.ps c.ls = breadlineref04_Right.j0 20 (!decide ((1 ≤ c.th ∧ c.th ≤ 8) ∧ (c.st = 1 ∨ c.st = 2 ∨ c.st = 4 ∨ c.st = 8) ∧ (1 ≤ c.ga ∧ c.ga ≤ 1048576) ∧ (0 ≤ c.le ∧ c.le ≤ 1048576) ∧ (1 ≤ c.re ∧ c.re ≤ 8) ∧ (1 ≤ c.ti ∧ c.ti ≤ 16))) c.th c.st c.ga c.le c.re c.ti c.ps c.ls := by
    unfold breadlineref04_Right.f
    simp only [in_f, Option.bind_some, decide_eq_true_eq]
    repeat' split
    all_goals
      congr 1
      rw [Bool.eq_iff_iff]
      simp only [Bool.not_eq_true', decide_eq_false_iff_not]
      first | omega | (constructor <;> intro _ <;> omega) | (constructor; (intro _; omega); (intro _; trivial))
  rw [key]
  by_cases h : (1 ≤ c.th ∧ c.th ≤ 8) ∧ (c.st = 1 ∨ c.st = 2 ∨ c.st = 4 ∨ c.st = 8) ∧ (1 ≤ c.ga ∧ c.ga ≤ 1048576) ∧ (0 ≤ c.le ∧ c.le ≤ 1048576) ∧ (1 ≤ c.re ∧ c.re ≤ 8) ∧ (1 ≤ c.ti ∧ c.ti ≤ 16)
  · rw [decide_eq_true h]
    simp only [breadlineref04_Right.j0, Bool.not_true, in_f, Option.bind_some, decide_eq_true_eq, Bool.false_eq_true, if_false]
    by_cases hn : 1 ≤ (c.ps.length : Int) ∧ (c.ps.length : Int) ≤ 12
    · rw [if_pos hn]
      by_cases hl : c.ls.length = c.ps.length
      · simp only [breadlineref04_Right.j1, hl, bne_self_eq_false, Bool.false_eq_true, if_false]
        have hl0 := ref_right_l0 c hl (by omega) c.ps.length 0 18 rfl (by omega) (by omega)
        rw [show (0 : Int) = ((0 : Nat) : Int) from rfl, hl0]
        congr 1
        rw [Bool.eq_iff_iff]
        simp only [decide_eq_true_eq]
        unfold Right HeadOk
        exact ⟨fun H => ⟨⟨h.1, h.2.1, h.2.2.1, h.2.2.2.1, h.2.2.2.2.1, h.2.2.2.2.2, ⟨by omega, by omega⟩, hl⟩, fun i hi => H i hi (Nat.zero_le _)⟩, fun H i hi _ => H.2 i hi⟩
      · have : ((c.ls.length : Int) != (c.ps.length : Int)) = true := by simp; omega
        simp only [breadlineref04_Right.j1, this, if_true]
        congr 1
        exact (decide_eq_false fun H => hl H.1.2.2.2.2.2.2.2).symm
    · rw [if_neg hn]
      simp only [breadlineref04_Right.j1, if_true]
      congr 1
      exact (decide_eq_false fun H => hn (by have := H.1.2.2.2.2.2.2.1; omega)).symm
  · rw [decide_eq_false h]
    simp only [breadlineref04_Right.j0, Bool.not_false, if_true]
    congr 1
    exact (decide_eq_false fun H => h ⟨H.1.1, H.1.2.1, H.1.2.2.1, H.1.2.2.2.1, H.1.2.2.2.2.1, H.1.2.2.2.2.2.1⟩).symm
def Falls (ps : List Int) : Prop := ∀ i, i < ps.length → rd ps (i : Int) < (i : Int)
theorem Right.falls {c : LConf} (h : Right c) : Falls c.ps := fun i hi => by
  have := (h.2 i hi).2
  split at this <;> omega
theorem upL_some {ps : List Int} (hf : Falls ps) : ∀ (k : Nat) (v : Int), v < (ps.length : Int) → v < (k : Int) → ∃ xs, upL ps k v = some xs
  | 0, v, _, h => ⟨[], by unfold upL; rw [if_pos (by omega)]⟩
  | k + 1, v, hl, h => by
    by_cases h0 : v < 0
    · exact ⟨[], by unfold upL; rw [if_pos h0]⟩
    · have hv : rd ps v < v := by have := hf v.toNat (by omega); rw [show ((v.toNat : Nat) : Int) = v by omega] at this; exact this
      obtain ⟨xs, hx⟩ := upL_some hf k (rd ps v) (by omega) (by omega)
      exact ⟨v :: xs, by unfold upL; rw [if_neg h0, if_pos ⟨hl, hv⟩, hx]; rfl⟩
def pathL (ps : List Int) (v : Int) : List Int := (upA ps v).getD []
theorem upA_pathL {ps : List Int} (hf : Falls ps) (v : Int) : upA ps v = some (pathL ps v) := by
  unfold pathL upA
  by_cases h : v ≥ (ps.length : Int)
  · rw [if_pos h]; rfl
  · rw [if_neg h]
    obtain ⟨xs, hx⟩ := upL_some hf (v.toNat + 1) v (by omega) (by omega)
    rw [hx]; rfl
theorem under_f {c : LConf} (hf : Falls c.ps) (hn : c.ps.length < 1000000) (a b : Int) : tree_Under.f c.th c.st c.ga c.le c.re c.ti c.ps c.ls a b = some (decide (b ∈ pathL c.ps a)) := by
  unfold tree_Under.f
  rw [if_pos hn, upA_pathL hf]; rfl
theorem rd_lt {xs : List Int} {i : Nat} (h : i < xs.length) : rd xs (i : Int) = xs[i] := by simp [rd, List.getD, h]
/-- the slice value v holds the ints xs. -/
def IsInts (W : World) (v : Value) (xs : List Int) : Prop := ∃ A c, v = .slice A xs.length c ∧ xs.length ≤ c ∧ Kd.C (Kd.int .i64) W A xs.length xs
theorem IsInts.below {W W' : World} {v : Value} {xs : List Int} (h : IsInts W v xs) (hb : Below W.heap.size W W') : IsInts W' v xs := by
  obtain ⟨A, c, e, hc, hr⟩ := h
  exact ⟨A, c, e, hc, Kd.C_below hr hb⟩
theorem IsInts.of_R {e : Nat} {W : World} {base : Nat} {ok : Nat → Prop} {v : Value} {xs : List Int} (h : (Kd.int .i64).R e W base ok v xs) : IsInts W v xs := by
  obtain ⟨A, c, e1, h1, h2⟩ := Kd.R_reads h
  exact ⟨A, c, e1, h1, h2⟩
theorem IsInts.nil (W : World) : IsInts W (.slice none 0 0) [] := ⟨none, 0, rfl, Nat.le_refl _, ⟨rfl, by decide, fun h => absurd h (by decide)⟩⟩
theorem IsInts.slice {W : World} {v : Value} {xs : List Int} (h : IsInts W v xs) : ∃ A n c, v = .slice A n c := by
  obtain ⟨A, c, e, _⟩ := h
  exact ⟨A, _, c, e⟩
theorem IsInts.len {W : World} {A : Option Addr} {n c : Nat} {xs : List Int} (h : IsInts W (.slice A n c) xs) : n = xs.length := by
  obtain ⟨A', c', e, _⟩ := h
  injection e
theorem box8 {W : World} {g t : Nat} {x0 x1 x2 x3 x4 x5 x6 x7 : Value} (h : W.heap[g]? = some (.cells #[x0, x1, x2, x3, x4, x5, x6, x7] t (0, 0))) :
    W.cell? ⟨g, 0, none⟩ = some x0 ∧ W.cell? ⟨g, 1, none⟩ = some x1 ∧ W.cell? ⟨g, 2, none⟩ = some x2 ∧ W.cell? ⟨g, 3, none⟩ = some x3 ∧ W.cell? ⟨g, 4, none⟩ = some x4 ∧ W.cell? ⟨g, 5, none⟩ = some x5 ∧ W.cell? ⟨g, 6, none⟩ = some x6 ∧ W.cell? ⟨g, 7, none⟩ = some x7 :=
  ⟨(blk_cell h 0).trans rfl, (blk_cell h 1).trans rfl, (blk_cell h 2).trans rfl, (blk_cell h 3).trans rfl, (blk_cell h 4).trans rfl, (blk_cell h 5).trans rfl, (blk_cell h 6).trans rfl, (blk_cell h 7).trans rfl⟩
theorem K_ref_right (c : LConf) (v6 v7 : Value) (W : World) (h6 : IsInts W v6 c.ps) (h7 : IsInts W v7 c.ls) : Calls Tryz.prog 11 #[.agg #[.int .i64 c.th, .int .i64 c.st, .int .i64 c.ga, .int .i64 c.le, .int .i64 c.re, .int .i64 c.ti, v6, v7]] W fun e w' => e = .returned (.bool (decide (Right c))) ∧ Below W.heap.size W w' := by
  obtain ⟨A6, c6, rfl, hc6, hr6⟩ := h6
  obtain ⟨A7, c7, rfl, hc7, hr7⟩ := h7
  exact breadlineref04_Right.calls 20 _ _ _ _ _ _ A6 c6 c.ps A7 c7 c.ls _ W hr6 hc6 hr7 hc7 (ref_right_f c)
theorem K_great (c : LConf) (v6 v7 : Value) (W : World) (h6 : IsInts W v6 c.ps) (h7 : IsInts W v7 c.ls) :
    Calls Tryz.prog 10 #[.agg #[.int .i64 c.th, .int .i64 c.st, .int .i64 c.ga, .int .i64 c.le, .int .i64 c.re, .int .i64 c.ti, v6, v7]] W fun e w' => e = .returned (.bool (decide (c.ps.length > 100 ∨ c.ls.length > 100))) ∧ Below W.heap.size W w' := by
  obtain ⟨A6, c6, rfl, hc6, hr6⟩ := h6
  obtain ⟨A7, c7, rfl, hc7, hr7⟩ := h7
  refine breadlinelaw04_Great.calls _ _ _ _ _ _ A6 c6 c.ps A7 c7 c.ls _ W hr6 hc6 hr7 hc7 ?_
  unfold breadlinelaw04_Great.f
  split
  · congr 1; exact (decide_eq_true (by omega)).symm
  · congr 1; rw [Bool.eq_iff_iff]; simp only [decide_eq_true_eq]; omega
theorem node_of (n : Nat) (hn : 0 < n) (x : Int) (h0 : 0 ≤ x) (h1 : x ≤ 255) : ∃ a : Nat, a < n ∧ Int.tmod (wrap64 x) (n : Int) = (a : Int) := by
  rw [w64 (by omega) (by omega), Int.tmod_eq_emod_of_nonneg h0]
  have := Int.emod_nonneg x (show (n : Int) ≠ 0 by omega)
  have := Int.emod_lt_of_pos x (show (0 : Int) < (n : Int) by omega)
  exact ⟨(x % (n : Int)).toNat, by omega, by omega⟩
theorem u8_range {x : Int} (h : (Lit.int .u8 x).wf = true) : 0 ≤ x ∧ x ≤ 255 := by
  have e1 : IntKind.u8.min = 0 := by kernel_rfl
  have e2 : IntKind.u8.max = 255 := by kernel_rfl
  simp only [Lit.wf, Bool.and_eq_true, decide_eq_true_eq, e1, e2] at h
  exact h
end Go.Proofs.YthbaamfdpebocaaGreat.PA
