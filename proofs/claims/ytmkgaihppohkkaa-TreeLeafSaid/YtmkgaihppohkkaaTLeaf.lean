import Derived.Test.YtmkgaihppohkkaaTLaw
import Derived.Test.YtmkgaihppohkkaaPTx9
import Derived.Shelf.Abstract
namespace Go.Proofs.Ytmkgaihppohkkaa.PT
open Go.RowKit Go.Shelf Go.Proofs.YtmkgaihppohkkaaW.PrintWords Go.Proofs.YtmkgaihppohkkaaW.PrintLast Go.Proofs.YtmkgaihppohkkaaW.PrintMore
attribute [local go_sem] max2_int min2_int max_two min_two max_three min_three max_four min_four
set_option linter.unusedVariables false
set_option linter.unusedSimpArgs false
def SomeB (ps : List Int) (a : Int) (i : Nat) : Bool := decide (∃ j, j < ps.length ∧ (i ≤ j ∧ a ∈ pathL ps (j : Int) ∧ leafB ps (j : Int) = true))
def OnlyB (ps : List Int) (a : Int) (i : Nat) : Bool := decide (∀ j, j < ps.length → i ≤ j → a ∈ pathL ps (j : Int) → (j : Int) = a)
theorem SomeB_step {ps : List Int} {a : Int} {i : Nat} (h : i < ps.length) : SomeB ps a i = ((decide (a ∈ pathL ps (i : Int)) && leafB ps (i : Int)) || SomeB ps a (i + 1)) := by
  rw [Bool.eq_iff_iff]
  simp only [SomeB, decide_eq_true_eq, Bool.or_eq_true, Bool.and_eq_true]
  constructor
  · rintro ⟨j, hj, h1, h2, h3⟩
    by_cases e : j = i
    · subst e; exact .inl ⟨h2, h3⟩
    · exact .inr ⟨j, hj, by omega, h2, h3⟩
  · rintro (⟨h2, h3⟩ | ⟨j, hj, h1, h2, h3⟩)
    · exact ⟨i, h, Nat.le_refl _, h2, h3⟩
    · exact ⟨j, hj, by omega, h2, h3⟩
theorem OnlyB_step {ps : List Int} {a : Int} {i : Nat} (h : i < ps.length) : OnlyB ps a i = ((!decide (a ∈ pathL ps (i : Int)) || ((i : Int) == a)) && OnlyB ps a (i + 1)) := by
  rw [Bool.eq_iff_iff]
  simp only [OnlyB, decide_eq_true_eq, Bool.or_eq_true, Bool.and_eq_true, Bool.not_eq_true', decide_eq_false_iff_not, beq_iff_eq]
  constructor
  · intro H
    refine ⟨?_, fun j hj h1 h2 => H j hj (by omega) h2⟩
    by_cases e : a ∈ pathL ps (i : Int)
    · exact .inr (H i h (Nat.le_refl _) e)
    · exact .inl e
  · rintro ⟨h0, H⟩ j hj h1 h2
    by_cases e : j = i
    · subst e; exact h0.elim (fun h => absurd h2 h) id
    · exact H j hj (by omega) h2
theorem leaf_loop (c : LConf) (ht : Tree c.ps) (a : Int) : ∀ (m i k : Nat) (s o : Bool), i + m = c.ps.length → m + 21 < k →
    breadlinelaw04_TreeLeaf.l0 k true (c.ps.length : Int) a s o (i : Int) c.th c.st c.ga c.le c.re c.ti c.ps c.ls = some ((s || SomeB c.ps a i) && ((leafB c.ps a == (o && OnlyB c.ps a i)) && (leafB c.ps ((c.ps.length : Int) - 1) && !leafB c.ps (c.ps.length : Int))))
  | 0, i, k, s, o, hi, hk => by
    obtain ⟨k, rfl⟩ : ∃ m, k = m + 1 := ⟨k - 1, by omega⟩
    have hle := ht.le
    have hS : SomeB c.ps a i = false := decide_eq_false (by rintro ⟨j, h1, h2, _⟩; omega)
    have hO : OnlyB c.ps a i = true := decide_eq_true (fun j h1 h2 => by omega)
    simp only [breadlinelaw04_TreeLeaf.l0]
    rw [if_neg (by omega), if_pos trivial, hS, hO, Bool.or_false, Bool.and_true, w64 (x := (c.ps.length : Int) - 1) (by omega) (by omega)]
    simp only [leaf_k c ht.le _ (show 20 ≤ k by omega), Option.bind_some]
    cases s with
    | false => rfl
    | true =>
      rw [if_pos rfl]
      cases h1 : (leafB c.ps a == o) with
      | false => rfl
      | true =>
        rw [if_pos rfl]
        cases h2 : leafB c.ps ((c.ps.length : Int) - 1) with
        | false => rfl
        | true => rfl
  | m + 1, i, k, s, o, hi, hk => by
    obtain ⟨k, rfl⟩ : ∃ m, k = m + 1 := ⟨k - 1, by omega⟩
    have hle := ht.le
    have hlt : i < c.ps.length := by omega
    have hw : wrap64 ((i : Int) + 1) = ((i + 1 : Nat) : Int) := by rw [w64 (by omega) (by omega)]; omega
    have ih := fun s o => leaf_loop c ht a m (i + 1) k s o (by omega) (by omega)
    have hu := fun p q => under_f (c := c) ht.falls (show c.ps.length < 1000000 by omega) p q
    simp only [breadlinelaw04_TreeLeaf.l0]
    rw [if_pos (by omega), hw, SomeB_step hlt, OnlyB_step hlt]
    simp only [leaf_k c ht.le _ (show 20 ≤ k by omega), hu, Option.bind_some, ih, decide_eq_true_eq]
    by_cases e : a ∈ pathL c.ps (i : Int)
    · rw [if_pos e, decide_eq_true e]
      cases s <;> cases o <;> simp [Bool.or_assoc, Bool.and_assoc]
    · rw [if_neg e, decide_eq_false e]
      simp
theorem not_parent {ps : List Int} (h : Tree ps) {a : Nat} (ha : a < ps.length) (b : Int) : b ∈ pathL ps (a : Int) → b ≠ (a : Int) → b ∈ ps :=
  Tree.ind h (p := fun a => b ∈ pathL ps (a : Int) → b ≠ (a : Int) → b ∈ ps) (fun hb hn => by rw [show ((0 : Nat) : Int) = 0 from rfl] at hb hn; rw [h.step0] at hb; simp at hb; exact absurd hb hn) (fun a e h0 h1 he hlt ih hb hn => by
    rw [h.step h1, ← he] at hb
    rcases List.mem_cons.1 hb with rfl | hb
    · exact absurd rfl hn
    · by_cases e' : b = (e : Int)
      · rw [e', he, rd_lt h1]; exact List.getElem_mem h1
      · exact ih hb e') a a (Nat.le_refl _) ha
theorem some_leaf {ps : List Int} (h : Tree ps) {a : Nat} : ∀ (m j : Nat), ps.length - j ≤ m → j < ps.length → (a : Int) ∈ pathL ps (j : Int) → ∃ j, j < ps.length ∧ (0 ≤ j ∧ (a : Int) ∈ pathL ps (j : Int) ∧ leafB ps (j : Int) = true)
  | 0, j, hm, hj, _ => by omega
  | m + 1, j, hm, hj, ha => by
    by_cases hl : leafB ps (j : Int) = true
    · exact ⟨j, hj, Nat.zero_le _, ha, hl⟩
    · have hin : (j : Int) ∈ ps := by
        rcases Classical.em ((j : Int) ∈ ps) with hin | hin
        · exact hin
        · exact absurd (decide_eq_true ⟨by omega, by omega, hin⟩) hl
      obtain ⟨i, hi, hii⟩ := List.getElem_of_mem hin
      have hrd : rd ps (i : Int) = (j : Int) := by rw [rd_lt hi, hii]
      have hf := h.falls i hi
      refine some_leaf h m i (by omega) hi ?_
      rw [h.step hi, hrd]
      exact List.mem_cons_of_mem _ ha
theorem treeLeaf_f (c : LConf) (x : Int) (h0 : 0 ≤ x) (h1 : x ≤ 255) : breadlinelaw04_TreeLeaf.f 60 c.th c.st c.ga c.le c.re c.ti c.ps c.ls x = some true := by
  simp only [breadlinelaw04_TreeLeaf.f, breadlinelaw04_head.f, great_f, ref_right_k c (show 20 ≤ 60 by omega), Option.bind_some, decide_eq_true_eq]
  by_cases hg : c.ps.length > 100 ∨ c.ls.length > 100
  · rw [if_pos hg]; simp only [breadlinelaw04_TreeLeaf.j0, if_true]
  · rw [if_neg hg]
    by_cases hr : Right c
    · rw [decide_eq_true hr]
      have ht := hr.tree
      have hpos := ht.pos
      have hle := ht.le
      obtain ⟨a, ha, hma⟩ := node_of c.ps.length (by omega) x h0 h1
      simp only [breadlinelaw04_TreeLeaf.j0, Bool.not_true, Bool.false_eq_true, if_false, hma]
      rw [if_neg (by omega)]
      have hl := leaf_loop c ht (a : Int) c.ps.length 0 59 false true (by omega) (by omega)
      rw [show (0 : Int) = ((0 : Nat) : Int) from rfl, hl]
      have hS : SomeB c.ps (a : Int) 0 = true := decide_eq_true (some_leaf ht c.ps.length a (by omega) ha (ht.self ha))
      have hO : OnlyB c.ps (a : Int) 0 = leafB c.ps (a : Int) := by
        rw [Bool.eq_iff_iff]
        simp only [OnlyB, leafB, decide_eq_true_eq]
        constructor
        · intro H
          refine ⟨by omega, by omega, fun hin => ?_⟩
          obtain ⟨i, hi, hii⟩ := List.getElem_of_mem hin
          have hrd : rd c.ps (i : Int) = (a : Int) := by rw [rd_lt hi, hii]
          have hf := ht.falls i hi
          have := H i hi (Nat.zero_le _) (by rw [ht.step hi, hrd]; exact List.mem_cons_of_mem _ (ht.self ha))
          omega
        · rintro ⟨_, _, hn⟩ j hj _ hin
          rcases Classical.em ((j : Int) = (a : Int)) with e | e
          · exact e
          · exact absurd (not_parent ht hj (a : Int) hin (fun e' => e e'.symm)) hn
      have hn1 : leafB c.ps ((c.ps.length : Int) - 1) = true := by
        refine decide_eq_true ⟨by omega, by omega, fun hin => ?_⟩
        obtain ⟨i, hi, hii⟩ := List.getElem_of_mem hin
        have hf := ht.falls i hi
        rw [rd_lt hi, hii] at hf
        omega
      have hn2 : leafB c.ps (c.ps.length : Int) = false := decide_eq_false (fun h => by omega)
      rw [hS, hO, hn1, hn2]
      simp
    · rw [decide_eq_false hr]
      simp only [breadlinelaw04_TreeLeaf.j0, Bool.not_false, if_true]
theorem W_TreeLeaf (c : LConf) (A6 : Option Addr) (n6 d6 : Nat) (A7 : Option Addr) (n7 d7 : Nat) (x : Int) (W : World) (h6 : IsInts W (.slice A6 n6 d6) c.ps) (h7 : IsInts W (.slice A7 n7 d7) c.ls) (hx : (Lit.int .u8 x).wf = true) :
    Calls Try.prog 6 #[.agg #[.int .i64 c.th, .int .i64 c.st, .int .i64 c.ga, .int .i64 c.le, .int .i64 c.re, .int .i64 c.ti, .slice A6 n6 d6, .slice A7 n7 d7], .int .u8 x] W fun e w' => e = .returned (.bool true) ∧ Below W.heap.size W w' := by
  obtain ⟨B6, e6, he6, hc6, hr6⟩ := h6
  obtain ⟨B7, e7, he7, hc7, hr7⟩ := h7
  rw [he6, he7]
  have := u8_range hx
  exact breadlinelaw04_TreeLeaf.calls 60 _ _ _ _ _ _ B6 e6 c.ps B7 e7 c.ls x true W hr6 hc6 hr7 hc7 (treeLeaf_f c x this.1 this.2)
end Go.Proofs.Ytmkgaihppohkkaa.PT
