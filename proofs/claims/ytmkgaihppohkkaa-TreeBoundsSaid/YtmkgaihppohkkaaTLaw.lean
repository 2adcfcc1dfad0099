import Derived.Test.YtmkgaihppohkkaaTRef
import Derived.Test.YtmkgaihppohkkaaTOpen
import Derived.Shelf.Abstract
namespace Go.Proofs.Ytmkgaihppohkkaa.PT
open Go.RowKit Go.Shelf Go.Proofs.YtmkgaihppohkkaaW.PrintWords Go.Proofs.YtmkgaihppohkkaaW.PrintLast Go.Proofs.YtmkgaihppohkkaaW.PrintMore
attribute [local go_sem] max2_int min2_int max_two min_two max_three min_three max_four min_four
set_option linter.unusedVariables false
set_option linter.unusedSimpArgs false
/-- what a right setting says of its parents. -/
structure Tree (ps : List Int) : Prop where
  pos : 1 ≤ ps.length
  le : ps.length ≤ 12
  first : rd ps 0 = -1
  other : ∀ i : Nat, 0 < i → i < ps.length → 0 ≤ rd ps (i : Int) ∧ rd ps (i : Int) < (i : Int)
theorem Right.tree {c : LConf} (h : Right c) : Tree c.ps :=
  ⟨h.1.2.2.2.2.2.2.1.1, h.1.2.2.2.2.2.2.1.2, by have := (h.2 0 (by have := h.1.2.2.2.2.2.2.1.1; omega)).2; rw [if_pos rfl] at this; exact this, fun i h0 h1 => by have := (h.2 i h1).2; rw [if_neg (by omega)] at this; exact this⟩
theorem Tree.falls {ps : List Int} (h : Tree ps) : Falls ps := fun i hi => by
  by_cases h0 : i = 0
  · subst h0; have := h.first; rw [show ((0 : Nat) : Int) = 0 from rfl, this]; omega
  · exact (h.other i (by omega) hi).2
theorem Tree.step0 {ps : List Int} (h : Tree ps) : pathL ps 0 = [0] := by
  rw [pathL_step h.falls (by omega) (by have := h.pos; omega), h.first, pathL_neg (by omega)]
theorem Tree.step {ps : List Int} (h : Tree ps) {a : Nat} (h1 : a < ps.length) : pathL ps (a : Int) = (a : Int) :: pathL ps (rd ps (a : Int)) := pathL_step h.falls (by omega) (by omega)
theorem Tree.ind {ps : List Int} (h : Tree ps) {p : Nat → Prop} (h0 : p 0) (hs : ∀ a b : Nat, 0 < a → a < ps.length → (b : Int) = rd ps (a : Int) → b < a → p b → p a) : ∀ n a : Nat, a ≤ n → a < ps.length → p a
  | 0, a, hn, _ => by obtain rfl : a = 0 := by omega
                      exact h0
  | n + 1, a, hn, ha => by
    by_cases e : a = 0
    · subst e; exact h0
    · have := h.other a (by omega) ha
      exact hs a (rd ps (a : Int)).toNat (by omega) ha (by omega) (by omega) (Tree.ind h h0 hs n _ (by omega) (by omega))
theorem Tree.mem {ps : List Int} (h : Tree ps) {a : Nat} (ha : a < ps.length) : ∀ v, v ∈ pathL ps (a : Int) → 0 ≤ v ∧ v ≤ (a : Int) :=
  Tree.ind h (p := fun a => ∀ v, v ∈ pathL ps (a : Int) → 0 ≤ v ∧ v ≤ (a : Int)) (fun v hv => by rw [show ((0 : Nat) : Int) = 0 from rfl, h.step0] at hv; simp at hv; omega) (fun a b h0 h1 hb hlt ih v hv => by
    rw [h.step h1, ← hb] at hv
    rcases List.mem_cons.1 hv with rfl | hv
    · omega
    · have := ih v hv; omega) a a (Nat.le_refl _) ha
theorem Tree.self {ps : List Int} (h : Tree ps) {a : Nat} (ha : a < ps.length) : (a : Int) ∈ pathL ps (a : Int) := by rw [h.step ha]; exact List.mem_cons_self
theorem Tree.zero {ps : List Int} (h : Tree ps) {a : Nat} (ha : a < ps.length) : (0 : Int) ∈ pathL ps (a : Int) :=
  Tree.ind h (p := fun a => (0 : Int) ∈ pathL ps (a : Int)) (by rw [show ((0 : Nat) : Int) = 0 from rfl, h.step0]; simp) (fun a b h0 h1 hb hlt ih => by rw [h.step h1, ← hb]; exact List.mem_cons_of_mem _ ih) a a (Nat.le_refl _) ha
theorem Tree.trans {ps : List Int} (h : Tree ps) {a : Nat} (ha : a < ps.length) (b d : Int) : b ∈ pathL ps (a : Int) → d ∈ pathL ps b → d ∈ pathL ps (a : Int) :=
  Tree.ind h (p := fun a => b ∈ pathL ps (a : Int) → d ∈ pathL ps b → d ∈ pathL ps (a : Int)) (fun hb hd => by rw [show ((0 : Nat) : Int) = 0 from rfl] at hb ⊢; rw [h.step0] at hb; simp at hb; subst hb; exact hd) (fun a e h0 h1 he hlt ih hb hd => by
    rw [h.step h1, ← he] at hb
    rcases List.mem_cons.1 hb with rfl | hb
    · exact hd
    · rw [h.step h1, ← he]; exact List.mem_cons_of_mem _ (ih hb hd)) a a (Nat.le_refl _) ha
theorem Tree.last {ps : List Int} (h : Tree ps) {a : Nat} (ha : a < ps.length) : (pathL ps (a : Int)).getLast? = some 0 :=
  Tree.ind h (p := fun a => (pathL ps (a : Int)).getLast? = some 0) (by rw [show ((0 : Nat) : Int) = 0 from rfl, h.step0]; rfl) (fun a b h0 h1 hb hlt ih => by
    rw [h.step h1, ← hb]
    cases hp : pathL ps (b : Int) with
    | nil => rw [hp] at ih; cases ih
    | cons x xs => rw [hp] at ih; rw [List.getLast?_cons_cons]; exact ih) a a (Nat.le_refl _) ha
theorem depL_ge (ps : List Int) : ∀ (m : Nat) (d : Int), d ≤ depL ps m d
  | 0, d => Int.le_refl _
  | m + 1, d => by
    have := depL_ge ps m (mx d ((pathL ps (((ps.length - (m + 1) : Nat)) : Int)).length : Int))
    have hm : d ≤ mx d ((pathL ps (((ps.length - (m + 1) : Nat)) : Int)).length : Int) := by unfold mx; split <;> omega
    simp only [depL]
    omega
theorem depL_len (ps : List Int) : ∀ (m : Nat) (d : Int) (a : Nat), ps.length - m ≤ a → a < ps.length → m ≤ ps.length → ((pathL ps (a : Int)).length : Int) ≤ depL ps m d
  | 0, d, a, h1, h2, _ => by omega
  | m + 1, d, a, h1, h2, h3 => by
    simp only [depL]
    by_cases e : a = ps.length - (m + 1)
    · subst e
      have := depL_ge ps m (mx d ((pathL ps (((ps.length - (m + 1) : Nat)) : Int)).length : Int))
      have hm : ((pathL ps (((ps.length - (m + 1) : Nat)) : Int)).length : Int) ≤ mx d ((pathL ps (((ps.length - (m + 1) : Nat)) : Int)).length : Int) := by unfold mx; split <;> omega
      omega
    · exact depL_len ps m _ a (by omega) h2 (by omega)
theorem depthL_len (ps : List Int) {a : Nat} (h : a < ps.length) : ((pathL ps (a : Int)).length : Int) ≤ depthL ps := depL_len ps ps.length 0 a (by omega) h (Nat.le_refl _)
theorem isUp_chain {ps : List Int} : ∀ (xs : List Int) (v : Int), IsUp ps v xs → ∀ i, i < xs.length → (0 ≤ rd xs (i : Int) ∧ rd xs (i : Int) < (ps.length : Int)) ∧ (i + 1 < xs.length → rd xs ((i + 1 : Nat) : Int) = rd ps (rd xs (i : Int)) ∧ rd xs ((i + 1 : Nat) : Int) < rd xs (i : Int))
  | x :: xs, _, ⟨rfl, h0, h1, h2, h3⟩, 0, _ => by
    refine ⟨⟨h0, h1⟩, fun hl => ?_⟩
    cases xs with
    | nil => simp at hl
    | cons y ys =>
      have hy : y = rd ps x := h3.1
      subst hy
      exact ⟨rfl, h2⟩
  | x :: xs, _, ⟨_, _, _, _, h3⟩, i + 1, hi => by
    have := isUp_chain xs _ h3 i (by simpa using hi)
    have e : ∀ j : Nat, rd (x :: xs) ((j + 1 : Nat) : Int) = rd xs (j : Int) := fun j => by simp [rd]
    rw [e i]
    refine ⟨this.1, fun hl => ?_⟩
    rw [e (i + 1)]
    exact this.2 (by simpa using hl)
theorem great_f (c : LConf) : breadlinelaw04_Great.f c.th c.st c.ga c.le c.re c.ti c.ps c.ls = some (decide (c.ps.length > 100 ∨ c.ls.length > 100)) := by
  unfold breadlinelaw04_Great.f
  split
  · congr 1; exact (decide_eq_true (by omega)).symm
  · congr 1; rw [Bool.eq_iff_iff]; simp only [decide_eq_true_eq]; omega
theorem ref_right_k (c : LConf) {k : Nat} (hk : 20 ≤ k) : breadlineref04_Right.f k c.th c.st c.ga c.le c.re c.ti c.ps c.ls = some (decide (Right c)) := at_rounds (fun k => breadlineref04_Right.mono _ _ _ _ _ _ _ _ k) hk (ref_right_f c)
theorem depth_k {c : LConf} (hf : Falls c.ps) (hn : c.ps.length ≤ 12) {k : Nat} (hk : 20 ≤ k) : tree_Depth.f k c.th c.st c.ga c.le c.re c.ti c.ps c.ls = some (depthL c.ps) := at_rounds (fun k => tree_Depth.mono _ _ _ _ _ _ _ _ k) hk (depth_f hf hn)
theorem leaf_k (c : LConf) (hn : c.ps.length ≤ 12) (a : Int) {k : Nat} (hk : 20 ≤ k) : tree_Leaf.f k c.th c.st c.ga c.le c.re c.ti c.ps c.ls a = some (leafB c.ps a) := at_rounds (fun k => tree_Leaf.mono _ _ _ _ _ _ _ _ _ k) hk (leaf_f c hn a)
theorem node_of (n : Nat) (hn : 0 < n) (x : Int) (h0 : 0 ≤ x) (h1 : x ≤ 255) : ∃ a : Nat, a < n ∧ Int.tmod (wrap64 x) (n : Int) = (a : Int) := by
  rw [w64 (by omega) (by omega), Int.tmod_eq_emod_of_nonneg h0]
  have := Int.emod_nonneg x (show (n : Int) ≠ 0 by omega)
  have := Int.emod_lt_of_pos x (show (0 : Int) < (n : Int) by omega)
  exact ⟨(x % (n : Int)).toNat, by omega, by omega⟩
theorem u8_range {x : Int} (h : (Lit.int .u8 x).wf = true) : 0 ≤ x ∧ x ≤ 255 := by
  have e1 : IntKind.u8.min = 0 := by kernel_rfl
  have e2 : IntKind.u8.max = 255 := by kernel_rfl
  simp only [Lit.wf, Bool.and_eq_true, decide_eq_true_eq, e1, e2] at h
  exact h
end Go.Proofs.Ytmkgaihppohkkaa.PT
