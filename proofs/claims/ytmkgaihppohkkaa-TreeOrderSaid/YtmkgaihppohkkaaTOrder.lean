import Derived.Test.YtmkgaihppohkkaaTLaw
import Derived.Test.YtmkgaihppohkkaaPTx8
import Derived.Shelf.Abstract
namespace Go.Proofs.Ytmkgaihppohkkaa.PT
open Go.RowKit Go.Shelf Go.Proofs.YtmkgaihppohkkaaW.PrintWords Go.Proofs.YtmkgaihppohkkaaW.PrintLast Go.Proofs.YtmkgaihppohkkaaW.PrintMore
attribute [local go_sem] max2_int min2_int max_two min_two max_three min_three max_four min_four
set_option linter.unusedVariables false
set_option linter.unusedSimpArgs false
theorem treeOrder_f (c : LConf) (x y z : Int) (hx0 : 0 ≤ x) (hx1 : x ≤ 255) (hy0 : 0 ≤ y) (hy1 : y ≤ 255) (hz0 : 0 ≤ z) (hz1 : z ≤ 255) : breadlinelaw04_TreeOrder.f 60 c.th c.st c.ga c.le c.re c.ti c.ps c.ls x y z = some true := by
  simp only [breadlinelaw04_TreeOrder.f, breadlinelaw04_head.f, great_f, ref_right_k c (show 20 ≤ 60 by omega), Option.bind_some, decide_eq_true_eq]
  by_cases hg : c.ps.length > 100 ∨ c.ls.length > 100
  · rw [if_pos hg]; simp only [breadlinelaw04_TreeOrder.j0, if_true]
  · rw [if_neg hg]
    by_cases hr : Right c
    · rw [decide_eq_true hr]
      have ht := hr.tree
      have hpos := ht.pos
      have hle := ht.le
      obtain ⟨a, ha, hma⟩ := node_of c.ps.length (by omega) x hx0 hx1
      obtain ⟨b, hb, hmb⟩ := node_of c.ps.length (by omega) y hy0 hy1
      obtain ⟨d, hd, hmd⟩ := node_of c.ps.length (by omega) z hz0 hz1
      have hu := fun p q => under_f (c := c) ht.falls (show c.ps.length < 1000000 by omega) p q
      simp only [breadlinelaw04_TreeOrder.j0, Bool.not_true, Bool.false_eq_true, if_false, hma, hmb, hmd, hu, Option.bind_some, decide_eq_true_eq]
      rw [if_neg (by omega)]
      have h1 : (a : Int) ∈ pathL c.ps (a : Int) := ht.self ha
      have h2 : (0 : Int) ∈ pathL c.ps (a : Int) := ht.zero ha
      have h3 : (c.ps.length : Int) ∉ pathL c.ps (a : Int) := fun h => by have := ht.mem ha _ h; omega
      have h4 : (a : Int) ∉ pathL c.ps (-1) := by rw [pathL_neg (by omega)]; simp
      have fin : breadlinelaw04_TreeOrder.j1 59 true (c.ps.length : Int) (a : Int) (b : Int) (d : Int) false c.th c.st c.ga c.le c.re c.ti c.ps c.ls = some true := by
        simp only [breadlinelaw04_TreeOrder.j1, Bool.false_eq_true, if_false, if_true, hu, Option.bind_some, decide_eq_true_eq]
        rw [if_pos h1, if_pos h2]
        by_cases e1 : (b : Int) ∈ pathL c.ps (a : Int)
        · rw [if_pos e1]
          by_cases e2 : (d : Int) ∈ pathL c.ps (b : Int)
          · rw [if_pos e2, if_pos (ht.trans ha _ _ e1 e2), if_neg h3, decide_eq_false h4]; rfl
          · rw [if_neg e2, if_neg h3, decide_eq_false h4]; rfl
        · rw [if_neg e1, if_neg h3, decide_eq_false h4]; rfl
      by_cases e1 : (b : Int) ∈ pathL c.ps (a : Int)
      · rw [if_pos e1]
        have hba := ht.mem ha _ e1
        by_cases e2 : (a : Int) ∈ pathL c.ps (b : Int)
        · have hab := ht.mem hb _ e2
          have e : (a : Int) = (b : Int) := by omega
          rw [decide_eq_true e2, show ((a : Int) == (b : Int)) = true by rw [e]; simp]
          exact fin
        · have e : ¬ (a : Int) = (b : Int) := fun e => e2 (by rw [← e]; exact h1)
          rw [decide_eq_false e2, show ((a : Int) == (b : Int)) = false by simpa using e]
          exact fin
      · rw [if_neg e1]
        exact fin
    · rw [decide_eq_false hr]
      simp only [breadlinelaw04_TreeOrder.j0, Bool.not_false, if_true]
theorem W_TreeOrder (c : LConf) (A6 : Option Addr) (n6 d6 : Nat) (A7 : Option Addr) (n7 d7 : Nat) (x y z : Int) (W : World) (h6 : IsInts W (.slice A6 n6 d6) c.ps) (h7 : IsInts W (.slice A7 n7 d7) c.ls) (hx : (Lit.int .u8 x).wf = true) (hy : (Lit.int .u8 y).wf = true) (hz : (Lit.int .u8 z).wf = true) :
    Calls Try.prog 5 #[.agg #[.int .i64 c.th, .int .i64 c.st, .int .i64 c.ga, .int .i64 c.le, .int .i64 c.re, .int .i64 c.ti, .slice A6 n6 d6, .slice A7 n7 d7], .int .u8 x, .int .u8 y, .int .u8 z] W fun e w' => e = .returned (.bool true) ∧ Below W.heap.size W w' := by
  obtain ⟨B6, e6, he6, hc6, hr6⟩ := h6
  obtain ⟨B7, e7, he7, hc7, hr7⟩ := h7
  rw [he6, he7]
  have h1 := u8_range hx
  have h2 := u8_range hy
  have h3 := u8_range hz
  exact breadlinelaw04_TreeOrder.calls 60 _ _ _ _ _ _ B6 e6 c.ps B7 e7 c.ls x y z true W hr6 hc6 hr7 hc7 (treeOrder_f c x y z h1.1 h1.2 h2.1 h2.2 h3.1 h3.2)
end Go.Proofs.Ytmkgaihppohkkaa.PT
