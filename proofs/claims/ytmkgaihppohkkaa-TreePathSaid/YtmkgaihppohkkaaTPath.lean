import Derived.Test.YtmkgaihppohkkaaTLaw
import Derived.Test.YtmkgaihppohkkaaPTx7
import Derived.Shelf.Abstract
namespace Go.Proofs.Ytmkgaihppohkkaa.PT
open Go.RowKit Go.Shelf Go.Proofs.YtmkgaihppohkkaaW.PrintWords Go.Proofs.YtmkgaihppohkkaaW.PrintLast Go.Proofs.YtmkgaihppohkkaaW.PrintMore
attribute [local go_sem] max2_int min2_int max_two min_two max_three min_three max_four min_four
set_option linter.unusedVariables false
set_option linter.unusedSimpArgs false
theorem path_loop (c : LConf) (ht : Tree c.ps) (v : Nat) (hv : v < c.ps.length) : ∀ (m i k : Nat), 1 ≤ i → i + m = (pathL c.ps (v : Int)).length → m < k →
    breadlinelaw04_TreePath.l0 k true (pathL c.ps (v : Int)) (i : Int) c.th c.st c.ga c.le c.re c.ti c.ps c.ls = some true
  | 0, i, k, h1, hi, hk => by
    obtain ⟨k, rfl⟩ : ∃ m, k = m + 1 := ⟨k - 1, by omega⟩
    simp only [breadlinelaw04_TreePath.l0]
    rw [if_neg (by omega)]
  | m + 1, i, k, h1, hi, hk => by
    obtain ⟨k, rfl⟩ : ∃ m, k = m + 1 := ⟨k - 1, by omega⟩
    have hlen := pathL_len ht.falls (v : Int)
    have hle := ht.le
    obtain ⟨j, rfl⟩ : ∃ j, i = j + 1 := ⟨i - 1, by omega⟩
    have hw : wrap64 (((j + 1 : Nat) : Int) + 1) = ((j + 1 + 1 : Nat) : Int) := by rw [w64 (by omega) (by omega)]; omega
    have hw1 : wrap64 (((j + 1 : Nat) : Int) - 1) = (j : Int) := by rw [w64 (by omega) (by omega)]; omega
    have hc := isUp_chain _ _ (pathL_is ht.falls (v := (v : Int)) (by omega)) j (by omega)
    have hc1 := isUp_chain _ _ (pathL_is ht.falls (v := (v : Int)) (by omega)) (j + 1) (by omega)
    have hc2 := hc.2 (by omega)
    simp only [breadlinelaw04_TreePath.l0]
    rw [hw, hw1, if_pos (by omega), if_pos (by omega), if_pos (by omega), if_pos (by omega), if_neg (by omega), if_neg (by omega), if_neg (by omega), if_pos (by omega), if_pos (by omega), if_pos hc2.1.symm]
    exact path_loop c ht v hv m (j + 1 + 1) k (by omega) (by omega) (by omega)
theorem treePath_f (c : LConf) (x : Int) (h0 : 0 ≤ x) (h1 : x ≤ 255) : breadlinelaw04_TreePath.f 60 c.th c.st c.ga c.le c.re c.ti c.ps c.ls x = some true := by
  simp only [breadlinelaw04_TreePath.f, breadlinelaw04_head.f, great_f, ref_right_k c (show 20 ≤ 60 by omega), Option.bind_some, decide_eq_true_eq]
  by_cases hg : c.ps.length > 100 ∨ c.ls.length > 100
  · rw [if_pos hg]; simp only [breadlinelaw04_TreePath.j0, if_true]
  · rw [if_neg hg]
    by_cases hr : Right c
    · rw [decide_eq_true hr]
      have ht := hr.tree
      have hpos := ht.pos
      have hle := ht.le
      obtain ⟨v, hv, hm⟩ := node_of c.ps.length (by omega) x h0 h1
      simp only [breadlinelaw04_TreePath.j0, Bool.not_true, Bool.false_eq_true, if_false, hm, path_f ht.falls (show c.ps.length < 1000000 by omega), Option.bind_some, depth_k ht.falls ht.le (show 20 ≤ 59 by omega)]
      have hlen := pathL_len ht.falls (v : Int)
      have hst := ht.step hv
      have hl1 : 1 ≤ (pathL c.ps (v : Int)).length := by rw [hst]; simp
      have hfirst : rd (pathL c.ps (v : Int)) 0 = (v : Int) := by rw [hst]; rfl
      have hlast : rd (pathL c.ps (v : Int)) (((pathL c.ps (v : Int)).length : Int) - 1) = 0 := by
        have := ht.last hv
        rw [List.getLast?_eq_getElem?] at this
        have e : (((pathL c.ps (v : Int)).length : Int) - 1).toNat = (pathL c.ps (v : Int)).length - 1 := by omega
        unfold rd
        rw [e, List.getD_eq_getElem?_getD, this]; rfl
      have hdep := depthL_len c.ps hv
      rw [if_neg (by omega), if_neg (by omega), if_pos (by omega), if_pos hfirst, w64 (x := ((pathL c.ps (v : Int)).length : Int) - 1) (by omega) (by omega), if_pos (by omega), if_pos (by omega), if_pos hlast, decide_eq_false (by omega)]
      simp only [breadlinelaw04_TreePath.j1, Bool.false_eq_true, if_false]
      exact path_loop c ht v hv ((pathL c.ps (v : Int)).length - 1) 1 58 (by omega) (by omega) (by omega)
    · rw [decide_eq_false hr]
      simp only [breadlinelaw04_TreePath.j0, Bool.not_false, if_true]
theorem W_TreePath (c : LConf) (A6 : Option Addr) (n6 d6 : Nat) (A7 : Option Addr) (n7 d7 : Nat) (x : Int) (W : World) (h6 : IsInts W (.slice A6 n6 d6) c.ps) (h7 : IsInts W (.slice A7 n7 d7) c.ls) (hx : (Lit.int .u8 x).wf = true) :
    Calls Try.prog 4 #[.agg #[.int .i64 c.th, .int .i64 c.st, .int .i64 c.ga, .int .i64 c.le, .int .i64 c.re, .int .i64 c.ti, .slice A6 n6 d6, .slice A7 n7 d7], .int .u8 x] W fun e w' => e = .returned (.bool true) ∧ Below W.heap.size W w' := by
  obtain ⟨B6, e6, he6, hc6, hr6⟩ := h6
  obtain ⟨B7, e7, he7, hc7, hr7⟩ := h7
  rw [he6, he7]
  have := u8_range hx
  exact breadlinelaw04_TreePath.calls 60 _ _ _ _ _ _ B6 e6 c.ps B7 e7 c.ls x true W hr6 hc6 hr7 hc7 (treePath_f c x this.1 this.2)
end Go.Proofs.Ytmkgaihppohkkaa.PT
