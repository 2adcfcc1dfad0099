import Derived.Test.YtmkgaihppohkkaaTSame
import Derived.Test.YtmkgaihppohkkaaPTx7
import Derived.Shelf.Abstract
namespace Go.Proofs.Ytmkgaihppohkkaa.PT
open Go.RowKit Go.Shelf Go.Proofs.YtmkgaihppohkkaaW.PrintWords Go.Proofs.YtmkgaihppohkkaaW.PrintLast Go.Proofs.YtmkgaihppohkkaaW.PrintMore
attribute [local go_sem] max2_int min2_int max_two min_two max_three min_three max_four min_four
set_option linter.unusedVariables false
set_option linter.unusedSimpArgs false
theorem treeTells_f (c : LConf) (a b : Int) : breadlinelaw04_TreeTells.f 60 c.th c.st c.ga c.le c.re c.ti c.ps c.ls a b = some true := by
  simp only [breadlinelaw04_TreeTells.f, breadlinelaw04_head.f, great_f, ref_right_k c (show 20 ≤ 60 by omega), Option.bind_some, decide_eq_true_eq]
  by_cases hg : c.ps.length > 100 ∨ c.ls.length > 100
  · rw [if_pos hg]
  · rw [if_neg hg]
    simp only [right_k c (show 20 ≤ 60 by omega) (by omega) (by omega), Option.bind_some, bne_self_eq_false, Bool.false_eq_true, if_false, if_true, decide_eq_true_eq]
    by_cases hr : Right c
    · rw [if_pos hr]
      have ht := hr.tree
      have hle := ht.le
      have hlen := pathL_len ht.falls a
      simp only [path_f ht.falls (show c.ps.length < 1000000 by omega), ref_path_f ht.falls ht.le a 60 (by omega), Option.bind_some, same_k (pathL c.ps a) (pathL c.ps a) (show _ < 60 by omega) (by omega), depth_k ht.falls ht.le (show 20 ≤ 60 by omega), ref_depth_k ht.falls ht.le (show 40 ≤ 60 by omega), under_f ht.falls (show c.ps.length < 1000000 by omega) a b, ref_under_k ht.falls ht.le a b (show 40 ≤ 60 by omega), leaf_k c ht.le a (show 20 ≤ 60 by omega), ref_leaf_k c ht.le a (show 20 ≤ 60 by omega)]
      simp
    · rw [if_neg hr]
theorem W_TreeTells (c : LConf) (A6 : Option Addr) (n6 d6 : Nat) (A7 : Option Addr) (n7 d7 : Nat) (a b : Int) (W : World) (h6 : IsInts W (.slice A6 n6 d6) c.ps) (h7 : IsInts W (.slice A7 n7 d7) c.ls) (ha : (Lit.int .i64 a).wf = true) (hb : (Lit.int .i64 b).wf = true) :
    Calls Try.prog 3 #[.agg #[.int .i64 c.th, .int .i64 c.st, .int .i64 c.ga, .int .i64 c.le, .int .i64 c.re, .int .i64 c.ti, .slice A6 n6 d6, .slice A7 n7 d7], .int .i64 a, .int .i64 b] W fun e w' => e = .returned (.bool true) ∧ Below W.heap.size W w' := by
  obtain ⟨B6, e6, he6, hc6, hr6⟩ := h6
  obtain ⟨B7, e7, he7, hc7, hr7⟩ := h7
  rw [he6, he7]
  exact breadlinelaw04_TreeTells.calls 60 _ _ _ _ _ _ B6 e6 c.ps B7 e7 c.ls a b true W hr6 hc6 hr7 hc7 (treeTells_f c a b)
end Go.Proofs.Ytmkgaihppohkkaa.PT
