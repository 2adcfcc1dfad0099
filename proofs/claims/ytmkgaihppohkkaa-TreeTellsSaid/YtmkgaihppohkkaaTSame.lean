import Derived.Test.YtmkgaihppohkkaaTLaw
import Derived.Shelf.Abstract
namespace Go.Proofs.Ytmkgaihppohkkaa.PT
open Go.RowKit Go.Shelf Go.Proofs.YtmkgaihppohkkaaW.PrintWords Go.Proofs.YtmkgaihppohkkaaW.PrintLast Go.Proofs.YtmkgaihppohkkaaW.PrintMore
attribute [local go_sem] max2_int min2_int max_two min_two max_three min_three max_four min_four
set_option linter.unusedVariables false
set_option linter.unusedSimpArgs false
theorem ref_depth_k {c : LConf} (hf : Falls c.ps) (hn : c.ps.length ≤ 12) {k : Nat} (hk : 40 ≤ k) : breadlineref04_Depth.f k c.th c.st c.ga c.le c.re c.ti c.ps c.ls = some (depthL c.ps) := at_rounds (fun k => breadlineref04_Depth.mono _ _ _ _ _ _ _ _ k) hk (ref_depth_f hf hn)
theorem ref_under_k {c : LConf} (hf : Falls c.ps) (hn : c.ps.length ≤ 12) (a b : Int) {k : Nat} (hk : 40 ≤ k) : breadlineref04_Under.f k c.th c.st c.ga c.le c.re c.ti c.ps c.ls a b = some (decide (b ∈ pathL c.ps a)) := at_rounds (fun k => breadlineref04_Under.mono _ _ _ _ _ _ _ _ _ _ k) hk (ref_under_f hf hn a b)
theorem ref_leaf_k (c : LConf) (hn : c.ps.length ≤ 12) (a : Int) {k : Nat} (hk : 20 ≤ k) : breadlineref04_Leaf.f k c.th c.st c.ga c.le c.re c.ti c.ps c.ls a = some (leafB c.ps a) := at_rounds (fun k => breadlineref04_Leaf.mono _ _ _ _ _ _ _ _ _ k) hk (ref_leaf_f c hn a)
theorem right_k (c : LConf) {k : Nat} (hk : 20 ≤ k) (hp : c.ps.length ≤ 140737488351232) (hl : c.ls.length ≤ 140737488351232) : tree_Right.f k c.th c.st c.ga c.le c.re c.ti c.ps c.ls = some (decide (Right c)) := at_rounds (fun k => tree_Right.mono _ _ _ _ _ _ _ _ k) hk (right_f c hp hl)
theorem same_k (xs ys : List Int) {k : Nat} (hk : xs.length < k) (hb : xs.length < 1000) : breadlineref03_SameInts.f k xs ys = some (decide (xs = ys)) := by
  unfold breadlineref03_SameInts.f
  by_cases h : (xs.length : Int) = (ys.length : Int)
  · rw [if_pos h]
    exact same_l0 xs ys (by omega) (by omega) xs.length 0 k (by omega) hk
  · rw [if_neg h]; congr 1; exact (decide_eq_false fun e => h (by rw [e])).symm
end Go.Proofs.Ytmkgaihppohkkaa.PT
