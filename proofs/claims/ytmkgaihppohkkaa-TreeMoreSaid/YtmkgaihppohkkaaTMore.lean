import Derived.Test.YtmkgaihppohkkaaTSame
import Derived.Test.YtmkgaihppohkkaaPTx11
import Derived.Shelf.Abstract
namespace Go.Proofs.Ytmkgaihppohkkaa.PT
open Go.RowKit Go.Shelf Go.Proofs.YtmkgaihppohkkaaW.PrintWords Go.Proofs.YtmkgaihppohkkaaW.PrintLast Go.Proofs.YtmkgaihppohkkaaW.PrintMore
attribute [local go_sem] max2_int min2_int max_two min_two max_three min_three max_four min_four
set_option linter.unusedVariables false
set_option linter.unusedSimpArgs false
theorem rd_app {xs : List Int} {y : Int} {i : Nat} (h : i < xs.length) : rd (xs ++ [y]) (i : Int) = rd xs (i : Int) := by
  rw [rd_lt h, rd_lt (show i < (xs ++ [y]).length by simp; omega), List.getElem_append_left h]
theorem rd_app_last {xs : List Int} {y : Int} : rd (xs ++ [y]) (xs.length : Int) = y := by
  rw [rd_lt (show xs.length < (xs ++ [y]).length by simp)]; simp
theorem isUp_app {ps : List Int} {p : Int} : ∀ {xs : List Int} {v : Int}, IsUp ps v xs → IsUp (ps ++ [p]) v xs
  | [], _, h => h
  | x :: xs, _, ⟨rfl, h0, h1, h2, h3⟩ => by
    have e : rd (ps ++ [p]) x = rd ps x := by have := rd_app (xs := ps) (y := p) (i := x.toNat) (by omega); rwa [show ((x.toNat : Nat) : Int) = x by omega] at this
    exact ⟨rfl, h0, by simp; omega, by rw [e]; exact h2, by rw [e]; exact isUp_app h3⟩
theorem falls_app {ps : List Int} {p : Int} (h : Falls ps) (hp : p < (ps.length : Int)) : Falls (ps ++ [p]) := fun i hi => by
  simp at hi
  by_cases e : i = ps.length
  · subst e; rw [rd_app_last]; exact hp
  · rw [rd_app (by omega)]; exact h i (by omega)
theorem path_app {ps : List Int} {p : Int} (h : Falls ps) (hp : p < (ps.length : Int)) {v : Int} (hv : v < (ps.length : Int)) : pathL (ps ++ [p]) v = pathL ps v :=
  isUp_unique (pathL_is (falls_app h hp) (by simp; omega)) (isUp_app (pathL_is h hv))
theorem path_app_last {ps : List Int} {p : Int} (h : Falls ps) (hp : p < (ps.length : Int)) : pathL (ps ++ [p]) (ps.length : Int) = (ps.length : Int) :: pathL ps p := by
  rw [pathL_step (falls_app h hp) (by omega) (by simp; omega), rd_app_last, path_app h hp hp]
theorem right_app {c : LConf} (h : Right c) (p l : Int) (hp0 : 0 ≤ p) (hp : p < (c.ps.length : Int)) (hl0 : 0 ≤ l) (hl : l ≤ 1099511627776) : Right ⟨c.th, c.st, c.ga, c.le, c.re, c.ti, c.ps ++ [p], c.ls ++ [l]⟩ ↔ c.ps.length < 12 := by
  have hh := h.1
  have hpos := hh.2.2.2.2.2.2.1.1
  have hlen : c.ls.length = c.ps.length := hh.2.2.2.2.2.2.2
  constructor
  · intro H
    have := H.1.2.2.2.2.2.2.1.2
    simp at this
    omega
  · intro hlt
    refine ⟨⟨hh.1, hh.2.1, hh.2.2.1, hh.2.2.2.1, hh.2.2.2.2.1, hh.2.2.2.2.2.1, ?_, ?_⟩, ?_⟩
    · simp; omega
    · simp [hlen]
    · intro i hi
      simp at hi
      by_cases e : i = c.ps.length
      · subst e
        refine ⟨?_, ?_⟩
        · show 0 ≤ rd (c.ls ++ [l]) _ ∧ rd (c.ls ++ [l]) _ ≤ _
          rw [← hlen, rd_app_last]; exact ⟨hl0, hl⟩
        · rw [if_neg (by omega)]
          show 0 ≤ rd (c.ps ++ [p]) _ ∧ rd (c.ps ++ [p]) _ < _
          rw [rd_app_last]; exact ⟨hp0, hp⟩
      · have hk := h.2 i (by omega)
        refine ⟨?_, ?_⟩
        · show 0 ≤ rd (c.ls ++ [l]) _ ∧ rd (c.ls ++ [l]) _ ≤ _
          rw [rd_app (by omega)]; exact hk.1
        · have := hk.2
          show if i = 0 then rd (c.ps ++ [p]) _ = -1 else 0 ≤ rd (c.ps ++ [p]) _ ∧ rd (c.ps ++ [p]) _ < _
          rw [rd_app (by omega)]; exact this
theorem treeMore_f (c : LConf) (x y z : Int) (hx0 : 0 ≤ x) (hx1 : x ≤ 255) (hy0 : 0 ≤ y) (hy1 : y ≤ 4294967295) (hz0 : 0 ≤ z) (hz1 : z ≤ 255) : breadlinelaw04_TreeMore.f 60 c.th c.st c.ga c.le c.re c.ti c.ps c.ls x y z = some true := by
  simp only [breadlinelaw04_TreeMore.f, breadlinelaw04_head.f, great_f, ref_right_k c (show 20 ≤ 60 by omega), Option.bind_some, decide_eq_true_eq]
  by_cases hg : c.ps.length > 100 ∨ c.ls.length > 100
  · rw [if_pos hg]; simp only [breadlinelaw04_TreeMore.j0, if_true]
  · rw [if_neg hg]
    by_cases hr : Right c
    · rw [decide_eq_true hr]
      have ht := hr.tree
      have hpos := ht.pos
      have hle := ht.le
      have hll : c.ls.length = c.ps.length := hr.1.2.2.2.2.2.2.2
      obtain ⟨p, hp, hmp⟩ := node_of c.ps.length (by omega) x hx0 hx1
      obtain ⟨v, hv, hmv⟩ := node_of c.ps.length (by omega) z hz0 hz1
      have hra := right_app hr (p : Int) y (by omega) (by omega) hy0 (by omega)
      have hR : tree_Right.f 59 c.th c.st c.ga c.le c.re c.ti (c.ps ++ [(p : Int)]) (c.ls ++ [y]) = some (decide (c.ps.length < 12)) := by
        rw [right_k ⟨c.th, c.st, c.ga, c.le, c.re, c.ti, c.ps ++ [(p : Int)], c.ls ++ [y]⟩ (show 20 ≤ 59 by omega) (by simp; omega) (by simp; omega)]
        congr 1; rw [Bool.eq_iff_iff]; simp only [decide_eq_true_eq]; exact hra
      simp only [breadlinelaw04_TreeMore.j0, Bool.not_true, Bool.false_eq_true, if_false, hmp, hmv, w64 (x := y) (by omega) (by omega), Option.bind_some, List.nil_append, List.length_nil, hR]
      rw [if_neg (by omega), if_pos (by omega), if_pos (by omega), if_pos (by omega), if_pos (by omega), if_neg (by rw [show (decide (c.ps.length < 12) != decide ((c.ps.length : Int) < 12)) = false by rw [bne_eq_false_iff_eq, decide_eq_decide]; omega]; simp)]
      by_cases h12 : (c.ps.length : Int) = 12
      · rw [if_pos h12]
      · rw [if_neg h12, if_pos trivial]
        have hfa := falls_app ht.falls (p := (p : Int)) (by omega)
        have hP := fun v => path_f (c := ⟨c.th, c.st, c.ga, c.le, c.re, c.ti, c.ps ++ [(p : Int)], c.ls ++ [y]⟩) hfa (by simp; omega) v
        have hL := fun a => leaf_k ⟨c.th, c.st, c.ga, c.le, c.re, c.ti, c.ps ++ [(p : Int)], c.ls ++ [y]⟩ (by simp; omega) a (show 20 ≤ 59 by omega)
        dsimp only at hP hL
        have hl1 := pathL_len ht.falls (v : Int)
        have hl2 := pathL_len ht.falls (p : Int)
        simp only [hP, hL, path_f ht.falls (show c.ps.length < 1000000 by omega), Option.bind_some, path_app ht.falls (p := (p : Int)) (by omega) (v := (v : Int)) (by omega), path_app_last ht.falls (p := (p : Int)) (by omega), same_k (pathL c.ps (v : Int)) (pathL c.ps (v : Int)) (show _ < 59 by omega) (by omega), decide_true, if_true]
        rw [if_pos (by simp; omega)]
        simp only [List.singleton_append, same_k ((c.ps.length : Int) :: pathL c.ps (p : Int)) ((c.ps.length : Int) :: pathL c.ps (p : Int)) (show _ < 59 by simp; omega) (by simp; omega), Option.bind_some, decide_true, if_true]
        have e1 : leafB (c.ps ++ [(p : Int)]) (p : Int) = false := decide_eq_false (fun h => h.2.2 (by simp))
        have e2 : leafB (c.ps ++ [(p : Int)]) (c.ps.length : Int) = true := by
          refine decide_eq_true ⟨by omega, by simp; omega, fun hin => ?_⟩
          rcases List.mem_append.1 hin with hin | hin
          · obtain ⟨i, hi, hii⟩ := List.getElem_of_mem hin
            have hf := ht.falls i hi
            rw [rd_lt hi, hii] at hf
            omega
          · simp at hin; omega
        rw [e1, e2]
        simp
    · rw [decide_eq_false hr]
      simp only [breadlinelaw04_TreeMore.j0, Bool.not_false, if_true]
theorem u32_range {x : Int} (h : (Lit.int .u32 x).wf = true) : 0 ≤ x ∧ x ≤ 4294967295 := by
  have e1 : IntKind.u32.min = 0 := by kernel_rfl
  have e2 : IntKind.u32.max = 4294967295 := by kernel_rfl
  simp only [Lit.wf, Bool.and_eq_true, decide_eq_true_eq, e1, e2] at h
  exact h
theorem W_TreeMore (c : LConf) (A6 : Option Addr) (n6 d6 : Nat) (A7 : Option Addr) (n7 d7 : Nat) (x y z : Int) (W : World) (h6 : IsInts W (.slice A6 n6 d6) c.ps) (h7 : IsInts W (.slice A7 n7 d7) c.ls) (hx : (Lit.int .u8 x).wf = true) (hy : (Lit.int .u32 y).wf = true) (hz : (Lit.int .u8 z).wf = true) :
    Calls Try.prog 8 #[.agg #[.int .i64 c.th, .int .i64 c.st, .int .i64 c.ga, .int .i64 c.le, .int .i64 c.re, .int .i64 c.ti, .slice A6 n6 d6, .slice A7 n7 d7], .int .u8 x, .int .u32 y, .int .u8 z] W fun e w' => e = .returned (.bool true) ∧ Below W.heap.size W w' := by
  obtain ⟨B6, e6, he6, hc6, hr6⟩ := h6
  obtain ⟨B7, e7, he7, hc7, hr7⟩ := h7
  rw [he6, he7]
  have h1 := u8_range hx
  have h2 := u32_range hy
  have h3 := u8_range hz
  exact breadlinelaw04_TreeMore.calls 60 _ _ _ _ _ _ B6 e6 c.ps B7 e7 c.ls x y z true W hr6 hc6 hr7 hc7 (treeMore_f c x y z h1.1 h1.2 h2.1 h2.2 h3.1 h3.2)
end Go.Proofs.Ytmkgaihppohkkaa.PT
