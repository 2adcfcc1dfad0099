import Derived.Test.YteaidhoimaphlaaGreatMInv
import Derived.Test.YteaidhoimaphlaaGreatMHead
import Derived.RangeFuncNested
import Derived.RangeFuncBound
import Derived.RangeFuncCalls
import Derived.RangeFuncLeaves
import Derived.RangeFuncBox
import Derived.Shelf.Abstract
import Derived.Shelf.RegionOpen
import Derived.OwnWalkIn
import Derived.TacticsInMore
import Derived.LoopNIn
import Derived.LoopIn
import Derived.Deep.RegionHeld3
import Derived.Deep.RegionLaw
import Derived.Laws.CopyOwn
import Derived.Laws.EntriesVeiled
namespace Go.Proofs.YteaidhoimaphlaaGreat.PM
open Go.RowKit Go.Shelf Go.Proofs.YteaidhoimaphlaaGreatW.PrintWords Go.Proofs.YteaidhoimaphlaaGreatW.PrintLast Go.Proofs.YteaidhoimaphlaaGreatW.PrintMore
attribute [local go_sem] max2_int min2_int max_two min_two max_three min_three max_four min_four
set_option linter.unusedVariables false
set_option linter.unusedSimpArgs false
theorem contrib_mono {c : LConf} (hR : Right c) (t : TK) (v p : Nat) (hv : v < c.ps.length) (h0 : 0 < v) (hp : rd c.ps (v : Int) = (p : Int)) (hn : 0 ≤ t.n) (hnd : t.node < (c.ps.length : Int)) : contrib c.ps t (v : Int) ≤ contrib c.ps t (p : Int) := by
  unfold contrib
  split
  · rename_i hm
    by_cases hneg : t.node < 0
    · rw [pathL_neg hneg] at hm; cases hm
    · obtain ⟨a, ha⟩ : ∃ a : Nat, t.node = (a : Int) := ⟨t.node.toNat, by omega⟩
      rw [ha] at hm ⊢
      have hT := hR.tree
      have hs : (p : Int) ∈ pathL c.ps (v : Int) := by
        rw [hT.step hv, hp]
        have hlt := hT.falls v hv
        exact List.mem_cons_of_mem _ (hT.self (by omega))
      rw [if_pos (hT.trans (by omega) _ _ hm hs)]
      omega
  · split <;> omega
theorem sum_mono {α : Type} (f g : α → Int) : ∀ (l : List α), (∀ x ∈ l, f x ≤ g x) → (l.map f).sum ≤ (l.map g).sum
  | [], _ => by simp
  | x :: l, h => by
    have h1 := h x List.mem_cons_self
    have h2 := sum_mono f g l (fun y hy => h y (List.mem_cons_of_mem _ hy))
    simp only [List.map_cons, List.sum_cons]
    omega
theorem Inv.parent {M : ML} (h : Inv M) (v p : Nat) (hv : v < M.c.ps.length) (h0 : 0 < v) (hp : rd M.c.ps (v : Int) = (p : Int)) : rd M.use (v : Int) ≤ rd M.use (p : Int) := by
  have hlt := h.right.tree.falls v hv
  have hps := h.ok.nodes
  rw [h.uses v (by omega), h.uses p (by omega)]
  refine sum_mono _ _ _ (fun t ht => ?_)
  obtain ⟨k, hk, e⟩ := List.getElem_of_mem ht
  have hk16 : k < 16 := by have := h.l3; omega
  have ht := h.tks k hk16
  rw [tkAt_lt hk, e] at ht
  refine contrib_mono h.right t v p hv h0 hp ht.1 ?_
  by_cases hz : t.n = 0
  · have := ht.2.2.1 hz; omega
  · exact (ht.2.2.2 (by omega)).2
set_option maxHeartbeats 4000000 in
set_option maxRecDepth 100000 in
theorem W_ModelNever (c : LConf) (A6 : Option Addr) (n6 d6 : Nat) (A7 : Option Addr) (n7 d7 : Nat) (A : Option Addr) (n d : Nat) (l : List S38) (W : World) (h6 : IsInts W (.slice A6 n6 d6) c.ps) (h7 : IsInts W (.slice A7 n7 d7) c.ls) (hl : IsCalls W (.slice A n d) l) :
    Calls Tryz.prog 4 #[.agg #[.int .i64 c.th, .int .i64 c.st, .int .i64 c.ga, .int .i64 c.le, .int .i64 c.re, .int .i64 c.ti, .slice A6 n6 d6, .slice A7 n7 d7], .slice A n d] W fun e w' => e = .returned (.bool true) ∧ Below W.heap.size W w' := by
  have hus := Tryz.underlying24
  have hua := Tryz.underlying35
  have huc := Tryz.underlying38
  have H6 := Aside0.mk h6
  have H7 := Aside0.mk h7
  have HL := Aside0.mk hl
  have hn := Aside0.mk hl.len
  clear h6 h7 hl
  have hgr : Aside0 (∀ w, Below W.heap.size W w → Calls Tryz.prog 9 #[.agg #[.int .i64 c.th, .int .i64 c.st, .int .i64 c.ga, .int .i64 c.le, .int .i64 c.re, .int .i64 c.ti, .slice A6 n6 d6, .slice A7 n7 d7], .slice A n d] w fun e w' => e = .returned (.bool (great15 c l)) ∧ Below w.heap.size w w') := ⟨fun w hw => K_great15 c A6 n6 d6 A7 n7 d7 A n d l w (H6.out.below hw) (H7.out.below hw) (HL.out.below hw)⟩
  have hri : Aside0 (∀ w, Below W.heap.size W w → Calls Tryz.prog 10 #[.agg #[.int .i64 c.th, .int .i64 c.st, .int .i64 c.ga, .int .i64 c.le, .int .i64 c.re, .int .i64 c.ti, .slice A6 n6 d6, .slice A7 n7 d7]] w fun e w' => e = .returned (.bool (decide (Right c))) ∧ Below w.heap.size w w') := ⟨fun w hw => K_ref_right c _ _ w (H6.out.below hw) (H7.out.below hw)⟩
  cases hg : great15 c l with
  | true =>
    go_enter Tryz.func4, Tryz.ntmps4
    go_wp2_with (first | (go_at_call 8; (with_reducible refine (K_head20 _).mono ?_); rintro e w1 ⟨rfl, hb1⟩; have HB' : Aside0 (Below W.heap.size W w1) := ⟨below_step (by with_reducible repeat (first | exact Below.refl _ _ | exact HB.out | apply below_drew1 | apply below_alloc)) hb1⟩; have BX' : Aside0 (w1.heap[W.heap.size]? = some (.cells #[.int .i64 c.th, .int .i64 c.st, .int .i64 c.ga, .int .i64 c.le, .int .i64 c.re, .int .i64 c.ti, .slice A6 n6 d6, .slice A7 n7 d7] 24 (0, 0))) := ⟨blk_below (g := W.heap.size) (by with_reducible repeat (first | exact BX.out | exact blk_new _ _ | refine blk_alloc ?_ _ | refine blk_drew ?_)) hb1⟩; have HB := HB'; have BX := BX'; clear HB' BX' hb1; obtain ⟨q0, q1, q2, q3, q4, q5, q6, q7⟩ := box8 BX.out) | (go_at_call 9; (with_reducible refine (hgr.out _ ?_).mono ?_); exact (by with_reducible repeat (first | exact Below.refl _ _ | exact HB.out | apply below_drew1 | apply below_alloc)); rintro e w2 ⟨rfl, hb2⟩; rw [hg]; have HB' : Aside0 (Below W.heap.size W w2) := ⟨below_step (by with_reducible repeat (first | exact Below.refl _ _ | exact HB.out | apply below_drew1 | apply below_alloc)) hb2⟩; have BX' : Aside0 (w2.heap[W.heap.size]? = some (.cells #[.int .i64 c.th, .int .i64 c.st, .int .i64 c.ga, .int .i64 c.le, .int .i64 c.re, .int .i64 c.ti, .slice A6 n6 d6, .slice A7 n7 d7] 24 (0, 0))) := ⟨blk_below (g := W.heap.size) (by with_reducible repeat (first | exact BX.out | exact blk_new _ _ | refine blk_alloc ?_ _ | refine blk_drew ?_)) hb2⟩; clear q0 q1 q2 q3 q4 q5 q6 q7 HB BX; have HB := HB'; have BX := BX'; clear HB' BX' hb2; obtain ⟨q0, q1, q2, q3, q4, q5, q6, q7⟩ := box8 BX.out))
    go_ret
    exact ⟨rfl, (by with_reducible repeat (first | exact Below.refl _ _ | exact HB.out | apply below_drew1 | apply below_alloc))⟩
  | false =>
  by_cases hR : Right c
  rotate_left
  · have hr : decide (Right c) = false := decide_eq_false hR
    clear hR
    go_enter Tryz.func4, Tryz.ntmps4
    go_wp2_with (first | (go_at_call 8; (with_reducible refine (K_head20 _).mono ?_); rintro e w1 ⟨rfl, hb1⟩; have HB' : Aside0 (Below W.heap.size W w1) := ⟨below_step (by with_reducible repeat (first | exact Below.refl _ _ | exact HB.out | apply below_drew1 | apply below_alloc)) hb1⟩; have BX' : Aside0 (w1.heap[W.heap.size]? = some (.cells #[.int .i64 c.th, .int .i64 c.st, .int .i64 c.ga, .int .i64 c.le, .int .i64 c.re, .int .i64 c.ti, .slice A6 n6 d6, .slice A7 n7 d7] 24 (0, 0))) := ⟨blk_below (g := W.heap.size) (by with_reducible repeat (first | exact BX.out | exact blk_new _ _ | refine blk_alloc ?_ _ | refine blk_drew ?_)) hb1⟩; have HB := HB'; have BX := BX'; clear HB' BX' hb1; obtain ⟨q0, q1, q2, q3, q4, q5, q6, q7⟩ := box8 BX.out) | (go_at_call 9; (with_reducible refine (hgr.out _ ?_).mono ?_); exact (by with_reducible repeat (first | exact Below.refl _ _ | exact HB.out | apply below_drew1 | apply below_alloc)); rintro e w2 ⟨rfl, hb2⟩; rw [hg]; have HB' : Aside0 (Below W.heap.size W w2) := ⟨below_step (by with_reducible repeat (first | exact Below.refl _ _ | exact HB.out | apply below_drew1 | apply below_alloc)) hb2⟩; have BX' : Aside0 (w2.heap[W.heap.size]? = some (.cells #[.int .i64 c.th, .int .i64 c.st, .int .i64 c.ga, .int .i64 c.le, .int .i64 c.re, .int .i64 c.ti, .slice A6 n6 d6, .slice A7 n7 d7] 24 (0, 0))) := ⟨blk_below (g := W.heap.size) (by with_reducible repeat (first | exact BX.out | exact blk_new _ _ | refine blk_alloc ?_ _ | refine blk_drew ?_)) hb2⟩; clear q0 q1 q2 q3 q4 q5 q6 q7 HB BX; have HB := HB'; have BX := BX'; clear HB' BX' hb2; obtain ⟨q0, q1, q2, q3, q4, q5, q6, q7⟩ := box8 BX.out) | (go_at_call 10; (with_reducible refine (hri.out _ ?_).mono ?_); exact (by with_reducible repeat (first | exact Below.refl _ _ | exact HB.out | apply below_drew1 | apply below_alloc)); rintro e w3 ⟨rfl, hb3⟩; rw [hr]; have HB' : Aside0 (Below W.heap.size W w3) := ⟨below_step (by with_reducible repeat (first | exact Below.refl _ _ | exact HB.out | apply below_drew1 | apply below_alloc)) hb3⟩; have BX' : Aside0 (w3.heap[W.heap.size]? = some (.cells #[.int .i64 c.th, .int .i64 c.st, .int .i64 c.ga, .int .i64 c.le, .int .i64 c.re, .int .i64 c.ti, .slice A6 n6 d6, .slice A7 n7 d7] 24 (0, 0))) := ⟨blk_below (g := W.heap.size) (by with_reducible repeat (first | exact BX.out | exact blk_new _ _ | refine blk_alloc ?_ _ | refine blk_drew ?_)) hb3⟩; clear q0 q1 q2 q3 q4 q5 q6 q7 HB BX; have HB := HB'; have BX := BX'; clear HB' BX' hb3; obtain ⟨q0, q1, q2, q3, q4, q5, q6, q7⟩ := box8 BX.out))
    go_ret
    exact ⟨rfl, (by with_reducible repeat (first | exact Below.refl _ _ | exact HB.out | apply below_drew1 | apply below_alloc))⟩
  have hr : decide (Right c) = true := decide_eq_true hR
  have HR := Aside0.mk hR
  clear hR
  go_enter Tryz.func4, Tryz.ntmps4
  go_wp2_with (first | (go_at_call 8; (with_reducible refine (K_head20 _).mono ?_); rintro e w1 ⟨rfl, hb1⟩; have HB' : Aside0 (Below W.heap.size W w1) := ⟨below_step (by with_reducible repeat (first | exact Below.refl _ _ | exact HB.out | apply below_drew1 | apply below_alloc)) hb1⟩; have BX' : Aside0 (w1.heap[W.heap.size]? = some (.cells #[.int .i64 c.th, .int .i64 c.st, .int .i64 c.ga, .int .i64 c.le, .int .i64 c.re, .int .i64 c.ti, .slice A6 n6 d6, .slice A7 n7 d7] 24 (0, 0))) := ⟨blk_below (g := W.heap.size) (by with_reducible repeat (first | exact BX.out | exact blk_new _ _ | refine blk_alloc ?_ _ | refine blk_drew ?_)) hb1⟩; have HB := HB'; have BX := BX'; clear HB' BX' hb1; obtain ⟨q0, q1, q2, q3, q4, q5, q6, q7⟩ := box8 BX.out) | (go_at_call 9; (with_reducible refine (hgr.out _ ?_).mono ?_); exact (by with_reducible repeat (first | exact Below.refl _ _ | exact HB.out | apply below_drew1 | apply below_alloc)); rintro e w2 ⟨rfl, hb2⟩; rw [hg]; have HB' : Aside0 (Below W.heap.size W w2) := ⟨below_step (by with_reducible repeat (first | exact Below.refl _ _ | exact HB.out | apply below_drew1 | apply below_alloc)) hb2⟩; have BX' : Aside0 (w2.heap[W.heap.size]? = some (.cells #[.int .i64 c.th, .int .i64 c.st, .int .i64 c.ga, .int .i64 c.le, .int .i64 c.re, .int .i64 c.ti, .slice A6 n6 d6, .slice A7 n7 d7] 24 (0, 0))) := ⟨blk_below (g := W.heap.size) (by with_reducible repeat (first | exact BX.out | exact blk_new _ _ | refine blk_alloc ?_ _ | refine blk_drew ?_)) hb2⟩; clear q0 q1 q2 q3 q4 q5 q6 q7 HB BX; have HB := HB'; have BX := BX'; clear HB' BX' hb2; obtain ⟨q0, q1, q2, q3, q4, q5, q6, q7⟩ := box8 BX.out) | (go_at_call 10; (with_reducible refine (hri.out _ ?_).mono ?_); exact (by with_reducible repeat (first | exact Below.refl _ _ | exact HB.out | apply below_drew1 | apply below_alloc)); rintro e w3 ⟨rfl, hb3⟩; rw [hr]; have HB' : Aside0 (Below W.heap.size W w3) := ⟨below_step (by with_reducible repeat (first | exact Below.refl _ _ | exact HB.out | apply below_drew1 | apply below_alloc)) hb3⟩; have BX' : Aside0 (w3.heap[W.heap.size]? = some (.cells #[.int .i64 c.th, .int .i64 c.st, .int .i64 c.ga, .int .i64 c.le, .int .i64 c.re, .int .i64 c.ti, .slice A6 n6 d6, .slice A7 n7 d7] 24 (0, 0))) := ⟨blk_below (g := W.heap.size) (by with_reducible repeat (first | exact BX.out | exact blk_new _ _ | refine blk_alloc ?_ _ | refine blk_drew ?_)) hb3⟩; clear q0 q1 q2 q3 q4 q5 q6 q7 HB BX; have HB := HB'; have BX := BX'; clear HB' BX' hb3; obtain ⟨q0, q1, q2, q3, q4, q5, q6, q7⟩ := box8 BX.out) | (go_at_call 11; (with_reducible refine (K_New _ c A6 n6 d6 A7 n7 d7 (H6.out.below ?_) (H7.out.below ?_) ?_).mono ?_); exact (by with_reducible repeat (first | exact Below.refl _ _ | exact HB.out | apply below_drew1 | apply below_alloc)); exact (by with_reducible repeat (first | exact Below.refl _ _ | exact HB.out | apply below_drew1 | apply below_alloc)); (have h1 := HR.out.1.2.2.2.2.2.2.1.2; have h2 : c.ls.length = c.ps.length := HR.out.1.2.2.2.2.2.2.2; omega); rintro e w4 ⟨b, rfl, hbs, hm, hb4⟩; have HS : Aside0 (MS W w4 b (runC c l 0)) := ⟨MS.new (by with_reducible repeat (first | exact Below.refl _ _ | exact HB.out | apply below_drew1 | apply below_alloc)) hbs hm hb4⟩; clear hm; have hbn : Aside0 (b ≠ W.heap.size) := ⟨by have := hbs; have := blk_lt BX.out; omega⟩; have HB' : Aside0 (Below W.heap.size W w4) := ⟨below_step (by with_reducible repeat (first | exact Below.refl _ _ | exact HB.out | apply below_drew1 | apply below_alloc)) hb4⟩; have BX' : Aside0 (w4.heap[W.heap.size]? = some (.cells #[.int .i64 c.th, .int .i64 c.st, .int .i64 c.ga, .int .i64 c.le, .int .i64 c.re, .int .i64 c.ti, .slice A6 n6 d6, .slice A7 n7 d7] 24 (0, 0))) := ⟨blk_below (g := W.heap.size) (by with_reducible repeat (first | exact BX.out | exact blk_new _ _ | refine blk_alloc ?_ _ | refine blk_drew ?_)) hb4⟩; clear q0 q1 q2 q3 q4 q5 q6 q7 HB BX; have HB := HB'; have BX := BX'; clear HB' BX' hb4; obtain ⟨q0, q1, q2, q3, q4, q5, q6, q7⟩ := box8 BX.out; clear q0 q1 q2 q3 q4 q5 q6 q7))

  go_loopg [7] l.length (fun gg s7 wr => ∃ kk : Nat, kk ≤ l.length ∧ l.length - kk ≤ gg ∧ s7 = .int .i64 kk ∧ Aside0 (Below W.heap.size W wr) ∧ Aside0 (wr.heap[W.heap.size]? = some (.cells #[.int .i64 c.th, .int .i64 c.st, .int .i64 c.ga, .int .i64 c.le, .int .i64 c.re, .int .i64 c.ti, .slice A6 n6 d6, .slice A7 n7 d7] 24 (0, 0))) ∧ Aside0 (MS W wr b (runC c l kk)))
  case atStart => exact ⟨0, Nat.zero_le _, by omega, rfl, HB, BX, HS⟩
  case round =>
    obtain ⟨kk, hkk, hg', rfl, BW, BY, HM⟩ := hrel
    clear HB BX HS
    have hin := Aside0.mk (runC_inv HR.out l kk hkk)
    by_cases hlt : kk < l.length
    · have hltb : decide ((kk : Int) < (n : Int)) = true := decide_eq_true (by have := hn.out; omega)
      have hk0 : (0 : Int) ≤ (kk : Int) := by omega
      have hkn : (kk : Int) < (n : Int) := by have := hn.out; omega
      obtain ⟨ad, rfl, y0, y1, y2, hy⟩ := (HL.out.below BW.out).at kk hlt
      have HY := Aside0.mk hy
      have hin1 := Aside0.mk (runC_inv HR.out l (kk + 1) hlt)
      have hst := Aside0.mk (runC_succ c l kk hlt)
      have hlen : (n : Int) ≤ 40 := by have := hn.out; unfold great15 at hg; simp at hg; omega
      clear hy
      go_wp2_with (go_at_call 13; (with_reducible refine (K_DoS W _ b (runC c l kk) ?_ ?_ _ _ _ ?_).mono ?_); exact HM.out.below (by with_reducible repeat (first | exact Below.refl _ _ | apply below_drew1 | apply below_alloc)); exact hin.out.1.ok; exact HY.out; rintro e w5 ⟨rfl, hk5, hs5⟩; have HM5 : Aside0 (MS W w5 b (runC c l (kk + 1))) := ⟨by rw [hst.out]; exact hs5⟩; have BW5 : Aside0 (Below W.heap.size W w5) := ⟨hs5.2.1⟩; have BY5 : Aside0 (w5.heap[W.heap.size]? = some (.cells #[.int .i64 c.th, .int .i64 c.st, .int .i64 c.ga, .int .i64 c.le, .int .i64 c.re, .int .i64 c.ti, .slice A6 n6 d6, .slice A7 n7 d7] 24 (0, 0))) := ⟨hk5.blk (by with_reducible repeat (first | exact BY.out | refine blk_alloc ?_ _ | refine blk_drew ?_)) (Ne.symm hbn.out)⟩; clear hk5 hs5 y0 y1 y2)
      go_loopg [8] c.ps.length (fun gg s8 wv => ∃ v : Nat, v ≤ c.ps.length ∧ c.ps.length - v ≤ gg ∧ s8 = .int .i64 v ∧ Aside0 (Below W.heap.size W wv) ∧ Aside0 (wv.heap[W.heap.size]? = some (.cells #[.int .i64 c.th, .int .i64 c.st, .int .i64 c.ga, .int .i64 c.le, .int .i64 c.re, .int .i64 c.ti, .slice A6 n6 d6, .slice A7 n7 d7] 24 (0, 0))) ∧ Aside0 (MS W wv b (runC c l (kk + 1))))
      case atStart => exact ⟨0, Nat.zero_le _, by omega, rfl, BW5, BY5, HM5⟩
      case round =>
        obtain ⟨v, hv, hgv, rfl, BV, BZ, HN⟩ := hrel
        clear HM5 BW5 BY5
        have hlen6 := Aside0.mk H6.out.len
        obtain ⟨q0, q1, q2, q3, q4, q5, q6, q7⟩ := box8 BZ.out
        clear q0 q1 q2 q3 q4 q5 q7
        by_cases hvl : v < c.ps.length
        · have hv6 : (v : Int) < (n6 : Int) := by have := hlen6.out; omega
          have hps : c.ps.length ≤ 12 := HR.out.1.2.2.2.2.2.2.1.2
          have hv0 : (0 : Int) ≤ (v : Int) := by omega
          have hM := runC_inv HR.out l (kk + 1) hlt
          have hb1 := hM.1.bound v (by omega)
          have hb2 := hM.1.lims v (by rw [hM.2]; exact hvl)
          obtain ⟨M, hMe⟩ : ∃ M, runC c l (kk + 1) = M := ⟨_, rfl⟩
          rw [hMe] at HN hM hb1 hb2
          have HME := Aside0.mk hMe
          clear hMe
          have d1 : decide (rd M.use (v : Int) < 0) = false := decide_eq_false (by omega)
          have d2 : decide (rd M.lim (v : Int) < rd M.use (v : Int)) = false := decide_eq_false (by omega)
          have d3 : decide (1099511627776 < rd M.lim (v : Int)) = false := decide_eq_false (by omega)
          have KU : Aside0 (∀ (u : Nat) (w : World), MS W w b M → u < 12 → Calls Tryz.prog 17 #[.pointer (some ⟨b, 0, none⟩), .int .i64 u] w fun e w' => e = .returned (.int .i64 (rd M.use (u : Int))) ∧ w' = w) := ⟨fun u w hw hu => K_UsedS W _ b M hw u hu⟩
          have KL : Aside0 (∀ (u : Nat) (w : World), MS W w b M → u < 12 → Calls Tryz.prog 15 #[.pointer (some ⟨b, 0, none⟩), .int .i64 u] w fun e w' => e = .returned (.int .i64 (rd M.lim (u : Int))) ∧ w' = w) := ⟨fun u w hw hu => K_LimitS W _ b M hw u hu⟩
          clear hb1 hb2 hM
          by_cases hz : v = 0
          · have hz0 : decide (0 < (v : Int)) = false := decide_eq_false (by omega)
            have hz1 : decide (0 < v) = false := decide_eq_false (by omega)
            clear hz
            go_wp2_with (fail)
            go_quiet ((first | (go_at_call 17; exact Calls.quiet_of_same (KU.out v _ (HN.out.below (pw_below_drewN (Below.refl _ _) _)) (by omega))) | (go_at_call 15; exact Calls.quiet_of_same (KL.out v _ (HN.out.below (pw_below_drewN (Below.refl _ _) _)) (by omega)))))
            go_wp2_with (fail)
            go_roundg (c.ps.length - (v + 1))
            case measure => omega
            case rel => exact ⟨v + 1, by omega, by omega, by go_num, ⟨by have hB := BV.out; with_reducible repeat (first | exact hB | apply pw_below_drewN | apply below_drew1 | apply below_alloc)⟩, ⟨by have hB := BZ.out; with_reducible repeat (first | exact hB | refine blk_drewN ?_ _ | refine blk_alloc ?_ _ | refine blk_drew ?_)⟩, ⟨by rw [HME.out]; exact HN.out.below (by with_reducible repeat (first | exact Below.refl _ _ | apply pw_below_drewN | apply below_drew1 | apply below_alloc))⟩⟩
          · have hz0 : decide (0 < (v : Int)) = true := decide_eq_true (by omega)
            have hz1 : decide (0 < v) = true := decide_eq_true (by omega)
            have hfl := HR.out.tree.falls v hvl
            have hno : NodeOk c v := HR.out.2 v hvl
            obtain ⟨p, hp⟩ : ∃ p : Nat, rd c.ps (v : Int) = (p : Int) := ⟨(rd c.ps (v : Int)).toNat, by have := hno.2; rw [if_neg hz] at this; omega⟩
            have d4 : decide (rd M.use (p : Int) < rd M.use (v : Int)) = false := decide_eq_false (by have hi := runC_inv HR.out l (kk + 1) hlt; rw [HME.out] at hi; have := hi.1.parent v p (by rw [hi.2]; exact hvl) (by omega) (by rw [hi.2]; exact hp); omega)
            have hp12 : Aside0 (p < 12) := ⟨by omega⟩
            obtain ⟨A', c', e', hc', hC⟩ := H6.out.below BV.out
            cases e'
            obtain ⟨a6, rfl, hcell⟩ := Kd.at_int hC (v : Int) (by omega) (by omega)
            rw [Int.toNat_natCast, hp] at hcell
            clear hz hfl hno hp hC hc'
            go_wp2_with (fail)
            go_quiet ((first | (go_at_call 17; exact Calls.quiet_of_same (KU.out _ _ (HN.out.below (pw_below_drewN (Below.refl _ _) _)) (by first | omega | exact hp12.out))) | (go_at_call 15; exact Calls.quiet_of_same (KL.out v _ (HN.out.below (pw_below_drewN (Below.refl _ _) _)) (by first | omega | exact hp12.out)))))
            go_wp2_with (fail)
            go_roundg (c.ps.length - (v + 1))
            case measure => omega
            case rel => exact ⟨v + 1, by omega, by omega, by go_num, ⟨by have hB := BV.out; with_reducible repeat (first | exact hB | apply pw_below_drewN | apply below_drew1 | apply below_alloc)⟩, ⟨by have hB := BZ.out; with_reducible repeat (first | exact hB | refine blk_drewN ?_ _ | refine blk_alloc ?_ _ | refine blk_drew ?_)⟩, ⟨by rw [HME.out]; exact HN.out.below (by with_reducible repeat (first | exact Below.refl _ _ | apply pw_below_drewN | apply below_drew1 | apply below_alloc))⟩⟩
        · have hv6 : (n6 : Int) ≤ (v : Int) := by have := hlen6.out; omega
          go_wp2_with (fail)
          go_roundg (l.length - (kk + 1))
          case measure => omega
          case rel => exact ⟨kk + 1, by omega, by omega, by go_num, ⟨by have hB := BV.out; with_reducible repeat (first | exact hB | apply below_drew1 | apply below_alloc)⟩, ⟨by have hB := BZ.out; with_reducible repeat (first | exact hB | refine blk_alloc ?_ _ | refine blk_drew ?_)⟩, ⟨HN.out.below (by with_reducible repeat (first | exact Below.refl _ _ | apply below_drew1 | apply below_alloc))⟩⟩
    · have hltb : (n : Int) ≤ (kk : Int) := by have := hn.out; omega
      go_wp2_with (fail)
      go_ret
      exact ⟨rfl, (by have hB := BW.out; with_reducible repeat (first | exact hB | apply below_drew1 | apply below_alloc))⟩
end Go.Proofs.YteaidhoimaphlaaGreat.PM
