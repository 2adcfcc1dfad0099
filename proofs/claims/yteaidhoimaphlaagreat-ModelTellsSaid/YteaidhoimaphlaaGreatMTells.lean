import Derived.Test.YteaidhoimaphlaaGreatMRefE
import Derived.Test.YteaidhoimaphlaaGreatMHead
import Derived.RangeFuncNested
import Derived.RangeFuncBound
import Derived.RangeFuncCalls
import Derived.RangeFuncLeaves
import Derived.RangeFuncBox
import Derived.Shelf.Abstract
import Derived.Shelf.RegionOpen
import Derived.OwnWalkIn
import Derived.TacticsInMore
import Derived.LoopNIn
import Derived.LoopIn
import Derived.Deep.RegionHeld3
import Derived.Deep.RegionLaw
import Derived.Laws.CopyOwn
import Derived.Laws.EntriesVeiled
namespace Go.Proofs.YteaidhoimaphlaaGreat.PM
open Go.RowKit Go.Shelf Go.Proofs.YteaidhoimaphlaaGreatW.PrintWords Go.Proofs.YteaidhoimaphlaaGreatW.PrintLast Go.Proofs.YteaidhoimaphlaaGreatW.PrintMore
attribute [local go_sem] max2_int min2_int max_two min_two max_three min_three max_four min_four
set_option linter.unusedVariables false
set_option linter.unusedSimpArgs false
/-- block q of w holds the reference's model; what the program's model does (block b) is nothing to it. -/
def RS (w : World) (b q : Nat) (M : ML) : Prop := ∃ B, b < B ∧ RAt B (fun _ => False) w q M
theorem RS.below {w w' : World} {b q : Nat} {M : ML} (h : RS w b q M) (hb : Below w.heap.size w w') : RS w' b q M := by
  obtain ⟨B, h1, h2⟩ := h
  exact ⟨B, h1, h2.below hb⟩
theorem RS.kb {w w' : World} {b q : Nat} {M : ML} (h : RS w b q M) (hk : KB w w' b) : RS w' b q M := by
  obtain ⟨B, h1, h2⟩ := h
  exact ⟨B, h1, h2.kb hk h1⟩
theorem RS.lt {w : World} {b q : Nat} {M : ML} (h : RS w b q M) : b < q ∧ q < w.heap.size := by
  obtain ⟨B, h1, h2⟩ := h
  exact ⟨Nat.lt_of_lt_of_le h1 h2.1, h2.lt⟩
theorem K_rDoS (w : World) (b q : Nat) (M : ML) (h : RS w b q M) (hi : Inv M) (kk v n : Int) (hn : n ≤ 9223372036854775807) : Calls Tryz.prog 14 #[.pointer (some ⟨q, 0, none⟩), .agg #[.int .i64 kk, .int .i64 v, .int .i64 n]] w fun e w' => e = .returned (ansV (doM M kk v n).2) ∧ KB w w' q ∧ RS w' b q (doM M kk v n).1 := by
  obtain ⟨B, h1, h2⟩ := h
  exact (K_rDo B _ w q M h2 (fun _ hx => hx.elim) hi kk v n hn).mono fun e w' ⟨he, hk, hm⟩ => ⟨he, hk, ⟨B, h1, hm⟩⟩
theorem K_rLimitS (w : World) (b q : Nat) (M : ML) (h : RS w b q M) (hi : Inv M) (v : Nat) (hv : v < M.c.ps.length) : Calls Tryz.prog 16 #[.pointer (some ⟨q, 0, none⟩), .int .i64 v] w fun e w' => e = .returned (.int .i64 (rd M.lim (v : Int))) ∧ w' = w := by
  obtain ⟨B, h1, h2⟩ := h
  exact K_rLimit B _ w q M h2 v hv (by have := hi.l1; have := hi.ok.nodes; omega)
theorem K_rUsedS (w : World) (b q : Nat) (M : ML) (h : RS w b q M) (hi : Inv M) (v : Nat) (hv : v < M.c.ps.length) : Calls Tryz.prog 18 #[.pointer (some ⟨q, 0, none⟩), .int .i64 v] w fun e w' => e = .returned (.int .i64 (rd M.use (v : Int))) ∧ w' = w := by
  obtain ⟨B, h1, h2⟩ := h
  exact K_rUsed B _ w q M h2 v hv (by have := hi.l2; have := hi.ok.nodes; omega)
theorem MS.kb {W w w' : World} {b q : Nat} {M : ML} (h : MS W w b M) (hk : KB w w' q) (hlt : b < q) : MS W w' b M := by
  obtain ⟨⟨W0, hm, hw⟩, h2, h3⟩ := h
  exact ⟨⟨W0, hm.keep (hk.same b hm.b_lt (Nat.ne_of_lt hlt)), hk.below hw (by have := hm.b_ge; omega)⟩, hk.below h2 (by omega), h3⟩
set_option maxHeartbeats 4000000 in
set_option maxRecDepth 100000 in
theorem W_ModelTells (c : LConf) (A6 : Option Addr) (n6 d6 : Nat) (A7 : Option Addr) (n7 d7 : Nat) (A : Option Addr) (n d : Nat) (l : List S38) (W : World) (h6 : IsInts W (.slice A6 n6 d6) c.ps) (h7 : IsInts W (.slice A7 n7 d7) c.ls) (hl : IsCalls W (.slice A n d) l) :
    Calls Tryz.prog 3 #[.agg #[.int .i64 c.th, .int .i64 c.st, .int .i64 c.ga, .int .i64 c.le, .int .i64 c.re, .int .i64 c.ti, .slice A6 n6 d6, .slice A7 n7 d7], .slice A n d] W fun e w' => e = .returned (.bool true) ∧ Below W.heap.size W w' := by
  have hus := Tryz.underlying24
  have hua := Tryz.underlying35
  have huc := Tryz.underlying38
  have H6 := Aside0.mk h6
  have H7 := Aside0.mk h7
  have HL := Aside0.mk hl
  have hn := Aside0.mk hl.len
  clear h6 h7 hl
  have hgr : Aside0 (∀ w, Below W.heap.size W w → Calls Tryz.prog 9 #[.agg #[.int .i64 c.th, .int .i64 c.st, .int .i64 c.ga, .int .i64 c.le, .int .i64 c.re, .int .i64 c.ti, .slice A6 n6 d6, .slice A7 n7 d7], .slice A n d] w fun e w' => e = .returned (.bool (great15 c l)) ∧ Below w.heap.size w w') := ⟨fun w hw => K_great15 c A6 n6 d6 A7 n7 d7 A n d l w (H6.out.below hw) (H7.out.below hw) (HL.out.below hw)⟩
  have hri : Aside0 (∀ w, Below W.heap.size W w → Calls Tryz.prog 10 #[.agg #[.int .i64 c.th, .int .i64 c.st, .int .i64 c.ga, .int .i64 c.le, .int .i64 c.re, .int .i64 c.ti, .slice A6 n6 d6, .slice A7 n7 d7]] w fun e w' => e = .returned (.bool (decide (Right c))) ∧ Below w.heap.size w w') := ⟨fun w hw => K_ref_right c _ _ w (H6.out.below hw) (H7.out.below hw)⟩
  cases hg : great15 c l with
  | true =>
    go_enter Tryz.func3, Tryz.ntmps3
    go_wp2_with (first | (go_at_call 8; (with_reducible refine (K_head20 _).mono ?_); rintro e w1 ⟨rfl, hb1⟩; have HB' : Aside0 (Below W.heap.size W w1) := ⟨below_step (by with_reducible repeat (first | exact Below.refl _ _ | exact HB.out | apply below_drew1 | apply below_alloc)) hb1⟩; have BX' : Aside0 (w1.heap[W.heap.size]? = some (.cells #[.int .i64 c.th, .int .i64 c.st, .int .i64 c.ga, .int .i64 c.le, .int .i64 c.re, .int .i64 c.ti, .slice A6 n6 d6, .slice A7 n7 d7] 24 (0, 0))) := ⟨blk_below (g := W.heap.size) (by with_reducible repeat (first | exact BX.out | exact blk_new _ _ | refine blk_alloc ?_ _ | refine blk_drew ?_)) hb1⟩; have HB := HB'; have BX := BX'; clear HB' BX' hb1; obtain ⟨q0, q1, q2, q3, q4, q5, q6, q7⟩ := box8 BX.out) | (go_at_call 9; (with_reducible refine (hgr.out _ ?_).mono ?_); exact (by with_reducible repeat (first | exact Below.refl _ _ | exact HB.out | apply below_drew1 | apply below_alloc)); rintro e w2 ⟨rfl, hb2⟩; rw [hg]; have HB' : Aside0 (Below W.heap.size W w2) := ⟨below_step (by with_reducible repeat (first | exact Below.refl _ _ | exact HB.out | apply below_drew1 | apply below_alloc)) hb2⟩; have BX' : Aside0 (w2.heap[W.heap.size]? = some (.cells #[.int .i64 c.th, .int .i64 c.st, .int .i64 c.ga, .int .i64 c.le, .int .i64 c.re, .int .i64 c.ti, .slice A6 n6 d6, .slice A7 n7 d7] 24 (0, 0))) := ⟨blk_below (g := W.heap.size) (by with_reducible repeat (first | exact BX.out | exact blk_new _ _ | refine blk_alloc ?_ _ | refine blk_drew ?_)) hb2⟩; clear q0 q1 q2 q3 q4 q5 q6 q7 HB BX; have HB := HB'; have BX := BX'; clear HB' BX' hb2; obtain ⟨q0, q1, q2, q3, q4, q5, q6, q7⟩ := box8 BX.out))
    go_ret
    exact ⟨rfl, (by with_reducible repeat (first | exact Below.refl _ _ | exact HB.out | apply below_drew1 | apply below_alloc))⟩
  | false =>
  by_cases hR : Right c
  rotate_left
  · have hr : decide (Right c) = false := decide_eq_false hR
    clear hR
    go_enter Tryz.func3, Tryz.ntmps3
    go_wp2_with (first | (go_at_call 8; (with_reducible refine (K_head20 _).mono ?_); rintro e w1 ⟨rfl, hb1⟩; have HB' : Aside0 (Below W.heap.size W w1) := ⟨below_step (by with_reducible repeat (first | exact Below.refl _ _ | exact HB.out | apply below_drew1 | apply below_alloc)) hb1⟩; have BX' : Aside0 (w1.heap[W.heap.size]? = some (.cells #[.int .i64 c.th, .int .i64 c.st, .int .i64 c.ga, .int .i64 c.le, .int .i64 c.re, .int .i64 c.ti, .slice A6 n6 d6, .slice A7 n7 d7] 24 (0, 0))) := ⟨blk_below (g := W.heap.size) (by with_reducible repeat (first | exact BX.out | exact blk_new _ _ | refine blk_alloc ?_ _ | refine blk_drew ?_)) hb1⟩; have HB := HB'; have BX := BX'; clear HB' BX' hb1; obtain ⟨q0, q1, q2, q3, q4, q5, q6, q7⟩ := box8 BX.out) | (go_at_call 9; (with_reducible refine (hgr.out _ ?_).mono ?_); exact (by with_reducible repeat (first | exact Below.refl _ _ | exact HB.out | apply below_drew1 | apply below_alloc)); rintro e w2 ⟨rfl, hb2⟩; rw [hg]; have HB' : Aside0 (Below W.heap.size W w2) := ⟨below_step (by with_reducible repeat (first | exact Below.refl _ _ | exact HB.out | apply below_drew1 | apply below_alloc)) hb2⟩; have BX' : Aside0 (w2.heap[W.heap.size]? = some (.cells #[.int .i64 c.th, .int .i64 c.st, .int .i64 c.ga, .int .i64 c.le, .int .i64 c.re, .int .i64 c.ti, .slice A6 n6 d6, .slice A7 n7 d7] 24 (0, 0))) := ⟨blk_below (g := W.heap.size) (by with_reducible repeat (first | exact BX.out | exact blk_new _ _ | refine blk_alloc ?_ _ | refine blk_drew ?_)) hb2⟩; clear q0 q1 q2 q3 q4 q5 q6 q7 HB BX; have HB := HB'; have BX := BX'; clear HB' BX' hb2; obtain ⟨q0, q1, q2, q3, q4, q5, q6, q7⟩ := box8 BX.out) | (go_at_call 10; (with_reducible refine (hri.out _ ?_).mono ?_); exact (by with_reducible repeat (first | exact Below.refl _ _ | exact HB.out | apply below_drew1 | apply below_alloc)); rintro e w3 ⟨rfl, hb3⟩; rw [hr]; have HB' : Aside0 (Below W.heap.size W w3) := ⟨below_step (by with_reducible repeat (first | exact Below.refl _ _ | exact HB.out | apply below_drew1 | apply below_alloc)) hb3⟩; have BX' : Aside0 (w3.heap[W.heap.size]? = some (.cells #[.int .i64 c.th, .int .i64 c.st, .int .i64 c.ga, .int .i64 c.le, .int .i64 c.re, .int .i64 c.ti, .slice A6 n6 d6, .slice A7 n7 d7] 24 (0, 0))) := ⟨blk_below (g := W.heap.size) (by with_reducible repeat (first | exact BX.out | exact blk_new _ _ | refine blk_alloc ?_ _ | refine blk_drew ?_)) hb3⟩; clear q0 q1 q2 q3 q4 q5 q6 q7 HB BX; have HB := HB'; have BX := BX'; clear HB' BX' hb3; obtain ⟨q0, q1, q2, q3, q4, q5, q6, q7⟩ := box8 BX.out))
    go_ret
    exact ⟨rfl, (by with_reducible repeat (first | exact Below.refl _ _ | exact HB.out | apply below_drew1 | apply below_alloc))⟩
  have hr : decide (Right c) = true := decide_eq_true hR
  have HR := Aside0.mk hR
  clear hR
  go_enter Tryz.func3, Tryz.ntmps3
  go_wp2_with (first | (go_at_call 12; (with_reducible refine (K_rNew _ c A6 n6 d6 A7 n7 d7 (H6.out.below ?_) (H7.out.below ?_) HR.out).mono ?_); exact (by with_reducible repeat (first | exact Below.refl _ _ | exact HB.out | apply below_drew1 | apply below_alloc)); exact (by with_reducible repeat (first | exact Below.refl _ _ | exact HB.out | apply below_drew1 | apply below_alloc)); rintro e w5 ⟨q, rfl, hqs, hra, hb5⟩; have HRS : Aside0 (RS w5 b q (runC c l 0)) := ⟨⟨_, HS.out.blt, hra⟩⟩; have HS' : Aside0 (MS W w5 b (runC c l 0)) := ⟨HS.out.below hb5⟩; clear HS hra; have HS := HS'; clear HS'; have HB' : Aside0 (Below W.heap.size W w5) := ⟨below_step (by with_reducible repeat (first | exact Below.refl _ _ | exact HB.out | apply below_drew1 | apply below_alloc)) hb5⟩; have BX' : Aside0 (w5.heap[W.heap.size]? = some (.cells #[.int .i64 c.th, .int .i64 c.st, .int .i64 c.ga, .int .i64 c.le, .int .i64 c.re, .int .i64 c.ti, .slice A6 n6 d6, .slice A7 n7 d7] 24 (0, 0))) := ⟨blk_below (g := W.heap.size) (by with_reducible repeat (first | exact BX.out | exact blk_new _ _ | refine blk_alloc ?_ _ | refine blk_drew ?_)) hb5⟩; clear q0 q1 q2 q3 q4 q5 q6 q7 HB BX; have HB := HB'; have BX := BX'; clear HB' BX' hb5; obtain ⟨q0, q1, q2, q3, q4, q5, q6, q7⟩ := box8 BX.out; clear q0 q1 q2 q3 q4 q5 q6 q7) | (go_at_call 8; (with_reducible refine (K_head20 _).mono ?_); rintro e w1 ⟨rfl, hb1⟩; have HB' : Aside0 (Below W.heap.size W w1) := ⟨below_step (by with_reducible repeat (first | exact Below.refl _ _ | exact HB.out | apply below_drew1 | apply below_alloc)) hb1⟩; have BX' : Aside0 (w1.heap[W.heap.size]? = some (.cells #[.int .i64 c.th, .int .i64 c.st, .int .i64 c.ga, .int .i64 c.le, .int .i64 c.re, .int .i64 c.ti, .slice A6 n6 d6, .slice A7 n7 d7] 24 (0, 0))) := ⟨blk_below (g := W.heap.size) (by with_reducible repeat (first | exact BX.out | exact blk_new _ _ | refine blk_alloc ?_ _ | refine blk_drew ?_)) hb1⟩; have HB := HB'; have BX := BX'; clear HB' BX' hb1; obtain ⟨q0, q1, q2, q3, q4, q5, q6, q7⟩ := box8 BX.out) | (go_at_call 9; (with_reducible refine (hgr.out _ ?_).mono ?_); exact (by with_reducible repeat (first | exact Below.refl _ _ | exact HB.out | apply below_drew1 | apply below_alloc)); rintro e w2 ⟨rfl, hb2⟩; rw [hg]; have HB' : Aside0 (Below W.heap.size W w2) := ⟨below_step (by with_reducible repeat (first | exact Below.refl _ _ | exact HB.out | apply below_drew1 | apply below_alloc)) hb2⟩; have BX' : Aside0 (w2.heap[W.heap.size]? = some (.cells #[.int .i64 c.th, .int .i64 c.st, .int .i64 c.ga, .int .i64 c.le, .int .i64 c.re, .int .i64 c.ti, .slice A6 n6 d6, .slice A7 n7 d7] 24 (0, 0))) := ⟨blk_below (g := W.heap.size) (by with_reducible repeat (first | exact BX.out | exact blk_new _ _ | refine blk_alloc ?_ _ | refine blk_drew ?_)) hb2⟩; clear q0 q1 q2 q3 q4 q5 q6 q7 HB BX; have HB := HB'; have BX := BX'; clear HB' BX' hb2; obtain ⟨q0, q1, q2, q3, q4, q5, q6, q7⟩ := box8 BX.out) | (go_at_call 10; (with_reducible refine (hri.out _ ?_).mono ?_); exact (by with_reducible repeat (first | exact Below.refl _ _ | exact HB.out | apply below_drew1 | apply below_alloc)); rintro e w3 ⟨rfl, hb3⟩; rw [hr]; have HB' : Aside0 (Below W.heap.size W w3) := ⟨below_step (by with_reducible repeat (first | exact Below.refl _ _ | exact HB.out | apply below_drew1 | apply below_alloc)) hb3⟩; have BX' : Aside0 (w3.heap[W.heap.size]? = some (.cells #[.int .i64 c.th, .int .i64 c.st, .int .i64 c.ga, .int .i64 c.le, .int .i64 c.re, .int .i64 c.ti, .slice A6 n6 d6, .slice A7 n7 d7] 24 (0, 0))) := ⟨blk_below (g := W.heap.size) (by with_reducible repeat (first | exact BX.out | exact blk_new _ _ | refine blk_alloc ?_ _ | refine blk_drew ?_)) hb3⟩; clear q0 q1 q2 q3 q4 q5 q6 q7 HB BX; have HB := HB'; have BX := BX'; clear HB' BX' hb3; obtain ⟨q0, q1, q2, q3, q4, q5, q6, q7⟩ := box8 BX.out) | (go_at_call 11; (with_reducible refine (K_New _ c A6 n6 d6 A7 n7 d7 (H6.out.below ?_) (H7.out.below ?_) ?_).mono ?_); exact (by with_reducible repeat (first | exact Below.refl _ _ | exact HB.out | apply below_drew1 | apply below_alloc)); exact (by with_reducible repeat (first | exact Below.refl _ _ | exact HB.out | apply below_drew1 | apply below_alloc)); (have h1 := HR.out.1.2.2.2.2.2.2.1.2; have h2 : c.ls.length = c.ps.length := HR.out.1.2.2.2.2.2.2.2; omega); rintro e w4 ⟨b, rfl, hbs, hm, hb4⟩; have HS : Aside0 (MS W w4 b (runC c l 0)) := ⟨MS.new (by with_reducible repeat (first | exact Below.refl _ _ | exact HB.out | apply below_drew1 | apply below_alloc)) hbs hm hb4⟩; clear hm; have hbn : Aside0 (b ≠ W.heap.size) := ⟨by have := hbs; have := blk_lt BX.out; omega⟩; have HB' : Aside0 (Below W.heap.size W w4) := ⟨below_step (by with_reducible repeat (first | exact Below.refl _ _ | exact HB.out | apply below_drew1 | apply below_alloc)) hb4⟩; have BX' : Aside0 (w4.heap[W.heap.size]? = some (.cells #[.int .i64 c.th, .int .i64 c.st, .int .i64 c.ga, .int .i64 c.le, .int .i64 c.re, .int .i64 c.ti, .slice A6 n6 d6, .slice A7 n7 d7] 24 (0, 0))) := ⟨blk_below (g := W.heap.size) (by with_reducible repeat (first | exact BX.out | exact blk_new _ _ | refine blk_alloc ?_ _ | refine blk_drew ?_)) hb4⟩; clear q0 q1 q2 q3 q4 q5 q6 q7 HB BX; have HB := HB'; have BX := BX'; clear HB' BX' hb4; obtain ⟨q0, q1, q2, q3, q4, q5, q6, q7⟩ := box8 BX.out))
  go_loopg [8] l.length (fun gg s7 wr => ∃ kk : Nat, kk ≤ l.length ∧ l.length - kk ≤ gg ∧ s7 = .int .i64 kk ∧ Aside0 (Below W.heap.size W wr) ∧ Aside0 (wr.heap[W.heap.size]? = some (.cells #[.int .i64 c.th, .int .i64 c.st, .int .i64 c.ga, .int .i64 c.le, .int .i64 c.re, .int .i64 c.ti, .slice A6 n6 d6, .slice A7 n7 d7] 24 (0, 0))) ∧ Aside0 (MS W wr b (runC c l kk)) ∧ Aside0 (RS wr b q (runC c l kk)))
  case atStart => exact ⟨0, Nat.zero_le _, by omega, rfl, HB, BX, HS, HRS⟩
  case round =>
    obtain ⟨kk, hkk, hg', rfl, BW, BY, HM, HRR⟩ := hrel
    clear HB BX HS HRS
    have hin := Aside0.mk (runC_inv HR.out l kk hkk)
    by_cases hlt : kk < l.length
    · have hltb : decide ((kk : Int) < (n : Int)) = true := decide_eq_true (by have := hn.out; omega)
      have hk0 : (0 : Int) ≤ (kk : Int) := by omega
      have hkn : (kk : Int) < (n : Int) := by have := hn.out; omega
      obtain ⟨ad, rfl, y0, y1, y2, hy⟩ := (HL.out.below BW.out).at kk hlt
      have HY := Aside0.mk hy
      have hst := Aside0.mk (runC_succ c l kk hlt)
      have hin1 := Aside0.mk (runC_inv HR.out l (kk + 1) hlt)
      have hlen : (n : Int) ≤ 40 := by have := hn.out; unfold great15 at hg; simp at hg; omega
      obtain ⟨ans, hans0⟩ : ∃ r, (doM (runC c l kk) (rd_T38 l (kk : Int)).f0 (rd_T38 l (kk : Int)).f1 (rd_T38 l (kk : Int)).f2).2 = r := ⟨_, rfl⟩
      have hans := Aside0.mk hans0
      clear hy hans0
      go_wp2_with (first | (go_at_call 14; (with_reducible refine (K_rDoS _ b q (runC c l kk) ?_ hin.out.1 _ _ _ ?_).mono ?_); exact HR5.out.below (by with_reducible repeat (first | exact Below.refl _ _ | apply pw_below_drewN | apply below_drew1 | apply below_alloc)); exact HY.out; rintro e w6 ⟨rfl, hk6, hs6⟩; rw [hans.out]; unfold ansV; have hlt5 := HR5.out.lt; have HM6 : Aside0 (MS W w6 b (runC c l (kk + 1))) := ⟨(HM5.out.below (by with_reducible repeat (first | exact Below.refl _ _ | apply pw_below_drewN | apply below_drew1 | apply below_alloc))).kb hk6 hlt5.1⟩; have HR6 : Aside0 (RS w6 b q (runC c l (kk + 1))) := ⟨by rw [hst.out]; exact hs6⟩; have BW6 : Aside0 (Below W.heap.size W w6) := ⟨HM6.out.2.1⟩; have BY6 : Aside0 (w6.heap[W.heap.size]? = some (.cells #[.int .i64 c.th, .int .i64 c.st, .int .i64 c.ga, .int .i64 c.le, .int .i64 c.re, .int .i64 c.ti, .slice A6 n6 d6, .slice A7 n7 d7] 24 (0, 0))) := ⟨hk6.blk (by with_reducible repeat (first | exact BY5.out | refine blk_alloc ?_ _ | refine blk_drew ?_)) (by have := HM5.out.2.2; omega)⟩; have BX6 : Aside0 (w6.heap[w5.heap.size]? = some (.cells #[.int .i64 ans.err, .int .i64 ans.n, .bool ans.ex, .int .i64 ans.node] 35 (0, 0))) := ⟨hk6.blk (by with_reducible repeat (first | exact blk_new _ _ | refine blk_alloc ?_ _ | refine blk_drew ?_)) (by omega)⟩; clear hk6 hs6 HM5 HR5 BW5 BY5 hlt5; obtain ⟨k0, k1, k2, k3, _, _, _, _⟩ := box4 (blk_alloc BX6.out (.cells #[.int .i64 ans.err, .int .i64 ans.n, .bool ans.ex, .int .i64 ans.node] 35)); obtain ⟨m0, m1, m2, m3, _, _, _, _⟩ := box4 (blk_new w6 (.cells #[.int .i64 ans.err, .int .i64 ans.n, .bool ans.ex, .int .i64 ans.node] 35))) | (go_at_call 13; (with_reducible refine (K_DoS W _ b (runC c l kk) ?_ ?_ _ _ _ ?_).mono ?_); exact HM.out.below (by with_reducible repeat (first | exact Below.refl _ _ | apply pw_below_drewN | apply below_drew1 | apply below_alloc)); exact hin.out.1.ok; exact HY.out; rintro e w5 ⟨rfl, hk5, hs5⟩; rw [hans.out]; unfold ansV; have HM5 : Aside0 (MS W w5 b (runC c l (kk + 1))) := ⟨by rw [hst.out]; exact hs5⟩; have HR5 : Aside0 (RS w5 b q (runC c l kk)) := ⟨(HRR.out.below (by with_reducible repeat (first | exact Below.refl _ _ | apply pw_below_drewN | apply below_drew1 | apply below_alloc))).kb hk5⟩; have BW5 : Aside0 (Below W.heap.size W w5) := ⟨hs5.2.1⟩; have BY5 : Aside0 (w5.heap[W.heap.size]? = some (.cells #[.int .i64 c.th, .int .i64 c.st, .int .i64 c.ga, .int .i64 c.le, .int .i64 c.re, .int .i64 c.ti, .slice A6 n6 d6, .slice A7 n7 d7] 24 (0, 0))) := ⟨hk5.blk (by with_reducible repeat (first | exact BY.out | refine blk_alloc ?_ _ | refine blk_drew ?_)) (Ne.symm hbn.out)⟩; clear hk5 hs5 HM HRR BW BY y0 y1 y2; obtain ⟨ad5, had5, y0, y1, y2, _⟩ := (HL.out.below (below_alloc BW5.out (.cells #[.int .i64 ans.err, .int .i64 ans.n, .bool ans.ex, .int .i64 ans.node] 35))).at kk hlt; cases had5))
      obtain ⟨w7, hX⟩ : ∃ X, w6.alloc (.cells #[.int .i64 ans.err, .int .i64 ans.n, .bool ans.ex, .int .i64 ans.node] 35) = X := ⟨_, rfl⟩
      have HM7 : Aside0 (MS W w7 b (runC c l (kk + 1))) := ⟨by rw [← hX]; exact HM6.out.below (below_alloc (Below.refl _ _) _)⟩
      have HR7 : Aside0 (RS w7 b q (runC c l (kk + 1))) := ⟨by rw [← hX]; exact HR6.out.below (below_alloc (Below.refl _ _) _)⟩
      have BW7 : Aside0 (Below W.heap.size W w7) := ⟨by rw [← hX]; exact below_alloc BW6.out _⟩
      have BY7 : Aside0 (w7.heap[W.heap.size]? = some (.cells #[.int .i64 c.th, .int .i64 c.st, .int .i64 c.ga, .int .i64 c.le, .int .i64 c.re, .int .i64 c.ti, .slice A6 n6 d6, .slice A7 n7 d7] 24 (0, 0))) := ⟨by rw [← hX]; exact blk_alloc BY6.out _⟩
      rw [hX]
      clear hX k0 k1 k2 k3 m0 m1 m2 m3 y0 y1 y2 HM6 HR6 BW6 BY6 BX6 hin hans
      have hlen6 := Aside0.mk H6.out.len
      go_loopg [11] c.ps.length (fun gg s8 wv => ∃ v : Nat, v ≤ c.ps.length ∧ c.ps.length - v ≤ gg ∧ s8 = .int .i64 v ∧ Aside0 (Below W.heap.size W wv) ∧ Aside0 (wv.heap[W.heap.size]? = some (.cells #[.int .i64 c.th, .int .i64 c.st, .int .i64 c.ga, .int .i64 c.le, .int .i64 c.re, .int .i64 c.ti, .slice A6 n6 d6, .slice A7 n7 d7] 24 (0, 0))) ∧ Aside0 (MS W wv b (runC c l (kk + 1))) ∧ Aside0 (RS wv b q (runC c l (kk + 1))))
      case atStart => exact ⟨0, Nat.zero_le _, by omega, rfl, BW7, BY7, HM7, HR7⟩
      case round =>
        obtain ⟨v, hv, hgv, rfl, BV, BZ, HN, HNR⟩ := hrel
        clear HM7 HR7 BW7 BY7
        obtain ⟨q0, q1, q2, q3, q4, q5, q6, q7⟩ := box8 BZ.out
        clear q0 q1 q2 q3 q4 q5 q7
        by_cases hvl : v < c.ps.length
        · have hv6 : (v : Int) < (n6 : Int) := by have := hlen6.out; omega
          have hv0 : (0 : Int) ≤ (v : Int) := by omega
          have hps : c.ps.length ≤ 12 := HR.out.1.2.2.2.2.2.2.1.2
          have hv12 : Aside0 (v < 12) := ⟨by omega⟩
          have hvp : Aside0 (v < (runC c l (kk + 1)).c.ps.length) := ⟨by rw [hin1.out.2]; exact hvl⟩
          obtain ⟨M, hMe⟩ : ∃ M, runC c l (kk + 1) = M := ⟨_, rfl⟩
          rw [hMe] at HN HNR hvp
          have hi1 : Aside0 (Inv M) := ⟨by rw [← hMe]; exact hin1.out.1⟩
          have HME := Aside0.mk hMe
          clear hMe
          go_wp2_with (first | (go_at_call 18; (with_reducible refine (K_rUsedS _ b q M ?_ hi1.out v hvp.out).mono ?_); exact HNR.out.below (by with_reducible repeat (first | exact Below.refl _ _ | apply pw_below_drewN | apply below_drew1 | apply below_alloc)); rintro e wu ⟨rfl, rfl⟩) | (go_at_call 17; (with_reducible refine (K_UsedS W _ b M ?_ v hv12.out).mono ?_); exact HN.out.below (by with_reducible repeat (first | exact Below.refl _ _ | apply pw_below_drewN | apply below_drew1 | apply below_alloc)); rintro e wu ⟨rfl, rfl⟩) | (go_at_call 16; (with_reducible refine (K_rLimitS _ b q M ?_ hi1.out v hvp.out).mono ?_); exact HNR.out.below (by with_reducible repeat (first | exact Below.refl _ _ | apply pw_below_drewN | apply below_drew1 | apply below_alloc)); rintro e wu ⟨rfl, rfl⟩) | (go_at_call 15; (with_reducible refine (K_LimitS W _ b M ?_ v hv12.out).mono ?_); exact HN.out.below (by with_reducible repeat (first | exact Below.refl _ _ | apply pw_below_drewN | apply below_drew1 | apply below_alloc)); rintro e wu ⟨rfl, rfl⟩))
          go_roundg (c.ps.length - (v + 1))
          case measure => omega
          case rel => exact ⟨v + 1, by omega, by omega, by go_num, ⟨by have hB := BV.out; with_reducible repeat (first | exact hB | apply pw_below_drewN | apply below_drew1 | apply below_alloc)⟩, ⟨by have hB := BZ.out; with_reducible repeat (first | exact hB | refine blk_drewN ?_ _ | refine blk_alloc ?_ _ | refine blk_drew ?_)⟩, ⟨by rw [HME.out]; exact HN.out.below (by with_reducible repeat (first | exact Below.refl _ _ | apply pw_below_drewN | apply below_drew1 | apply below_alloc))⟩, ⟨by rw [HME.out]; exact HNR.out.below (by with_reducible repeat (first | exact Below.refl _ _ | apply pw_below_drewN | apply below_drew1 | apply below_alloc))⟩⟩
        · have hv6 : (n6 : Int) ≤ (v : Int) := by have := hlen6.out; omega
          go_wp2_with (fail)
          go_roundg (l.length - (kk + 1))
          case measure => omega
          case rel => exact ⟨kk + 1, by omega, by omega, by go_num, ⟨by have hB := BV.out; with_reducible repeat (first | exact hB | apply below_drew1 | apply below_alloc)⟩, ⟨by have hB := BZ.out; with_reducible repeat (first | exact hB | refine blk_alloc ?_ _ | refine blk_drew ?_)⟩, ⟨HN.out.below (by with_reducible repeat (first | exact Below.refl _ _ | apply pw_below_drewN | apply below_drew1 | apply below_alloc))⟩, ⟨HNR.out.below (by with_reducible repeat (first | exact Below.refl _ _ | apply pw_below_drewN | apply below_drew1 | apply below_alloc))⟩⟩
    · have hltb : (n : Int) ≤ (kk : Int) := by have := hn.out; omega
      go_wp2_with (fail)
      go_ret
      exact ⟨rfl, (by have hB := BW.out; with_reducible repeat (first | exact hB | apply below_drew1 | apply below_alloc))⟩
end Go.Proofs.YteaidhoimaphlaaGreat.PM
