import Derived.Test.YteaidhoimaphlaaGreatMPure
import Derived.RangeFuncNested
import Derived.RangeFuncBound
import Derived.RangeFuncCalls
import Derived.RangeFuncLeaves
import Derived.RangeFuncBox
import Derived.Shelf.Abstract
import Derived.Shelf.RegionOpen
import Derived.OwnWalkIn
import Derived.TacticsInMore
import Derived.LoopNIn
import Derived.LoopIn
import Derived.Deep.RegionHeld3
import Derived.Deep.RegionLaw
import Derived.Laws.CopyOwn
import Derived.Laws.EntriesVeiled
namespace Go.Proofs.YteaidhoimaphlaaGreat.PM
open Go.RowKit Go.Shelf Go.Proofs.YteaidhoimaphlaaGreatW.PrintWords Go.Proofs.YteaidhoimaphlaaGreatW.PrintLast Go.Proofs.YteaidhoimaphlaaGreatW.PrintMore
attribute [local go_sem] max2_int min2_int max_two min_two max_three min_three max_four min_four
set_option linter.unusedVariables false
set_option linter.unusedSimpArgs false
theorem falls_base : Falls baseC.ps := by
  intro i hi
  have : i < 4 := hi
  match i, this with
  | 0, _ => decide
  | 1, _ => decide
  | 2, _ => decide
  | 3, _ => decide
theorem h20_ok0 : MOk h20_0 := newM_ok (by decide) (by decide) falls_base (by decide)
theorem h20_ok1 : MOk h20_1 := (doM_ok h20_ok0 1 2 4).1
theorem h20_ok2 : MOk h20_2 := (doM_ok h20_ok1 1 3 6).1
theorem h20_ok3 : MOk h20_3 := (doM_ok h20_ok2 4 1 7).1
theorem h20_ok4 : MOk h20_4 := (doM_ok h20_ok3 5 1 0).1
theorem h20_ok5 : MOk h20_5 := (doM_ok h20_ok4 2 0 32).1
theorem h20_do0 (W w : World) (b : Nat) (h : MS W w b h20_0) : Calls Tryz.prog 13 #[.pointer (some ⟨b, 0, none⟩), .agg #[.int .i64 1, .int .i64 2, .int .i64 4]] w fun e w' => e = .returned (.agg #[.int .i64 0, .int .i64 32, .bool false, .int .i64 0]) ∧ KB w w' b ∧ MS W w' b h20_1 := by
  have := K_DoS W w b h20_0 h h20_ok0 1 2 4 (by decide)
  rw [h20_a0] at this
  exact this
theorem h20_do1 (W w : World) (b : Nat) (h : MS W w b h20_1) : Calls Tryz.prog 13 #[.pointer (some ⟨b, 0, none⟩), .agg #[.int .i64 1, .int .i64 3, .int .i64 6]] w fun e w' => e = .returned (.agg #[.int .i64 4, .int .i64 0, .bool false, .int .i64 3]) ∧ KB w w' b ∧ MS W w' b h20_2 := by
  have := K_DoS W w b h20_1 h h20_ok1 1 3 6 (by decide)
  rw [h20_a1] at this
  exact this
theorem h20_do2 (W w : World) (b : Nat) (h : MS W w b h20_2) : Calls Tryz.prog 13 #[.pointer (some ⟨b, 0, none⟩), .agg #[.int .i64 4, .int .i64 1, .int .i64 7]] w fun e w' => e = .returned (.agg #[.int .i64 4, .int .i64 0, .bool false, .int .i64 1]) ∧ KB w w' b ∧ MS W w' b h20_3 := by
  have := K_DoS W w b h20_2 h h20_ok2 4 1 7 (by decide)
  rw [h20_a2] at this
  exact this
theorem h20_do3 (W w : World) (b : Nat) (h : MS W w b h20_3) : Calls Tryz.prog 13 #[.pointer (some ⟨b, 0, none⟩), .agg #[.int .i64 5, .int .i64 1, .int .i64 0]] w fun e w' => e = .returned (.agg #[.int .i64 0, .int .i64 4, .bool true, .int .i64 0]) ∧ KB w w' b ∧ MS W w' b h20_4 := by
  have := K_DoS W w b h20_3 h h20_ok3 5 1 0 (by decide)
  rw [h20_a3] at this
  exact this
theorem h20_do4 (W w : World) (b : Nat) (h : MS W w b h20_4) : Calls Tryz.prog 13 #[.pointer (some ⟨b, 0, none⟩), .agg #[.int .i64 2, .int .i64 0, .int .i64 32]] w fun e w' => e = .returned (.agg #[.int .i64 0, .int .i64 4, .bool false, .int .i64 2]) ∧ KB w w' b ∧ MS W w' b h20_5 := by
  have := K_DoS W w b h20_4 h h20_ok4 2 0 32 (by decide)
  rw [h20_a4] at this
  exact this
theorem h20_do5 (W w : World) (b : Nat) (h : MS W w b h20_5) : Calls Tryz.prog 13 #[.pointer (some ⟨b, 0, none⟩), .agg #[.int .i64 2, .int .i64 0, .int .i64 32]] w fun e w' => e = .returned (.agg #[.int .i64 5, .int .i64 0, .bool false, .int .i64 0]) ∧ KB w w' b ∧ MS W w' b h20_6 := by
  have := K_DoS W w b h20_5 h h20_ok5 2 0 32 (by decide)
  rw [h20_a5] at this
  exact this
set_option maxHeartbeats 4000000 in
set_option maxRecDepth 100000 in
theorem K_head20 (W : World) : Calls Tryz.prog 8 #[] W fun e w' => e = .returned (.bool true) ∧ Below W.heap.size W w' := by
  have hus := Tryz.underlying24
  have hua := Tryz.underlying35
  have huc := Tryz.underlying38
  go_enter Tryz.func8, Tryz.ntmps8
  go_wp2_with (go_at_call 21; refine (K_base _).mono ?_; rintro e w1 ⟨v6, v7, rfl, h6, h7, hb1⟩; obtain ⟨A6, n6, d6, rfl⟩ := h6.slice; obtain ⟨A7, n7, d7, rfl⟩ := h7.slice; have H6 := Aside0.mk h6; have H7 := Aside0.mk h7; have HB1 : Aside0 (Below W.heap.size W w1) := ⟨below_step (by repeat (first | apply below_drew1 | apply below_alloc | exact Below.refl _ _)) hb1⟩; clear h6 h7 hb1)
  go_wp2_with (go_at_call 11; refine (K_New _ baseC A6 n6 d6 A7 n7 d7 (H6.out.below (by repeat (first | apply below_drew1 | apply below_alloc | exact Below.refl _ _))) (H7.out.below (by repeat (first | apply below_drew1 | apply below_alloc | exact Below.refl _ _))) (by decide)).mono ?_; rintro e w2 ⟨b, rfl, hbs, hm, hb2⟩)
  have HS0 : Aside0 (MS W w2 b h20_0) := ⟨MS.new (by repeat (first | apply below_drew1 | apply below_alloc | exact HB1.out)) hbs hm hb2⟩
  clear hbs hm hb2 H6 H7 HB1
  go_wp2_with (go_at_call 13; (with_reducible refine (h20_do0 W _ b ?_).mono ?_); exact HS0.out.below (by with_reducible repeat (first | exact Below.refl _ _ | apply below_alloc | apply below_drew1)); rintro e w3 ⟨rfl, hk, hs⟩; have HS1 := Aside0.mk hs; have hl0 : Aside0 (b < w3.heap.size) := ⟨hs.blt⟩; clear hk hs HS0)
  go_wp2_with (go_at_call 13; (with_reducible refine (h20_do1 W _ b ?_).mono ?_); exact HS1.out.below (by with_reducible repeat (first | exact Below.refl _ _ | apply below_alloc | apply below_drew1)); rintro e w4 ⟨rfl, hk, hs⟩; have BY0 : Aside0 (w4.heap[w3.heap.size]? = some (.cells #[.int .i64 0, .int .i64 32, .bool false, .int .i64 0] 35 (0, 0))) := ⟨hk.blk (by with_reducible repeat (first | exact blk_new _ _ | refine blk_alloc ?_ _ | refine blk_drew ?_)) (Nat.ne_of_gt hl0.out)⟩; have BX0 := BY0; clear BY0; have HS2 := Aside0.mk hs; have hl1 : Aside0 (b < w4.heap.size) := ⟨hs.blt⟩; clear hk hs HS1)
  go_wp2_with (go_at_call 13; (with_reducible refine (h20_do2 W _ b ?_).mono ?_); exact HS2.out.below (by with_reducible repeat (first | exact Below.refl _ _ | apply below_alloc | apply below_drew1)); rintro e w5 ⟨rfl, hk, hs⟩; have BY0 : Aside0 (w5.heap[w3.heap.size]? = some (.cells #[.int .i64 0, .int .i64 32, .bool false, .int .i64 0] 35 (0, 0))) := ⟨hk.blk (by with_reducible repeat (first | exact BX0.out | refine blk_alloc ?_ _ | refine blk_drew ?_)) (Nat.ne_of_gt hl0.out)⟩; clear BX0; have BX0 := BY0; clear BY0; have BY1 : Aside0 (w5.heap[w4.heap.size]? = some (.cells #[.int .i64 4, .int .i64 0, .bool false, .int .i64 3] 35 (0, 0))) := ⟨hk.blk (by with_reducible repeat (first | exact blk_new _ _ | refine blk_alloc ?_ _ | refine blk_drew ?_)) (Nat.ne_of_gt hl1.out)⟩; have BX1 := BY1; clear BY1; have HS3 := Aside0.mk hs; have hl2 : Aside0 (b < w5.heap.size) := ⟨hs.blt⟩; clear hk hs HS2)
  go_wp2_with (go_at_call 13; (with_reducible refine (h20_do3 W _ b ?_).mono ?_); exact HS3.out.below (by with_reducible repeat (first | exact Below.refl _ _ | apply below_alloc | apply below_drew1)); rintro e w6 ⟨rfl, hk, hs⟩; have BY0 : Aside0 (w6.heap[w3.heap.size]? = some (.cells #[.int .i64 0, .int .i64 32, .bool false, .int .i64 0] 35 (0, 0))) := ⟨hk.blk (by with_reducible repeat (first | exact BX0.out | refine blk_alloc ?_ _ | refine blk_drew ?_)) (Nat.ne_of_gt hl0.out)⟩; clear BX0; have BX0 := BY0; clear BY0; have BY1 : Aside0 (w6.heap[w4.heap.size]? = some (.cells #[.int .i64 4, .int .i64 0, .bool false, .int .i64 3] 35 (0, 0))) := ⟨hk.blk (by with_reducible repeat (first | exact BX1.out | refine blk_alloc ?_ _ | refine blk_drew ?_)) (Nat.ne_of_gt hl1.out)⟩; clear BX1; have BX1 := BY1; clear BY1; have BY2 : Aside0 (w6.heap[w5.heap.size]? = some (.cells #[.int .i64 4, .int .i64 0, .bool false, .int .i64 1] 35 (0, 0))) := ⟨hk.blk (by with_reducible repeat (first | exact blk_new _ _ | refine blk_alloc ?_ _ | refine blk_drew ?_)) (Nat.ne_of_gt hl2.out)⟩; have BX2 := BY2; clear BY2; have HS4 := Aside0.mk hs; have hl3 : Aside0 (b < w6.heap.size) := ⟨hs.blt⟩; clear hk hs HS3; have a1 : (w6.alloc (.cells #[.int .i64 0, .int .i64 4, .bool true, .int .i64 0] 35)).cell? ⟨w3.heap.size, 1, none⟩ = some (.int .i64 32) := (blk_cell (blk_alloc BX0.out _) 1).trans rfl)
  go_wp2_with (go_at_call 13; (with_reducible refine (h20_do4 W _ b ?_).mono ?_); exact HS4.out.below (by with_reducible repeat (first | exact Below.refl _ _ | apply below_alloc | apply below_drew1)); rintro e w7 ⟨rfl, hk, hs⟩; have BY0 : Aside0 (w7.heap[w3.heap.size]? = some (.cells #[.int .i64 0, .int .i64 32, .bool false, .int .i64 0] 35 (0, 0))) := ⟨hk.blk (by with_reducible repeat (first | exact BX0.out | refine blk_alloc ?_ _ | refine blk_drew ?_)) (Nat.ne_of_gt hl0.out)⟩; clear BX0; have BX0 := BY0; clear BY0; have BY1 : Aside0 (w7.heap[w4.heap.size]? = some (.cells #[.int .i64 4, .int .i64 0, .bool false, .int .i64 3] 35 (0, 0))) := ⟨hk.blk (by with_reducible repeat (first | exact BX1.out | refine blk_alloc ?_ _ | refine blk_drew ?_)) (Nat.ne_of_gt hl1.out)⟩; clear BX1; have BX1 := BY1; clear BY1; have BY2 : Aside0 (w7.heap[w5.heap.size]? = some (.cells #[.int .i64 4, .int .i64 0, .bool false, .int .i64 1] 35 (0, 0))) := ⟨hk.blk (by with_reducible repeat (first | exact BX2.out | refine blk_alloc ?_ _ | refine blk_drew ?_)) (Nat.ne_of_gt hl2.out)⟩; clear BX2; have BX2 := BY2; clear BY2; have BY3 : Aside0 (w7.heap[w6.heap.size]? = some (.cells #[.int .i64 0, .int .i64 4, .bool true, .int .i64 0] 35 (0, 0))) := ⟨hk.blk (by with_reducible repeat (first | exact blk_new _ _ | refine blk_alloc ?_ _ | refine blk_drew ?_)) (Nat.ne_of_gt hl3.out)⟩; have BX3 := BY3; clear BY3; clear a1; have HS5 := Aside0.mk hs; have hl4 : Aside0 (b < w7.heap.size) := ⟨hs.blt⟩; clear hk hs HS4; have a1 : (w7.alloc (.cells #[.int .i64 0, .int .i64 4, .bool false, .int .i64 2] 35)).cell? ⟨w3.heap.size, 1, none⟩ = some (.int .i64 32) := (blk_cell (blk_alloc BX0.out _) 1).trans rfl)
  go_wp2_with (go_at_call 13; (with_reducible refine (h20_do5 W _ b ?_).mono ?_); exact HS5.out.below (by with_reducible repeat (first | exact Below.refl _ _ | apply below_alloc | apply below_drew1)); rintro e w8 ⟨rfl, hk, hs⟩; have BY0 : Aside0 (w8.heap[w3.heap.size]? = some (.cells #[.int .i64 0, .int .i64 32, .bool false, .int .i64 0] 35 (0, 0))) := ⟨hk.blk (by with_reducible repeat (first | exact BX0.out | refine blk_alloc ?_ _ | refine blk_drew ?_)) (Nat.ne_of_gt hl0.out)⟩; clear BX0; have BX0 := BY0; clear BY0; have BY1 : Aside0 (w8.heap[w4.heap.size]? = some (.cells #[.int .i64 4, .int .i64 0, .bool false, .int .i64 3] 35 (0, 0))) := ⟨hk.blk (by with_reducible repeat (first | exact BX1.out | refine blk_alloc ?_ _ | refine blk_drew ?_)) (Nat.ne_of_gt hl1.out)⟩; clear BX1; have BX1 := BY1; clear BY1; have BY2 : Aside0 (w8.heap[w5.heap.size]? = some (.cells #[.int .i64 4, .int .i64 0, .bool false, .int .i64 1] 35 (0, 0))) := ⟨hk.blk (by with_reducible repeat (first | exact BX2.out | refine blk_alloc ?_ _ | refine blk_drew ?_)) (Nat.ne_of_gt hl2.out)⟩; clear BX2; have BX2 := BY2; clear BY2; have BY3 : Aside0 (w8.heap[w6.heap.size]? = some (.cells #[.int .i64 0, .int .i64 4, .bool true, .int .i64 0] 35 (0, 0))) := ⟨hk.blk (by with_reducible repeat (first | exact BX3.out | refine blk_alloc ?_ _ | refine blk_drew ?_)) (Nat.ne_of_gt hl3.out)⟩; clear BX3; have BX3 := BY3; clear BY3; have BY4 : Aside0 (w8.heap[w7.heap.size]? = some (.cells #[.int .i64 0, .int .i64 4, .bool false, .int .i64 2] 35 (0, 0))) := ⟨hk.blk (by with_reducible repeat (first | exact blk_new _ _ | refine blk_alloc ?_ _ | refine blk_drew ?_)) (Nat.ne_of_gt hl4.out)⟩; have BX4 := BY4; clear BY4; have HS6 := Aside0.mk hs; have hl5 : Aside0 (b < w8.heap.size) := ⟨hs.blt⟩; clear hk hs HS5; have g0 := box4 (blk_alloc BX0.out (.cells #[.int .i64 5, .int .i64 0, .bool false, .int .i64 0] 35)); obtain ⟨g00, g01, g02, g03, -⟩ := g0; have g1 := box4 (blk_alloc BX1.out (.cells #[.int .i64 5, .int .i64 0, .bool false, .int .i64 0] 35)); obtain ⟨g10, g11, g12, g13, -⟩ := g1; have g2 := box4 (blk_alloc BX2.out (.cells #[.int .i64 5, .int .i64 0, .bool false, .int .i64 0] 35)); obtain ⟨g20, g21, g22, g23, -⟩ := g2; have g3 := box4 (blk_alloc BX3.out (.cells #[.int .i64 5, .int .i64 0, .bool false, .int .i64 0] 35)); obtain ⟨g30, g31, g32, g33, -⟩ := g3; have g4 := box4 (blk_alloc BX4.out (.cells #[.int .i64 5, .int .i64 0, .bool false, .int .i64 0] 35)); obtain ⟨g40, g41, g42, g43, -⟩ := g4; have g5 := box4 (blk_new w8 (.cells #[.int .i64 5, .int .i64 0, .bool false, .int .i64 0] 35)); obtain ⟨g50, g51, g52, g53, -⟩ := g5)
  have hused : Aside0 (∀ w, MS W w b h20_6 → Calls Tryz.prog 17 #[.pointer (some ⟨b, 0, none⟩), .int .i64 0] w fun e w' => e = .returned (.int .i64 0) ∧ w' = w) := ⟨fun w hw => by
    have := K_UsedS W w b h20_6 hw 0 (by decide)
    rw [show ((0 : Nat) : Int) = 0 from rfl, h20_u.1] at this
    exact this⟩
  have hlim : Aside0 (∀ w, MS W w b h20_6 → Calls Tryz.prog 15 #[.pointer (some ⟨b, 0, none⟩), .int .i64 1] w fun e w' => e = .returned (.int .i64 10) ∧ w' = w) := ⟨fun w hw => by
    have := K_LimitS W w b h20_6 hw 1 (by decide)
    rw [show ((1 : Nat) : Int) = 1 from rfl, h20_u.2] at this
    exact this⟩
  go_wp2_with (first | (go_at_call 17; (with_reducible refine (hused.out _ ?_).mono ?_); exact HS6.out.below (by with_reducible repeat (first | exact Below.refl _ _ | apply below_alloc | apply below_drew1)); rintro e w' ⟨rfl, rfl⟩) | (go_at_call 15; (with_reducible refine (hlim.out _ ?_).mono ?_); exact HS6.out.below (by with_reducible repeat (first | exact Below.refl _ _ | apply below_alloc | apply below_drew1)); rintro e w' ⟨rfl, rfl⟩))
  go_ret
  exact ⟨rfl, (HS6.out.below (by with_reducible repeat (first | exact Below.refl _ _ | apply below_alloc | apply below_drew1))).2.1⟩
end Go.Proofs.YteaidhoimaphlaaGreat.PM
