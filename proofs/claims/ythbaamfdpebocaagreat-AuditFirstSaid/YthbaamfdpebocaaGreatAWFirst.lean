import Derived.Test.YthbaamfdpebocaaGreatANode
import Derived.Test.YthbaamfdpebocaaGreatARaw
import Derived.Test.YthbaamfdpebocaaGreatAHead
import Derived.RangeFuncNested
import Derived.RangeFuncBound
import Derived.RangeFuncCalls
import Derived.RangeFuncLeaves
import Derived.RangeFuncBox
import Derived.Shelf.Abstract
import Derived.Shelf.RegionOpen
import Derived.OwnWalkIn
import Derived.TacticsInMore
import Derived.LoopNIn
import Derived.LoopIn
import Derived.Lib.QuietBelow
import Derived.Deep.RegionHeld3
import Derived.Deep.RegionLaw
import Derived.Laws.CopyOwn
import Derived.Laws.EntriesVeiled
import Derived.Deep.DeepCutAuto
import Derived.Deep.MidRow
import Derived.Deep.Heap
import Derived.Lib.SmallJoins
import Derived.ChangeKeysEq
namespace Go.Proofs.YthbaamfdpebocaaGreat.PA
open Go.RowKit Go.Shelf Go.Proofs.YthbaamfdpebocaaGreatW.PrintWords Go.Proofs.YthbaamfdpebocaaGreatW.PrintLast Go.Proofs.YthbaamfdpebocaaGreatW.PrintMore
attribute [local go_sem] max2_int min2_int max_two min_two max_three min_three max_four min_four
set_option linter.unusedVariables false
set_option linter.unusedSimpArgs false
section
set_option maxHeartbeats 8000000 in
set_option maxRecDepth 100000 in
theorem W_AuditFirst (c : LConf) (A6 : Option Addr) (n6 d6 : Nat) (A7 : Option Addr) (n7 d7 : Nat) (A : Option Addr) (n d : Nat) (l : List Int) (A1 : Option Addr) (n1 d1 : Nat) (l1 : List Int) (W : World) (h6 : IsInts W (.slice A6 n6 d6) c.ps) (h7 : IsInts W (.slice A7 n7 d7) c.ls) (hl : IsInts W (.slice A n d) l) (hl1 : IsInts W (.slice A1 n1 d1) l1) :
    Calls Tryz.prog 6 #[.agg #[.int .i64 c.th, .int .i64 c.st, .int .i64 c.ga, .int .i64 c.le, .int .i64 c.re, .int .i64 c.ti, .slice A6 n6 d6, .slice A7 n7 d7], .slice A n d, .slice A1 n1 d1] W fun e w' => e = .returned (.bool true) ∧ Below W.heap.size W w' := by
  have hus := Tryz.underlying24
  have hua := Tryz.underlying29
  have H6 := Aside0.mk h6
  have H7 := Aside0.mk h7
  clear h6 h7
  have HL := Aside0.mk hl
  have HL1 := Aside0.mk hl1
  have hln := Aside0.mk hl.len
  have hn1 := Aside0.mk hl1.len
  clear hl hl1
  by_cases hG : c.ps.length > 100 ∨ c.ls.length > 100
  · have hg : Aside0 (decide (c.ps.length > 100 ∨ c.ls.length > 100) = true) := ⟨decide_eq_true hG⟩
    clear hG
    go_enter Tryz.func6, Tryz.ntmps6
    go_wp2_with (first | (go_at_call 10; (with_reducible refine (K_great c _ _ _ ?_ ?_).mono ?_); exact H6.out.below (by with_reducible repeat (first | exact Below.refl _ _ | exact HB.out | apply below_drew1 | apply below_alloc)); exact H7.out.below (by with_reducible repeat (first | exact Below.refl _ _ | exact HB.out | apply below_drew1 | apply below_alloc)); rintro e w2 ⟨rfl, hb⟩; rw [hg.out]; have HB' : Aside0 (Below W.heap.size W w2) := ⟨below_step (by with_reducible repeat (first | exact Below.refl _ _ | exact HB.out | apply below_drew1 | apply below_alloc)) hb⟩; have BX' : Aside0 (w2.heap[W.heap.size]? = some (.cells #[.int .i64 c.th, .int .i64 c.st, .int .i64 c.ga, .int .i64 c.le, .int .i64 c.re, .int .i64 c.ti, .slice A6 n6 d6, .slice A7 n7 d7] 24 (0, 0))) := ⟨blk_below (g := W.heap.size) (by with_reducible repeat (first | exact BX.out | exact blk_new _ _ | refine blk_alloc ?_ _ | refine blk_drew ?_)) hb⟩; clear z0 z1 z2 z3 z4 z5 z6 z7 HB BX; have HB := HB'; have BX := BX'; clear HB' BX' hb; obtain ⟨z0, z1, z2, z3, z4, z5, z6, z7⟩ := box8 BX.out) | (go_at_call 9; (with_reducible refine (K_head19 _).mono ?_); rintro e w1 ⟨rfl, hb⟩; have HB' : Aside0 (Below W.heap.size W w1) := ⟨below_step (by with_reducible repeat (first | exact Below.refl _ _ | exact HB.out | apply below_drew1 | apply below_alloc)) hb⟩; have BX' : Aside0 (w1.heap[W.heap.size]? = some (.cells #[.int .i64 c.th, .int .i64 c.st, .int .i64 c.ga, .int .i64 c.le, .int .i64 c.re, .int .i64 c.ti, .slice A6 n6 d6, .slice A7 n7 d7] 24 (0, 0))) := ⟨blk_below (g := W.heap.size) (by with_reducible repeat (first | exact BX.out | exact blk_new _ _ | refine blk_alloc ?_ _ | refine blk_drew ?_)) hb⟩; have HB := HB'; have BX := BX'; clear HB' BX' hb; obtain ⟨z0, z1, z2, z3, z4, z5, z6, z7⟩ := box8 BX.out))
    go_ret
    exact ⟨rfl, (by with_reducible repeat (first | exact Below.refl _ _ | exact HB.out | apply below_drew1 | apply below_alloc))⟩
  have hg : Aside0 (decide (c.ps.length > 100 ∨ c.ls.length > 100) = false) := ⟨decide_eq_false hG⟩
  clear hG
  by_cases hRc : Right c
  rotate_left
  · have hr : Aside0 (decide (Right c) = false) := ⟨decide_eq_false hRc⟩
    clear hRc
    go_enter Tryz.func6, Tryz.ntmps6
    go_wp2_with (first | (go_at_call 11; (with_reducible refine (K_ref_right c _ _ _ ?_ ?_).mono ?_); exact H6.out.below (by with_reducible repeat (first | exact Below.refl _ _ | exact HB.out | apply below_drew1 | apply below_alloc)); exact H7.out.below (by with_reducible repeat (first | exact Below.refl _ _ | exact HB.out | apply below_drew1 | apply below_alloc)); rintro e w3 ⟨rfl, hb⟩; rw [hr.out]; have HB' : Aside0 (Below W.heap.size W w3) := ⟨below_step (by with_reducible repeat (first | exact Below.refl _ _ | exact HB.out | apply below_drew1 | apply below_alloc)) hb⟩; have BX' : Aside0 (w3.heap[W.heap.size]? = some (.cells #[.int .i64 c.th, .int .i64 c.st, .int .i64 c.ga, .int .i64 c.le, .int .i64 c.re, .int .i64 c.ti, .slice A6 n6 d6, .slice A7 n7 d7] 24 (0, 0))) := ⟨blk_below (g := W.heap.size) (by with_reducible repeat (first | exact BX.out | exact blk_new _ _ | refine blk_alloc ?_ _ | refine blk_drew ?_)) hb⟩; clear z0 z1 z2 z3 z4 z5 z6 z7 HB BX; have HB := HB'; have BX := BX'; clear HB' BX' hb; obtain ⟨z0, z1, z2, z3, z4, z5, z6, z7⟩ := box8 BX.out) | (go_at_call 10; (with_reducible refine (K_great c _ _ _ ?_ ?_).mono ?_); exact H6.out.below (by with_reducible repeat (first | exact Below.refl _ _ | exact HB.out | apply below_drew1 | apply below_alloc)); exact H7.out.below (by with_reducible repeat (first | exact Below.refl _ _ | exact HB.out | apply below_drew1 | apply below_alloc)); rintro e w2 ⟨rfl, hb⟩; rw [hg.out]; have HB' : Aside0 (Below W.heap.size W w2) := ⟨below_step (by with_reducible repeat (first | exact Below.refl _ _ | exact HB.out | apply below_drew1 | apply below_alloc)) hb⟩; have BX' : Aside0 (w2.heap[W.heap.size]? = some (.cells #[.int .i64 c.th, .int .i64 c.st, .int .i64 c.ga, .int .i64 c.le, .int .i64 c.re, .int .i64 c.ti, .slice A6 n6 d6, .slice A7 n7 d7] 24 (0, 0))) := ⟨blk_below (g := W.heap.size) (by with_reducible repeat (first | exact BX.out | exact blk_new _ _ | refine blk_alloc ?_ _ | refine blk_drew ?_)) hb⟩; clear z0 z1 z2 z3 z4 z5 z6 z7 HB BX; have HB := HB'; have BX := BX'; clear HB' BX' hb; obtain ⟨z0, z1, z2, z3, z4, z5, z6, z7⟩ := box8 BX.out) | (go_at_call 9; (with_reducible refine (K_head19 _).mono ?_); rintro e w1 ⟨rfl, hb⟩; have HB' : Aside0 (Below W.heap.size W w1) := ⟨below_step (by with_reducible repeat (first | exact Below.refl _ _ | exact HB.out | apply below_drew1 | apply below_alloc)) hb⟩; have BX' : Aside0 (w1.heap[W.heap.size]? = some (.cells #[.int .i64 c.th, .int .i64 c.st, .int .i64 c.ga, .int .i64 c.le, .int .i64 c.re, .int .i64 c.ti, .slice A6 n6 d6, .slice A7 n7 d7] 24 (0, 0))) := ⟨blk_below (g := W.heap.size) (by with_reducible repeat (first | exact BX.out | exact blk_new _ _ | refine blk_alloc ?_ _ | refine blk_drew ?_)) hb⟩; have HB := HB'; have BX := BX'; clear HB' BX' hb; obtain ⟨z0, z1, z2, z3, z4, z5, z6, z7⟩ := box8 BX.out))
    go_ret
    exact ⟨rfl, (by with_reducible repeat (first | exact Below.refl _ _ | exact HB.out | apply below_drew1 | apply below_alloc))⟩
  have hr : Aside0 (decide (Right c) = true) := ⟨decide_eq_true hRc⟩
  have HR := Aside0.mk hRc
  clear hRc
  by_cases hLn : (n : Int) > 100
  · have en : decide ((100 : Int) < (n : Int)) = true := decide_eq_true (by omega)
    clear hLn
    go_enter Tryz.func6, Tryz.ntmps6
    go_wp2_with (first | (go_at_call 11; (with_reducible refine (K_ref_right c _ _ _ ?_ ?_).mono ?_); exact H6.out.below (by with_reducible repeat (first | exact Below.refl _ _ | exact HB.out | apply below_drew1 | apply below_alloc)); exact H7.out.below (by with_reducible repeat (first | exact Below.refl _ _ | exact HB.out | apply below_drew1 | apply below_alloc)); rintro e w3 ⟨rfl, hb⟩; rw [hr.out]; have HB' : Aside0 (Below W.heap.size W w3) := ⟨below_step (by with_reducible repeat (first | exact Below.refl _ _ | exact HB.out | apply below_drew1 | apply below_alloc)) hb⟩; have BX' : Aside0 (w3.heap[W.heap.size]? = some (.cells #[.int .i64 c.th, .int .i64 c.st, .int .i64 c.ga, .int .i64 c.le, .int .i64 c.re, .int .i64 c.ti, .slice A6 n6 d6, .slice A7 n7 d7] 24 (0, 0))) := ⟨blk_below (g := W.heap.size) (by with_reducible repeat (first | exact BX.out | exact blk_new _ _ | refine blk_alloc ?_ _ | refine blk_drew ?_)) hb⟩; clear z0 z1 z2 z3 z4 z5 z6 z7 HB BX; have HB := HB'; have BX := BX'; clear HB' BX' hb; obtain ⟨z0, z1, z2, z3, z4, z5, z6, z7⟩ := box8 BX.out) | (go_at_call 10; (with_reducible refine (K_great c _ _ _ ?_ ?_).mono ?_); exact H6.out.below (by with_reducible repeat (first | exact Below.refl _ _ | exact HB.out | apply below_drew1 | apply below_alloc)); exact H7.out.below (by with_reducible repeat (first | exact Below.refl _ _ | exact HB.out | apply below_drew1 | apply below_alloc)); rintro e w2 ⟨rfl, hb⟩; rw [hg.out]; have HB' : Aside0 (Below W.heap.size W w2) := ⟨below_step (by with_reducible repeat (first | exact Below.refl _ _ | exact HB.out | apply below_drew1 | apply below_alloc)) hb⟩; have BX' : Aside0 (w2.heap[W.heap.size]? = some (.cells #[.int .i64 c.th, .int .i64 c.st, .int .i64 c.ga, .int .i64 c.le, .int .i64 c.re, .int .i64 c.ti, .slice A6 n6 d6, .slice A7 n7 d7] 24 (0, 0))) := ⟨blk_below (g := W.heap.size) (by with_reducible repeat (first | exact BX.out | exact blk_new _ _ | refine blk_alloc ?_ _ | refine blk_drew ?_)) hb⟩; clear z0 z1 z2 z3 z4 z5 z6 z7 HB BX; have HB := HB'; have BX := BX'; clear HB' BX' hb; obtain ⟨z0, z1, z2, z3, z4, z5, z6, z7⟩ := box8 BX.out) | (go_at_call 9; (with_reducible refine (K_head19 _).mono ?_); rintro e w1 ⟨rfl, hb⟩; have HB' : Aside0 (Below W.heap.size W w1) := ⟨below_step (by with_reducible repeat (first | exact Below.refl _ _ | exact HB.out | apply below_drew1 | apply below_alloc)) hb⟩; have BX' : Aside0 (w1.heap[W.heap.size]? = some (.cells #[.int .i64 c.th, .int .i64 c.st, .int .i64 c.ga, .int .i64 c.le, .int .i64 c.re, .int .i64 c.ti, .slice A6 n6 d6, .slice A7 n7 d7] 24 (0, 0))) := ⟨blk_below (g := W.heap.size) (by with_reducible repeat (first | exact BX.out | exact blk_new _ _ | refine blk_alloc ?_ _ | refine blk_drew ?_)) hb⟩; have HB := HB'; have BX := BX'; clear HB' BX' hb; obtain ⟨z0, z1, z2, z3, z4, z5, z6, z7⟩ := box8 BX.out))
    go_ret
    exact ⟨rfl, (by with_reducible repeat (first | exact Below.refl _ _ | exact HB.out | apply below_drew1 | apply below_alloc))⟩
  have en : decide ((100 : Int) < (n : Int)) = false := decide_eq_false (by omega)
  have HLn : Aside0 (n ≤ 100) := ⟨by omega⟩
  clear hLn
  by_cases hLn1 : (n1 : Int) > 1000
  · have en1 : decide ((1000 : Int) < (n1 : Int)) = true := decide_eq_true (by omega)
    clear hLn1
    go_enter Tryz.func6, Tryz.ntmps6
    go_wp2_with (first | (go_at_call 11; (with_reducible refine (K_ref_right c _ _ _ ?_ ?_).mono ?_); exact H6.out.below (by with_reducible repeat (first | exact Below.refl _ _ | exact HB.out | apply below_drew1 | apply below_alloc)); exact H7.out.below (by with_reducible repeat (first | exact Below.refl _ _ | exact HB.out | apply below_drew1 | apply below_alloc)); rintro e w3 ⟨rfl, hb⟩; rw [hr.out]; have HB' : Aside0 (Below W.heap.size W w3) := ⟨below_step (by with_reducible repeat (first | exact Below.refl _ _ | exact HB.out | apply below_drew1 | apply below_alloc)) hb⟩; have BX' : Aside0 (w3.heap[W.heap.size]? = some (.cells #[.int .i64 c.th, .int .i64 c.st, .int .i64 c.ga, .int .i64 c.le, .int .i64 c.re, .int .i64 c.ti, .slice A6 n6 d6, .slice A7 n7 d7] 24 (0, 0))) := ⟨blk_below (g := W.heap.size) (by with_reducible repeat (first | exact BX.out | exact blk_new _ _ | refine blk_alloc ?_ _ | refine blk_drew ?_)) hb⟩; clear z0 z1 z2 z3 z4 z5 z6 z7 HB BX; have HB := HB'; have BX := BX'; clear HB' BX' hb; obtain ⟨z0, z1, z2, z3, z4, z5, z6, z7⟩ := box8 BX.out) | (go_at_call 10; (with_reducible refine (K_great c _ _ _ ?_ ?_).mono ?_); exact H6.out.below (by with_reducible repeat (first | exact Below.refl _ _ | exact HB.out | apply below_drew1 | apply below_alloc)); exact H7.out.below (by with_reducible repeat (first | exact Below.refl _ _ | exact HB.out | apply below_drew1 | apply below_alloc)); rintro e w2 ⟨rfl, hb⟩; rw [hg.out]; have HB' : Aside0 (Below W.heap.size W w2) := ⟨below_step (by with_reducible repeat (first | exact Below.refl _ _ | exact HB.out | apply below_drew1 | apply below_alloc)) hb⟩; have BX' : Aside0 (w2.heap[W.heap.size]? = some (.cells #[.int .i64 c.th, .int .i64 c.st, .int .i64 c.ga, .int .i64 c.le, .int .i64 c.re, .int .i64 c.ti, .slice A6 n6 d6, .slice A7 n7 d7] 24 (0, 0))) := ⟨blk_below (g := W.heap.size) (by with_reducible repeat (first | exact BX.out | exact blk_new _ _ | refine blk_alloc ?_ _ | refine blk_drew ?_)) hb⟩; clear z0 z1 z2 z3 z4 z5 z6 z7 HB BX; have HB := HB'; have BX := BX'; clear HB' BX' hb; obtain ⟨z0, z1, z2, z3, z4, z5, z6, z7⟩ := box8 BX.out) | (go_at_call 9; (with_reducible refine (K_head19 _).mono ?_); rintro e w1 ⟨rfl, hb⟩; have HB' : Aside0 (Below W.heap.size W w1) := ⟨below_step (by with_reducible repeat (first | exact Below.refl _ _ | exact HB.out | apply below_drew1 | apply below_alloc)) hb⟩; have BX' : Aside0 (w1.heap[W.heap.size]? = some (.cells #[.int .i64 c.th, .int .i64 c.st, .int .i64 c.ga, .int .i64 c.le, .int .i64 c.re, .int .i64 c.ti, .slice A6 n6 d6, .slice A7 n7 d7] 24 (0, 0))) := ⟨blk_below (g := W.heap.size) (by with_reducible repeat (first | exact BX.out | exact blk_new _ _ | refine blk_alloc ?_ _ | refine blk_drew ?_)) hb⟩; have HB := HB'; have BX := BX'; clear HB' BX' hb; obtain ⟨z0, z1, z2, z3, z4, z5, z6, z7⟩ := box8 BX.out))
    go_ret
    exact ⟨rfl, (by with_reducible repeat (first | exact Below.refl _ _ | exact HB.out | apply below_drew1 | apply below_alloc))⟩
  have en1 : decide ((1000 : Int) < (n1 : Int)) = false := decide_eq_false (by omega)
  have HLn1 : Aside0 (n1 ≤ 1000) := ⟨by omega⟩
  clear hLn1
  go_enter Tryz.func6, Tryz.ntmps6
  go_wp2_with (first | (go_at_call 12; (with_reducible refine (K_Raw _ c HR.out.cb _ _ _ _ _ _ _ _ _ l ?_ ?_ ?_ ?_).mono ?_); exact H6.out.below (by with_reducible repeat (first | exact Below.refl _ _ | exact HB.out | apply below_drew1 | apply below_alloc)); exact H7.out.below (by with_reducible repeat (first | exact Below.refl _ _ | exact HB.out | apply below_drew1 | apply below_alloc)); exact HL.out.below (by with_reducible repeat (first | exact Below.refl _ _ | exact HB.out | apply below_drew1 | apply below_alloc)); (have h1 := HLn.out; have h2 := hln.out; omega); rintro e w4 ⟨g, cap, rfl, ho, hb⟩; have HO : Aside0 (OW (W.heap.size + 1) w4 g (aSz c).toNat cap (rawN l (freshW c) (min l.length (freshW c).length))) := ⟨OW.lower ho (blk_lt (by with_reducible repeat (first | exact BX.out | exact blk_new _ _ | refine blk_alloc ?_ _ | refine blk_drew ?_)))⟩; clear ho; have HB' : Aside0 (Below W.heap.size W w4) := ⟨below_step (by with_reducible repeat (first | exact Below.refl _ _ | exact HB.out | apply below_drew1 | apply below_alloc)) hb⟩; have BX' : Aside0 (w4.heap[W.heap.size]? = some (.cells #[.int .i64 c.th, .int .i64 c.st, .int .i64 c.ga, .int .i64 c.le, .int .i64 c.re, .int .i64 c.ti, .slice A6 n6 d6, .slice A7 n7 d7] 24 (0, 0))) := ⟨blk_below (g := W.heap.size) (by with_reducible repeat (first | exact BX.out | exact blk_new _ _ | refine blk_alloc ?_ _ | refine blk_drew ?_)) hb⟩; clear z0 z1 z2 z3 z4 z5 z6 z7 HB BX; have HB := HB'; have BX := BX'; clear HB' BX' hb; obtain ⟨z0, z1, z2, z3, z4, z5, z6, z7⟩ := box8 BX.out) | (go_at_call 11; (with_reducible refine (K_ref_right c _ _ _ ?_ ?_).mono ?_); exact H6.out.below (by with_reducible repeat (first | exact Below.refl _ _ | exact HB.out | apply below_drew1 | apply below_alloc)); exact H7.out.below (by with_reducible repeat (first | exact Below.refl _ _ | exact HB.out | apply below_drew1 | apply below_alloc)); rintro e w3 ⟨rfl, hb⟩; rw [hr.out]; have HB' : Aside0 (Below W.heap.size W w3) := ⟨below_step (by with_reducible repeat (first | exact Below.refl _ _ | exact HB.out | apply below_drew1 | apply below_alloc)) hb⟩; have BX' : Aside0 (w3.heap[W.heap.size]? = some (.cells #[.int .i64 c.th, .int .i64 c.st, .int .i64 c.ga, .int .i64 c.le, .int .i64 c.re, .int .i64 c.ti, .slice A6 n6 d6, .slice A7 n7 d7] 24 (0, 0))) := ⟨blk_below (g := W.heap.size) (by with_reducible repeat (first | exact BX.out | exact blk_new _ _ | refine blk_alloc ?_ _ | refine blk_drew ?_)) hb⟩; clear z0 z1 z2 z3 z4 z5 z6 z7 HB BX; have HB := HB'; have BX := BX'; clear HB' BX' hb; obtain ⟨z0, z1, z2, z3, z4, z5, z6, z7⟩ := box8 BX.out) | (go_at_call 10; (with_reducible refine (K_great c _ _ _ ?_ ?_).mono ?_); exact H6.out.below (by with_reducible repeat (first | exact Below.refl _ _ | exact HB.out | apply below_drew1 | apply below_alloc)); exact H7.out.below (by with_reducible repeat (first | exact Below.refl _ _ | exact HB.out | apply below_drew1 | apply below_alloc)); rintro e w2 ⟨rfl, hb⟩; rw [hg.out]; have HB' : Aside0 (Below W.heap.size W w2) := ⟨below_step (by with_reducible repeat (first | exact Below.refl _ _ | exact HB.out | apply below_drew1 | apply below_alloc)) hb⟩; have BX' : Aside0 (w2.heap[W.heap.size]? = some (.cells #[.int .i64 c.th, .int .i64 c.st, .int .i64 c.ga, .int .i64 c.le, .int .i64 c.re, .int .i64 c.ti, .slice A6 n6 d6, .slice A7 n7 d7] 24 (0, 0))) := ⟨blk_below (g := W.heap.size) (by with_reducible repeat (first | exact BX.out | exact blk_new _ _ | refine blk_alloc ?_ _ | refine blk_drew ?_)) hb⟩; clear z0 z1 z2 z3 z4 z5 z6 z7 HB BX; have HB := HB'; have BX := BX'; clear HB' BX' hb; obtain ⟨z0, z1, z2, z3, z4, z5, z6, z7⟩ := box8 BX.out) | (go_at_call 9; (with_reducible refine (K_head19 _).mono ?_); rintro e w1 ⟨rfl, hb⟩; have HB' : Aside0 (Below W.heap.size W w1) := ⟨below_step (by with_reducible repeat (first | exact Below.refl _ _ | exact HB.out | apply below_drew1 | apply below_alloc)) hb⟩; have BX' : Aside0 (w1.heap[W.heap.size]? = some (.cells #[.int .i64 c.th, .int .i64 c.st, .int .i64 c.ga, .int .i64 c.le, .int .i64 c.re, .int .i64 c.ti, .slice A6 n6 d6, .slice A7 n7 d7] 24 (0, 0))) := ⟨blk_below (g := W.heap.size) (by with_reducible repeat (first | exact BX.out | exact blk_new _ _ | refine blk_alloc ?_ _ | refine blk_drew ?_)) hb⟩; have HB := HB'; have BX := BX'; clear HB' BX' hb; obtain ⟨z0, z1, z2, z3, z4, z5, z6, z7⟩ := box8 BX.out))
  obtain ⟨a0, ha0⟩ : ∃ a0, rawN l (freshW c) (min l.length (freshW c).length) = a0 := ⟨_, rfl⟩
  obtain ⟨sz, hsz⟩ : ∃ sz : Nat, (aSz c).toNat = sz := ⟨_, rfl⟩
  have HSZ : Aside0 (a0.length = sz ∧ sz ≤ 100000) := ⟨by rw [← ha0, rawN_len, freshW_len, ← hsz]; have := aSz_bound c HR.out.cb; exact ⟨rfl, by omega⟩⟩
  have HSZ2 : Aside0 (sz = (aSz c).toNat) := ⟨hsz.symm⟩
  rw [ha0, hsz] at HO
  rw [hsz]
  clear ha0 hsz
  go_loopg [9] sz (fun gg s9 wr => ∃ kk : Nat, kk ≤ l1.length ∧ kk ≤ sz ∧ sz - kk ≤ gg ∧ s9 = .int .i64 kk ∧ Aside0 (Below W.heap.size W wr) ∧ Aside0 (wr.heap[W.heap.size]? = some (.cells #[.int .i64 c.th, .int .i64 c.st, .int .i64 c.ga, .int .i64 c.le, .int .i64 c.re, .int .i64 c.ti, .slice A6 n6 d6, .slice A7 n7 d7] 24 (0, 0))) ∧ Aside0 (OW (W.heap.size + 1) wr g sz cap (mixL l1 a0 kk)))
  case atStart => exact ⟨0, Nat.zero_le _, Nat.zero_le _, by omega, rfl, HB, BX, HO⟩
  case round =>
    obtain ⟨kk, hkl, hkz, hg', rfl, BW, BY, BO⟩ := hrel
    clear HB BX HO z0 z1 z2 z3 z4 z5 z6 z7
    by_cases h1 : kk < l1.length ∧ kk < sz
    · have hz := HSZ.out
      have t1 : decide ((kk : Int) < (n1 : Int)) = true := decide_eq_true (by have := hn1.out; omega)
      have t2 : decide ((kk : Int) < (sz : Int)) = true := decide_eq_true (by omega)
      have k0 : (0 : Int) ≤ (kk : Int) := by omega
      have k1 : (kk : Int) < (n1 : Int) := by have := hn1.out; omega
      have k2 : (kk : Int) < (sz : Int) := by omega
      obtain ⟨ad, rfl, y0⟩ := (HL1.out.below BW.out).get kk h1.1
      have HJ := Aside0.mk (OW.cell BO.out kk (by rw [mixL_len, hz.1]; omega))
      have f0 := HJ.out.2
      have c0 := HJ.out.1
      have hgg := Aside0.mk hg'
      clear hz hg'
      by_cases hv : rd l1 (kk : Int) = 0
      · have HV := Aside0.mk hv
        rw [hv] at y0
        clear hv
        go_wp2_with (fail)
        go_roundg (sz - (kk + 1))
        case measure => have := hgg.out; omega
        case rel => exact ⟨kk + 1, by omega, by omega, by omega, congrArg (Value.int .i64) (by have := HSZ.out; rw [w64 (by omega) (by omega)]; omega), BW, BY, ⟨by rw [mixL, if_pos HV.out]; exact BO.out⟩⟩
      · have HV := Aside0.mk hv
        have v1 : (rd l1 (kk : Int) == 0) = false := by simpa using hv
        have v2 : (rd l1 (kk : Int) != 0) = true := by simpa using hv
        have v3 : decide (rd l1 (kk : Int) = 0) = false := decide_eq_false hv
        clear hv
        go_wp2_with (fail)
        go_roundg (sz - (kk + 1))
        case measure => have := hgg.out; omega
        case rel => exact ⟨kk + 1, by omega, by omega, by omega, congrArg (Value.int .i64) (by have := HSZ.out; rw [w64 (by omega) (by omega)]; omega), ⟨BW.out.setCell (p := ⟨g, kk, none⟩) (by have := BO.out.ge; show W.heap.size ≤ g; omega) _⟩, ⟨(Below.heap_setCell _ _ _ _ (by have := BO.out.ge; show W.heap.size ≠ g; omega)).trans BY.out⟩, ⟨by rw [mixL, if_neg HV.out]; exact BO.out.put kk _⟩⟩
    · have HWL : Aside0 (WL c (mixL l1 a0 kk)) := ⟨WL.of HR.out.cb (by rw [mixL_len, HSZ.out.1, HSZ2.out])⟩
      obtain ⟨aa, haa⟩ : ∃ aa, mixL l1 a0 kk = aa := ⟨_, rfl⟩
      rw [haa] at HWL BO
      clear haa
      have HAw : Aside0 (IsInts wr (.slice (some ⟨g, 0, none⟩) sz cap) aa) := ⟨BO.out.ints⟩
      have H6w : Aside0 (IsInts wr (.slice A6 n6 d6) c.ps) := ⟨H6.out.below BW.out⟩
      have H7w : Aside0 (IsInts wr (.slice A7 n7 d7) c.ls) := ⟨H7.out.below BW.out⟩
      obtain ⟨z0, z1, z2, z3, z4, z5, z6, z7⟩ := box8 BY.out
      have HB : Aside0 (Below wr.heap.size wr wr) := ⟨Below.refl _ _⟩
      have BX := BY
      have hx : (kk : Int) < (n1 : Int) ∧ (sz : Int) ≤ (kk : Int) ∨ (n1 : Int) ≤ (kk : Int) := by have := hn1.out; omega
      clear hg' h1
      rcases hx with ⟨x1, x2⟩ | x1
      · have t1 : decide ((kk : Int) < (n1 : Int)) = true := decide_eq_true x1
        have t2 : decide ((kk : Int) < (sz : Int)) = false := decide_eq_false (by omega)
        have e6 := H6.out.len
        have hs := safeP_bound c aa
        have hq := quietP_bound c aa
        have hn := HR.out.cb.2.1
        have s1 : decide (-1 ≤ safeP c aa) = true := decide_eq_true hs.1
        have s2 : decide (safeP c aa < (n6 : Int)) = true := decide_eq_true (by omega)
        have q1 : decide (-1 ≤ quietP c aa) = true := decide_eq_true hq.1
        have q2 : decide (quietP c aa < (n6 : Int)) = true := decide_eq_true (by omega)
        clear e6 hs hq hn
        by_cases hs0 : safeP c aa < 0
        · have s3 : decide (safeP c aa < 0) = true := decide_eq_true hs0
          clear hs0
          go_wp2_with (first | (go_at_call 15; (with_reducible refine (K_aQuiet _ c HR.out _ _ _ aa HWL.out ?_ ?_ ?_).mono ?_); exact H6w.out.below (by with_reducible repeat (first | exact Below.refl _ _ | exact HB.out | apply below_drew1 | apply below_alloc)); exact H7w.out.below (by with_reducible repeat (first | exact Below.refl _ _ | exact HB.out | apply below_drew1 | apply below_alloc)); exact HAw.out.below (by with_reducible repeat (first | exact Below.refl _ _ | exact HB.out | apply below_drew1 | apply below_alloc)); rintro e wb ⟨rfl, hb⟩; have HB' : Aside0 (Below wr.heap.size wr wb) := ⟨below_step (by with_reducible repeat (first | exact Below.refl _ _ | exact HB.out | apply below_drew1 | apply below_alloc)) hb⟩; have BX' : Aside0 (wb.heap[W.heap.size]? = some (.cells #[.int .i64 c.th, .int .i64 c.st, .int .i64 c.ga, .int .i64 c.le, .int .i64 c.re, .int .i64 c.ti, .slice A6 n6 d6, .slice A7 n7 d7] 24 (0, 0))) := ⟨blk_below (g := W.heap.size) (by with_reducible repeat (first | exact BX.out | exact blk_new _ _ | refine blk_alloc ?_ _ | refine blk_drew ?_)) hb⟩; clear z0 z1 z2 z3 z4 z5 z6 z7 HB BX; have HB := HB'; have BX := BX'; clear HB' BX' hb; obtain ⟨z0, z1, z2, z3, z4, z5, z6, z7⟩ := box8 BX.out) | (go_at_call 13; (with_reducible refine (K_aSafe _ c HR.out _ _ _ aa HWL.out ?_ ?_ ?_).mono ?_); exact H6w.out.below (by with_reducible repeat (first | exact Below.refl _ _ | exact HB.out | apply below_drew1 | apply below_alloc)); exact H7w.out.below (by with_reducible repeat (first | exact Below.refl _ _ | exact HB.out | apply below_drew1 | apply below_alloc)); exact HAw.out.below (by with_reducible repeat (first | exact Below.refl _ _ | exact HB.out | apply below_drew1 | apply below_alloc)); rintro e wa ⟨rfl, hb⟩; have HB' : Aside0 (Below wr.heap.size wr wa) := ⟨below_step (by with_reducible repeat (first | exact Below.refl _ _ | exact HB.out | apply below_drew1 | apply below_alloc)) hb⟩; have BX' : Aside0 (wa.heap[W.heap.size]? = some (.cells #[.int .i64 c.th, .int .i64 c.st, .int .i64 c.ga, .int .i64 c.le, .int .i64 c.re, .int .i64 c.ti, .slice A6 n6 d6, .slice A7 n7 d7] 24 (0, 0))) := ⟨blk_below (g := W.heap.size) (by with_reducible repeat (first | exact BX.out | exact blk_new _ _ | refine blk_alloc ?_ _ | refine blk_drew ?_)) hb⟩; clear z0 z1 z2 z3 z4 z5 z6 z7 HB BX; have HB := HB'; have BX := BX'; clear HB' BX' hb; obtain ⟨z0, z1, z2, z3, z4, z5, z6, z7⟩ := box8 BX.out))
          go_ret
          exact ⟨rfl, (by with_reducible repeat (first | exact below_step BW.out HB.out | apply below_drew1 | apply below_alloc))⟩
        · have s3 : decide (safeP c aa < 0) = false := decide_eq_false hs0
          have s4 : (quietP c aa == safeP c aa) = true := by rw [quietP_safe c aa hs0]; exact beq_self_eq_true _
          clear hs0
          go_wp2_with (first | (go_at_call 15; (with_reducible refine (K_aQuiet _ c HR.out _ _ _ aa HWL.out ?_ ?_ ?_).mono ?_); exact H6w.out.below (by with_reducible repeat (first | exact Below.refl _ _ | exact HB.out | apply below_drew1 | apply below_alloc)); exact H7w.out.below (by with_reducible repeat (first | exact Below.refl _ _ | exact HB.out | apply below_drew1 | apply below_alloc)); exact HAw.out.below (by with_reducible repeat (first | exact Below.refl _ _ | exact HB.out | apply below_drew1 | apply below_alloc)); rintro e wb ⟨rfl, hb⟩; have HB' : Aside0 (Below wr.heap.size wr wb) := ⟨below_step (by with_reducible repeat (first | exact Below.refl _ _ | exact HB.out | apply below_drew1 | apply below_alloc)) hb⟩; have BX' : Aside0 (wb.heap[W.heap.size]? = some (.cells #[.int .i64 c.th, .int .i64 c.st, .int .i64 c.ga, .int .i64 c.le, .int .i64 c.re, .int .i64 c.ti, .slice A6 n6 d6, .slice A7 n7 d7] 24 (0, 0))) := ⟨blk_below (g := W.heap.size) (by with_reducible repeat (first | exact BX.out | exact blk_new _ _ | refine blk_alloc ?_ _ | refine blk_drew ?_)) hb⟩; clear z0 z1 z2 z3 z4 z5 z6 z7 HB BX; have HB := HB'; have BX := BX'; clear HB' BX' hb; obtain ⟨z0, z1, z2, z3, z4, z5, z6, z7⟩ := box8 BX.out) | (go_at_call 13; (with_reducible refine (K_aSafe _ c HR.out _ _ _ aa HWL.out ?_ ?_ ?_).mono ?_); exact H6w.out.below (by with_reducible repeat (first | exact Below.refl _ _ | exact HB.out | apply below_drew1 | apply below_alloc)); exact H7w.out.below (by with_reducible repeat (first | exact Below.refl _ _ | exact HB.out | apply below_drew1 | apply below_alloc)); exact HAw.out.below (by with_reducible repeat (first | exact Below.refl _ _ | exact HB.out | apply below_drew1 | apply below_alloc)); rintro e wa ⟨rfl, hb⟩; have HB' : Aside0 (Below wr.heap.size wr wa) := ⟨below_step (by with_reducible repeat (first | exact Below.refl _ _ | exact HB.out | apply below_drew1 | apply below_alloc)) hb⟩; have BX' : Aside0 (wa.heap[W.heap.size]? = some (.cells #[.int .i64 c.th, .int .i64 c.st, .int .i64 c.ga, .int .i64 c.le, .int .i64 c.re, .int .i64 c.ti, .slice A6 n6 d6, .slice A7 n7 d7] 24 (0, 0))) := ⟨blk_below (g := W.heap.size) (by with_reducible repeat (first | exact BX.out | exact blk_new _ _ | refine blk_alloc ?_ _ | refine blk_drew ?_)) hb⟩; clear z0 z1 z2 z3 z4 z5 z6 z7 HB BX; have HB := HB'; have BX := BX'; clear HB' BX' hb; obtain ⟨z0, z1, z2, z3, z4, z5, z6, z7⟩ := box8 BX.out))
          go_ret
          exact ⟨rfl, (by with_reducible repeat (first | exact below_step BW.out HB.out | apply below_drew1 | apply below_alloc))⟩
      · have t1 : decide ((kk : Int) < (n1 : Int)) = false := decide_eq_false (by omega)
        have e6 := H6.out.len
        have hs := safeP_bound c aa
        have hq := quietP_bound c aa
        have hn := HR.out.cb.2.1
        have s1 : decide (-1 ≤ safeP c aa) = true := decide_eq_true hs.1
        have s2 : decide (safeP c aa < (n6 : Int)) = true := decide_eq_true (by omega)
        have q1 : decide (-1 ≤ quietP c aa) = true := decide_eq_true hq.1
        have q2 : decide (quietP c aa < (n6 : Int)) = true := decide_eq_true (by omega)
        clear e6 hs hq hn
        by_cases hs0 : safeP c aa < 0
        · have s3 : decide (safeP c aa < 0) = true := decide_eq_true hs0
          clear hs0
          go_wp2_with (first | (go_at_call 15; (with_reducible refine (K_aQuiet _ c HR.out _ _ _ aa HWL.out ?_ ?_ ?_).mono ?_); exact H6w.out.below (by with_reducible repeat (first | exact Below.refl _ _ | exact HB.out | apply below_drew1 | apply below_alloc)); exact H7w.out.below (by with_reducible repeat (first | exact Below.refl _ _ | exact HB.out | apply below_drew1 | apply below_alloc)); exact HAw.out.below (by with_reducible repeat (first | exact Below.refl _ _ | exact HB.out | apply below_drew1 | apply below_alloc)); rintro e wb ⟨rfl, hb⟩; have HB' : Aside0 (Below wr.heap.size wr wb) := ⟨below_step (by with_reducible repeat (first | exact Below.refl _ _ | exact HB.out | apply below_drew1 | apply below_alloc)) hb⟩; have BX' : Aside0 (wb.heap[W.heap.size]? = some (.cells #[.int .i64 c.th, .int .i64 c.st, .int .i64 c.ga, .int .i64 c.le, .int .i64 c.re, .int .i64 c.ti, .slice A6 n6 d6, .slice A7 n7 d7] 24 (0, 0))) := ⟨blk_below (g := W.heap.size) (by with_reducible repeat (first | exact BX.out | exact blk_new _ _ | refine blk_alloc ?_ _ | refine blk_drew ?_)) hb⟩; clear z0 z1 z2 z3 z4 z5 z6 z7 HB BX; have HB := HB'; have BX := BX'; clear HB' BX' hb; obtain ⟨z0, z1, z2, z3, z4, z5, z6, z7⟩ := box8 BX.out) | (go_at_call 13; (with_reducible refine (K_aSafe _ c HR.out _ _ _ aa HWL.out ?_ ?_ ?_).mono ?_); exact H6w.out.below (by with_reducible repeat (first | exact Below.refl _ _ | exact HB.out | apply below_drew1 | apply below_alloc)); exact H7w.out.below (by with_reducible repeat (first | exact Below.refl _ _ | exact HB.out | apply below_drew1 | apply below_alloc)); exact HAw.out.below (by with_reducible repeat (first | exact Below.refl _ _ | exact HB.out | apply below_drew1 | apply below_alloc)); rintro e wa ⟨rfl, hb⟩; have HB' : Aside0 (Below wr.heap.size wr wa) := ⟨below_step (by with_reducible repeat (first | exact Below.refl _ _ | exact HB.out | apply below_drew1 | apply below_alloc)) hb⟩; have BX' : Aside0 (wa.heap[W.heap.size]? = some (.cells #[.int .i64 c.th, .int .i64 c.st, .int .i64 c.ga, .int .i64 c.le, .int .i64 c.re, .int .i64 c.ti, .slice A6 n6 d6, .slice A7 n7 d7] 24 (0, 0))) := ⟨blk_below (g := W.heap.size) (by with_reducible repeat (first | exact BX.out | exact blk_new _ _ | refine blk_alloc ?_ _ | refine blk_drew ?_)) hb⟩; clear z0 z1 z2 z3 z4 z5 z6 z7 HB BX; have HB := HB'; have BX := BX'; clear HB' BX' hb; obtain ⟨z0, z1, z2, z3, z4, z5, z6, z7⟩ := box8 BX.out))
          go_ret
          exact ⟨rfl, (by with_reducible repeat (first | exact below_step BW.out HB.out | apply below_drew1 | apply below_alloc))⟩
        · have s3 : decide (safeP c aa < 0) = false := decide_eq_false hs0
          have s4 : (quietP c aa == safeP c aa) = true := by rw [quietP_safe c aa hs0]; exact beq_self_eq_true _
          clear hs0
          go_wp2_with (first | (go_at_call 15; (with_reducible refine (K_aQuiet _ c HR.out _ _ _ aa HWL.out ?_ ?_ ?_).mono ?_); exact H6w.out.below (by with_reducible repeat (first | exact Below.refl _ _ | exact HB.out | apply below_drew1 | apply below_alloc)); exact H7w.out.below (by with_reducible repeat (first | exact Below.refl _ _ | exact HB.out | apply below_drew1 | apply below_alloc)); exact HAw.out.below (by with_reducible repeat (first | exact Below.refl _ _ | exact HB.out | apply below_drew1 | apply below_alloc)); rintro e wb ⟨rfl, hb⟩; have HB' : Aside0 (Below wr.heap.size wr wb) := ⟨below_step (by with_reducible repeat (first | exact Below.refl _ _ | exact HB.out | apply below_drew1 | apply below_alloc)) hb⟩; have BX' : Aside0 (wb.heap[W.heap.size]? = some (.cells #[.int .i64 c.th, .int .i64 c.st, .int .i64 c.ga, .int .i64 c.le, .int .i64 c.re, .int .i64 c.ti, .slice A6 n6 d6, .slice A7 n7 d7] 24 (0, 0))) := ⟨blk_below (g := W.heap.size) (by with_reducible repeat (first | exact BX.out | exact blk_new _ _ | refine blk_alloc ?_ _ | refine blk_drew ?_)) hb⟩; clear z0 z1 z2 z3 z4 z5 z6 z7 HB BX; have HB := HB'; have BX := BX'; clear HB' BX' hb; obtain ⟨z0, z1, z2, z3, z4, z5, z6, z7⟩ := box8 BX.out) | (go_at_call 13; (with_reducible refine (K_aSafe _ c HR.out _ _ _ aa HWL.out ?_ ?_ ?_).mono ?_); exact H6w.out.below (by with_reducible repeat (first | exact Below.refl _ _ | exact HB.out | apply below_drew1 | apply below_alloc)); exact H7w.out.below (by with_reducible repeat (first | exact Below.refl _ _ | exact HB.out | apply below_drew1 | apply below_alloc)); exact HAw.out.below (by with_reducible repeat (first | exact Below.refl _ _ | exact HB.out | apply below_drew1 | apply below_alloc)); rintro e wa ⟨rfl, hb⟩; have HB' : Aside0 (Below wr.heap.size wr wa) := ⟨below_step (by with_reducible repeat (first | exact Below.refl _ _ | exact HB.out | apply below_drew1 | apply below_alloc)) hb⟩; have BX' : Aside0 (wa.heap[W.heap.size]? = some (.cells #[.int .i64 c.th, .int .i64 c.st, .int .i64 c.ga, .int .i64 c.le, .int .i64 c.re, .int .i64 c.ti, .slice A6 n6 d6, .slice A7 n7 d7] 24 (0, 0))) := ⟨blk_below (g := W.heap.size) (by with_reducible repeat (first | exact BX.out | exact blk_new _ _ | refine blk_alloc ?_ _ | refine blk_drew ?_)) hb⟩; clear z0 z1 z2 z3 z4 z5 z6 z7 HB BX; have HB := HB'; have BX := BX'; clear HB' BX' hb; obtain ⟨z0, z1, z2, z3, z4, z5, z6, z7⟩ := box8 BX.out))
          go_ret
          exact ⟨rfl, (by with_reducible repeat (first | exact below_step BW.out HB.out | apply below_drew1 | apply below_alloc))⟩
end
end Go.Proofs.YthbaamfdpebocaaGreat.PA
