import Derived.Test.YteaidhoimaphlaaGreatMInv
import Derived.Test.YteaidhoimaphlaaGreatMHead
import Derived.RangeFuncNested
import Derived.RangeFuncBound
import Derived.RangeFuncCalls
import Derived.RangeFuncLeaves
import Derived.RangeFuncBox
import Derived.Shelf.Abstract
import Derived.Shelf.RegionOpen
import Derived.OwnWalkIn
import Derived.TacticsInMore
import Derived.LoopNIn
import Derived.LoopIn
import Derived.Deep.RegionHeld3
import Derived.Deep.RegionLaw
import Derived.Laws.CopyOwn
import Derived.Laws.EntriesVeiled
namespace Go.Proofs.YteaidhoimaphlaaGreat.PM
open Go.RowKit Go.Shelf Go.Proofs.YteaidhoimaphlaaGreatW.PrintWords Go.Proofs.YteaidhoimaphlaaGreatW.PrintLast Go.Proofs.YteaidhoimaphlaaGreatW.PrintMore
attribute [local go_sem] max2_int min2_int max_two min_two max_three min_three max_four min_four
set_option linter.unusedVariables false
set_option linter.unusedSimpArgs false
theorem blk_new1 (W : World) (a b : Obj) : ((W.alloc a).alloc b).heap[W.heap.size + 1]? = some b := by
  have h := World.alloc_heap_new (W.alloc a) b
  have e : (W.alloc a).heap.size = W.heap.size + 1 := by simp
  rw [e] at h
  exact h
/-- two rows of ints of the call's own, apart from one another. -/
def Two (w : World) (base : Nat) (v1 v2 : Value) (xs ys : List Int) : Prop :=
  Kd.R (Kd.int .i64) 3 w base (fun k => some k ≠ v2.ownBlock) v1 xs ∧ Kd.R (Kd.int .i64) 3 w base (fun k => some k ≠ v1.ownBlock) v2 ys
theorem Two.nil (w : World) (base : Nat) : Two w base (.slice none 0 0) (.slice none 0 0) [] [] := ⟨Kd.R_nil _ _ _ _ _, Kd.R_nil _ _ _ _ _⟩
theorem Two.swap {w : World} {base : Nat} {v1 v2 : Value} {xs ys : List Int} (h : Two w base v1 v2 xs ys) : Two w base v2 v1 ys xs := ⟨h.2, h.1⟩
theorem Two.below {w w' : World} {base : Nat} {v1 v2 : Value} {xs ys : List Int} (h : Two w base v1 v2 xs ys) (hb : Below w.heap.size w w') : Two w' base v1 v2 xs ys := ⟨Kd.R_below h.1 hb, Kd.R_below h.2 hb⟩
theorem Two.kb {w w' : World} {base b : Nat} {v1 v2 : Value} {xs ys : List Int} (h : Two w base v1 v2 xs ys) (hk : KB w w' b) (hb : b < base) : Two w' base v1 v2 xs ys := by
  refine ⟨Kd.R_mono (Kd.R_move (Kd.R_bound h.1) fun k hk' => hk.same k hk'.2.2.1 ?_) (fun _ hk => hk.1), Kd.R_mono (Kd.R_move (Kd.R_bound h.2) fun k hk' => hk.same k hk'.2.2.1 ?_) (fun _ hk => hk.1)⟩
  · have := hk'.2.1; omega
  · have := hk'.2.1; omega
theorem Two.fresh {w : World} {base : Nat} {v1 v2 : Value} {xs ys : List Int} (h : Two w base v1 v2 xs ys) : ∀ k, w.heap.size ≤ k → some k ≠ v2.ownBlock := fun k hk e => by
  have := Kd.R_lt h.2 k e.symm
  omega
theorem Two.push {w w1 : World} {base : Nat} {v1 v1' v2 : Value} {xs xs' ys : List Int} (h : Two w base v1 v2 xs ys) (hr : Kd.R (Kd.int .i64) 3 w1 base (fun k => some k ≠ v2.ownBlock) v1' xs') (hg : w.grownBy w1 v1.ownBlock)
    (hat : v1'.ownBlock = v1.ownBlock ∨ ∃ b, v1'.ownBlock = some b ∧ w.heap.size ≤ b) : Two w1 base v1' v2 xs' ys := by
  refine ⟨hr, Kd.R_mono (Kd.R_grown (Kd.R_bound h.2) hg (fun k hk => hk.1)) (fun k hk => ?_)⟩
  rcases hat with e | ⟨b, e, hb⟩
  · rw [e]; exact hk.1
  · rw [e]; intro e'; cases e'; have := hk.2.2.1; omega
theorem Two.get {w : World} {base : Nat} {v1 v2 : Value} {xs ys : List Int} (h : Two w base v1 v2 xs ys) : IsInts w v1 xs ∧ IsInts w v2 ys := ⟨.of_R h.1, .of_R h.2⟩
theorem take_rd (l : List Int) (v : Nat) (h : v < l.length) : l.take (v + 1) = l.take v ++ [rd l (v : Int)] := by
  rw [List.take_succ_eq_append_getElem h, rd_lt h]
theorem take_lt (l : List Int) (v : Nat) (h : v < 12) : ((l.take v).length + 1) * 8 ≤ 140737488355328 := by
  have : (l.take v).length ≤ v := List.length_take_le _ _
  omega
theorem rd_take (l : List Int) (n v : Nat) (h : v < n) (hl : v < l.length) : rd (l.take n) (v : Int) = rd l (v : Int) := by
  rw [rd_lt (by simp; omega), rd_lt hl, List.getElem_take]
theorem doM_err {M : ML} (k v n : Int) (h : (doM M k v n).2.err ≠ 0) : (doM M k v n).1.lim = M.lim ∧ (doM M k v n).1.use = M.use ∧ (doM M k v n).2.n = 0 ∧ (doM M k v n).2.ex = false := by
  revert h
  unfold doM
  split
  · exact fun _ => ⟨rfl, rfl, rfl, rfl⟩
  split
  · unfold admitM
    split
    · exact fun _ => ⟨rfl, rfl, rfl, rfl⟩
    · split
      · exact fun _ => ⟨rfl, rfl, rfl, rfl⟩
      · exact fun h => absurd rfl h
  split
  · unfold releaseM
    split
    · exact fun _ => ⟨rfl, rfl, rfl, rfl⟩
    · exact fun h => absurd rfl h
  split
  · split
    · exact fun _ => ⟨rfl, rfl, rfl, rfl⟩
    · exact fun h => absurd rfl h
  split
  · split
    · exact fun _ => ⟨rfl, rfl, rfl, rfl⟩
    · exact fun h => absurd rfl h
  · exact fun h => absurd rfl h
theorem doM_check {M : ML} (k v n : Int) (h : checkE M.c k v n ≠ 0) : (doM M k v n).2 = ⟨checkE M.c k v n, 0, false, 0⟩ := by
  unfold doM
  rw [if_pos h]
theorem ints_at {W : World} {A : Option Addr} {n c : Nat} {xs : List Int} (h : IsInts W (.slice A n c) xs) (k : Nat) (hk : k < xs.length) : n = xs.length ∧ ∃ ad, A = some ad ∧ W.cell? (ad.add k) = some (.int .i64 (rd xs (k : Int))) := by
  obtain ⟨A', c', e, hc, hC⟩ := h
  cases e
  obtain ⟨ad, hA, hcell⟩ := Kd.at_int hC (k : Int) (by omega) (by omega)
  rw [Int.toNat_natCast] at hcell
  exact ⟨rfl, ad, hA, hcell⟩
set_option maxHeartbeats 4000000 in
set_option maxRecDepth 100000 in
theorem W_ModelWrong (c : LConf) (A6 : Option Addr) (n6 d6 : Nat) (A7 : Option Addr) (n7 d7 : Nat) (A : Option Addr) (n d : Nat) (l : List S38) (x : S38) (W : World) (h6 : IsInts W (.slice A6 n6 d6) c.ps) (h7 : IsInts W (.slice A7 n7 d7) c.ls) (hl : IsCalls W (.slice A n d) l) (hx : -9223372036854775808 ≤ x.f2 ∧ x.f2 ≤ 9223372036854775807) :
    Calls Tryz.prog 5 #[.agg #[.int .i64 c.th, .int .i64 c.st, .int .i64 c.ga, .int .i64 c.le, .int .i64 c.re, .int .i64 c.ti, .slice A6 n6 d6, .slice A7 n7 d7], .slice A n d, .agg #[.int .i64 x.f0, .int .i64 x.f1, .int .i64 x.f2]] W fun e w' => e = .returned (.bool true) ∧ Below W.heap.size W w' := by
  have hus := Tryz.underlying24
  have hua := Tryz.underlying35
  have huc := Tryz.underlying38
  have H6 := Aside0.mk h6
  have H7 := Aside0.mk h7
  have HL := Aside0.mk hl
  have hn := Aside0.mk hl.len
  clear h6 h7 hl
  have hgr : Aside0 (∀ w, Below W.heap.size W w → Calls Tryz.prog 9 #[.agg #[.int .i64 c.th, .int .i64 c.st, .int .i64 c.ga, .int .i64 c.le, .int .i64 c.re, .int .i64 c.ti, .slice A6 n6 d6, .slice A7 n7 d7], .slice A n d] w fun e w' => e = .returned (.bool (great15 c l)) ∧ Below w.heap.size w w') := ⟨fun w hw => K_great15 c A6 n6 d6 A7 n7 d7 A n d l w (H6.out.below hw) (H7.out.below hw) (HL.out.below hw)⟩
  have hri : Aside0 (∀ w, Below W.heap.size W w → Calls Tryz.prog 10 #[.agg #[.int .i64 c.th, .int .i64 c.st, .int .i64 c.ga, .int .i64 c.le, .int .i64 c.re, .int .i64 c.ti, .slice A6 n6 d6, .slice A7 n7 d7]] w fun e w' => e = .returned (.bool (decide (Right c))) ∧ Below w.heap.size w w') := ⟨fun w hw => K_ref_right c _ _ w (H6.out.below hw) (H7.out.below hw)⟩
  cases hg : great15 c l with
  | true =>
    go_enter Tryz.func5, Tryz.ntmps5
    go_wp2_with (first | (go_at_call 8; (with_reducible refine (K_head20 _).mono ?_); rintro e w1 ⟨rfl, hb1⟩; have HB' : Aside0 (Below W.heap.size W w1) := ⟨below_step (by with_reducible repeat (first | exact Below.refl _ _ | exact HB.out | apply below_drew1 | apply below_alloc)) hb1⟩; have BX' : Aside0 (w1.heap[W.heap.size]? = some (.cells #[.int .i64 c.th, .int .i64 c.st, .int .i64 c.ga, .int .i64 c.le, .int .i64 c.re, .int .i64 c.ti, .slice A6 n6 d6, .slice A7 n7 d7] 24 (0, 0))) := ⟨blk_below (g := W.heap.size) (by with_reducible repeat (first | exact BX.out | exact blk_new _ _ | exact blk_new1 _ _ _ | refine blk_alloc ?_ _ | refine blk_drew ?_)) hb1⟩; have BU' : Aside0 (w1.heap[W.heap.size + 1]? = some (.cells #[.int .i64 x.f0, .int .i64 x.f1, .int .i64 x.f2] 38 (0, 0))) := ⟨blk_below (g := W.heap.size + 1) (by with_reducible repeat (first | exact BU.out | exact blk_new _ _ | exact blk_new1 _ _ _ | refine blk_alloc ?_ _ | refine blk_drew ?_)) hb1⟩; have HB := HB'; have BX := BX'; have BU := BU'; clear BU'; clear HB' BX' hb1; obtain ⟨q0, q1, q2, q3, q4, q5, q6, q7⟩ := box8 BX.out) | (go_at_call 9; (with_reducible refine (hgr.out _ ?_).mono ?_); exact (by with_reducible repeat (first | exact Below.refl _ _ | exact HB.out | apply below_drew1 | apply below_alloc)); rintro e w2 ⟨rfl, hb2⟩; rw [hg]; have HB' : Aside0 (Below W.heap.size W w2) := ⟨below_step (by with_reducible repeat (first | exact Below.refl _ _ | exact HB.out | apply below_drew1 | apply below_alloc)) hb2⟩; have BX' : Aside0 (w2.heap[W.heap.size]? = some (.cells #[.int .i64 c.th, .int .i64 c.st, .int .i64 c.ga, .int .i64 c.le, .int .i64 c.re, .int .i64 c.ti, .slice A6 n6 d6, .slice A7 n7 d7] 24 (0, 0))) := ⟨blk_below (g := W.heap.size) (by with_reducible repeat (first | exact BX.out | exact blk_new _ _ | exact blk_new1 _ _ _ | refine blk_alloc ?_ _ | refine blk_drew ?_)) hb2⟩; have BU' : Aside0 (w2.heap[W.heap.size + 1]? = some (.cells #[.int .i64 x.f0, .int .i64 x.f1, .int .i64 x.f2] 38 (0, 0))) := ⟨blk_below (g := W.heap.size + 1) (by with_reducible repeat (first | exact BU.out | exact blk_new _ _ | exact blk_new1 _ _ _ | refine blk_alloc ?_ _ | refine blk_drew ?_)) hb2⟩; clear q0 q1 q2 q3 q4 q5 q6 q7 HB BX BU; have HB := HB'; have BX := BX'; have BU := BU'; clear BU'; clear HB' BX' hb2; obtain ⟨q0, q1, q2, q3, q4, q5, q6, q7⟩ := box8 BX.out))
    go_ret
    exact ⟨rfl, (by with_reducible repeat (first | exact Below.refl _ _ | exact HB.out | apply below_drew1 | apply below_alloc))⟩
  | false =>
  by_cases hR : Right c
  rotate_left
  · have hr : decide (Right c) = false := decide_eq_false hR
    clear hR
    go_enter Tryz.func5, Tryz.ntmps5
    go_wp2_with (first | (go_at_call 8; (with_reducible refine (K_head20 _).mono ?_); rintro e w1 ⟨rfl, hb1⟩; have HB' : Aside0 (Below W.heap.size W w1) := ⟨below_step (by with_reducible repeat (first | exact Below.refl _ _ | exact HB.out | apply below_drew1 | apply below_alloc)) hb1⟩; have BX' : Aside0 (w1.heap[W.heap.size]? = some (.cells #[.int .i64 c.th, .int .i64 c.st, .int .i64 c.ga, .int .i64 c.le, .int .i64 c.re, .int .i64 c.ti, .slice A6 n6 d6, .slice A7 n7 d7] 24 (0, 0))) := ⟨blk_below (g := W.heap.size) (by with_reducible repeat (first | exact BX.out | exact blk_new _ _ | exact blk_new1 _ _ _ | refine blk_alloc ?_ _ | refine blk_drew ?_)) hb1⟩; have BU' : Aside0 (w1.heap[W.heap.size + 1]? = some (.cells #[.int .i64 x.f0, .int .i64 x.f1, .int .i64 x.f2] 38 (0, 0))) := ⟨blk_below (g := W.heap.size + 1) (by with_reducible repeat (first | exact BU.out | exact blk_new _ _ | exact blk_new1 _ _ _ | refine blk_alloc ?_ _ | refine blk_drew ?_)) hb1⟩; have HB := HB'; have BX := BX'; have BU := BU'; clear BU'; clear HB' BX' hb1; obtain ⟨q0, q1, q2, q3, q4, q5, q6, q7⟩ := box8 BX.out) | (go_at_call 9; (with_reducible refine (hgr.out _ ?_).mono ?_); exact (by with_reducible repeat (first | exact Below.refl _ _ | exact HB.out | apply below_drew1 | apply below_alloc)); rintro e w2 ⟨rfl, hb2⟩; rw [hg]; have HB' : Aside0 (Below W.heap.size W w2) := ⟨below_step (by with_reducible repeat (first | exact Below.refl _ _ | exact HB.out | apply below_drew1 | apply below_alloc)) hb2⟩; have BX' : Aside0 (w2.heap[W.heap.size]? = some (.cells #[.int .i64 c.th, .int .i64 c.st, .int .i64 c.ga, .int .i64 c.le, .int .i64 c.re, .int .i64 c.ti, .slice A6 n6 d6, .slice A7 n7 d7] 24 (0, 0))) := ⟨blk_below (g := W.heap.size) (by with_reducible repeat (first | exact BX.out | exact blk_new _ _ | exact blk_new1 _ _ _ | refine blk_alloc ?_ _ | refine blk_drew ?_)) hb2⟩; have BU' : Aside0 (w2.heap[W.heap.size + 1]? = some (.cells #[.int .i64 x.f0, .int .i64 x.f1, .int .i64 x.f2] 38 (0, 0))) := ⟨blk_below (g := W.heap.size + 1) (by with_reducible repeat (first | exact BU.out | exact blk_new _ _ | exact blk_new1 _ _ _ | refine blk_alloc ?_ _ | refine blk_drew ?_)) hb2⟩; clear q0 q1 q2 q3 q4 q5 q6 q7 HB BX BU; have HB := HB'; have BX := BX'; have BU := BU'; clear BU'; clear HB' BX' hb2; obtain ⟨q0, q1, q2, q3, q4, q5, q6, q7⟩ := box8 BX.out) | (go_at_call 10; (with_reducible refine (hri.out _ ?_).mono ?_); exact (by with_reducible repeat (first | exact Below.refl _ _ | exact HB.out | apply below_drew1 | apply below_alloc)); rintro e w3 ⟨rfl, hb3⟩; rw [hr]; have HB' : Aside0 (Below W.heap.size W w3) := ⟨below_step (by with_reducible repeat (first | exact Below.refl _ _ | exact HB.out | apply below_drew1 | apply below_alloc)) hb3⟩; have BX' : Aside0 (w3.heap[W.heap.size]? = some (.cells #[.int .i64 c.th, .int .i64 c.st, .int .i64 c.ga, .int .i64 c.le, .int .i64 c.re, .int .i64 c.ti, .slice A6 n6 d6, .slice A7 n7 d7] 24 (0, 0))) := ⟨blk_below (g := W.heap.size) (by with_reducible repeat (first | exact BX.out | exact blk_new _ _ | exact blk_new1 _ _ _ | refine blk_alloc ?_ _ | refine blk_drew ?_)) hb3⟩; have BU' : Aside0 (w3.heap[W.heap.size + 1]? = some (.cells #[.int .i64 x.f0, .int .i64 x.f1, .int .i64 x.f2] 38 (0, 0))) := ⟨blk_below (g := W.heap.size + 1) (by with_reducible repeat (first | exact BU.out | exact blk_new _ _ | exact blk_new1 _ _ _ | refine blk_alloc ?_ _ | refine blk_drew ?_)) hb3⟩; clear q0 q1 q2 q3 q4 q5 q6 q7 HB BX BU; have HB := HB'; have BX := BX'; have BU := BU'; clear BU'; clear HB' BX' hb3; obtain ⟨q0, q1, q2, q3, q4, q5, q6, q7⟩ := box8 BX.out))
    go_ret
    exact ⟨rfl, (by with_reducible repeat (first | exact Below.refl _ _ | exact HB.out | apply below_drew1 | apply below_alloc))⟩
  have hr : decide (Right c) = true := decide_eq_true hR
  have HR := Aside0.mk hR
  clear hR
  go_enter Tryz.func5, Tryz.ntmps5
  go_wp2_with (first | (go_at_call 8; (with_reducible refine (K_head20 _).mono ?_); rintro e w1 ⟨rfl, hb1⟩; have HB' : Aside0 (Below W.heap.size W w1) := ⟨below_step (by with_reducible repeat (first | exact Below.refl _ _ | exact HB.out | apply below_drew1 | apply below_alloc)) hb1⟩; have BX' : Aside0 (w1.heap[W.heap.size]? = some (.cells #[.int .i64 c.th, .int .i64 c.st, .int .i64 c.ga, .int .i64 c.le, .int .i64 c.re, .int .i64 c.ti, .slice A6 n6 d6, .slice A7 n7 d7] 24 (0, 0))) := ⟨blk_below (g := W.heap.size) (by with_reducible repeat (first | exact BX.out | exact blk_new _ _ | exact blk_new1 _ _ _ | refine blk_alloc ?_ _ | refine blk_drew ?_)) hb1⟩; have BU' : Aside0 (w1.heap[W.heap.size + 1]? = some (.cells #[.int .i64 x.f0, .int .i64 x.f1, .int .i64 x.f2] 38 (0, 0))) := ⟨blk_below (g := W.heap.size + 1) (by with_reducible repeat (first | exact BU.out | exact blk_new _ _ | exact blk_new1 _ _ _ | refine blk_alloc ?_ _ | refine blk_drew ?_)) hb1⟩; have HB := HB'; have BX := BX'; have BU := BU'; clear BU'; clear HB' BX' hb1; obtain ⟨q0, q1, q2, q3, q4, q5, q6, q7⟩ := box8 BX.out) | (go_at_call 9; (with_reducible refine (hgr.out _ ?_).mono ?_); exact (by with_reducible repeat (first | exact Below.refl _ _ | exact HB.out | apply below_drew1 | apply below_alloc)); rintro e w2 ⟨rfl, hb2⟩; rw [hg]; have HB' : Aside0 (Below W.heap.size W w2) := ⟨below_step (by with_reducible repeat (first | exact Below.refl _ _ | exact HB.out | apply below_drew1 | apply below_alloc)) hb2⟩; have BX' : Aside0 (w2.heap[W.heap.size]? = some (.cells #[.int .i64 c.th, .int .i64 c.st, .int .i64 c.ga, .int .i64 c.le, .int .i64 c.re, .int .i64 c.ti, .slice A6 n6 d6, .slice A7 n7 d7] 24 (0, 0))) := ⟨blk_below (g := W.heap.size) (by with_reducible repeat (first | exact BX.out | exact blk_new _ _ | exact blk_new1 _ _ _ | refine blk_alloc ?_ _ | refine blk_drew ?_)) hb2⟩; have BU' : Aside0 (w2.heap[W.heap.size + 1]? = some (.cells #[.int .i64 x.f0, .int .i64 x.f1, .int .i64 x.f2] 38 (0, 0))) := ⟨blk_below (g := W.heap.size + 1) (by with_reducible repeat (first | exact BU.out | exact blk_new _ _ | exact blk_new1 _ _ _ | refine blk_alloc ?_ _ | refine blk_drew ?_)) hb2⟩; clear q0 q1 q2 q3 q4 q5 q6 q7 HB BX BU; have HB := HB'; have BX := BX'; have BU := BU'; clear BU'; clear HB' BX' hb2; obtain ⟨q0, q1, q2, q3, q4, q5, q6, q7⟩ := box8 BX.out) | (go_at_call 10; (with_reducible refine (hri.out _ ?_).mono ?_); exact (by with_reducible repeat (first | exact Below.refl _ _ | exact HB.out | apply below_drew1 | apply below_alloc)); rintro e w3 ⟨rfl, hb3⟩; rw [hr]; have HB' : Aside0 (Below W.heap.size W w3) := ⟨below_step (by with_reducible repeat (first | exact Below.refl _ _ | exact HB.out | apply below_drew1 | apply below_alloc)) hb3⟩; have BX' : Aside0 (w3.heap[W.heap.size]? = some (.cells #[.int .i64 c.th, .int .i64 c.st, .int .i64 c.ga, .int .i64 c.le, .int .i64 c.re, .int .i64 c.ti, .slice A6 n6 d6, .slice A7 n7 d7] 24 (0, 0))) := ⟨blk_below (g := W.heap.size) (by with_reducible repeat (first | exact BX.out | exact blk_new _ _ | exact blk_new1 _ _ _ | refine blk_alloc ?_ _ | refine blk_drew ?_)) hb3⟩; have BU' : Aside0 (w3.heap[W.heap.size + 1]? = some (.cells #[.int .i64 x.f0, .int .i64 x.f1, .int .i64 x.f2] 38 (0, 0))) := ⟨blk_below (g := W.heap.size + 1) (by with_reducible repeat (first | exact BU.out | exact blk_new _ _ | exact blk_new1 _ _ _ | refine blk_alloc ?_ _ | refine blk_drew ?_)) hb3⟩; clear q0 q1 q2 q3 q4 q5 q6 q7 HB BX BU; have HB := HB'; have BX := BX'; have BU := BU'; clear BU'; clear HB' BX' hb3; obtain ⟨q0, q1, q2, q3, q4, q5, q6, q7⟩ := box8 BX.out) | (go_at_call 11; (with_reducible refine (K_New _ c A6 n6 d6 A7 n7 d7 (H6.out.below ?_) (H7.out.below ?_) ?_).mono ?_); exact (by with_reducible repeat (first | exact Below.refl _ _ | exact HB.out | apply below_drew1 | apply below_alloc)); exact (by with_reducible repeat (first | exact Below.refl _ _ | exact HB.out | apply below_drew1 | apply below_alloc)); (have h1 := HR.out.1.2.2.2.2.2.2.1.2; have h2 : c.ls.length = c.ps.length := HR.out.1.2.2.2.2.2.2.2; omega); rintro e w4 ⟨b, rfl, hbs, hm, hb4⟩; have HS : Aside0 (MS W w4 b (runC c l 0)) := ⟨MS.new (by with_reducible repeat (first | exact Below.refl _ _ | exact HB.out | apply below_drew1 | apply below_alloc)) hbs hm hb4⟩; clear hm; have hbn : Aside0 (b ≠ W.heap.size) := ⟨by have := hbs; have := blk_lt BX.out; omega⟩; have hbnBU : Aside0 (b ≠ W.heap.size + 1) := ⟨by have := hbs; have := blk_lt BU.out; omega⟩; have HB' : Aside0 (Below W.heap.size W w4) := ⟨below_step (by with_reducible repeat (first | exact Below.refl _ _ | exact HB.out | apply below_drew1 | apply below_alloc)) hb4⟩; have BX' : Aside0 (w4.heap[W.heap.size]? = some (.cells #[.int .i64 c.th, .int .i64 c.st, .int .i64 c.ga, .int .i64 c.le, .int .i64 c.re, .int .i64 c.ti, .slice A6 n6 d6, .slice A7 n7 d7] 24 (0, 0))) := ⟨blk_below (g := W.heap.size) (by with_reducible repeat (first | exact BX.out | exact blk_new _ _ | exact blk_new1 _ _ _ | refine blk_alloc ?_ _ | refine blk_drew ?_)) hb4⟩; have BU' : Aside0 (w4.heap[W.heap.size + 1]? = some (.cells #[.int .i64 x.f0, .int .i64 x.f1, .int .i64 x.f2] 38 (0, 0))) := ⟨blk_below (g := W.heap.size + 1) (by with_reducible repeat (first | exact BU.out | exact blk_new _ _ | exact blk_new1 _ _ _ | refine blk_alloc ?_ _ | refine blk_drew ?_)) hb4⟩; clear q0 q1 q2 q3 q4 q5 q6 q7 HB BX BU; have HB := HB'; have BX := BX'; have BU := BU'; clear BU'; clear HB' BX' hb4; obtain ⟨q0, q1, q2, q3, q4, q5, q6, q7⟩ := box8 BX.out; clear q0 q1 q2 q3 q4 q5 q6 q7))
  go_loopg [9] l.length (fun gg s7 wr => ∃ kk : Nat, kk ≤ l.length ∧ l.length - kk ≤ gg ∧ s7 = .int .i64 kk ∧ Aside0 (Below W.heap.size W wr) ∧ Aside0 (wr.heap[W.heap.size]? = some (.cells #[.int .i64 c.th, .int .i64 c.st, .int .i64 c.ga, .int .i64 c.le, .int .i64 c.re, .int .i64 c.ti, .slice A6 n6 d6, .slice A7 n7 d7] 24 (0, 0))) ∧ Aside0 (MS W wr b (runC c l kk)) ∧ Aside0 (wr.heap[W.heap.size + 1]? = some (.cells #[.int .i64 x.f0, .int .i64 x.f1, .int .i64 x.f2] 38 (0, 0))))
  case atStart => exact ⟨0, Nat.zero_le _, by omega, rfl, HB, BX, HS, BU⟩
  case round =>
    obtain ⟨kk, hkk, hg', rfl, BW, BY, HM, BU⟩ := hrel
    clear HB BX HS
    have hin := Aside0.mk (runC_inv HR.out l kk hkk)
    by_cases hlt : kk < l.length
    · have hltb : decide ((kk : Int) < (n : Int)) = true := decide_eq_true (by have := hn.out; omega)
      have hk0 : (0 : Int) ≤ (kk : Int) := by omega
      have hkn : (kk : Int) < (n : Int) := by have := hn.out; omega
      obtain ⟨ad, rfl, y0, y1, y2, hy⟩ := (HL.out.below BW.out).at kk hlt
      have HY := Aside0.mk hy
      have hst := Aside0.mk (runC_succ c l kk hlt)
      have hlen : (n : Int) ≤ 40 := by have := hn.out; unfold great15 at hg; simp at hg; omega
      clear hy
      go_wp2_with (go_at_call 13; (with_reducible refine (K_DoS W _ b (runC c l kk) ?_ ?_ _ _ _ ?_).mono ?_); exact HM.out.below (by with_reducible repeat (first | exact Below.refl _ _ | apply below_drew1 | apply below_alloc)); exact hin.out.1.ok; exact HY.out; rintro e w5 ⟨rfl, hk5, hs5⟩; have HM5 : Aside0 (MS W w5 b (runC c l (kk + 1))) := ⟨by rw [hst.out]; exact hs5⟩; have BW5 : Aside0 (Below W.heap.size W w5) := ⟨hs5.2.1⟩; have BY5 : Aside0 (w5.heap[W.heap.size]? = some (.cells #[.int .i64 c.th, .int .i64 c.st, .int .i64 c.ga, .int .i64 c.le, .int .i64 c.re, .int .i64 c.ti, .slice A6 n6 d6, .slice A7 n7 d7] 24 (0, 0))) := ⟨hk5.blk (by with_reducible repeat (first | exact BY.out | refine blk_alloc ?_ _ | refine blk_drew ?_)) (Ne.symm hbn.out)⟩; have BU5 : Aside0 (w5.heap[W.heap.size + 1]? = some (.cells #[.int .i64 x.f0, .int .i64 x.f1, .int .i64 x.f2] 38 (0, 0))) := ⟨hk5.blk (by with_reducible repeat (first | exact BU.out | refine blk_alloc ?_ _ | refine blk_drew ?_)) (Ne.symm hbnBU.out)⟩; clear hk5 hs5 y0 y1 y2)
      go_roundg (l.length - (kk + 1))
      case measure => omega
      case rel => exact ⟨kk + 1, by omega, by omega, by go_num, ⟨by have hB := BW5.out; with_reducible repeat (first | exact hB | apply below_drew1 | apply below_alloc)⟩, ⟨by have hB := BY5.out; with_reducible repeat (first | exact hB | refine blk_alloc ?_ _ | refine blk_drew ?_)⟩, ⟨HM5.out.below (by with_reducible repeat (first | exact Below.refl _ _ | apply below_drew1 | apply below_alloc))⟩, ⟨by have hB := BU5.out; with_reducible repeat (first | exact hB | refine blk_alloc ?_ _ | refine blk_drew ?_)⟩⟩
    · have hltb : (n : Int) ≤ (kk : Int) := by have := hn.out; omega
      have hkl : kk = l.length := by omega
      subst hkl
      have hlnb : decide (l.length < n) = false := decide_eq_false (by omega)
      have hlen40 : (l.length : Int) ≤ 40 := by unfold great15 at hg; simp at hg; omega
      obtain ⟨M, hMe⟩ : ∃ M, runC c l l.length = M := ⟨_, rfl⟩
      rw [hMe] at HM hin
      clear hMe
      have hps : c.ps.length ≤ 12 := HR.out.1.2.2.2.2.2.2.1.2
      have h6l := Aside0.mk H6.out.len
      obtain ⟨q0, q1, q2, q3, q4, q5, q6, q7⟩ := box8 BY.out
      clear q0 q1 q2 q3 q4 q5 q7
      obtain ⟨WB, rfl⟩ : ∃ WB, WB = wr := ⟨_, rfl⟩
      go_wp2_with (fail)
      go_loopg [10, 11, 12] c.ps.length (fun gg s10 s11 s12 wz => ∃ v : Nat, v ≤ c.ps.length ∧ c.ps.length - v ≤ gg ∧ s12 = .int .i64 v ∧ Aside0 (Below WB.heap.size WB wz) ∧ Aside0 (Two wz WB.heap.size s10 s11 (M.lim.take v) (M.use.take v)))
      case atStart => exact ⟨0, Nat.zero_le _, by omega, rfl, ⟨(by with_reducible repeat (first | exact Below.refl _ _ | apply below_drew1 | apply below_alloc))⟩, ⟨Two.nil _ _⟩⟩
      case round =>
        obtain ⟨v, hv, hgv, rfl, HZ, HT⟩ := hrel
        have HX := Aside0.mk (blk_below BY.out HZ.out)
        have HS2 := Aside0.mk (HM.out.below HZ.out)
        obtain ⟨q0, q1, q2, q3, q4, q5, q6, q7⟩ := box8 HX.out
        clear q0 q1 q2 q3 q4 q5 q7
        by_cases hvl : v < c.ps.length
        · have hv6 : (v : Int) < (n6 : Int) := by have := h6l.out; omega
          have hv12 : v < 12 := by omega
          have hv0 : (0 : Int) ≤ (v : Int) := by omega
          have hv1 : (v : Int) < 12 := by omega
          have hL : Aside0 (∀ (w : World), MS W w b M → Calls Tryz.prog 15 #[.pointer (some ⟨b, 0, none⟩), .int .i64 v] w fun e w' => e = .returned (.int .i64 (rd M.lim (v : Int))) ∧ w' = w) := ⟨fun w hw => K_LimitS W w b M hw v hv12⟩
          have hU : Aside0 (∀ (w : World), MS W w b M → Calls Tryz.prog 17 #[.pointer (some ⟨b, 0, none⟩), .int .i64 v] w fun e w' => e = .returned (.int .i64 (rd M.use (v : Int))) ∧ w' = w) := ⟨fun w hw => K_UsedS W w b M hw v hv12⟩
          have tl : Aside0 ((M.lim.take v ++ [rd M.lim (v : Int)]) = M.lim.take (v + 1)) := ⟨(take_rd _ _ (by rw [hin.out.1.l1]; exact hv12)).symm⟩
          have tu : Aside0 ((M.use.take v ++ [rd M.use (v : Int)]) = M.use.take (v + 1)) := ⟨(take_rd _ _ (by rw [hin.out.1.l2]; exact hv12)).symm⟩
          go_wp2_with (first | ((with_reducible refine gate_builtin (b := .append) (xs := #[.tmp 53, .tmp 57]) rfl ?_); at_builtin; refine Kd.R_append (Kd.int .i64) (w0 := WB) WB.heap.size rfl (.tmp 53) (.tmp 57) 22 3 (.int .i64 0) 8 rfl Tryz.underlying22 info3 rfl (by decide) (by decide) u11 (M.use.take v) (rd M.use (v : Int)) [.int .i64 (rd M.use (v : Int))] (fun k => some k ≠ vA.ownBlock) (fun _ => False) rfl rfl ?aPB (fun _ hk => hk.elim) ?aFB ?aOB ?aBB ?aSB ?aLB ?_; (case aPB => exact rfl); (case aOB => exact HTA.out.swap.1); (case aFB => exact HTA.out.swap.fresh); (case aBB => exact HZA.out); (case aSB => exact HZA.out.size); (case aLB => exact take_lt _ _ hv12); intro vB wB ho hb hg hat; have HTB : Aside0 (Two wB WB.heap.size vB _ _ _) := ⟨HTA.out.swap.push ho hg hat⟩; have HZB := Aside0.mk hb; clear ho hb hg hat; rw [tu.out] at HTB) | ((with_reducible refine gate_builtin (b := .append) (xs := #[.tmp 47, .tmp 51]) rfl ?_); at_builtin; refine Kd.R_append (Kd.int .i64) (w0 := WB) WB.heap.size rfl (.tmp 47) (.tmp 51) 22 3 (.int .i64 0) 8 rfl Tryz.underlying22 info3 rfl (by decide) (by decide) u10 (M.lim.take v) (rd M.lim (v : Int)) [.int .i64 (rd M.lim (v : Int))] (fun k => some k ≠ u11.ownBlock) (fun _ => False) rfl rfl ?aPA (fun _ hk => hk.elim) ?aFA ?aOA ?aBA ?aSA ?aLA ?_; (case aPA => exact rfl); (case aOA => exact HT.out.1); (case aFA => exact HT.out.fresh); (case aBA => exact HZ.out); (case aSA => exact HZ.out.size); (case aLA => exact take_lt _ _ hv12); intro vA wA ho hb hg hat; have HTA : Aside0 (Two wA WB.heap.size vA _ _ _) := ⟨HT.out.push ho hg hat⟩; have HZA := Aside0.mk hb; clear ho hb hg hat; rw [tl.out] at HTA; have HSA : Aside0 (MS W wA b M) := ⟨HM.out.below HZA.out⟩; clear HT HS2 HX q6) | (go_at_call 17; (with_reducible refine (hU.out _ ?_).mono ?_); exact HSA.out.below (by with_reducible repeat (first | exact Below.refl _ _ | apply below_drew1 | apply below_alloc)); rintro e w' ⟨rfl, rfl⟩) | (go_at_call 15; (with_reducible refine (hL.out _ ?_).mono ?_); exact HS2.out; rintro e w' ⟨rfl, rfl⟩))
          go_roundg (c.ps.length - (v + 1))
          case measure => omega
          case rel => exact ⟨v + 1, by omega, by omega, by go_num, ⟨HZB.out⟩, ⟨HTB.out.swap⟩⟩
        · have hv6 : (n6 : Int) ≤ (v : Int) := by have := h6l.out; omega
          have hvn : decide (v < n6) = false := decide_eq_false (by omega)
          have hve : v = c.ps.length := by omega
          subst hve
          obtain ⟨WC, rfl⟩ : ∃ WC, WC = wr := ⟨_, rfl⟩
          have HU2 := Aside0.mk (blk_below BU.out HZ.out)
          obtain ⟨x0, x1, x2⟩ := box3 HU2.out
          obtain ⟨A10, m10, d10, e10⟩ := HT.out.get.1.slice
          obtain ⟨A11, m11, d11, e11⟩ := HT.out.get.2.slice
          subst e10
          subst e11
          obtain ⟨R, hR⟩ : ∃ R, doM M x.f0 x.f1 x.f2 = R := ⟨_, rfl⟩
          have HRR := Aside0.mk hR
          have hok0 := Aside0.mk hin.out.1.ok
          have hin1 := Aside0.mk hin.out.1
          have hxb := Aside0.mk hx.2
          clear hx
          have hck : Aside0 (∀ w, Below W.heap.size W w → Calls Tryz.prog 19 #[.agg #[.int .i64 c.th, .int .i64 c.st, .int .i64 c.ga, .int .i64 c.le, .int .i64 c.re, .int .i64 c.ti, .slice A6 n6 d6, .slice A7 n7 d7], .agg #[.int .i64 x.f0, .int .i64 x.f1, .int .i64 x.f2]] w fun e w' => e = .returned (.int .i64 (checkE c x.f0 x.f1 x.f2)) ∧ Below w.heap.size w w') := ⟨fun w hw => K_check c A6 n6 d6 A7 n7 d7 x.f0 x.f1 x.f2 hxb.out w (H6.out.below hw) (H7.out.below hw) hps⟩
          by_cases hce : checkE c x.f0 x.f1 x.f2 = 0
          · by_cases her : R.2.err = 0
            · have hA1 : Aside0 (ansV R.2 = .agg #[.int .i64 0, .int .i64 R.2.n, .bool R.2.ex, .int .i64 R.2.node]) := ⟨by unfold ansV; rw [her]⟩
              rw [hce] at hck
              clear hce her hR
              go_wp2_with (first | (go_at_call 19; (with_reducible refine (hck.out _ ?_).mono ?_); exact (by with_reducible repeat (first | exact HB6.out | apply below_drew1 | apply below_alloc)); rintro e w7 ⟨rfl, hb7⟩; have HX7 := Aside0.mk (blk_below (blk_alloc HX6.out _) hb7); have HA7 := Aside0.mk (blk_below (blk_new _ _) hb7); have HT7 := Aside0.mk ((HT6.out.below (by with_reducible repeat (first | exact Below.refl _ _ | apply below_drew1 | apply below_alloc))).below hb7); have HS7 := Aside0.mk ((HS6.out.below (by with_reducible repeat (first | exact Below.refl _ _ | apply below_drew1 | apply below_alloc))).below hb7); clear hb7 a0 a1 a2 a3 a4 a5 a6 a7 x0 x1 x2 HX6 HT6 HS6 HB6; obtain ⟨s0, s1, s2, s3, -⟩ := box4 HA7.out) | (go_at_call 13; (with_reducible refine (K_DoS W _ b M ?_ hok0.out x.f0 x.f1 x.f2 hxb.out).mono ?_); exact HS2.out.below (by with_reducible repeat (first | exact Below.refl _ _ | apply below_drew1 | apply below_alloc)); rintro e w6 ⟨he, hk6, hs6⟩; rw [HRR.out] at he hs6; rw [hA1.out] at he; subst he; have HS6 := Aside0.mk hs6; have HB6 : Aside0 (Below W.heap.size W w6) := ⟨hs6.2.1⟩; have HX6 := Aside0.mk (hk6.blk HX.out (Ne.symm hbn.out)); have HU6 := Aside0.mk (hk6.blk HU2.out (Ne.symm hbnBU.out)); have HT6 := Aside0.mk (HT.out.kb hk6 HM.out.blt); clear hk6 hs6 x0 x1 x2 q6 HX HU2 HT HS2; obtain ⟨a0, a1, a2, a3, a4, a5, a6, a7⟩ := box8 (blk_alloc HX6.out (.cells #[.int .i64 (0), .int .i64 (R.2.n), .bool (R.2.ex), .int .i64 (R.2.node)] 35)); obtain ⟨x0, x1, x2⟩ := box3 (blk_alloc HU6.out (.cells #[.int .i64 (0), .int .i64 (R.2.n), .bool (R.2.ex), .int .i64 (R.2.node)] 35))))
              clear s0 s1 s2 s3
              go_loopg [15] c.ps.length (fun gg s15 wz => ∃ v : Nat, v ≤ c.ps.length ∧ c.ps.length - v ≤ gg ∧ s15 = .int .i64 v ∧ Aside0 (Below w7.heap.size w7 wz))
              case atStart => exact ⟨0, Nat.zero_le _, by omega, rfl, ⟨Below.refl _ _⟩⟩
              case round =>
                obtain ⟨v, hv, hgv, rfl, HV⟩ := hrel
                have HX8 := Aside0.mk (blk_below HX7.out HV.out)
                have HA8 := Aside0.mk (blk_below HA7.out HV.out)
                have HS8 := Aside0.mk (HS7.out.below HV.out)
                have HT8 := Aside0.mk (HT7.out.below HV.out).get
                obtain ⟨q0, q1, q2, q3, q4, q5, q6, q7⟩ := box8 HX8.out
                obtain ⟨r0, r1, r2, r3, -⟩ := box4 HA8.out
                clear q0 q1 q2 q3 q4 q5 q7
                by_cases hvl : v < c.ps.length
                · have hv6 : (v : Int) < (n6 : Int) := by have := h6l.out; omega
                  go_wp2_with (fail)
                  go_quiet (fail)
                  go_wp2_with (fail)
                  go_roundg (c.ps.length - (v + 1))
                  case measure => omega
                  case rel => exact ⟨v + 1, by omega, by omega, by go_num, ⟨by have hB := HV.out; with_reducible repeat (first | exact hB | apply pw_below_drewN | apply below_drew1 | apply below_alloc)⟩⟩
                · have hv6 : (n6 : Int) ≤ (v : Int) := by have := h6l.out; omega
                  have hvn : decide (v < n6) = false := decide_eq_false (by omega)
                  go_wp2_with (fail)
                  go_ret
                  exact ⟨rfl, (HS8.out.below (by with_reducible repeat (first | exact Below.refl _ _ | apply below_drew1 | apply below_alloc))).2.1⟩
            · have hdr := doM_err (M := M) x.f0 x.f1 x.f2 (by rw [hR]; exact her)
              rw [hR] at hdr
              obtain ⟨er, hre⟩ : ∃ er, R.2.err = er := ⟨_, rfl⟩
              rw [hre] at her
              have hA1 : Aside0 (ansV R.2 = .agg #[.int .i64 er, .int .i64 0, .bool false, .int .i64 R.2.node]) := ⟨by unfold ansV; rw [hre, hdr.2.2.1, hdr.2.2.2]⟩
              have HD := Aside0.mk hdr
              have hne : (er != 0) = true := by simpa using her
              have hne' : (er == 0) = false := by simpa using her
              rw [hce] at hck
              clear hce hR hre hdr her
              go_wp2_with (first | (go_at_call 19; (with_reducible refine (hck.out _ ?_).mono ?_); exact (by with_reducible repeat (first | exact HB6.out | apply below_drew1 | apply below_alloc)); rintro e w7 ⟨rfl, hb7⟩; have HX7 := Aside0.mk (blk_below (blk_alloc HX6.out _) hb7); have HA7 := Aside0.mk (blk_below (blk_new _ _) hb7); have HT7 := Aside0.mk ((HT6.out.below (by with_reducible repeat (first | exact Below.refl _ _ | apply below_drew1 | apply below_alloc))).below hb7); have HS7 := Aside0.mk ((HS6.out.below (by with_reducible repeat (first | exact Below.refl _ _ | apply below_drew1 | apply below_alloc))).below hb7); clear hb7 a0 a1 a2 a3 a4 a5 a6 a7 x0 x1 x2 HX6 HT6 HS6 HB6; obtain ⟨s0, s1, s2, s3, -⟩ := box4 HA7.out) | (go_at_call 13; (with_reducible refine (K_DoS W _ b M ?_ hok0.out x.f0 x.f1 x.f2 hxb.out).mono ?_); exact HS2.out.below (by with_reducible repeat (first | exact Below.refl _ _ | apply below_drew1 | apply below_alloc)); rintro e w6 ⟨he, hk6, hs6⟩; rw [HRR.out] at he hs6; rw [hA1.out] at he; subst he; have HS6 := Aside0.mk hs6; have HB6 : Aside0 (Below W.heap.size W w6) := ⟨hs6.2.1⟩; have HX6 := Aside0.mk (hk6.blk HX.out (Ne.symm hbn.out)); have HU6 := Aside0.mk (hk6.blk HU2.out (Ne.symm hbnBU.out)); have HT6 := Aside0.mk (HT.out.kb hk6 HM.out.blt); clear hk6 hs6 x0 x1 x2 q6 HX HU2 HT HS2; obtain ⟨a0, a1, a2, a3, a4, a5, a6, a7⟩ := box8 (blk_alloc HX6.out (.cells #[.int .i64 (er), .int .i64 (0), .bool (false), .int .i64 (R.2.node)] 35)); obtain ⟨x0, x1, x2⟩ := box3 (blk_alloc HU6.out (.cells #[.int .i64 (er), .int .i64 (0), .bool (false), .int .i64 (R.2.node)] 35))))
              clear s0 s1 s2 s3
              go_loopg [15] c.ps.length (fun gg s15 wz => ∃ v : Nat, v ≤ c.ps.length ∧ c.ps.length - v ≤ gg ∧ s15 = .int .i64 v ∧ Aside0 (Below w7.heap.size w7 wz))
              case atStart => exact ⟨0, Nat.zero_le _, by omega, rfl, ⟨Below.refl _ _⟩⟩
              case round =>
                obtain ⟨v, hv, hgv, rfl, HV⟩ := hrel
                have HX8 := Aside0.mk (blk_below HX7.out HV.out)
                have HA8 := Aside0.mk (blk_below HA7.out HV.out)
                have HS8 := Aside0.mk (HS7.out.below HV.out)
                have HT8 := Aside0.mk (HT7.out.below HV.out).get
                obtain ⟨q0, q1, q2, q3, q4, q5, q6, q7⟩ := box8 HX8.out
                obtain ⟨r0, r1, r2, r3, -⟩ := box4 HA8.out
                clear q0 q1 q2 q3 q4 q5 q7
                by_cases hvl : v < c.ps.length
                · have hv6 : (v : Int) < (n6 : Int) := by have := h6l.out; omega
                  have hv12 : v < 12 := by omega
                  have hv0 : (0 : Int) ≤ (v : Int) := by omega
                  have hL : Aside0 (∀ (w : World), MS W w b R.1 → Calls Tryz.prog 15 #[.pointer (some ⟨b, 0, none⟩), .int .i64 v] w fun e w' => e = .returned (.int .i64 (rd M.lim (v : Int))) ∧ w' = w) := ⟨fun w hw => by have := K_LimitS W w b R.1 hw v hv12; rw [HD.out.1] at this; exact this⟩
                  have hU : Aside0 (∀ (w : World), MS W w b R.1 → Calls Tryz.prog 17 #[.pointer (some ⟨b, 0, none⟩), .int .i64 v] w fun e w' => e = .returned (.int .i64 (rd M.use (v : Int))) ∧ w' = w) := ⟨fun w hw => by have := K_UsedS W w b R.1 hw v hv12; rw [HD.out.2.1] at this; exact this⟩
                  have hl1 := hin1.out.l1
                  have hl2 := hin1.out.l2
                  obtain ⟨e10, ad10, rfl, hc10⟩ := ints_at HT8.out.1 v (by rw [List.length_take]; omega)
                  obtain ⟨e11, ad11, rfl, hc11⟩ := ints_at HT8.out.2 v (by rw [List.length_take]; omega)
                  rw [rd_take _ _ _ hvl (by omega)] at hc10 hc11
                  rw [List.length_take] at e10 e11
                  have hm10 : (v : Int) < (m10 : Int) := by omega
                  have hm11 : (v : Int) < (m11 : Int) := by omega
                  clear e10 e11 hl1 hl2
                  go_wp2_with (fail)
                  go_quiet ((first | (go_at_call 15; exact Calls.quiet_of_same (hL.out _ (HS8.out.below (pw_below_drewN (Below.refl _ _) _)))) | (go_at_call 17; exact Calls.quiet_of_same (hU.out _ (HS8.out.below (pw_below_drewN (Below.refl _ _) _))))))
                  go_wp2_with (fail)
                  go_roundg (c.ps.length - (v + 1))
                  case measure => omega
                  case rel => exact ⟨v + 1, by omega, by omega, by go_num, ⟨by have hB := HV.out; with_reducible repeat (first | exact hB | apply pw_below_drewN | apply below_drew1 | apply below_alloc)⟩⟩
                · have hv6 : (n6 : Int) ≤ (v : Int) := by have := h6l.out; omega
                  have hvn : decide (v < n6) = false := decide_eq_false (by omega)
                  go_wp2_with (fail)
                  go_ret
                  exact ⟨rfl, (HS8.out.below (by with_reducible repeat (first | exact Below.refl _ _ | apply below_drew1 | apply below_alloc))).2.1⟩
          · have hR2 := doM_check (M := M) x.f0 x.f1 x.f2 (by rw [hin.out.2]; exact hce)
            rw [hR, hin.out.2] at hR2
            obtain ⟨er, hre⟩ : ∃ er, checkE c x.f0 x.f1 x.f2 = er := ⟨_, rfl⟩
            rw [hre] at hR2 hce hck
            have hdr := doM_err (M := M) x.f0 x.f1 x.f2 (by rw [hR, hR2]; exact hce)
            rw [hR] at hdr
            have hA1 : Aside0 (ansV R.2 = .agg #[.int .i64 er, .int .i64 0, .bool false, .int .i64 0]) := ⟨by rw [hR2]; rfl⟩
            have HD := Aside0.mk hdr
            have hne : (er != 0) = true := by simpa using hce
            have hne' : (er == 0) = false := by simpa using hce
            clear hce hR hre hdr hR2
            go_wp2_with (first | (go_at_call 19; (with_reducible refine (hck.out _ ?_).mono ?_); exact (by with_reducible repeat (first | exact HB6.out | apply below_drew1 | apply below_alloc)); rintro e w7 ⟨rfl, hb7⟩; have HX7 := Aside0.mk (blk_below (blk_alloc HX6.out _) hb7); have HA7 := Aside0.mk (blk_below (blk_new _ _) hb7); have HT7 := Aside0.mk ((HT6.out.below (by with_reducible repeat (first | exact Below.refl _ _ | apply below_drew1 | apply below_alloc))).below hb7); have HS7 := Aside0.mk ((HS6.out.below (by with_reducible repeat (first | exact Below.refl _ _ | apply below_drew1 | apply below_alloc))).below hb7); clear hb7 a0 a1 a2 a3 a4 a5 a6 a7 x0 x1 x2 HX6 HT6 HS6 HB6; obtain ⟨s0, s1, s2, s3, -⟩ := box4 HA7.out) | (go_at_call 13; (with_reducible refine (K_DoS W _ b M ?_ hok0.out x.f0 x.f1 x.f2 hxb.out).mono ?_); exact HS2.out.below (by with_reducible repeat (first | exact Below.refl _ _ | apply below_drew1 | apply below_alloc)); rintro e w6 ⟨he, hk6, hs6⟩; rw [HRR.out] at he hs6; rw [hA1.out] at he; subst he; have HS6 := Aside0.mk hs6; have HB6 : Aside0 (Below W.heap.size W w6) := ⟨hs6.2.1⟩; have HX6 := Aside0.mk (hk6.blk HX.out (Ne.symm hbn.out)); have HU6 := Aside0.mk (hk6.blk HU2.out (Ne.symm hbnBU.out)); have HT6 := Aside0.mk (HT.out.kb hk6 HM.out.blt); clear hk6 hs6 x0 x1 x2 q6 HX HU2 HT HS2; obtain ⟨a0, a1, a2, a3, a4, a5, a6, a7⟩ := box8 (blk_alloc HX6.out (.cells #[.int .i64 (er), .int .i64 (0), .bool (false), .int .i64 (0)] 35)); obtain ⟨x0, x1, x2⟩ := box3 (blk_alloc HU6.out (.cells #[.int .i64 (er), .int .i64 (0), .bool (false), .int .i64 (0)] 35))))
            clear s0 s1 s2 s3
            go_loopg [15] c.ps.length (fun gg s15 wz => ∃ v : Nat, v ≤ c.ps.length ∧ c.ps.length - v ≤ gg ∧ s15 = .int .i64 v ∧ Aside0 (Below w7.heap.size w7 wz))
            case atStart => exact ⟨0, Nat.zero_le _, by omega, rfl, ⟨Below.refl _ _⟩⟩
            case round =>
              obtain ⟨v, hv, hgv, rfl, HV⟩ := hrel
              have HX8 := Aside0.mk (blk_below HX7.out HV.out)
              have HA8 := Aside0.mk (blk_below HA7.out HV.out)
              have HS8 := Aside0.mk (HS7.out.below HV.out)
              have HT8 := Aside0.mk (HT7.out.below HV.out).get
              obtain ⟨q0, q1, q2, q3, q4, q5, q6, q7⟩ := box8 HX8.out
              obtain ⟨r0, r1, r2, r3, -⟩ := box4 HA8.out
              clear q0 q1 q2 q3 q4 q5 q7
              by_cases hvl : v < c.ps.length
              · have hv6 : (v : Int) < (n6 : Int) := by have := h6l.out; omega
                have hv12 : v < 12 := by omega
                have hv0 : (0 : Int) ≤ (v : Int) := by omega
                have hL : Aside0 (∀ (w : World), MS W w b R.1 → Calls Tryz.prog 15 #[.pointer (some ⟨b, 0, none⟩), .int .i64 v] w fun e w' => e = .returned (.int .i64 (rd M.lim (v : Int))) ∧ w' = w) := ⟨fun w hw => by have := K_LimitS W w b R.1 hw v hv12; rw [HD.out.1] at this; exact this⟩
                have hU : Aside0 (∀ (w : World), MS W w b R.1 → Calls Tryz.prog 17 #[.pointer (some ⟨b, 0, none⟩), .int .i64 v] w fun e w' => e = .returned (.int .i64 (rd M.use (v : Int))) ∧ w' = w) := ⟨fun w hw => by have := K_UsedS W w b R.1 hw v hv12; rw [HD.out.2.1] at this; exact this⟩
                have hl1 := hin1.out.l1
                have hl2 := hin1.out.l2
                obtain ⟨e10, ad10, rfl, hc10⟩ := ints_at HT8.out.1 v (by rw [List.length_take]; omega)
                obtain ⟨e11, ad11, rfl, hc11⟩ := ints_at HT8.out.2 v (by rw [List.length_take]; omega)
                rw [rd_take _ _ _ hvl (by omega)] at hc10 hc11
                rw [List.length_take] at e10 e11
                have hm10 : (v : Int) < (m10 : Int) := by omega
                have hm11 : (v : Int) < (m11 : Int) := by omega
                clear e10 e11 hl1 hl2
                go_wp2_with (fail)
                go_quiet ((first | (go_at_call 15; exact Calls.quiet_of_same (hL.out _ (HS8.out.below (pw_below_drewN (Below.refl _ _) _)))) | (go_at_call 17; exact Calls.quiet_of_same (hU.out _ (HS8.out.below (pw_below_drewN (Below.refl _ _) _))))))
                go_wp2_with (fail)
                go_roundg (c.ps.length - (v + 1))
                case measure => omega
                case rel => exact ⟨v + 1, by omega, by omega, by go_num, ⟨by have hB := HV.out; with_reducible repeat (first | exact hB | apply pw_below_drewN | apply below_drew1 | apply below_alloc)⟩⟩
              · have hv6 : (n6 : Int) ≤ (v : Int) := by have := h6l.out; omega
                have hvn : decide (v < n6) = false := decide_eq_false (by omega)
                go_wp2_with (fail)
                go_ret
                exact ⟨rfl, (HS8.out.below (by with_reducible repeat (first | exact Below.refl _ _ | apply below_drew1 | apply below_alloc))).2.1⟩
end Go.Proofs.YteaidhoimaphlaaGreat.PM
