import Derived.Test.YteaidhoimaphlaaGreatMDoa
import Derived.RangeFuncNested
import Derived.RangeFuncBound
import Derived.RangeFuncCalls
import Derived.RangeFuncLeaves
import Derived.RangeFuncBox
import Derived.Shelf.Abstract
import Derived.Shelf.RegionOpen
import Derived.OwnWalkIn
import Derived.TacticsInMore
import Derived.LoopNIn
import Derived.LoopIn
import Derived.Deep.RegionHeld3
import Derived.Deep.RegionLaw
import Derived.Laws.CopyOwn
import Derived.Laws.EntriesVeiled
namespace Go.Proofs.YteaidhoimaphlaaGreat.PM
open Go.RowKit Go.Shelf Go.Proofs.YteaidhoimaphlaaGreatW.PrintWords Go.Proofs.YteaidhoimaphlaaGreatW.PrintLast Go.Proofs.YteaidhoimaphlaaGreatW.PrintMore
attribute [local go_sem] max2_int min2_int max_two min_two max_three min_three max_four min_four
set_option linter.unusedVariables false
set_option linter.unusedSimpArgs false
set_option maxHeartbeats 8000000 in
set_option maxRecDepth 100000 in
theorem K_Do3 (W0 W : World) (b : Nat) (M : ML) (hW : Below W0.heap.size W0 W) (h : MAt W0 W b M) (hok : MOk M) (v n : Int) (he : checkE M.c 3 v n = 0) (hn : n ≤ 9223372036854775807) : Calls Tryz.prog 13 #[.pointer (some ⟨b, 0, none⟩), .agg #[.int .i64 (3), .int .i64 v, .int .i64 n]] W fun e w' => e = .returned (ansV (doM M (3) v n).2) ∧ KB W w' b ∧ MAt W0 w' b (doM M (3) v n).1 := by
  have HOK := Aside0.mk hok
  have HM := Aside0.mk h
  have HW := Aside0.mk hW
  have hus := Tryz.underlying24
  have hua := Tryz.underlying35
  have huc := Tryz.underlying38
  have hsz := Aside0.mk h.b_lt
  have HN := Aside0.mk hn
  have HE := Aside0.mk he
  obtain ⟨A6, n6, d6, A7, n7, d7, ⟨q0, q1, q2, q3, q4, q5, q6, q7⟩, h6, h7⟩ := h.cells
  have H6 := Aside0.mk (h6.below hW)
  have H7 := Aside0.mk (h7.below hW)
  clear h hok hW hn h6 h7
  have hcheck : Aside0 (∀ w, Below W.heap.size W w → Calls Tryz.prog 19 #[.agg #[.int .i64 M.c.th, .int .i64 M.c.st, .int .i64 M.c.ga, .int .i64 M.c.le, .int .i64 M.c.re, .int .i64 M.c.ti, .slice A6 n6 d6, .slice A7 n7 d7], .agg #[.int .i64 (3), .int .i64 v, .int .i64 n]] w fun e w' => e = .returned (.int .i64 (0)) ∧ Below w.heap.size w w') := ⟨fun w hw => by have := K_check M.c A6 n6 d6 A7 n7 d7 (3) v n HN.out w (H6.out.below hw) (H7.out.below hw) HOK.out.nodes; rw [he] at this; exact this⟩
  clear he
  go_enter Tryz.func13, Tryz.ntmps13
  go_wp2_with (fail)
  obtain ⟨W1, hW1⟩ : ∃ W1, (W.alloc (.cells #[.int .i64 (3), .int .i64 v, .int .i64 n] 38)).alloc (.cells #[.int .i64 0, .int .i64 0, .bool false, .int .i64 0] 35) = W1 := ⟨_, rfl⟩
  have hB1 : Aside0 (Below W.heap.size W W1) := ⟨by rw [← hW1]; exact below_alloc (below_alloc (Below.refl _ _) _) _⟩
  have HB1 : Aside0 (W1.heap[W.heap.size]? = some (.cells #[.int .i64 (3), .int .i64 v, .int .i64 n] 38 (0, 0)) ∧ W1.heap[W.heap.size + 1]? = some (.cells #[.int .i64 0, .int .i64 0, .bool false, .int .i64 0] 35 (0, 0)) ∧ W.heap.size + 2 ≤ W1.heap.size) := ⟨by rw [← hW1]; exact two_box (Below.refl _ _)⟩
  rw [hW1]
  clear hW1
  replace q0 := below_cell_of hB1.out q0
  replace q1 := below_cell_of hB1.out q1
  replace q2 := below_cell_of hB1.out q2
  replace q3 := below_cell_of hB1.out q3
  replace q4 := below_cell_of hB1.out q4
  replace q5 := below_cell_of hB1.out q5
  replace q6 := below_cell_of hB1.out q6
  replace q7 := below_cell_of hB1.out q7
  obtain ⟨x0, x1, x2⟩ := box3 HB1.out.1
  go_region_held3 (fun w3 => (w3.cell? ⟨b, 0, none⟩ = some (.int .i64 M.c.th) ∧ w3.cell? ⟨b, 1, none⟩ = some (.int .i64 M.c.st) ∧ w3.cell? ⟨b, 2, none⟩ = some (.int .i64 M.c.ga) ∧ w3.cell? ⟨b, 3, none⟩ = some (.int .i64 M.c.le) ∧ w3.cell? ⟨b, 4, none⟩ = some (.int .i64 M.c.re) ∧ w3.cell? ⟨b, 5, none⟩ = some (.int .i64 M.c.ti) ∧ w3.cell? ⟨b, 6, none⟩ = some (.slice A6 n6 d6) ∧ w3.cell? ⟨b, 7, none⟩ = some (.slice A7 n7 d7)) ∧ w3.cell? ⟨W.heap.size, 0, none⟩ = some (.int .i64 (3)) ∧ w3.cell? ⟨W.heap.size, 1, none⟩ = some (.int .i64 v) ∧ w3.cell? ⟨W.heap.size, 2, none⟩ = some (.int .i64 n)) (first | go_keep | (go_split_ands; (repeat' apply And.intro); all_goals (refine below_cell_of hb2 ?_; assumption))) ((go_at_call 19; refine (hcheck.out _ (by repeat (first | exact hB1.out | apply below_alloc | apply below_drew1 | apply pw_below_drewN))).mono ?_; rintro e w2 ⟨rfl, hb2⟩))
  rename_i hHeld
  clear hHeld x0 x1 x2 q0 q1 q2 q3 q4 q5 q6 q7
  have hB2 : Aside0 (Below W1.heap.size W1 w2) := ⟨(Below.refl W1.heap.size W1).drew.trans hb2⟩
  have HB2 : Aside0 (w2.heap[W.heap.size]? = some (.cells #[.int .i64 (3), .int .i64 v, .int .i64 n] 38 (0, 0)) ∧ w2.heap[W.heap.size + 1]? = some (.cells #[.int .i64 0, .int .i64 0, .bool false, .int .i64 0] 35 (0, 0)) ∧ W.heap.size + 2 ≤ w2.heap.size) := ⟨blk_below HB1.out.1 hB2.out, blk_below HB1.out.2.1 hB2.out, Nat.le_trans HB1.out.2.2 hB2.out.size⟩
  have HM2 : Aside0 (MAt W0 w2 b M) := ⟨(HM.out.below hB1.out).below hB2.out⟩
  have HK2 : Aside0 (KB W w2 b) := ⟨(KB.of_below hB1.out b).trans (KB.of_below hB2.out b)⟩
  have hBB : Aside0 (Below W.heap.size W w2) := ⟨hB1.out.trans (hB2.out.mono hB1.out.size)⟩
  have hne : Aside0 (b ≠ W.heap.size + 1) := ⟨by have := hsz.out; omega⟩
  clear hb2
  obtain ⟨x0, x1, x2⟩ := box3 HB2.out.1
  obtain ⟨m, rfl⟩ : ∃ m : Nat, v = (m : Int) := ⟨v.toNat, by have := checkE_node _ _ _ _ HE.out (by omega); omega⟩
  have hm0 : (0 : Int) ≤ (m : Int) := by omega
  have hm1 : (m : Int) < 12 := by have := checkE_node _ _ _ _ HE.out (by omega); have := HOK.out.nodes; omega
  have hcell : Aside0 (∀ w, MAt W0 w b M → w.cell? ⟨b, 8 + m, none⟩ = some (.int .i64 (rd M.lim (m : Int))) ∧ w.cell? ⟨b, 20 + m, none⟩ = some (.int .i64 (rd M.use (m : Int))) ∧ w.frozen? ⟨b, 8 + m, none⟩ = false) := ⟨fun w hw => by
    obtain ⟨_, _, _, _, _, _, hbr, _, _, hl, hu, ht, _⟩ := hw
    exact ⟨mc_lim hbr rfl m (by omega), mc_use hbr rfl hl m (by omega), mc_frozen hbr _⟩⟩
  have hmset : Aside0 (∀ w y, MAt W0 w b M → MAt W0 (w.setCell ⟨b, 8 + m, none⟩ (.int .i64 y)).drew b { M with lim := M.lim.set m y }) := ⟨fun w y hw => by
    obtain ⟨a1, a2, a3, a4, a5, a6, hbr, g6, g7, hl, hu, ht, hW⟩ := hw
    exact ⟨a1, a2, a3, a4, a5, a6, mc_set_lim hbr rfl m (by omega) y, g6, g7, by simp [hl], hu, ht, hW⟩⟩
  obtain ⟨cl, cu, cf⟩ := hcell.out _ HM2.out
  go_wp2_with (fail)
  go_region_held3 (fun w3 => w3.cell? ⟨W.heap.size, 1, none⟩ = some (.int .i64 (m : Int)) ∧ w3.cell? ⟨W.heap.size, 2, none⟩ = some (.int .i64 n) ∧ w3.cell? ⟨b, 8 + m, none⟩ = some (.int .i64 (rd M.lim (m : Int))) ∧ w3.cell? ⟨b, 20 + m, none⟩ = some (.int .i64 (rd M.use (m : Int)))) (first | go_keep) (fail)
  rename_i hHeld
  clear hHeld
  have HM3 : Aside0 (MAt W0 w2.drew b M) := ⟨HM2.out.keep rfl⟩
  have hwr : IntKind.i64.wrap (1099511627776 - n) = wrap64 (1099511627776 - n) := i64w _
  by_cases hc : wrap64 (1099511627776 - n) < rd M.lim (m : Int)
  · have hcb : decide (IntKind.i64.wrap (1099511627776 - n) < rd M.lim (m : Int)) = true := by rw [hwr]; exact decide_eq_true hc
    have hcc : ¬ rd M.lim (m : Int) ≤ IntKind.i64.wrap (1099511627776 - n) := by rw [hwr]; omega
    have hres : Aside0 (doM M 3 (m : Int) n = (M, ⟨6, 0, false, 0⟩)) := ⟨by unfold doM; rw [HE.out]; exact (show _ = _ from by simp only [ne_eq, not_true_eq_false, if_false, show ((3 : Int) = 1) = False by decide, show ((3 : Int) = 2) = False by decide, if_pos hc, if_true])⟩
    clear hwr hc
    go_wp2_with (go_at_call 25; refine (K_refused _ _ _).mono ?_; rintro e w5 ⟨rfl, hb5⟩; have hb5' : Aside0 (Below w2.heap.size w2 w5) := ⟨below_step (by repeat (first | apply below_drew1 | apply below_alloc | exact Below.refl _ _)) hb5⟩; obtain ⟨r0, r1, r2, r3, f0, f1, f2, f3⟩ := box4 (blk_below HB2.out.2.1 hb5'.out); clear hb5)
    refine bodyPost_ret (results_cell_row rfl _ _ (W.heap.size + 1) 35 #[.int .i64 6, .int .i64 0, .bool false, .int .i64 0] (0, 0) _ rfl (blk_put4 (blk_below HB2.out.2.1 hb5'.out) _ _ _ _) hua rfl (by kernel_rfl)) rfl ?_
    rw [hres.out]
    exact ⟨rfl, (HK2.out.trans (KB.of_below hb5'.out b)).put4 (by omega) _ _ _ _, (HM2.out.below hb5'.out).put4 hne.out _ _ _ _⟩
  · have hcb : decide (IntKind.i64.wrap (1099511627776 - n) < rd M.lim (m : Int)) = false := by rw [hwr]; exact decide_eq_false hc
    have hcc : ¬ IntKind.i64.wrap (1099511627776 - n) < rd M.lim (m : Int) := by rw [hwr]; exact hc
    have hres : Aside0 (doM M 3 (m : Int) n = ({ M with lim := M.lim.set m (wrap64 (rd M.lim (m : Int) + n)) }, ⟨0, 0, false, 0⟩)) := ⟨by unfold doM; rw [HE.out]; simp only [ne_eq, not_true_eq_false, if_false, show ((3 : Int) = 1) = False by decide, show ((3 : Int) = 2) = False by decide, if_neg hc, if_true, Int.toNat_natCast]⟩
    clear hwr hc
    have HX3 := Aside0.mk (blk_drew HB2.out.1)
    go_wp2_with (fail)
    go_region
    obtain ⟨w3, hw3⟩ : ∃ w3, (w2.setCell ⟨b, 8 + m, none⟩ (.int .i64 (wrap64 (rd M.lim (m : Int) + n)))).drew.drew = w3 := ⟨_, rfl⟩
    have HM4 : Aside0 (MAt W0 w3 b { M with lim := M.lim.set m (wrap64 (rd M.lim (m : Int) + n)) }) := ⟨by rw [← hw3]; exact (hmset.out w2 _ HM2.out).keep rfl⟩
    have HK4 : Aside0 (KB w2 w3 b) := ⟨by rw [← hw3]; exact (((KB.refl w2 b).set _ _).drew).drew⟩
    rw [hw3]
    clear hw3
    have HR4 := Aside0.mk (HK4.out.blk HB2.out.2.1 (Ne.symm hne.out))
    obtain ⟨r0, r1, r2, r3, f0, f1, f2, f3⟩ := box4 HR4.out
    go_wp2_with (fail)
    refine bodyPost_ret (results_cell_row rfl _ _ (W.heap.size + 1) 35 #[.int .i64 (0), .int .i64 (0), .bool (false), .int .i64 (0)] (0, 0) _ rfl (blk_put4 HR4.out _ _ _ _) hua rfl (by kernel_rfl)) rfl ?_
    rw [hres.out]
    exact ⟨rfl, (HK2.out.trans HK4.out).put4 (by omega) _ _ _ _, HM4.out.put4 hne.out _ _ _ _⟩
set_option maxHeartbeats 8000000 in
set_option maxRecDepth 100000 in
theorem K_Do4 (W0 W : World) (b : Nat) (M : ML) (hW : Below W0.heap.size W0 W) (h : MAt W0 W b M) (hok : MOk M) (v n : Int) (he : checkE M.c 4 v n = 0) (hn : n ≤ 9223372036854775807) : Calls Tryz.prog 13 #[.pointer (some ⟨b, 0, none⟩), .agg #[.int .i64 (4), .int .i64 v, .int .i64 n]] W fun e w' => e = .returned (ansV (doM M (4) v n).2) ∧ KB W w' b ∧ MAt W0 w' b (doM M (4) v n).1 := by
  have HOK := Aside0.mk hok
  have HM := Aside0.mk h
  have HW := Aside0.mk hW
  have hus := Tryz.underlying24
  have hua := Tryz.underlying35
  have huc := Tryz.underlying38
  have hsz := Aside0.mk h.b_lt
  have HN := Aside0.mk hn
  have HE := Aside0.mk he
  obtain ⟨A6, n6, d6, A7, n7, d7, ⟨q0, q1, q2, q3, q4, q5, q6, q7⟩, h6, h7⟩ := h.cells
  have H6 := Aside0.mk (h6.below hW)
  have H7 := Aside0.mk (h7.below hW)
  clear h hok hW hn h6 h7
  have hcheck : Aside0 (∀ w, Below W.heap.size W w → Calls Tryz.prog 19 #[.agg #[.int .i64 M.c.th, .int .i64 M.c.st, .int .i64 M.c.ga, .int .i64 M.c.le, .int .i64 M.c.re, .int .i64 M.c.ti, .slice A6 n6 d6, .slice A7 n7 d7], .agg #[.int .i64 (4), .int .i64 v, .int .i64 n]] w fun e w' => e = .returned (.int .i64 (0)) ∧ Below w.heap.size w w') := ⟨fun w hw => by have := K_check M.c A6 n6 d6 A7 n7 d7 (4) v n HN.out w (H6.out.below hw) (H7.out.below hw) HOK.out.nodes; rw [he] at this; exact this⟩
  clear he
  go_enter Tryz.func13, Tryz.ntmps13
  go_wp2_with (fail)
  obtain ⟨W1, hW1⟩ : ∃ W1, (W.alloc (.cells #[.int .i64 (4), .int .i64 v, .int .i64 n] 38)).alloc (.cells #[.int .i64 0, .int .i64 0, .bool false, .int .i64 0] 35) = W1 := ⟨_, rfl⟩
  have hB1 : Aside0 (Below W.heap.size W W1) := ⟨by rw [← hW1]; exact below_alloc (below_alloc (Below.refl _ _) _) _⟩
  have HB1 : Aside0 (W1.heap[W.heap.size]? = some (.cells #[.int .i64 (4), .int .i64 v, .int .i64 n] 38 (0, 0)) ∧ W1.heap[W.heap.size + 1]? = some (.cells #[.int .i64 0, .int .i64 0, .bool false, .int .i64 0] 35 (0, 0)) ∧ W.heap.size + 2 ≤ W1.heap.size) := ⟨by rw [← hW1]; exact two_box (Below.refl _ _)⟩
  rw [hW1]
  clear hW1
  replace q0 := below_cell_of hB1.out q0
  replace q1 := below_cell_of hB1.out q1
  replace q2 := below_cell_of hB1.out q2
  replace q3 := below_cell_of hB1.out q3
  replace q4 := below_cell_of hB1.out q4
  replace q5 := below_cell_of hB1.out q5
  replace q6 := below_cell_of hB1.out q6
  replace q7 := below_cell_of hB1.out q7
  obtain ⟨x0, x1, x2⟩ := box3 HB1.out.1
  go_region_held3 (fun w3 => (w3.cell? ⟨b, 0, none⟩ = some (.int .i64 M.c.th) ∧ w3.cell? ⟨b, 1, none⟩ = some (.int .i64 M.c.st) ∧ w3.cell? ⟨b, 2, none⟩ = some (.int .i64 M.c.ga) ∧ w3.cell? ⟨b, 3, none⟩ = some (.int .i64 M.c.le) ∧ w3.cell? ⟨b, 4, none⟩ = some (.int .i64 M.c.re) ∧ w3.cell? ⟨b, 5, none⟩ = some (.int .i64 M.c.ti) ∧ w3.cell? ⟨b, 6, none⟩ = some (.slice A6 n6 d6) ∧ w3.cell? ⟨b, 7, none⟩ = some (.slice A7 n7 d7)) ∧ w3.cell? ⟨W.heap.size, 0, none⟩ = some (.int .i64 (4)) ∧ w3.cell? ⟨W.heap.size, 1, none⟩ = some (.int .i64 v) ∧ w3.cell? ⟨W.heap.size, 2, none⟩ = some (.int .i64 n)) (first | go_keep | (go_split_ands; (repeat' apply And.intro); all_goals (refine below_cell_of hb2 ?_; assumption))) ((go_at_call 19; refine (hcheck.out _ (by repeat (first | exact hB1.out | apply below_alloc | apply below_drew1 | apply pw_below_drewN))).mono ?_; rintro e w2 ⟨rfl, hb2⟩))
  rename_i hHeld
  clear hHeld x0 x1 x2 q0 q1 q2 q3 q4 q5 q6 q7
  have hB2 : Aside0 (Below W1.heap.size W1 w2) := ⟨(Below.refl W1.heap.size W1).drew.trans hb2⟩
  have HB2 : Aside0 (w2.heap[W.heap.size]? = some (.cells #[.int .i64 (4), .int .i64 v, .int .i64 n] 38 (0, 0)) ∧ w2.heap[W.heap.size + 1]? = some (.cells #[.int .i64 0, .int .i64 0, .bool false, .int .i64 0] 35 (0, 0)) ∧ W.heap.size + 2 ≤ w2.heap.size) := ⟨blk_below HB1.out.1 hB2.out, blk_below HB1.out.2.1 hB2.out, Nat.le_trans HB1.out.2.2 hB2.out.size⟩
  have HM2 : Aside0 (MAt W0 w2 b M) := ⟨(HM.out.below hB1.out).below hB2.out⟩
  have HK2 : Aside0 (KB W w2 b) := ⟨(KB.of_below hB1.out b).trans (KB.of_below hB2.out b)⟩
  have hBB : Aside0 (Below W.heap.size W w2) := ⟨hB1.out.trans (hB2.out.mono hB1.out.size)⟩
  have hne : Aside0 (b ≠ W.heap.size + 1) := ⟨by have := hsz.out; omega⟩
  clear hb2
  obtain ⟨x0, x1, x2⟩ := box3 HB2.out.1
  obtain ⟨m, rfl⟩ : ∃ m : Nat, v = (m : Int) := ⟨v.toNat, by have := checkE_node _ _ _ _ HE.out (by omega); omega⟩
  have hm0 : (0 : Int) ≤ (m : Int) := by omega
  have hm1 : (m : Int) < 12 := by have := checkE_node _ _ _ _ HE.out (by omega); have := HOK.out.nodes; omega
  have hcell : Aside0 (∀ w, MAt W0 w b M → w.cell? ⟨b, 8 + m, none⟩ = some (.int .i64 (rd M.lim (m : Int))) ∧ w.cell? ⟨b, 20 + m, none⟩ = some (.int .i64 (rd M.use (m : Int))) ∧ w.frozen? ⟨b, 8 + m, none⟩ = false) := ⟨fun w hw => by
    obtain ⟨_, _, _, _, _, _, hbr, _, _, hl, hu, ht, _⟩ := hw
    exact ⟨mc_lim hbr rfl m (by omega), mc_use hbr rfl hl m (by omega), mc_frozen hbr _⟩⟩
  have hmset : Aside0 (∀ w y, MAt W0 w b M → MAt W0 (w.setCell ⟨b, 8 + m, none⟩ (.int .i64 y)).drew b { M with lim := M.lim.set m y }) := ⟨fun w y hw => by
    obtain ⟨a1, a2, a3, a4, a5, a6, hbr, g6, g7, hl, hu, ht, hW⟩ := hw
    exact ⟨a1, a2, a3, a4, a5, a6, mc_set_lim hbr rfl m (by omega) y, g6, g7, by simp [hl], hu, ht, hW⟩⟩
  obtain ⟨cl, cu, cf⟩ := hcell.out _ HM2.out
  go_wp2_with (fail)
  go_region_held3 (fun w3 => w3.cell? ⟨W.heap.size, 1, none⟩ = some (.int .i64 (m : Int)) ∧ w3.cell? ⟨W.heap.size, 2, none⟩ = some (.int .i64 n) ∧ w3.cell? ⟨b, 8 + m, none⟩ = some (.int .i64 (rd M.lim (m : Int))) ∧ w3.cell? ⟨b, 20 + m, none⟩ = some (.int .i64 (rd M.use (m : Int)))) (first | go_keep) (fail)
  rename_i hHeld
  clear hHeld
  have HM3 : Aside0 (MAt W0 w2.drew b M) := ⟨HM2.out.keep rfl⟩
  have hwr : IntKind.i64.wrap (rd M.lim (m : Int) - rd M.use (m : Int)) = wrap64 (rd M.lim (m : Int) - rd M.use (m : Int)) := i64w _
  by_cases hc : wrap64 (rd M.lim (m : Int) - rd M.use (m : Int)) < n
  · have hcb : decide (IntKind.i64.wrap (rd M.lim (m : Int) - rd M.use (m : Int)) < n) = true := by rw [hwr]; exact decide_eq_true hc
    have hcc : ¬ n ≤ IntKind.i64.wrap (rd M.lim (m : Int) - rd M.use (m : Int)) := by rw [hwr]; omega
    have hres : Aside0 (doM M 4 (m : Int) n = (M, ⟨4, 0, false, (m : Int)⟩)) := ⟨by unfold doM; rw [HE.out]; exact (show _ = _ from by simp only [ne_eq, not_true_eq_false, if_false, show ((4 : Int) = 1) = False by decide, show ((4 : Int) = 2) = False by decide, show ((4 : Int) = 3) = False by decide, if_pos hc, if_true])⟩
    clear hwr hc
    go_wp2_with (go_at_call 25; refine (K_refused _ _ _).mono ?_; rintro e w5 ⟨rfl, hb5⟩; have hb5' : Aside0 (Below w2.heap.size w2 w5) := ⟨below_step (by repeat (first | apply below_drew1 | apply below_alloc | exact Below.refl _ _)) hb5⟩; obtain ⟨r0, r1, r2, r3, f0, f1, f2, f3⟩ := box4 (blk_below HB2.out.2.1 hb5'.out); clear hb5)
    refine bodyPost_ret (results_cell_row rfl _ _ (W.heap.size + 1) 35 #[.int .i64 4, .int .i64 0, .bool false, .int .i64 (m : Int)] (0, 0) _ rfl (blk_put4 (blk_below HB2.out.2.1 hb5'.out) _ _ _ _) hua rfl (by kernel_rfl)) rfl ?_
    rw [hres.out]
    exact ⟨rfl, (HK2.out.trans (KB.of_below hb5'.out b)).put4 (by omega) _ _ _ _, (HM2.out.below hb5'.out).put4 hne.out _ _ _ _⟩
  · have hcb : decide (IntKind.i64.wrap (rd M.lim (m : Int) - rd M.use (m : Int)) < n) = false := by rw [hwr]; exact decide_eq_false hc
    have hcc : ¬ IntKind.i64.wrap (rd M.lim (m : Int) - rd M.use (m : Int)) < n := by rw [hwr]; exact hc
    have hres : Aside0 (doM M 4 (m : Int) n = ({ M with lim := M.lim.set m (wrap64 (rd M.lim (m : Int) - n)) }, ⟨0, 0, false, 0⟩)) := ⟨by unfold doM; rw [HE.out]; simp only [ne_eq, not_true_eq_false, if_false, show ((4 : Int) = 1) = False by decide, show ((4 : Int) = 2) = False by decide, show ((4 : Int) = 3) = False by decide, if_neg hc, if_true, Int.toNat_natCast]⟩
    clear hwr hc
    have HX3 := Aside0.mk (blk_drew HB2.out.1)
    go_wp2_with (fail)
    go_region
    obtain ⟨w3, hw3⟩ : ∃ w3, (w2.setCell ⟨b, 8 + m, none⟩ (.int .i64 (wrap64 (rd M.lim (m : Int) - n)))).drew.drew = w3 := ⟨_, rfl⟩
    have HM4 : Aside0 (MAt W0 w3 b { M with lim := M.lim.set m (wrap64 (rd M.lim (m : Int) - n)) }) := ⟨by rw [← hw3]; exact (hmset.out w2 _ HM2.out).keep rfl⟩
    have HK4 : Aside0 (KB w2 w3 b) := ⟨by rw [← hw3]; exact (((KB.refl w2 b).set _ _).drew).drew⟩
    rw [hw3]
    clear hw3
    have HR4 := Aside0.mk (HK4.out.blk HB2.out.2.1 (Ne.symm hne.out))
    obtain ⟨r0, r1, r2, r3, f0, f1, f2, f3⟩ := box4 HR4.out
    go_wp2_with (fail)
    refine bodyPost_ret (results_cell_row rfl _ _ (W.heap.size + 1) 35 #[.int .i64 (0), .int .i64 (0), .bool (false), .int .i64 (0)] (0, 0) _ rfl (blk_put4 HR4.out _ _ _ _) hua rfl (by kernel_rfl)) rfl ?_
    rw [hres.out]
    exact ⟨rfl, (HK2.out.trans HK4.out).put4 (by omega) _ _ _ _, HM4.out.put4 hne.out _ _ _ _⟩
end Go.Proofs.YteaidhoimaphlaaGreat.PM
