import Derived.Test.YteaidhoimaphlaaGreatMDoa
import Derived.RangeFuncNested
import Derived.RangeFuncBound
import Derived.RangeFuncCalls
import Derived.RangeFuncLeaves
import Derived.RangeFuncBox
import Derived.Shelf.Abstract
import Derived.Shelf.RegionOpen
import Derived.OwnWalkIn
import Derived.TacticsInMore
import Derived.LoopNIn
import Derived.LoopIn
import Derived.Deep.RegionHeld3
import Derived.Deep.RegionLaw
import Derived.Laws.CopyOwn
import Derived.Laws.EntriesVeiled
namespace Go.Proofs.YteaidhoimaphlaaGreat.PM
open Go.RowKit Go.Shelf Go.Proofs.YteaidhoimaphlaaGreatW.PrintWords Go.Proofs.YteaidhoimaphlaaGreatW.PrintLast Go.Proofs.YteaidhoimaphlaaGreatW.PrintMore
attribute [local go_sem] max2_int min2_int max_two min_two max_three min_three max_four min_four
set_option linter.unusedVariables false
set_option linter.unusedSimpArgs false
set_option maxHeartbeats 8000000 in
set_option maxRecDepth 100000 in
theorem K_Do1 (W0 W : World) (b : Nat) (M : ML) (hW : Below W0.heap.size W0 W) (h : MAt W0 W b M) (hok : MOk M) (v n : Int) (he : checkE M.c 1 v n = 0) (hn : n ≤ 9223372036854775807) : Calls Tryz.prog 13 #[.pointer (some ⟨b, 0, none⟩), .agg #[.int .i64 (1), .int .i64 v, .int .i64 n]] W fun e w' => e = .returned (ansV (doM M (1) v n).2) ∧ KB W w' b ∧ MAt W0 w' b (doM M (1) v n).1 := by
  have HOK := Aside0.mk hok
  have HM := Aside0.mk h
  have HW := Aside0.mk hW
  have hus := Tryz.underlying24
  have hua := Tryz.underlying35
  have huc := Tryz.underlying38
  have hsz := Aside0.mk h.b_lt
  have HN := Aside0.mk hn
  have HE := Aside0.mk he
  obtain ⟨A6, n6, d6, A7, n7, d7, ⟨q0, q1, q2, q3, q4, q5, q6, q7⟩, h6, h7⟩ := h.cells
  have H6 := Aside0.mk (h6.below hW)
  have H7 := Aside0.mk (h7.below hW)
  clear h hok hW hn h6 h7
  have hcheck : Aside0 (∀ w, Below W.heap.size W w → Calls Tryz.prog 19 #[.agg #[.int .i64 M.c.th, .int .i64 M.c.st, .int .i64 M.c.ga, .int .i64 M.c.le, .int .i64 M.c.re, .int .i64 M.c.ti, .slice A6 n6 d6, .slice A7 n7 d7], .agg #[.int .i64 (1), .int .i64 v, .int .i64 n]] w fun e w' => e = .returned (.int .i64 (0)) ∧ Below w.heap.size w w') := ⟨fun w hw => by have := K_check M.c A6 n6 d6 A7 n7 d7 (1) v n HN.out w (H6.out.below hw) (H7.out.below hw) HOK.out.nodes; rw [he] at this; exact this⟩
  clear he
  go_enter Tryz.func13, Tryz.ntmps13
  go_wp2_with (fail)
  obtain ⟨W1, hW1⟩ : ∃ W1, (W.alloc (.cells #[.int .i64 (1), .int .i64 v, .int .i64 n] 38)).alloc (.cells #[.int .i64 0, .int .i64 0, .bool false, .int .i64 0] 35) = W1 := ⟨_, rfl⟩
  have hB1 : Aside0 (Below W.heap.size W W1) := ⟨by rw [← hW1]; exact below_alloc (below_alloc (Below.refl _ _) _) _⟩
  have HB1 : Aside0 (W1.heap[W.heap.size]? = some (.cells #[.int .i64 (1), .int .i64 v, .int .i64 n] 38 (0, 0)) ∧ W1.heap[W.heap.size + 1]? = some (.cells #[.int .i64 0, .int .i64 0, .bool false, .int .i64 0] 35 (0, 0)) ∧ W.heap.size + 2 ≤ W1.heap.size) := ⟨by rw [← hW1]; exact two_box (Below.refl _ _)⟩
  rw [hW1]
  clear hW1
  replace q0 := below_cell_of hB1.out q0
  replace q1 := below_cell_of hB1.out q1
  replace q2 := below_cell_of hB1.out q2
  replace q3 := below_cell_of hB1.out q3
  replace q4 := below_cell_of hB1.out q4
  replace q5 := below_cell_of hB1.out q5
  replace q6 := below_cell_of hB1.out q6
  replace q7 := below_cell_of hB1.out q7
  obtain ⟨x0, x1, x2⟩ := box3 HB1.out.1
  go_region_held3 (fun w3 => (w3.cell? ⟨b, 0, none⟩ = some (.int .i64 M.c.th) ∧ w3.cell? ⟨b, 1, none⟩ = some (.int .i64 M.c.st) ∧ w3.cell? ⟨b, 2, none⟩ = some (.int .i64 M.c.ga) ∧ w3.cell? ⟨b, 3, none⟩ = some (.int .i64 M.c.le) ∧ w3.cell? ⟨b, 4, none⟩ = some (.int .i64 M.c.re) ∧ w3.cell? ⟨b, 5, none⟩ = some (.int .i64 M.c.ti) ∧ w3.cell? ⟨b, 6, none⟩ = some (.slice A6 n6 d6) ∧ w3.cell? ⟨b, 7, none⟩ = some (.slice A7 n7 d7)) ∧ w3.cell? ⟨W.heap.size, 0, none⟩ = some (.int .i64 (1)) ∧ w3.cell? ⟨W.heap.size, 1, none⟩ = some (.int .i64 v) ∧ w3.cell? ⟨W.heap.size, 2, none⟩ = some (.int .i64 n)) (first | go_keep | (go_split_ands; (repeat' apply And.intro); all_goals (refine below_cell_of hb2 ?_; assumption))) ((go_at_call 19; refine (hcheck.out _ (by repeat (first | exact hB1.out | apply below_alloc | apply below_drew1 | apply pw_below_drewN))).mono ?_; rintro e w2 ⟨rfl, hb2⟩))
  rename_i hHeld
  clear hHeld x0 x1 x2 q0 q1 q2 q3 q4 q5 q6 q7
  have hB2 : Aside0 (Below W1.heap.size W1 w2) := ⟨(Below.refl W1.heap.size W1).drew.trans hb2⟩
  have HB2 : Aside0 (w2.heap[W.heap.size]? = some (.cells #[.int .i64 (1), .int .i64 v, .int .i64 n] 38 (0, 0)) ∧ w2.heap[W.heap.size + 1]? = some (.cells #[.int .i64 0, .int .i64 0, .bool false, .int .i64 0] 35 (0, 0)) ∧ W.heap.size + 2 ≤ w2.heap.size) := ⟨blk_below HB1.out.1 hB2.out, blk_below HB1.out.2.1 hB2.out, Nat.le_trans HB1.out.2.2 hB2.out.size⟩
  have HM2 : Aside0 (MAt W0 w2 b M) := ⟨(HM.out.below hB1.out).below hB2.out⟩
  have HK2 : Aside0 (KB W w2 b) := ⟨(KB.of_below hB1.out b).trans (KB.of_below hB2.out b)⟩
  have hBB : Aside0 (Below W.heap.size W w2) := ⟨hB1.out.trans (hB2.out.mono hB1.out.size)⟩
  have hne : Aside0 (b ≠ W.heap.size + 1) := ⟨by have := hsz.out; omega⟩
  clear hb2
  obtain ⟨x0, x1, x2⟩ := box3 HB2.out.1
  have hres : Aside0 (doM M 1 v n = (admitM M v n)) := ⟨by unfold doM; rw [HE.out]; rfl⟩
  go_wp2_with (go_at_call 26; refine (K_admit W0 _ b M (HW.out.trans (hBB.out.mono HW.out.size)) HM2.out HOK.out v n).mono ?_; rintro e w5 ⟨rfl, hk5, hm5⟩; unfold ansV; have HR5 := Aside0.mk (hk5.blk HB2.out.2.1 (Ne.symm hne.out)); have HK5 := Aside0.mk hk5; have HM5 := Aside0.mk hm5; clear hk5 hm5; obtain ⟨r0, r1, r2, r3, f0, f1, f2, f3⟩ := box4 HR5.out)
  refine bodyPost_ret (results_cell_row rfl _ _ (W.heap.size + 1) 35 #[.int .i64 ((admitM M v n).2.err), .int .i64 ((admitM M v n).2.n), .bool ((admitM M v n).2.ex), .int .i64 ((admitM M v n).2.node)] (0, 0) _ rfl (blk_put4 HR5.out _ _ _ _) hua rfl (by kernel_rfl)) rfl ?_
  rw [hres.out]
  exact ⟨rfl, (HK2.out.trans HK5.out).put4 (by omega) _ _ _ _, HM5.out.put4 hne.out _ _ _ _⟩
set_option maxHeartbeats 8000000 in
set_option maxRecDepth 100000 in
theorem K_Do2 (W0 W : World) (b : Nat) (M : ML) (hW : Below W0.heap.size W0 W) (h : MAt W0 W b M) (hok : MOk M) (v n : Int) (he : checkE M.c 2 v n = 0) (hn : n ≤ 9223372036854775807) : Calls Tryz.prog 13 #[.pointer (some ⟨b, 0, none⟩), .agg #[.int .i64 (2), .int .i64 v, .int .i64 n]] W fun e w' => e = .returned (ansV (doM M (2) v n).2) ∧ KB W w' b ∧ MAt W0 w' b (doM M (2) v n).1 := by
  have HOK := Aside0.mk hok
  have HM := Aside0.mk h
  have HW := Aside0.mk hW
  have hus := Tryz.underlying24
  have hua := Tryz.underlying35
  have huc := Tryz.underlying38
  have hsz := Aside0.mk h.b_lt
  have HN := Aside0.mk hn
  have HE := Aside0.mk he
  obtain ⟨A6, n6, d6, A7, n7, d7, ⟨q0, q1, q2, q3, q4, q5, q6, q7⟩, h6, h7⟩ := h.cells
  have H6 := Aside0.mk (h6.below hW)
  have H7 := Aside0.mk (h7.below hW)
  clear h hok hW hn h6 h7
  have hcheck : Aside0 (∀ w, Below W.heap.size W w → Calls Tryz.prog 19 #[.agg #[.int .i64 M.c.th, .int .i64 M.c.st, .int .i64 M.c.ga, .int .i64 M.c.le, .int .i64 M.c.re, .int .i64 M.c.ti, .slice A6 n6 d6, .slice A7 n7 d7], .agg #[.int .i64 (2), .int .i64 v, .int .i64 n]] w fun e w' => e = .returned (.int .i64 (0)) ∧ Below w.heap.size w w') := ⟨fun w hw => by have := K_check M.c A6 n6 d6 A7 n7 d7 (2) v n HN.out w (H6.out.below hw) (H7.out.below hw) HOK.out.nodes; rw [he] at this; exact this⟩
  clear he
  go_enter Tryz.func13, Tryz.ntmps13
  go_wp2_with (fail)
  obtain ⟨W1, hW1⟩ : ∃ W1, (W.alloc (.cells #[.int .i64 (2), .int .i64 v, .int .i64 n] 38)).alloc (.cells #[.int .i64 0, .int .i64 0, .bool false, .int .i64 0] 35) = W1 := ⟨_, rfl⟩
  have hB1 : Aside0 (Below W.heap.size W W1) := ⟨by rw [← hW1]; exact below_alloc (below_alloc (Below.refl _ _) _) _⟩
  have HB1 : Aside0 (W1.heap[W.heap.size]? = some (.cells #[.int .i64 (2), .int .i64 v, .int .i64 n] 38 (0, 0)) ∧ W1.heap[W.heap.size + 1]? = some (.cells #[.int .i64 0, .int .i64 0, .bool false, .int .i64 0] 35 (0, 0)) ∧ W.heap.size + 2 ≤ W1.heap.size) := ⟨by rw [← hW1]; exact two_box (Below.refl _ _)⟩
  rw [hW1]
  clear hW1
  replace q0 := below_cell_of hB1.out q0
  replace q1 := below_cell_of hB1.out q1
  replace q2 := below_cell_of hB1.out q2
  replace q3 := below_cell_of hB1.out q3
  replace q4 := below_cell_of hB1.out q4
  replace q5 := below_cell_of hB1.out q5
  replace q6 := below_cell_of hB1.out q6
  replace q7 := below_cell_of hB1.out q7
  obtain ⟨x0, x1, x2⟩ := box3 HB1.out.1
  go_region_held3 (fun w3 => (w3.cell? ⟨b, 0, none⟩ = some (.int .i64 M.c.th) ∧ w3.cell? ⟨b, 1, none⟩ = some (.int .i64 M.c.st) ∧ w3.cell? ⟨b, 2, none⟩ = some (.int .i64 M.c.ga) ∧ w3.cell? ⟨b, 3, none⟩ = some (.int .i64 M.c.le) ∧ w3.cell? ⟨b, 4, none⟩ = some (.int .i64 M.c.re) ∧ w3.cell? ⟨b, 5, none⟩ = some (.int .i64 M.c.ti) ∧ w3.cell? ⟨b, 6, none⟩ = some (.slice A6 n6 d6) ∧ w3.cell? ⟨b, 7, none⟩ = some (.slice A7 n7 d7)) ∧ w3.cell? ⟨W.heap.size, 0, none⟩ = some (.int .i64 (2)) ∧ w3.cell? ⟨W.heap.size, 1, none⟩ = some (.int .i64 v) ∧ w3.cell? ⟨W.heap.size, 2, none⟩ = some (.int .i64 n)) (first | go_keep | (go_split_ands; (repeat' apply And.intro); all_goals (refine below_cell_of hb2 ?_; assumption))) ((go_at_call 19; refine (hcheck.out _ (by repeat (first | exact hB1.out | apply below_alloc | apply below_drew1 | apply pw_below_drewN))).mono ?_; rintro e w2 ⟨rfl, hb2⟩))
  rename_i hHeld
  clear hHeld x0 x1 x2 q0 q1 q2 q3 q4 q5 q6 q7
  have hB2 : Aside0 (Below W1.heap.size W1 w2) := ⟨(Below.refl W1.heap.size W1).drew.trans hb2⟩
  have HB2 : Aside0 (w2.heap[W.heap.size]? = some (.cells #[.int .i64 (2), .int .i64 v, .int .i64 n] 38 (0, 0)) ∧ w2.heap[W.heap.size + 1]? = some (.cells #[.int .i64 0, .int .i64 0, .bool false, .int .i64 0] 35 (0, 0)) ∧ W.heap.size + 2 ≤ w2.heap.size) := ⟨blk_below HB1.out.1 hB2.out, blk_below HB1.out.2.1 hB2.out, Nat.le_trans HB1.out.2.2 hB2.out.size⟩
  have HM2 : Aside0 (MAt W0 w2 b M) := ⟨(HM.out.below hB1.out).below hB2.out⟩
  have HK2 : Aside0 (KB W w2 b) := ⟨(KB.of_below hB1.out b).trans (KB.of_below hB2.out b)⟩
  have hBB : Aside0 (Below W.heap.size W w2) := ⟨hB1.out.trans (hB2.out.mono hB1.out.size)⟩
  have hne : Aside0 (b ≠ W.heap.size + 1) := ⟨by have := hsz.out; omega⟩
  clear hb2
  obtain ⟨x0, x1, x2⟩ := box3 HB2.out.1
  have hres : Aside0 (doM M 2 v n = (releaseM M n)) := ⟨by unfold doM; rw [HE.out]; rfl⟩
  go_wp2_with (go_at_call 27; refine (K_release W0 _ b M (HW.out.trans (hBB.out.mono HW.out.size)) HM2.out HOK.out v n HN.out).mono ?_; rintro e w5 ⟨rfl, hk5, hm5⟩; unfold ansV; have HR5 := Aside0.mk (hk5.blk HB2.out.2.1 (Ne.symm hne.out)); have HK5 := Aside0.mk hk5; have HM5 := Aside0.mk hm5; clear hk5 hm5; obtain ⟨r0, r1, r2, r3, f0, f1, f2, f3⟩ := box4 HR5.out)
  refine bodyPost_ret (results_cell_row rfl _ _ (W.heap.size + 1) 35 #[.int .i64 ((releaseM M n).2.err), .int .i64 ((releaseM M n).2.n), .bool ((releaseM M n).2.ex), .int .i64 ((releaseM M n).2.node)] (0, 0) _ rfl (blk_put4 HR5.out _ _ _ _) hua rfl (by kernel_rfl)) rfl ?_
  rw [hres.out]
  exact ⟨rfl, (HK2.out.trans HK5.out).put4 (by omega) _ _ _ _, HM5.out.put4 hne.out _ _ _ _⟩
end Go.Proofs.YteaidhoimaphlaaGreat.PM
