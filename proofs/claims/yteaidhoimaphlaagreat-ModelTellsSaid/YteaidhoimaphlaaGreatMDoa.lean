import Derived.Test.YteaidhoimaphlaaGreatMRel
import Derived.Test.YteaidhoimaphlaaGreatMCheck
import Derived.RangeFuncNested
import Derived.RangeFuncBound
import Derived.RangeFuncCalls
import Derived.RangeFuncLeaves
import Derived.RangeFuncBox
import Derived.Shelf.Abstract
import Derived.Shelf.RegionOpen
import Derived.OwnWalkIn
import Derived.TacticsInMore
import Derived.LoopNIn
import Derived.LoopIn
import Derived.Deep.RegionHeld3
import Derived.Deep.RegionLaw
import Derived.Laws.CopyOwn
import Derived.Laws.EntriesVeiled
namespace Go.Proofs.YteaidhoimaphlaaGreat.PM
open Go.RowKit Go.Shelf Go.Proofs.YteaidhoimaphlaaGreatW.PrintWords Go.Proofs.YteaidhoimaphlaaGreatW.PrintLast Go.Proofs.YteaidhoimaphlaaGreatW.PrintMore
attribute [local go_sem] max2_int min2_int max_two min_two max_three min_three max_four min_four
set_option linter.unusedVariables false
set_option linter.unusedSimpArgs false
def doM (M : ML) (kk v n : Int) : ML × LAns :=
  if checkE M.c kk v n ≠ 0 then (M, ⟨checkE M.c kk v n, 0, false, 0⟩)
  else if kk = 1 then admitM M v n
  else if kk = 2 then releaseM M n
  else if kk = 3 then (if wrap64 (1099511627776 - n) < rd M.lim v then (M, ⟨6, 0, false, 0⟩) else ({ M with lim := M.lim.set v.toNat (wrap64 (rd M.lim v + n)) }, ⟨0, 0, false, 0⟩))
  else if kk = 4 then (if wrap64 (rd M.lim v - rd M.use v) < n then (M, ⟨4, 0, false, v⟩) else ({ M with lim := M.lim.set v.toNat (wrap64 (rd M.lim v - n)) }, ⟨0, 0, false, 0⟩))
  else (M, ⟨0, rd M.use v, decide (kk = 5), 0⟩)
theorem checkE_node (c : LConf) (kk v n : Int) (h : checkE c kk v n = 0) (h3 : 3 ≤ kk) : 0 ≤ v ∧ v < (c.ps.length : Int) := by
  have hn : nodeE c.ps v = 0 → 0 ≤ v ∧ v < (c.ps.length : Int) := by
    unfold nodeE
    split
    · intro h; omega
    · split
      · intro h; omega
      · intro _; omega
  unfold checkE at h
  rw [if_neg (by omega), if_neg (by omega)] at h
  split at h
  · refine hn ?_
    unfold movedE amountE at h
    split at h
    · assumption
    · exact h
  · split at h
    · exact hn h
    · omega
set_option maxHeartbeats 8000000 in
set_option maxRecDepth 100000 in
theorem K_Do_err (W0 W : World) (b : Nat) (M : ML) (hW : Below W0.heap.size W0 W) (h : MAt W0 W b M) (hok : MOk M) (kk v n er : Int) (he : checkE M.c kk v n = er) (hr : er ≠ 0) (hn : n ≤ 9223372036854775807) : Calls Tryz.prog 13 #[.pointer (some ⟨b, 0, none⟩), .agg #[.int .i64 (kk), .int .i64 v, .int .i64 n]] W fun e w' => e = .returned (ansV (doM M (kk) v n).2) ∧ KB W w' b ∧ MAt W0 w' b (doM M (kk) v n).1 := by
  have HOK := Aside0.mk hok
  have HM := Aside0.mk h
  have HW := Aside0.mk hW
  have hus := Tryz.underlying24
  have hua := Tryz.underlying35
  have huc := Tryz.underlying38
  have hsz := Aside0.mk h.b_lt
  have HN := Aside0.mk hn
  have HE := Aside0.mk he
  obtain ⟨A6, n6, d6, A7, n7, d7, ⟨q0, q1, q2, q3, q4, q5, q6, q7⟩, h6, h7⟩ := h.cells
  have H6 := Aside0.mk (h6.below hW)
  have H7 := Aside0.mk (h7.below hW)
  clear h hok hW hn h6 h7
  have hcheck : Aside0 (∀ w, Below W.heap.size W w → Calls Tryz.prog 19 #[.agg #[.int .i64 M.c.th, .int .i64 M.c.st, .int .i64 M.c.ga, .int .i64 M.c.le, .int .i64 M.c.re, .int .i64 M.c.ti, .slice A6 n6 d6, .slice A7 n7 d7], .agg #[.int .i64 (kk), .int .i64 v, .int .i64 n]] w fun e w' => e = .returned (.int .i64 (er)) ∧ Below w.heap.size w w') := ⟨fun w hw => by have := K_check M.c A6 n6 d6 A7 n7 d7 (kk) v n HN.out w (H6.out.below hw) (H7.out.below hw) HOK.out.nodes; rw [he] at this; exact this⟩
  clear he
  go_enter Tryz.func13, Tryz.ntmps13
  go_wp2_with (fail)
  obtain ⟨W1, hW1⟩ : ∃ W1, (W.alloc (.cells #[.int .i64 (kk), .int .i64 v, .int .i64 n] 38)).alloc (.cells #[.int .i64 0, .int .i64 0, .bool false, .int .i64 0] 35) = W1 := ⟨_, rfl⟩
  have hB1 : Aside0 (Below W.heap.size W W1) := ⟨by rw [← hW1]; exact below_alloc (below_alloc (Below.refl _ _) _) _⟩
  have HB1 : Aside0 (W1.heap[W.heap.size]? = some (.cells #[.int .i64 (kk), .int .i64 v, .int .i64 n] 38 (0, 0)) ∧ W1.heap[W.heap.size + 1]? = some (.cells #[.int .i64 0, .int .i64 0, .bool false, .int .i64 0] 35 (0, 0)) ∧ W.heap.size + 2 ≤ W1.heap.size) := ⟨by rw [← hW1]; exact two_box (Below.refl _ _)⟩
  rw [hW1]
  clear hW1
  replace q0 := below_cell_of hB1.out q0
  replace q1 := below_cell_of hB1.out q1
  replace q2 := below_cell_of hB1.out q2
  replace q3 := below_cell_of hB1.out q3
  replace q4 := below_cell_of hB1.out q4
  replace q5 := below_cell_of hB1.out q5
  replace q6 := below_cell_of hB1.out q6
  replace q7 := below_cell_of hB1.out q7
  obtain ⟨x0, x1, x2⟩ := box3 HB1.out.1
  go_region_held3 (fun w3 => (w3.cell? ⟨b, 0, none⟩ = some (.int .i64 M.c.th) ∧ w3.cell? ⟨b, 1, none⟩ = some (.int .i64 M.c.st) ∧ w3.cell? ⟨b, 2, none⟩ = some (.int .i64 M.c.ga) ∧ w3.cell? ⟨b, 3, none⟩ = some (.int .i64 M.c.le) ∧ w3.cell? ⟨b, 4, none⟩ = some (.int .i64 M.c.re) ∧ w3.cell? ⟨b, 5, none⟩ = some (.int .i64 M.c.ti) ∧ w3.cell? ⟨b, 6, none⟩ = some (.slice A6 n6 d6) ∧ w3.cell? ⟨b, 7, none⟩ = some (.slice A7 n7 d7)) ∧ w3.cell? ⟨W.heap.size, 0, none⟩ = some (.int .i64 (kk)) ∧ w3.cell? ⟨W.heap.size, 1, none⟩ = some (.int .i64 v) ∧ w3.cell? ⟨W.heap.size, 2, none⟩ = some (.int .i64 n)) (first | go_keep | (go_split_ands; (repeat' apply And.intro); all_goals (refine below_cell_of hb2 ?_; assumption))) ((go_at_call 19; refine (hcheck.out _ (by repeat (first | exact hB1.out | apply below_alloc | apply below_drew1 | apply pw_below_drewN))).mono ?_; rintro e w2 ⟨rfl, hb2⟩))
  rename_i hHeld
  clear hHeld x0 x1 x2 q0 q1 q2 q3 q4 q5 q6 q7
  have hB2 : Aside0 (Below W1.heap.size W1 w2) := ⟨(Below.refl W1.heap.size W1).drew.trans hb2⟩
  have HB2 : Aside0 (w2.heap[W.heap.size]? = some (.cells #[.int .i64 (kk), .int .i64 v, .int .i64 n] 38 (0, 0)) ∧ w2.heap[W.heap.size + 1]? = some (.cells #[.int .i64 0, .int .i64 0, .bool false, .int .i64 0] 35 (0, 0)) ∧ W.heap.size + 2 ≤ w2.heap.size) := ⟨blk_below HB1.out.1 hB2.out, blk_below HB1.out.2.1 hB2.out, Nat.le_trans HB1.out.2.2 hB2.out.size⟩
  have HM2 : Aside0 (MAt W0 w2 b M) := ⟨(HM.out.below hB1.out).below hB2.out⟩
  have HK2 : Aside0 (KB W w2 b) := ⟨(KB.of_below hB1.out b).trans (KB.of_below hB2.out b)⟩
  have hBB : Aside0 (Below W.heap.size W w2) := ⟨hB1.out.trans (hB2.out.mono hB1.out.size)⟩
  have hne : Aside0 (b ≠ W.heap.size + 1) := ⟨by have := hsz.out; omega⟩
  clear hb2
  obtain ⟨x0, x1, x2⟩ := box3 HB2.out.1
  have hrb : decide (er = 0) = false := decide_eq_false hr
  have hres : Aside0 (doM M kk v n = (M, ⟨er, 0, false, 0⟩)) := ⟨by unfold doM; rw [HE.out, if_pos hr]⟩
  go_wp2_with (go_at_call 25; refine (K_refused _ _ _).mono ?_; rintro e w5 ⟨rfl, hb5⟩; have hb5' : Aside0 (Below w2.heap.size w2 w5) := ⟨below_step (by repeat (first | apply below_drew1 | apply below_alloc | exact Below.refl _ _)) hb5⟩; obtain ⟨r0, r1, r2, r3, f0, f1, f2, f3⟩ := box4 (blk_below HB2.out.2.1 hb5'.out); clear hb5)
  refine bodyPost_ret (results_cell_row rfl _ _ (W.heap.size + 1) 35 #[.int .i64 (er), .int .i64 (0), .bool (false), .int .i64 (0)] (0, 0) _ rfl (blk_put4 (blk_below HB2.out.2.1 hb5'.out) _ _ _ _) hua rfl (by kernel_rfl)) rfl ?_
  rw [hres.out]
  exact ⟨rfl, (HK2.out.trans (KB.of_below hb5'.out b)).put4 (by omega) _ _ _ _, (HM2.out.below hb5'.out).put4 hne.out _ _ _ _⟩
end Go.Proofs.YteaidhoimaphlaaGreat.PM
