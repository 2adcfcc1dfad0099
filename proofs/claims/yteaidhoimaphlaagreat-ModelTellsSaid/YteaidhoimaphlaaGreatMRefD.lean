import Derived.Test.YteaidhoimaphlaaGreatMRefC
import Derived.RangeFuncNested
import Derived.RangeFuncBound
import Derived.RangeFuncCalls
import Derived.RangeFuncLeaves
import Derived.RangeFuncBox
import Derived.Shelf.Abstract
import Derived.Shelf.RegionOpen
import Derived.OwnWalkIn
import Derived.TacticsInMore
import Derived.LoopNIn
import Derived.LoopIn
import Derived.Deep.RegionHeld3
import Derived.Deep.RegionLaw
import Derived.Laws.CopyOwn
import Derived.Laws.EntriesVeiled
import Derived.Deep.DeepCutAuto
namespace Go.Proofs.YteaidhoimaphlaaGreat.PM
open Go.RowKit Go.Shelf Go.Proofs.YteaidhoimaphlaaGreatW.PrintWords Go.Proofs.YteaidhoimaphlaaGreatW.PrintLast Go.Proofs.YteaidhoimaphlaaGreatW.PrintMore
attribute [local go_sem] max2_int min2_int max_two min_two max_three min_three max_four min_four
set_option linter.unusedVariables false
set_option linter.unusedSimpArgs false
theorem named_of_check (c : LConf) (v n : Int) (h : checkE c 2 v n = 0) : namedOk n c.ti = true := by
  unfold checkE at h
  rw [if_neg (by decide), if_pos rfl] at h
  unfold nameE at h
  by_cases e : namedOk n c.ti = true
  · exact e
  · rw [if_neg e] at h
    exact absurd h (by decide)
set_option maxHeartbeats 8000000 in
set_option maxRecDepth 100000 in
theorem K_rDo_err (B : Nat) (G : Nat → Prop) (W : World) (b : Nat) (M : ML) (h : RAt B G W b M) (hG : ∀ x, G x → x < W.heap.size) (hi : Inv M) (kk v n er : Int) (hr : er ≠ 0) (he : checkE M.c (kk) v n = er) (hn : n ≤ 9223372036854775807) : Calls Tryz.prog 14 #[.pointer (some ⟨b, 0, none⟩), .agg #[.int .i64 (kk), .int .i64 v, .int .i64 n]] W fun e w' => e = .returned (ansV (doM M (kk) v n).2) ∧ KB W w' b ∧ RAt B G w' b (doM M (kk) v n).1 := by
  have HI := Aside0.mk hi
  have HN := Aside0.mk hn
  have HE := Aside0.mk he
  have hus := Tryz.underlying24
  have hua := Tryz.underlying35
  have huc := Tryz.underlying38
  have hum := Tryz.underlying61
  have hsz := Aside0.mk h.lt
  have HGL := Aside0.mk hG
  have hge : B ≤ b := h.1
  have hB := Aside0.mk hge
  have HR := Aside0.mk h
  clear h hi hn he hG hge
  go_enter Tryz.func14, Tryz.ntmps14
  go_wp2_with (fail)
  obtain ⟨w1, hX⟩ : ∃ X, (W.alloc (.cells #[.int .i64 (kk), .int .i64 v, .int .i64 n] 38)).alloc (.cells #[.int .i64 0, .int .i64 0, .bool false, .int .i64 0] 35) = X := ⟨_, rfl⟩
  have B1 : Aside0 (Below W.heap.size W w1) := ⟨by rw [← hX]; exact below_alloc (below_alloc (Below.refl _ _) _) _⟩
  have HB1 : Aside0 (w1.heap[W.heap.size]? = some (.cells #[.int .i64 (kk), .int .i64 v, .int .i64 n] 38 (0, 0)) ∧ w1.heap[W.heap.size + 1]? = some (.cells #[.int .i64 0, .int .i64 0, .bool false, .int .i64 0] 35 (0, 0)) ∧ W.heap.size + 2 ≤ w1.heap.size) := ⟨by rw [← hX]; exact two_box (Below.refl _ _)⟩
  rw [hX]
  clear hX
  have HR1 := Aside0.mk ((HR.out.hole (HO W G) HO.new).below B1.out)
  have hbn : Aside0 (b ≠ W.heap.size + 1 ∧ b ≠ W.heap.size) := ⟨by have := hsz.out; omega⟩
  obtain ⟨_, A6, n6, d6, A7, n7, d7, A8, n8, d8, A9, n9, d9, A10, n10, d10, hh, h6, h7, h8, h9, h10⟩ := HR1.out
  have H6 := Aside0.mk h6.1
  have H7 := Aside0.mk h7.1
  have HP12 := Aside0.mk HI.out.ok.nodes
  obtain ⟨q0, q1, q2, q3, q4, q5, q6, q7, _, _, _, _⟩ := box11 hh
  obtain ⟨x0, x1, x2⟩ := box3 HB1.out.1
  clear hh h6 h7 h8 h9 h10
  go_region_held3 (fun w3 => (w3.cell? ⟨b, 0, none⟩ = some (.int .i64 M.c.th) ∧ w3.cell? ⟨b, 1, none⟩ = some (.int .i64 M.c.st) ∧ w3.cell? ⟨b, 2, none⟩ = some (.int .i64 M.c.ga) ∧ w3.cell? ⟨b, 3, none⟩ = some (.int .i64 M.c.le) ∧ w3.cell? ⟨b, 4, none⟩ = some (.int .i64 M.c.re) ∧ w3.cell? ⟨b, 5, none⟩ = some (.int .i64 M.c.ti) ∧ w3.cell? ⟨b, 6, none⟩ = some (.slice A6 n6 d6) ∧ w3.cell? ⟨b, 7, none⟩ = some (.slice A7 n7 d7)) ∧ w3.cell? ⟨W.heap.size, 0, none⟩ = some (.int .i64 (kk)) ∧ w3.cell? ⟨W.heap.size, 1, none⟩ = some (.int .i64 v) ∧ w3.cell? ⟨W.heap.size, 2, none⟩ = some (.int .i64 n)) ((go_split_ands; (repeat' apply And.intro); all_goals (exact below_cell_of (w := w1) (by with_reducible repeat (first | exact Below.refl _ _ | assumption | exact Aside0.out (by assumption) | apply below_alloc | apply below_drew1 | apply pw_below_drewN)) (by assumption)))) ((go_at_call 28; (with_reducible refine (K_rCheck M.c _ _ _ _ _ _ (kk) v n HN.out _ ?_ ?_ HP12.out).mono ?_); exact H6.out.below (by repeat (first | exact Below.refl _ _ | apply below_drew1)); exact H7.out.below (by repeat (first | exact Below.refl _ _ | apply below_drew1)); rintro e w2 ⟨rfl, hb2⟩; have B2 : Aside0 (Below w1.heap.size w1 w2) := ⟨below_step (w := w1) (by with_reducible repeat (first | exact Below.refl _ _ | assumption | exact Aside0.out (by assumption) | apply below_alloc | apply below_drew1 | apply pw_below_drewN)) hb2⟩; rw [HE.out]; clear hb2))
  rename_i hHeld
  clear hHeld x0 x1 x2 q0 q1 q2 q3 q4 q5 q6 q7
  have HB2 : Aside0 (w2.heap[W.heap.size]? = some (.cells #[.int .i64 (kk), .int .i64 v, .int .i64 n] 38 (0, 0)) ∧ w2.heap[W.heap.size + 1]? = some (.cells #[.int .i64 0, .int .i64 0, .bool false, .int .i64 0] 35 (0, 0)) ∧ W.heap.size + 2 ≤ w2.heap.size) := ⟨blk_below HB1.out.1 B2.out, blk_below HB1.out.2.1 B2.out, Nat.le_trans HB1.out.2.2 B2.out.size⟩
  have HR2 : Aside0 (RAt B (HO W G) w2 b M) := ⟨HR1.out.below B2.out⟩
  have BB : Aside0 (Below W.heap.size W w2) := ⟨B1.out.trans (B2.out.mono B1.out.size)⟩
  have HK2 : Aside0 (KB W w2 b) := ⟨KB.of_below BB.out b⟩
  clear HR1 HB1 B1 H6 H7
  obtain ⟨x0, x1, x2⟩ := box3 HB2.out.1
  obtain ⟨r0, r1, r2, r3, f0, f1, f2, f3⟩ := box4 HB2.out.2.1
  have hrb : (er != 0) = true := by simpa using hr
  have hres : Aside0 (doM M kk v n = (M, ⟨er, 0, false, 0⟩)) := ⟨by unfold doM; rw [HE.out, if_pos hr]⟩
  go_wp2_with (fail)
  refine bodyPost_ret (results_cell_row rfl _ _ (W.heap.size + 1) 35 #[.int .i64 (er), .int .i64 (0), .bool (false), .int .i64 (0)] (0, 0) _ rfl (blk_put4 HB2.out.2.1 _ _ _ _) hua rfl (by kernel_rfl)) rfl ?_
  rw [hres.out]
  exact ⟨rfl, (HK2.out).put4 (by omega) _ _ _ _, (HR2.out).put4 hbn.out.1 _ _ _ _⟩
set_option maxHeartbeats 8000000 in
set_option maxRecDepth 100000 in
theorem K_rDo1 (B : Nat) (G : Nat → Prop) (W : World) (b : Nat) (M : ML) (h : RAt B G W b M) (hG : ∀ x, G x → x < W.heap.size) (hi : Inv M) (v n : Int) (he : checkE M.c (1) v n = 0) (hn : n ≤ 9223372036854775807) : Calls Tryz.prog 14 #[.pointer (some ⟨b, 0, none⟩), .agg #[.int .i64 (1), .int .i64 v, .int .i64 n]] W fun e w' => e = .returned (ansV (doM M (1) v n).2) ∧ KB W w' b ∧ RAt B G w' b (doM M (1) v n).1 := by
  have HI := Aside0.mk hi
  have HN := Aside0.mk hn
  have HE := Aside0.mk he
  have hus := Tryz.underlying24
  have hua := Tryz.underlying35
  have huc := Tryz.underlying38
  have hum := Tryz.underlying61
  have hsz := Aside0.mk h.lt
  have HGL := Aside0.mk hG
  have hge : B ≤ b := h.1
  have hB := Aside0.mk hge
  have HR := Aside0.mk h
  clear h hi hn he hG hge
  go_enter Tryz.func14, Tryz.ntmps14
  go_wp2_with (fail)
  obtain ⟨w1, hX⟩ : ∃ X, (W.alloc (.cells #[.int .i64 (1), .int .i64 v, .int .i64 n] 38)).alloc (.cells #[.int .i64 0, .int .i64 0, .bool false, .int .i64 0] 35) = X := ⟨_, rfl⟩
  have B1 : Aside0 (Below W.heap.size W w1) := ⟨by rw [← hX]; exact below_alloc (below_alloc (Below.refl _ _) _) _⟩
  have HB1 : Aside0 (w1.heap[W.heap.size]? = some (.cells #[.int .i64 (1), .int .i64 v, .int .i64 n] 38 (0, 0)) ∧ w1.heap[W.heap.size + 1]? = some (.cells #[.int .i64 0, .int .i64 0, .bool false, .int .i64 0] 35 (0, 0)) ∧ W.heap.size + 2 ≤ w1.heap.size) := ⟨by rw [← hX]; exact two_box (Below.refl _ _)⟩
  rw [hX]
  clear hX
  have HR1 := Aside0.mk ((HR.out.hole (HO W G) HO.new).below B1.out)
  have hbn : Aside0 (b ≠ W.heap.size + 1 ∧ b ≠ W.heap.size) := ⟨by have := hsz.out; omega⟩
  obtain ⟨_, A6, n6, d6, A7, n7, d7, A8, n8, d8, A9, n9, d9, A10, n10, d10, hh, h6, h7, h8, h9, h10⟩ := HR1.out
  have H6 := Aside0.mk h6.1
  have H7 := Aside0.mk h7.1
  have HP12 := Aside0.mk HI.out.ok.nodes
  obtain ⟨q0, q1, q2, q3, q4, q5, q6, q7, _, _, _, _⟩ := box11 hh
  obtain ⟨x0, x1, x2⟩ := box3 HB1.out.1
  clear hh h6 h7 h8 h9 h10
  go_region_held3 (fun w3 => (w3.cell? ⟨b, 0, none⟩ = some (.int .i64 M.c.th) ∧ w3.cell? ⟨b, 1, none⟩ = some (.int .i64 M.c.st) ∧ w3.cell? ⟨b, 2, none⟩ = some (.int .i64 M.c.ga) ∧ w3.cell? ⟨b, 3, none⟩ = some (.int .i64 M.c.le) ∧ w3.cell? ⟨b, 4, none⟩ = some (.int .i64 M.c.re) ∧ w3.cell? ⟨b, 5, none⟩ = some (.int .i64 M.c.ti) ∧ w3.cell? ⟨b, 6, none⟩ = some (.slice A6 n6 d6) ∧ w3.cell? ⟨b, 7, none⟩ = some (.slice A7 n7 d7)) ∧ w3.cell? ⟨W.heap.size, 0, none⟩ = some (.int .i64 (1)) ∧ w3.cell? ⟨W.heap.size, 1, none⟩ = some (.int .i64 v) ∧ w3.cell? ⟨W.heap.size, 2, none⟩ = some (.int .i64 n)) ((go_split_ands; (repeat' apply And.intro); all_goals (exact below_cell_of (w := w1) (by with_reducible repeat (first | exact Below.refl _ _ | assumption | exact Aside0.out (by assumption) | apply below_alloc | apply below_drew1 | apply pw_below_drewN)) (by assumption)))) ((go_at_call 28; (with_reducible refine (K_rCheck M.c _ _ _ _ _ _ (1) v n HN.out _ ?_ ?_ HP12.out).mono ?_); exact H6.out.below (by repeat (first | exact Below.refl _ _ | apply below_drew1)); exact H7.out.below (by repeat (first | exact Below.refl _ _ | apply below_drew1)); rintro e w2 ⟨rfl, hb2⟩; have B2 : Aside0 (Below w1.heap.size w1 w2) := ⟨below_step (w := w1) (by with_reducible repeat (first | exact Below.refl _ _ | assumption | exact Aside0.out (by assumption) | apply below_alloc | apply below_drew1 | apply pw_below_drewN)) hb2⟩; rw [HE.out]; clear hb2))
  rename_i hHeld
  clear hHeld x0 x1 x2 q0 q1 q2 q3 q4 q5 q6 q7
  have HB2 : Aside0 (w2.heap[W.heap.size]? = some (.cells #[.int .i64 (1), .int .i64 v, .int .i64 n] 38 (0, 0)) ∧ w2.heap[W.heap.size + 1]? = some (.cells #[.int .i64 0, .int .i64 0, .bool false, .int .i64 0] 35 (0, 0)) ∧ W.heap.size + 2 ≤ w2.heap.size) := ⟨blk_below HB1.out.1 B2.out, blk_below HB1.out.2.1 B2.out, Nat.le_trans HB1.out.2.2 B2.out.size⟩
  have HR2 : Aside0 (RAt B (HO W G) w2 b M) := ⟨HR1.out.below B2.out⟩
  have BB : Aside0 (Below W.heap.size W w2) := ⟨B1.out.trans (B2.out.mono B1.out.size)⟩
  have HK2 : Aside0 (KB W w2 b) := ⟨KB.of_below BB.out b⟩
  clear HR1 HB1 B1 H6 H7
  obtain ⟨x0, x1, x2⟩ := box3 HB2.out.1
  obtain ⟨r0, r1, r2, r3, f0, f1, f2, f3⟩ := box4 HB2.out.2.1
  have HLR : Aside0 ((0 ≤ v ∧ v < (M.c.ps.length : Int)) ∧ 1 ≤ n ∧ n ≤ 1048576) := ⟨leaf_range (show leafE M.c.ps v n = 0 from by simpa [checkE] using HE.out)⟩
  have hres : Aside0 (doM M 1 v n = (admitM M v n)) := ⟨by unfold doM; rw [HE.out]; rfl⟩
  go_wp2_with (go_at_call 29; refine (K_radmit B (HO W G) _ b M HR2.out (HO.lt HGL.out (blk_lt HB2.out.2.1)) HI.out v n HLR.out.1 HLR.out.2).mono ?_; rintro e w5 ⟨rfl, hk5, hm5⟩; unfold ansV; have HR5 := Aside0.mk (hk5.blk HB2.out.2.1 (Ne.symm hbn.out.1)); have HK5 := Aside0.mk hk5; have HM5 := Aside0.mk hm5; clear hk5 hm5; obtain ⟨r0, r1, r2, r3, f0, f1, f2, f3⟩ := box4 HR5.out)
  refine bodyPost_ret (results_cell_row rfl _ _ (W.heap.size + 1) 35 #[.int .i64 ((admitM M v n).2.err), .int .i64 ((admitM M v n).2.n), .bool ((admitM M v n).2.ex), .int .i64 ((admitM M v n).2.node)] (0, 0) _ rfl (blk_put4 HR5.out _ _ _ _) hua rfl (by kernel_rfl)) rfl ?_
  rw [hres.out]
  exact ⟨rfl, (HK2.out.trans HK5.out).put4 (by omega) _ _ _ _, (HM5.out).put4 hbn.out.1 _ _ _ _⟩
set_option maxHeartbeats 8000000 in
set_option maxRecDepth 100000 in
theorem K_rDo2 (B : Nat) (G : Nat → Prop) (W : World) (b : Nat) (M : ML) (h : RAt B G W b M) (hG : ∀ x, G x → x < W.heap.size) (hi : Inv M) (v n : Int) (he : checkE M.c (2) v n = 0) (hn : n ≤ 9223372036854775807) : Calls Tryz.prog 14 #[.pointer (some ⟨b, 0, none⟩), .agg #[.int .i64 (2), .int .i64 v, .int .i64 n]] W fun e w' => e = .returned (ansV (doM M (2) v n).2) ∧ KB W w' b ∧ RAt B G w' b (doM M (2) v n).1 := by
  have HI := Aside0.mk hi
  have HN := Aside0.mk hn
  have HE := Aside0.mk he
  have hus := Tryz.underlying24
  have hua := Tryz.underlying35
  have huc := Tryz.underlying38
  have hum := Tryz.underlying61
  have hsz := Aside0.mk h.lt
  have HGL := Aside0.mk hG
  have hge : B ≤ b := h.1
  have hB := Aside0.mk hge
  have HR := Aside0.mk h
  clear h hi hn he hG hge
  go_enter Tryz.func14, Tryz.ntmps14
  go_wp2_with (fail)
  obtain ⟨w1, hX⟩ : ∃ X, (W.alloc (.cells #[.int .i64 (2), .int .i64 v, .int .i64 n] 38)).alloc (.cells #[.int .i64 0, .int .i64 0, .bool false, .int .i64 0] 35) = X := ⟨_, rfl⟩
  have B1 : Aside0 (Below W.heap.size W w1) := ⟨by rw [← hX]; exact below_alloc (below_alloc (Below.refl _ _) _) _⟩
  have HB1 : Aside0 (w1.heap[W.heap.size]? = some (.cells #[.int .i64 (2), .int .i64 v, .int .i64 n] 38 (0, 0)) ∧ w1.heap[W.heap.size + 1]? = some (.cells #[.int .i64 0, .int .i64 0, .bool false, .int .i64 0] 35 (0, 0)) ∧ W.heap.size + 2 ≤ w1.heap.size) := ⟨by rw [← hX]; exact two_box (Below.refl _ _)⟩
  rw [hX]
  clear hX
  have HR1 := Aside0.mk ((HR.out.hole (HO W G) HO.new).below B1.out)
  have hbn : Aside0 (b ≠ W.heap.size + 1 ∧ b ≠ W.heap.size) := ⟨by have := hsz.out; omega⟩
  obtain ⟨_, A6, n6, d6, A7, n7, d7, A8, n8, d8, A9, n9, d9, A10, n10, d10, hh, h6, h7, h8, h9, h10⟩ := HR1.out
  have H6 := Aside0.mk h6.1
  have H7 := Aside0.mk h7.1
  have HP12 := Aside0.mk HI.out.ok.nodes
  obtain ⟨q0, q1, q2, q3, q4, q5, q6, q7, _, _, _, _⟩ := box11 hh
  obtain ⟨x0, x1, x2⟩ := box3 HB1.out.1
  clear hh h6 h7 h8 h9 h10
  go_region_held3 (fun w3 => (w3.cell? ⟨b, 0, none⟩ = some (.int .i64 M.c.th) ∧ w3.cell? ⟨b, 1, none⟩ = some (.int .i64 M.c.st) ∧ w3.cell? ⟨b, 2, none⟩ = some (.int .i64 M.c.ga) ∧ w3.cell? ⟨b, 3, none⟩ = some (.int .i64 M.c.le) ∧ w3.cell? ⟨b, 4, none⟩ = some (.int .i64 M.c.re) ∧ w3.cell? ⟨b, 5, none⟩ = some (.int .i64 M.c.ti) ∧ w3.cell? ⟨b, 6, none⟩ = some (.slice A6 n6 d6) ∧ w3.cell? ⟨b, 7, none⟩ = some (.slice A7 n7 d7)) ∧ w3.cell? ⟨W.heap.size, 0, none⟩ = some (.int .i64 (2)) ∧ w3.cell? ⟨W.heap.size, 1, none⟩ = some (.int .i64 v) ∧ w3.cell? ⟨W.heap.size, 2, none⟩ = some (.int .i64 n)) ((go_split_ands; (repeat' apply And.intro); all_goals (exact below_cell_of (w := w1) (by with_reducible repeat (first | exact Below.refl _ _ | assumption | exact Aside0.out (by assumption) | apply below_alloc | apply below_drew1 | apply pw_below_drewN)) (by assumption)))) ((go_at_call 28; (with_reducible refine (K_rCheck M.c _ _ _ _ _ _ (2) v n HN.out _ ?_ ?_ HP12.out).mono ?_); exact H6.out.below (by repeat (first | exact Below.refl _ _ | apply below_drew1)); exact H7.out.below (by repeat (first | exact Below.refl _ _ | apply below_drew1)); rintro e w2 ⟨rfl, hb2⟩; have B2 : Aside0 (Below w1.heap.size w1 w2) := ⟨below_step (w := w1) (by with_reducible repeat (first | exact Below.refl _ _ | assumption | exact Aside0.out (by assumption) | apply below_alloc | apply below_drew1 | apply pw_below_drewN)) hb2⟩; rw [HE.out]; clear hb2))
  rename_i hHeld
  clear hHeld x0 x1 x2 q0 q1 q2 q3 q4 q5 q6 q7
  have HB2 : Aside0 (w2.heap[W.heap.size]? = some (.cells #[.int .i64 (2), .int .i64 v, .int .i64 n] 38 (0, 0)) ∧ w2.heap[W.heap.size + 1]? = some (.cells #[.int .i64 0, .int .i64 0, .bool false, .int .i64 0] 35 (0, 0)) ∧ W.heap.size + 2 ≤ w2.heap.size) := ⟨blk_below HB1.out.1 B2.out, blk_below HB1.out.2.1 B2.out, Nat.le_trans HB1.out.2.2 B2.out.size⟩
  have HR2 : Aside0 (RAt B (HO W G) w2 b M) := ⟨HR1.out.below B2.out⟩
  have BB : Aside0 (Below W.heap.size W w2) := ⟨B1.out.trans (B2.out.mono B1.out.size)⟩
  have HK2 : Aside0 (KB W w2 b) := ⟨KB.of_below BB.out b⟩
  clear HR1 HB1 B1 H6 H7
  obtain ⟨x0, x1, x2⟩ := box3 HB2.out.1
  obtain ⟨r0, r1, r2, r3, f0, f1, f2, f3⟩ := box4 HB2.out.2.1
  have HOKN : Aside0 (namedOk n M.c.ti = true) := ⟨named_of_check M.c v n HE.out⟩
  have hres : Aside0 (doM M 2 v n = (releaseM M n)) := ⟨by unfold doM; rw [HE.out]; rfl⟩
  go_wp2_with (go_at_call 30; refine (K_rrelease B (HO W G) _ b M HR2.out (HO.lt HGL.out (blk_lt HB2.out.2.1)) HI.out v n HN.out HOKN.out).mono ?_; rintro e w5 ⟨rfl, hk5, hm5⟩; unfold ansV; have HR5 := Aside0.mk (hk5.blk HB2.out.2.1 (Ne.symm hbn.out.1)); have HK5 := Aside0.mk hk5; have HM5 := Aside0.mk hm5; clear hk5 hm5; obtain ⟨r0, r1, r2, r3, f0, f1, f2, f3⟩ := box4 HR5.out)
  refine bodyPost_ret (results_cell_row rfl _ _ (W.heap.size + 1) 35 #[.int .i64 ((releaseM M n).2.err), .int .i64 ((releaseM M n).2.n), .bool ((releaseM M n).2.ex), .int .i64 ((releaseM M n).2.node)] (0, 0) _ rfl (blk_put4 HR5.out _ _ _ _) hua rfl (by kernel_rfl)) rfl ?_
  rw [hres.out]
  exact ⟨rfl, (HK2.out.trans HK5.out).put4 (by omega) _ _ _ _, (HM5.out).put4 hbn.out.1 _ _ _ _⟩
theorem IsInts.lit1 (W : World) (a : Int) (t : Nat) : IsInts (W.alloc (.cells #[.int .i64 a] t)) (.slice (some ⟨W.heap.size, 0, none⟩) 1 1) [a] := by
  refine ⟨_, 1, rfl, Nat.le_refl _, rfl, by simp, fun _ => ⟨_, rfl, ?_⟩⟩
  intro j p hj
  refine ⟨[.int .i64 p], rfl, rfl, ?_⟩
  intro i u hi
  obtain ⟨rfl, rfl⟩ : i = 0 ∧ u = .int .i64 p := by
    cases i with
    | zero => simpa using hi.symm
    | succ i => simp at hi
  have hb := blk_new W (.cells #[.int .i64 a] t)
  rw [Addr.add_lit, blk_cell hb]
  simp only [show (Kd.int .i64).sz = 1 from rfl, Nat.mul_one, Nat.add_zero, Nat.zero_add]
  match j, hj with
  | 0, hj => simp at hj; subst hj; rfl
theorem NB.of_newB {B b : Nat} {g : Nat → Prop} {w3 X w9 : World} {A : Option Addr} (hnb : ∀ a, A = some a → X.heap.size ≤ a.block ∧ a.block < w9.heap.size) (hb : Below w3.heap.size w3 X) (hB : B ≤ b) (hbl : b < w3.heap.size) (hg : ∀ x, g x → x < w3.heap.size) : NB B b g w9.heap.size A := fun a ha => by
  have h1 := hnb a ha
  have h2 := hb.size
  exact ⟨by omega, by omega, fun hx => by have := hg _ hx; omega, by omega⟩
theorem limR_add (M : ML) (v by' : Int) (h0 : 0 ≤ v) (h1 : v < (M.c.ps.length : Int)) : limR { M with lim := addUse M.lim v by' } = addUses (limR M) [v] by' := addUse_takeN M.lim M.c.ps.length v by' h0 h1
theorem doM_3big (M : ML) (v n : Int) (he : checkE M.c 3 v n = 0) (h : wrap64 (1099511627776 - n) < rd M.lim v) : doM M 3 v n = (M, ⟨6, 0, false, 0⟩) := by
  unfold doM
  rw [he, if_neg (by decide), if_neg (by decide), if_neg (by decide), if_pos rfl, if_pos h]
theorem doM_3ok (M : ML) (v n : Int) (he : checkE M.c 3 v n = 0) (h : ¬ wrap64 (1099511627776 - n) < rd M.lim v) : doM M 3 v n = ({ M with lim := addUse M.lim v n }, ⟨0, 0, false, 0⟩) := by
  unfold doM
  rw [he, if_neg (by decide), if_neg (by decide), if_neg (by decide), if_pos rfl, if_neg h]
  rfl
theorem doM_4over (M : ML) (v n : Int) (he : checkE M.c 4 v n = 0) (h : wrap64 (rd M.lim v - rd M.use v) < n) : doM M 4 v n = (M, ⟨4, 0, false, v⟩) := by
  unfold doM
  rw [he, if_neg (by decide), if_neg (by decide), if_neg (by decide), if_neg (by decide), if_pos rfl, if_pos h]
theorem doM_4ok (M : ML) (v n : Int) (he : checkE M.c 4 v n = 0) (h : ¬ wrap64 (rd M.lim v - rd M.use v) < n) : doM M 4 v n = ({ M with lim := addUse M.lim v (-n) }, ⟨0, 0, false, 0⟩) := by
  unfold doM
  rw [he, if_neg (by decide), if_neg (by decide), if_neg (by decide), if_neg (by decide), if_pos rfl, if_neg h]
  rfl
theorem doM_56 (M : ML) (kk v n : Int) (he : checkE M.c kk v n = 0) (h : kk = 5 ∨ kk = 6) : doM M kk v n = (M, ⟨0, rd M.use v, decide (kk = 5), 0⟩) := by
  unfold doM
  rw [he, if_neg (by decide), if_neg (by omega), if_neg (by omega), if_neg (by omega), if_neg (by omega)]
set_option maxHeartbeats 8000000 in
set_option maxRecDepth 100000 in
theorem K_rDo3 (B : Nat) (G : Nat → Prop) (W : World) (b : Nat) (M : ML) (h : RAt B G W b M) (hG : ∀ x, G x → x < W.heap.size) (hi : Inv M) (v n : Int) (he : checkE M.c (3) v n = 0) (hn : n ≤ 9223372036854775807) : Calls Tryz.prog 14 #[.pointer (some ⟨b, 0, none⟩), .agg #[.int .i64 (3), .int .i64 v, .int .i64 n]] W fun e w' => e = .returned (ansV (doM M (3) v n).2) ∧ KB W w' b ∧ RAt B G w' b (doM M (3) v n).1 := by
  have HI := Aside0.mk hi
  have HN := Aside0.mk hn
  have HE := Aside0.mk he
  have hus := Tryz.underlying24
  have hua := Tryz.underlying35
  have huc := Tryz.underlying38
  have hum := Tryz.underlying61
  have hsz := Aside0.mk h.lt
  have HGL := Aside0.mk hG
  have hge : B ≤ b := h.1
  have hB := Aside0.mk hge
  have HR := Aside0.mk h
  clear h hi hn he hG hge
  go_enter Tryz.func14, Tryz.ntmps14
  go_wp2_with (fail)
  obtain ⟨w1, hX⟩ : ∃ X, (W.alloc (.cells #[.int .i64 (3), .int .i64 v, .int .i64 n] 38)).alloc (.cells #[.int .i64 0, .int .i64 0, .bool false, .int .i64 0] 35) = X := ⟨_, rfl⟩
  have B1 : Aside0 (Below W.heap.size W w1) := ⟨by rw [← hX]; exact below_alloc (below_alloc (Below.refl _ _) _) _⟩
  have HB1 : Aside0 (w1.heap[W.heap.size]? = some (.cells #[.int .i64 (3), .int .i64 v, .int .i64 n] 38 (0, 0)) ∧ w1.heap[W.heap.size + 1]? = some (.cells #[.int .i64 0, .int .i64 0, .bool false, .int .i64 0] 35 (0, 0)) ∧ W.heap.size + 2 ≤ w1.heap.size) := ⟨by rw [← hX]; exact two_box (Below.refl _ _)⟩
  rw [hX]
  clear hX
  have HR1 := Aside0.mk ((HR.out.hole (HO W G) HO.new).below B1.out)
  have hbn : Aside0 (b ≠ W.heap.size + 1 ∧ b ≠ W.heap.size) := ⟨by have := hsz.out; omega⟩
  obtain ⟨_, A6, n6, d6, A7, n7, d7, A8, n8, d8, A9, n9, d9, A10, n10, d10, hh, h6, h7, h8, h9, h10⟩ := HR1.out
  have H6 := Aside0.mk h6.1
  have H7 := Aside0.mk h7.1
  have HP12 := Aside0.mk HI.out.ok.nodes
  obtain ⟨q0, q1, q2, q3, q4, q5, q6, q7, _, _, _, _⟩ := box11 hh
  obtain ⟨x0, x1, x2⟩ := box3 HB1.out.1
  clear hh h6 h7 h8 h9 h10
  go_region_held3 (fun w3 => (w3.cell? ⟨b, 0, none⟩ = some (.int .i64 M.c.th) ∧ w3.cell? ⟨b, 1, none⟩ = some (.int .i64 M.c.st) ∧ w3.cell? ⟨b, 2, none⟩ = some (.int .i64 M.c.ga) ∧ w3.cell? ⟨b, 3, none⟩ = some (.int .i64 M.c.le) ∧ w3.cell? ⟨b, 4, none⟩ = some (.int .i64 M.c.re) ∧ w3.cell? ⟨b, 5, none⟩ = some (.int .i64 M.c.ti) ∧ w3.cell? ⟨b, 6, none⟩ = some (.slice A6 n6 d6) ∧ w3.cell? ⟨b, 7, none⟩ = some (.slice A7 n7 d7)) ∧ w3.cell? ⟨W.heap.size, 0, none⟩ = some (.int .i64 (3)) ∧ w3.cell? ⟨W.heap.size, 1, none⟩ = some (.int .i64 v) ∧ w3.cell? ⟨W.heap.size, 2, none⟩ = some (.int .i64 n)) ((go_split_ands; (repeat' apply And.intro); all_goals (exact below_cell_of (w := w1) (by with_reducible repeat (first | exact Below.refl _ _ | assumption | exact Aside0.out (by assumption) | apply below_alloc | apply below_drew1 | apply pw_below_drewN)) (by assumption)))) ((go_at_call 28; (with_reducible refine (K_rCheck M.c _ _ _ _ _ _ (3) v n HN.out _ ?_ ?_ HP12.out).mono ?_); exact H6.out.below (by repeat (first | exact Below.refl _ _ | apply below_drew1)); exact H7.out.below (by repeat (first | exact Below.refl _ _ | apply below_drew1)); rintro e w2 ⟨rfl, hb2⟩; have B2 : Aside0 (Below w1.heap.size w1 w2) := ⟨below_step (w := w1) (by with_reducible repeat (first | exact Below.refl _ _ | assumption | exact Aside0.out (by assumption) | apply below_alloc | apply below_drew1 | apply pw_below_drewN)) hb2⟩; rw [HE.out]; clear hb2))
  rename_i hHeld
  clear hHeld x0 x1 x2 q0 q1 q2 q3 q4 q5 q6 q7
  have HB2 : Aside0 (w2.heap[W.heap.size]? = some (.cells #[.int .i64 (3), .int .i64 v, .int .i64 n] 38 (0, 0)) ∧ w2.heap[W.heap.size + 1]? = some (.cells #[.int .i64 0, .int .i64 0, .bool false, .int .i64 0] 35 (0, 0)) ∧ W.heap.size + 2 ≤ w2.heap.size) := ⟨blk_below HB1.out.1 B2.out, blk_below HB1.out.2.1 B2.out, Nat.le_trans HB1.out.2.2 B2.out.size⟩
  have HR2 : Aside0 (RAt B (HO W G) w2 b M) := ⟨HR1.out.below B2.out⟩
  have BB : Aside0 (Below W.heap.size W w2) := ⟨B1.out.trans (B2.out.mono B1.out.size)⟩
  have HK2 : Aside0 (KB W w2 b) := ⟨KB.of_below BB.out b⟩
  clear HR1 HB1 B1 H6 H7
  obtain ⟨x0, x1, x2⟩ := box3 HB2.out.1
  obtain ⟨r0, r1, r2, r3, f0, f1, f2, f3⟩ := box4 HB2.out.2.1
  obtain ⟨m, rfl⟩ : ∃ m : Nat, v = (m : Int) := ⟨v.toNat, by have := checkE_node _ _ _ _ HE.out (by decide); omega⟩
  have hmp : m < M.c.ps.length := by have := checkE_node _ _ _ _ HE.out (by decide); omega
  have hm0 : (0 : Int) ≤ (m : Int) := by omega
  have HMP := Aside0.mk hmp
  obtain ⟨_, C6, m6, e6, C7, m7, e7, C8, m8, e8, C9, m9, e9, C10, m10, e10, hh, h6, h7, h8, h9, h10⟩ := HR2.out
  have hL : (limR M).length = M.c.ps.length := by unfold limR; rw [List.length_take]; have := HI.out.l1; have := HI.out.ok.nodes; omega
  have hU : (useR M).length = M.c.ps.length := by unfold useR; rw [List.length_take]; have := HI.out.l2; have := HI.out.ok.nodes; omega
  have HL := Aside0.mk hL
  have H8 := Aside0.mk h8.1
  obtain ⟨ad8, rfl, cl⟩ := h8.1.get m (by omega)
  obtain ⟨ad9, rfl, cu⟩ := h9.1.get m (by omega)
  have e8' : rd (limR M) (m : Int) = rd M.lim (m : Int) := rd_take _ _ _ hmp
  have e9' : rd (useR M) (m : Int) = rd M.use (m : Int) := rd_take _ _ _ hmp
  rw [e8'] at cl
  rw [e9'] at cu
  have bl : (m : Int) < (m8 : Int) := by have := h8.1.len; omega
  have bu : (m : Int) < (m9 : Int) := by have := h9.1.len; omega
  have HH := Aside0.mk hh
  obtain ⟨_, _, _, _, _, _, _, _, y8, y9, _, fr⟩ := box11 hh
  have hlm := HI.out.lims m hmp
  have hbd := HI.out.bound m (by have := HI.out.ok.nodes; omega)
  have l0 : 0 ≤ rd M.lim (m : Int) := by omega
  have l1 : rd M.lim (m : Int) ≤ 1099511627776 := hlm.2
  have u0 : 0 ≤ rd M.use (m : Int) := hbd.1
  have u1 : rd M.use (m : Int) ≤ 16777216 := hbd.2
  clear hh h6 h7 h8 h9 h10 e8' e9' hL hU hlm hbd hmp r0 r1 r2 r3 f0 f1 f2 f3
  have hrg := moved_range (show movedE M.c.ps (m : Int) n = 0 from by simpa [checkE] using HE.out)
  have a0 : 1 ≤ n := hrg.2.1
  have a1 : n ≤ 1048576 := hrg.2.2
  clear hrg
  have hwr : IntKind.i64.wrap (rd M.lim (m : Int) + n) = rd M.lim (m : Int) + n := IntWalk.i64_in _ (by omega)
  have hwn : Aside0 (IntKind.i64.wrap (-n) = -n) := ⟨IntWalk.i64_in _ (by omega)⟩
  go_wp2_with (fail)
  go_region_held3 (fun w3 => w3.cell? ⟨W.heap.size, 1, none⟩ = some (.int .i64 (m : Int)) ∧ w3.cell? ⟨W.heap.size, 2, none⟩ = some (.int .i64 n) ∧ w3.cell? ⟨b, 8, none⟩ = some (.slice (some ad8) m8 e8) ∧ w3.cell? (ad8.add m) = some (.int .i64 (rd M.lim (m : Int)))) (first | go_keep) (fail)
  rename_i hHeld
  clear hHeld
  by_cases hc : 1099511627776 < rd M.lim (m : Int) + n
  · have hcb : decide (1099511627776 < rd M.lim (m : Int) + n) = true := decide_eq_true hc
    have hres : Aside0 (doM M 3 (m : Int) n = (M, ⟨6, 0, false, 0⟩)) := ⟨doM_3big M _ n HE.out (by rw [w64 (by omega) (by omega)]; omega)⟩
    clear hwr
    obtain ⟨w3, hX⟩ : ∃ X, w2.drew = X := ⟨_, rfl⟩
    have HR3 : Aside0 (RAt B (HO W G) w3 b M) := ⟨by rw [← hX]; exact HR2.out.below (Below.refl _ _).drew⟩
    have HK3 : Aside0 (KB W w3 b) := ⟨by rw [← hX]; exact HK2.out.trans (KB.of_below (Below.refl _ _).drew b)⟩
    have HY3 : Aside0 (w3.heap[W.heap.size + 1]? = some (.cells #[.int .i64 0, .int .i64 0, .bool false, .int .i64 0] 35 (0, 0))) := ⟨by rw [← hX]; exact blk_below HB2.out.2.1 (Below.refl _ _).drew⟩
    have HX3 : Aside0 (w3.heap[W.heap.size]? = some (.cells #[.int .i64 3, .int .i64 (m : Int), .int .i64 n] 38 (0, 0))) := ⟨by rw [← hX]; exact blk_below HB2.out.1 (Below.refl _ _).drew⟩
    rw [hX]
    clear hX x0 x1 x2 cl cu y8 y9 fr
    obtain ⟨x0, x1, x2⟩ := box3 HX3.out
    obtain ⟨r0, r1, r2, r3, f0, f1, f2, f3⟩ := box4 HY3.out
    go_wp2_with (fail)
    refine bodyPost_ret (results_cell_row rfl _ _ (W.heap.size + 1) 35 #[.int .i64 (6), .int .i64 (0), .bool (false), .int .i64 (0)] (0, 0) _ rfl (blk_put4 HY3.out _ _ _ _) hua rfl (by kernel_rfl)) rfl ?_
    rw [hres.out]
    exact ⟨rfl, (HK3.out).put4 (by omega) _ _ _ _, (HR3.out).put4 hbn.out.1 _ _ _ _⟩
  · have hcb : decide (1099511627776 < rd M.lim (m : Int) + n) = false := decide_eq_false hc
    have hres : Aside0 (doM M 3 (m : Int) n = ({ M with lim := addUse M.lim (m : Int) n }, ⟨0, 0, false, 0⟩)) := ⟨doM_3ok M _ n HE.out (by rw [w64 (by omega) (by omega)]; omega)⟩
    clear hwr
    obtain ⟨w3, hX⟩ : ∃ X, w2.drew = X := ⟨_, rfl⟩
    have HR3 : Aside0 (RAt B (HO W G) w3 b M) := ⟨by rw [← hX]; exact HR2.out.below (Below.refl _ _).drew⟩
    have HK3 : Aside0 (KB W w3 b) := ⟨by rw [← hX]; exact HK2.out.trans (KB.of_below (Below.refl _ _).drew b)⟩
    have HY3 : Aside0 (w3.heap[W.heap.size + 1]? = some (.cells #[.int .i64 0, .int .i64 0, .bool false, .int .i64 0] 35 (0, 0))) := ⟨by rw [← hX]; exact blk_below HB2.out.2.1 (Below.refl _ _).drew⟩
    have HX3 : Aside0 (w3.heap[W.heap.size]? = some (.cells #[.int .i64 3, .int .i64 (m : Int), .int .i64 n] 38 (0, 0))) := ⟨by rw [← hX]; exact blk_below HB2.out.1 (Below.refl _ _).drew⟩
    have hh3 := blk_below HH.out (Below.refl w2.heap.size w2).drew
    rw [hX] at hh3
    have HH3 := Aside0.mk hh3
    clear hh3
    have H83 : Aside0 (IsInts w3 (.slice (some ad8) m8 e8) (limR M)) := ⟨by rw [← hX]; exact H8.out.below (Below.refl _ _).drew⟩
    rw [hX]
    clear hX x0 x1 x2 cl cu y8 y9 fr
    obtain ⟨_, _, _, _, _, _, _, _, y8, y9, _, fr⟩ := box11 HH3.out
    obtain ⟨x0, x1, x2⟩ := box3 HX3.out
    go_wp2_with (fail)
    refine wp_region_noPanic ?_
    refine wp_region_held_drew (S := (fun w3 => w3.cell? ⟨W.heap.size, 1, none⟩ = some (.int .i64 (m : Int)) ∧ w3.cell? ⟨W.heap.size, 2, none⟩ = some (.int .i64 n))) (by kernel_rfl) ?_ (fun hHeld => ?_)
    · (try dsimp only)
      ((go_split_ands; (repeat' apply And.intro); all_goals (first | (with_reducible refine keep_set B9.out ?_ ?_; assumption; (right; exact (Ne.symm hbn.out.2))) | exact below_cell_of (w := w3) (by with_reducible repeat (first | exact Below.refl _ _ | assumption | exact Aside0.out (by assumption) | apply below_alloc | apply below_drew1 | apply pw_below_drewN)) (by assumption))))
    refine wpAnyH_take (i := 0) (oi := _) (v := ?_) ((List.getElem?_toArray ..).trans rfl) (by kernel_rfl) (by kernel_rfl) (by kernel_rfl) (fun _ _ _ h => h) (Or.inl ⟨by rfl, ?_⟩) (by assumption) ?_
    rotate_left
    · (intro w hSw; (try dsimp only at hSw); go_simp; (try with_reducible rfl))
    (try simp only [Act.put, List.setIfInBounds_toArray, List.set_cons_zero, List.set_cons_succ])
    refine wpAnyH_take (i := 1) (oi := _) (v := ?_) ((List.getElem?_toArray ..).trans rfl) (by kernel_rfl) (by kernel_rfl) (by kernel_rfl) (fun _ _ _ h => h) (Or.inl ⟨by rfl, ?_⟩) (by assumption) ?_
    rotate_left
    · (intro w hSw; (try dsimp only at hSw); go_simp; (try with_reducible rfl))
    (try simp only [Act.put, List.setIfInBounds_toArray, List.set_cons_zero, List.set_cons_succ])
    refine wpAnyH_take (i := 2) (oi := _) (v := ?_) ((List.getElem?_toArray ..).trans rfl) (by kernel_rfl) (by kernel_rfl) (by kernel_rfl) (fun _ _ _ h => h) (Or.inl ⟨by rfl, ?_⟩) (by assumption) ?_
    rotate_left
    · (intro w hSw; (try dsimp only at hSw); go_simp; (try with_reducible rfl))
    (try simp only [Act.put, List.setIfInBounds_toArray, List.set_cons_zero, List.set_cons_succ])
    refine wpAnyH_take (i := 3) (oi := _) (v := ?_) ((List.getElem?_toArray ..).trans rfl) (by kernel_rfl) (by kernel_rfl) (by kernel_rfl) (fun _ _ _ h => h) (Or.inl ⟨by rfl, ?_⟩) (by assumption) ?_
    rotate_left
    · (intro w hSw; (try dsimp only at hSw); go_simp; (try with_reducible rfl))
    (try simp only [Act.put, List.setIfInBounds_toArray, List.set_cons_zero, List.set_cons_succ])
    refine wpAnyH_take (i := 5) (oi := _) (v := ?_) ((List.getElem?_toArray ..).trans rfl) (by kernel_rfl) (by kernel_rfl) (by kernel_rfl) (fun _ _ _ h => h) (Or.inl ⟨by rfl, ?_⟩) (by assumption) ?_
    rotate_left
    · (intro w hSw; (try dsimp only at hSw); go_simp; (try with_reducible rfl))
    (try simp only [Act.put, List.setIfInBounds_toArray, List.set_cons_zero, List.set_cons_succ])
    refine wpAnyH_take (i := 6) (oi := _) (v := ?_) ((List.getElem?_toArray ..).trans rfl) (by kernel_rfl) (by kernel_rfl) (by kernel_rfl) (fun _ _ _ h => h) (Or.inl ⟨by rfl, ?_⟩) (by assumption) ?_
    rotate_left
    · (intro w hSw; (try dsimp only at hSw); go_simp; (try with_reducible rfl))
    (try simp only [Act.put, List.setIfInBounds_toArray, List.set_cons_zero, List.set_cons_succ])
    refine wpAnyH_take (i := 8) (oi := _) (v := ?_) ((List.getElem?_toArray ..).trans rfl) (by kernel_rfl) (by kernel_rfl) (by kernel_rfl) (fun _ _ _ h => h) (Or.inl ⟨by rfl, ?_⟩) (by assumption) ?_
    rotate_left
    · (intro w hSw; (try dsimp only at hSw); go_simp; (try with_reducible rfl))
    (try simp only [Act.put, List.setIfInBounds_toArray, List.set_cons_zero, List.set_cons_succ])
    refine wpAnyH_take (i := 9) (oi := _) (v := ?_) ((List.getElem?_toArray ..).trans rfl) (by kernel_rfl) (by kernel_rfl) (by kernel_rfl) (fun _ _ _ h => h) (Or.inl ⟨by rfl, ?_⟩) (by assumption) ?_
    rotate_left
    · (intro w hSw; (try dsimp only at hSw); go_simp; (try with_reducible rfl))
    (try simp only [Act.put, List.setIfInBounds_toArray, List.set_cons_zero, List.set_cons_succ])
    refine wpAnyH_ready (rs := [4, 7]) (by kernel_rfl) (by simp) ?_
    refine AllReadyH.cons (i := 4) (o := _) ((List.getElem?_toArray ..).trans rfl) (fun K hK => ?_) ?_
    · go_simp
      refine hK.out _ _ ?_ (fun hHeld => ?_)
      · (try dsimp only)
        ((go_split_ands; (repeat' apply And.intro); all_goals (first | (with_reducible refine keep_set B9.out ?_ ?_; assumption; (right; exact (Ne.symm hbn.out.2))) | exact below_cell_of (w := w3) (by with_reducible repeat (first | exact Below.refl _ _ | assumption | exact Aside0.out (by assumption) | apply below_alloc | apply below_drew1 | apply pw_below_drewN)) (by assumption))))
      clear hK K
      (try simp only [Act.put, List.setIfInBounds_toArray, List.set_cons_zero, List.set_cons_succ])
      refine wpAnyH_ready (rs := [7]) (by kernel_rfl) (by simp) ?_
      refine AllReadyH.cons (i := 7) (o := _) ((List.getElem?_toArray ..).trans rfl) (fun K hK => ?_) ?_
      · go_simp
        refine hK.out _ _ ?_ (fun hHeld => ?_)
        · (try dsimp only)
          ((go_split_ands; (repeat' apply And.intro); all_goals (first | (with_reducible refine keep_set B9.out ?_ ?_; assumption; (right; exact (Ne.symm hbn.out.2))) | exact below_cell_of (w := w3) (by with_reducible repeat (first | exact Below.refl _ _ | assumption | exact Aside0.out (by assumption) | apply below_alloc | apply below_drew1 | apply pw_below_drewN)) (by assumption))))
        clear hK K
        (try simp only [Act.put, List.setIfInBounds_toArray, List.set_cons_zero, List.set_cons_succ])
        refine wpAnyH_ready (rs := [10]) (by kernel_rfl) (by simp) ?_
        refine AllReadyH.cons (i := 10) (o := _) ((List.getElem?_toArray ..).trans rfl) (fun K hK => ?_) ?_
        · go_simp
          (go_at_call 31; (with_reducible refine (K_rmoved (limR M) [(m : Int)] n _ _ _ _ _ _ _ ?_ ?_ ?_ ?_ ?_).mono ?_); exact H83.out.below (by with_reducible repeat (first | exact Below.refl _ _ | assumption | exact Aside0.out (by assumption) | apply below_alloc | apply below_drew1 | apply pw_below_drewN)); exact (IsInts.lit1 w3 (m : Int) 3).below (Below.refl _ _).drew; exact (by decide : (1 : Nat) ≤ 1000); (have := HL.out; have := HP12.out; omega); (intro y hy; have h1 := List.mem_singleton.1 hy; have h2 := HL.out; have h3 := HMP.out; omega); rintro e w9 ⟨UA, Un, Uc, rfl, hU, hnb, hb9⟩; have HU := Aside0.mk hU; have B9 : Aside0 (Below w3.heap.size w3 w9) := ⟨below_step (w := w3) (by with_reducible repeat (first | exact Below.refl _ _ | assumption | exact Aside0.out (by assumption) | apply below_alloc | apply below_drew1 | apply pw_below_drewN)) hb9⟩; have HNB : Aside0 (NB B b (HO W G) w9.heap.size UA) := ⟨NB.of_newB (w3 := w3) hnb (by with_reducible repeat (first | exact Below.refl _ _ | assumption | exact Aside0.out (by assumption) | apply below_alloc | apply below_drew1 | apply pw_below_drewN)) hB.out HR3.out.lt (HO.lt HGL.out (blk_lt HY3.out))⟩; clear hU hnb hb9; obtain ⟨_, _, _, _, _, _, _, _, _, _, _, fr9⟩ := box11 (blk_below HH3.out B9.out))
          refine hK.out _ _ ?_ (fun hHeld => ?_)
          · (try dsimp only)
            ((go_split_ands; (repeat' apply And.intro); all_goals (first | (with_reducible refine keep_set B9.out ?_ ?_; assumption; (right; exact (Ne.symm hbn.out.2))) | exact below_cell_of (w := w3) (by with_reducible repeat (first | exact Below.refl _ _ | assumption | exact Aside0.out (by assumption) | apply below_alloc | apply below_drew1 | apply pw_below_drewN)) (by assumption))))
          clear hK K
          (try simp only [Act.put, List.setIfInBounds_toArray, List.set_cons_zero, List.set_cons_succ])
          refine wpAnyH_take (i := 11) (oi := _) (v := ?_) ((List.getElem?_toArray ..).trans rfl) (by kernel_rfl) (by kernel_rfl) (by kernel_rfl) (fun _ _ _ h => h) (Or.inl ⟨by rfl, ?_⟩) (by assumption) ?_
          rotate_left
          · (intro w hSw; (try dsimp only at hSw); go_simp; (try with_reducible rfl))
          (try simp only [Act.put, List.setIfInBounds_toArray, List.set_cons_zero, List.set_cons_succ])
          refine wpAnyH_take (i := 12) (oi := _) (v := ?_) ((List.getElem?_toArray ..).trans rfl) (by kernel_rfl) (by kernel_rfl) (by kernel_rfl) (fun _ _ _ h => h) (Or.inl ⟨by rfl, ?_⟩) (by assumption) ?_
          rotate_left
          · (intro w hSw; (try dsimp only at hSw); go_simp; (try with_reducible rfl))
          (try simp only [Act.put, List.setIfInBounds_toArray, List.set_cons_zero, List.set_cons_succ])
          refine wpAnyH_ready (rs := [13]) (by kernel_rfl) (by simp) ?_
          refine AllReadyH.cons (i := 13) (o := _) ((List.getElem?_toArray ..).trans rfl) (fun K hK => ?_) ?_
          · go_simp
            refine hK.out _ _ ?_ (fun hHeld => ?_)
            · (try dsimp only)
              ((go_split_ands; (repeat' apply And.intro); all_goals (first | (with_reducible refine keep_set B9.out ?_ ?_; assumption; (right; exact (Ne.symm hbn.out.2))) | exact below_cell_of (w := w3) (by with_reducible repeat (first | exact Below.refl _ _ | assumption | exact Aside0.out (by assumption) | apply below_alloc | apply below_drew1 | apply pw_below_drewN)) (by assumption))))
            clear hK K
            (try simp only [Act.put, List.setIfInBounds_toArray, List.set_cons_zero, List.set_cons_succ])
            refine wpAnyH_done (by kernel_rfl) ?_ _
            refine NoPanic.normal ?_
            obtain ⟨w10, hX⟩ : ∃ X, w9.setCell ⟨b, 8, none⟩ (.slice UA Un Uc) = X := ⟨_, rfl⟩
            have R10 : Aside0 (RAt B (HO W G) w10 b { M with lim := addUse M.lim (m : Int) n }) := ⟨by rw [← hX]; exact (HR3.out.below B9.out).setLim _ (by rw [limR_add M _ _ (by omega) (by have := HMP.out; omega)]; exact HU.out) HNB.out⟩
            have K10 : Aside0 (KB W w10 b) := ⟨by rw [← hX]; exact (HK3.out.trans (KB.of_below B9.out b)).set 8 _⟩
            have Y10 : Aside0 (w10.heap[W.heap.size + 1]? = some (.cells #[.int .i64 0, .int .i64 0, .bool false, .int .i64 0] 35 (0, 0))) := ⟨by rw [← hX]; exact (Below.heap_setCell w9 ⟨b, 8, none⟩ _ (W.heap.size + 1) (Ne.symm hbn.out.1)).trans (blk_below HY3.out B9.out)⟩
            rw [hX]
            clear hX fr9 fr
            obtain ⟨r0, r1, r2, r3, f0, f1, f2, f3⟩ := box4 Y10.out
            go_wp2_with (fail)
            refine bodyPost_ret (results_cell_row rfl _ _ (W.heap.size + 1) 35 #[.int .i64 (0), .int .i64 (0), .bool (false), .int .i64 (0)] (0, 0) _ rfl (blk_put4 Y10.out _ _ _ _) hua rfl (by kernel_rfl)) rfl ?_
            rw [hres.out]
            exact ⟨rfl, K10.out.put4 (by omega) _ _ _ _, R10.out.put4 hbn.out.1 _ _ _ _⟩
          exact AllReadyH.nil
        exact AllReadyH.nil
      exact AllReadyH.nil
    refine AllReadyH.cons (i := 7) (o := _) ((List.getElem?_toArray ..).trans rfl) (fun K hK => ?_) ?_
    · go_simp
      refine hK.out _ _ ?_ (fun hHeld => ?_)
      · (try dsimp only)
        ((go_split_ands; (repeat' apply And.intro); all_goals (first | (with_reducible refine keep_set B9.out ?_ ?_; assumption; (right; exact (Ne.symm hbn.out.2))) | exact below_cell_of (w := w3) (by with_reducible repeat (first | exact Below.refl _ _ | assumption | exact Aside0.out (by assumption) | apply below_alloc | apply below_drew1 | apply pw_below_drewN)) (by assumption))))
      clear hK K
      (try simp only [Act.put, List.setIfInBounds_toArray, List.set_cons_zero, List.set_cons_succ])
      have y8' : (w3.alloc (.cells #[.int .i64 (m : Int)] 3)).drew.cell? ⟨b, 8, none⟩ = some (.slice (some ad8) m8 e8) := below_cell_of (w := w3) (by with_reducible repeat (first | exact Below.refl _ _ | assumption | exact Aside0.out (by assumption) | apply below_alloc | apply below_drew1 | apply pw_below_drewN)) y8
      refine wpAnyH_ready (rs := [4]) (by kernel_rfl) (by simp) ?_
      refine AllReadyH.cons (i := 4) (o := _) ((List.getElem?_toArray ..).trans rfl) (fun K hK => ?_) ?_
      · go_simp
        refine hK.out _ _ ?_ (fun hHeld => ?_)
        · (try dsimp only)
          ((go_split_ands; (repeat' apply And.intro); all_goals (first | (with_reducible refine keep_set B9.out ?_ ?_; assumption; (right; exact (Ne.symm hbn.out.2))) | exact below_cell_of (w := w3) (by with_reducible repeat (first | exact Below.refl _ _ | assumption | exact Aside0.out (by assumption) | apply below_alloc | apply below_drew1 | apply pw_below_drewN)) (by assumption))))
        clear hK K
        (try simp only [Act.put, List.setIfInBounds_toArray, List.set_cons_zero, List.set_cons_succ])
        refine wpAnyH_ready (rs := [10]) (by kernel_rfl) (by simp) ?_
        refine AllReadyH.cons (i := 10) (o := _) ((List.getElem?_toArray ..).trans rfl) (fun K hK => ?_) ?_
        · go_simp
          (go_at_call 31; (with_reducible refine (K_rmoved (limR M) [(m : Int)] n _ _ _ _ _ _ _ ?_ ?_ ?_ ?_ ?_).mono ?_); exact H83.out.below (by with_reducible repeat (first | exact Below.refl _ _ | assumption | exact Aside0.out (by assumption) | apply below_alloc | apply below_drew1 | apply pw_below_drewN)); exact (IsInts.lit1 w3 (m : Int) 3).below (Below.refl _ _).drew; exact (by decide : (1 : Nat) ≤ 1000); (have := HL.out; have := HP12.out; omega); (intro y hy; have h1 := List.mem_singleton.1 hy; have h2 := HL.out; have h3 := HMP.out; omega); rintro e w9 ⟨UA, Un, Uc, rfl, hU, hnb, hb9⟩; have HU := Aside0.mk hU; have B9 : Aside0 (Below w3.heap.size w3 w9) := ⟨below_step (w := w3) (by with_reducible repeat (first | exact Below.refl _ _ | assumption | exact Aside0.out (by assumption) | apply below_alloc | apply below_drew1 | apply pw_below_drewN)) hb9⟩; have HNB : Aside0 (NB B b (HO W G) w9.heap.size UA) := ⟨NB.of_newB (w3 := w3) hnb (by with_reducible repeat (first | exact Below.refl _ _ | assumption | exact Aside0.out (by assumption) | apply below_alloc | apply below_drew1 | apply pw_below_drewN)) hB.out HR3.out.lt (HO.lt HGL.out (blk_lt HY3.out))⟩; clear hU hnb hb9; obtain ⟨_, _, _, _, _, _, _, _, _, _, _, fr9⟩ := box11 (blk_below HH3.out B9.out))
          refine hK.out _ _ ?_ (fun hHeld => ?_)
          · (try dsimp only)
            ((go_split_ands; (repeat' apply And.intro); all_goals (first | (with_reducible refine keep_set B9.out ?_ ?_; assumption; (right; exact (Ne.symm hbn.out.2))) | exact below_cell_of (w := w3) (by with_reducible repeat (first | exact Below.refl _ _ | assumption | exact Aside0.out (by assumption) | apply below_alloc | apply below_drew1 | apply pw_below_drewN)) (by assumption))))
          clear hK K
          (try simp only [Act.put, List.setIfInBounds_toArray, List.set_cons_zero, List.set_cons_succ])
          refine wpAnyH_take (i := 11) (oi := _) (v := ?_) ((List.getElem?_toArray ..).trans rfl) (by kernel_rfl) (by kernel_rfl) (by kernel_rfl) (fun _ _ _ h => h) (Or.inl ⟨by rfl, ?_⟩) (by assumption) ?_
          rotate_left
          · (intro w hSw; (try dsimp only at hSw); go_simp; (try with_reducible rfl))
          (try simp only [Act.put, List.setIfInBounds_toArray, List.set_cons_zero, List.set_cons_succ])
          refine wpAnyH_take (i := 12) (oi := _) (v := ?_) ((List.getElem?_toArray ..).trans rfl) (by kernel_rfl) (by kernel_rfl) (by kernel_rfl) (fun _ _ _ h => h) (Or.inl ⟨by rfl, ?_⟩) (by assumption) ?_
          rotate_left
          · (intro w hSw; (try dsimp only at hSw); go_simp; (try with_reducible rfl))
          (try simp only [Act.put, List.setIfInBounds_toArray, List.set_cons_zero, List.set_cons_succ])
          refine wpAnyH_ready (rs := [13]) (by kernel_rfl) (by simp) ?_
          refine AllReadyH.cons (i := 13) (o := _) ((List.getElem?_toArray ..).trans rfl) (fun K hK => ?_) ?_
          · go_simp
            refine hK.out _ _ ?_ (fun hHeld => ?_)
            · (try dsimp only)
              ((go_split_ands; (repeat' apply And.intro); all_goals (first | (with_reducible refine keep_set B9.out ?_ ?_; assumption; (right; exact (Ne.symm hbn.out.2))) | exact below_cell_of (w := w3) (by with_reducible repeat (first | exact Below.refl _ _ | assumption | exact Aside0.out (by assumption) | apply below_alloc | apply below_drew1 | apply pw_below_drewN)) (by assumption))))
            clear hK K
            (try simp only [Act.put, List.setIfInBounds_toArray, List.set_cons_zero, List.set_cons_succ])
            refine wpAnyH_done (by kernel_rfl) ?_ _
            refine NoPanic.normal ?_
            obtain ⟨w10, hX⟩ : ∃ X, w9.setCell ⟨b, 8, none⟩ (.slice UA Un Uc) = X := ⟨_, rfl⟩
            have R10 : Aside0 (RAt B (HO W G) w10 b { M with lim := addUse M.lim (m : Int) n }) := ⟨by rw [← hX]; exact (HR3.out.below B9.out).setLim _ (by rw [limR_add M _ _ (by omega) (by have := HMP.out; omega)]; exact HU.out) HNB.out⟩
            have K10 : Aside0 (KB W w10 b) := ⟨by rw [← hX]; exact (HK3.out.trans (KB.of_below B9.out b)).set 8 _⟩
            have Y10 : Aside0 (w10.heap[W.heap.size + 1]? = some (.cells #[.int .i64 0, .int .i64 0, .bool false, .int .i64 0] 35 (0, 0))) := ⟨by rw [← hX]; exact (Below.heap_setCell w9 ⟨b, 8, none⟩ _ (W.heap.size + 1) (Ne.symm hbn.out.1)).trans (blk_below HY3.out B9.out)⟩
            rw [hX]
            clear hX fr9 fr
            obtain ⟨r0, r1, r2, r3, f0, f1, f2, f3⟩ := box4 Y10.out
            go_wp2_with (fail)
            refine bodyPost_ret (results_cell_row rfl _ _ (W.heap.size + 1) 35 #[.int .i64 (0), .int .i64 (0), .bool (false), .int .i64 (0)] (0, 0) _ rfl (blk_put4 Y10.out _ _ _ _) hua rfl (by kernel_rfl)) rfl ?_
            rw [hres.out]
            exact ⟨rfl, K10.out.put4 (by omega) _ _ _ _, R10.out.put4 hbn.out.1 _ _ _ _⟩
          exact AllReadyH.nil
        exact AllReadyH.nil
      exact AllReadyH.nil
    exact AllReadyH.nil
set_option maxHeartbeats 8000000 in
set_option maxRecDepth 100000 in
theorem K_rDo4 (B : Nat) (G : Nat → Prop) (W : World) (b : Nat) (M : ML) (h : RAt B G W b M) (hG : ∀ x, G x → x < W.heap.size) (hi : Inv M) (v n : Int) (he : checkE M.c (4) v n = 0) (hn : n ≤ 9223372036854775807) : Calls Tryz.prog 14 #[.pointer (some ⟨b, 0, none⟩), .agg #[.int .i64 (4), .int .i64 v, .int .i64 n]] W fun e w' => e = .returned (ansV (doM M (4) v n).2) ∧ KB W w' b ∧ RAt B G w' b (doM M (4) v n).1 := by
  have HI := Aside0.mk hi
  have HN := Aside0.mk hn
  have HE := Aside0.mk he
  have hus := Tryz.underlying24
  have hua := Tryz.underlying35
  have huc := Tryz.underlying38
  have hum := Tryz.underlying61
  have hsz := Aside0.mk h.lt
  have HGL := Aside0.mk hG
  have hge : B ≤ b := h.1
  have hB := Aside0.mk hge
  have HR := Aside0.mk h
  clear h hi hn he hG hge
  go_enter Tryz.func14, Tryz.ntmps14
  go_wp2_with (fail)
  obtain ⟨w1, hX⟩ : ∃ X, (W.alloc (.cells #[.int .i64 (4), .int .i64 v, .int .i64 n] 38)).alloc (.cells #[.int .i64 0, .int .i64 0, .bool false, .int .i64 0] 35) = X := ⟨_, rfl⟩
  have B1 : Aside0 (Below W.heap.size W w1) := ⟨by rw [← hX]; exact below_alloc (below_alloc (Below.refl _ _) _) _⟩
  have HB1 : Aside0 (w1.heap[W.heap.size]? = some (.cells #[.int .i64 (4), .int .i64 v, .int .i64 n] 38 (0, 0)) ∧ w1.heap[W.heap.size + 1]? = some (.cells #[.int .i64 0, .int .i64 0, .bool false, .int .i64 0] 35 (0, 0)) ∧ W.heap.size + 2 ≤ w1.heap.size) := ⟨by rw [← hX]; exact two_box (Below.refl _ _)⟩
  rw [hX]
  clear hX
  have HR1 := Aside0.mk ((HR.out.hole (HO W G) HO.new).below B1.out)
  have hbn : Aside0 (b ≠ W.heap.size + 1 ∧ b ≠ W.heap.size) := ⟨by have := hsz.out; omega⟩
  obtain ⟨_, A6, n6, d6, A7, n7, d7, A8, n8, d8, A9, n9, d9, A10, n10, d10, hh, h6, h7, h8, h9, h10⟩ := HR1.out
  have H6 := Aside0.mk h6.1
  have H7 := Aside0.mk h7.1
  have HP12 := Aside0.mk HI.out.ok.nodes
  obtain ⟨q0, q1, q2, q3, q4, q5, q6, q7, _, _, _, _⟩ := box11 hh
  obtain ⟨x0, x1, x2⟩ := box3 HB1.out.1
  clear hh h6 h7 h8 h9 h10
  go_region_held3 (fun w3 => (w3.cell? ⟨b, 0, none⟩ = some (.int .i64 M.c.th) ∧ w3.cell? ⟨b, 1, none⟩ = some (.int .i64 M.c.st) ∧ w3.cell? ⟨b, 2, none⟩ = some (.int .i64 M.c.ga) ∧ w3.cell? ⟨b, 3, none⟩ = some (.int .i64 M.c.le) ∧ w3.cell? ⟨b, 4, none⟩ = some (.int .i64 M.c.re) ∧ w3.cell? ⟨b, 5, none⟩ = some (.int .i64 M.c.ti) ∧ w3.cell? ⟨b, 6, none⟩ = some (.slice A6 n6 d6) ∧ w3.cell? ⟨b, 7, none⟩ = some (.slice A7 n7 d7)) ∧ w3.cell? ⟨W.heap.size, 0, none⟩ = some (.int .i64 (4)) ∧ w3.cell? ⟨W.heap.size, 1, none⟩ = some (.int .i64 v) ∧ w3.cell? ⟨W.heap.size, 2, none⟩ = some (.int .i64 n)) ((go_split_ands; (repeat' apply And.intro); all_goals (exact below_cell_of (w := w1) (by with_reducible repeat (first | exact Below.refl _ _ | assumption | exact Aside0.out (by assumption) | apply below_alloc | apply below_drew1 | apply pw_below_drewN)) (by assumption)))) ((go_at_call 28; (with_reducible refine (K_rCheck M.c _ _ _ _ _ _ (4) v n HN.out _ ?_ ?_ HP12.out).mono ?_); exact H6.out.below (by repeat (first | exact Below.refl _ _ | apply below_drew1)); exact H7.out.below (by repeat (first | exact Below.refl _ _ | apply below_drew1)); rintro e w2 ⟨rfl, hb2⟩; have B2 : Aside0 (Below w1.heap.size w1 w2) := ⟨below_step (w := w1) (by with_reducible repeat (first | exact Below.refl _ _ | assumption | exact Aside0.out (by assumption) | apply below_alloc | apply below_drew1 | apply pw_below_drewN)) hb2⟩; rw [HE.out]; clear hb2))
  rename_i hHeld
  clear hHeld x0 x1 x2 q0 q1 q2 q3 q4 q5 q6 q7
  have HB2 : Aside0 (w2.heap[W.heap.size]? = some (.cells #[.int .i64 (4), .int .i64 v, .int .i64 n] 38 (0, 0)) ∧ w2.heap[W.heap.size + 1]? = some (.cells #[.int .i64 0, .int .i64 0, .bool false, .int .i64 0] 35 (0, 0)) ∧ W.heap.size + 2 ≤ w2.heap.size) := ⟨blk_below HB1.out.1 B2.out, blk_below HB1.out.2.1 B2.out, Nat.le_trans HB1.out.2.2 B2.out.size⟩
  have HR2 : Aside0 (RAt B (HO W G) w2 b M) := ⟨HR1.out.below B2.out⟩
  have BB : Aside0 (Below W.heap.size W w2) := ⟨B1.out.trans (B2.out.mono B1.out.size)⟩
  have HK2 : Aside0 (KB W w2 b) := ⟨KB.of_below BB.out b⟩
  clear HR1 HB1 B1 H6 H7
  obtain ⟨x0, x1, x2⟩ := box3 HB2.out.1
  obtain ⟨r0, r1, r2, r3, f0, f1, f2, f3⟩ := box4 HB2.out.2.1
  obtain ⟨m, rfl⟩ : ∃ m : Nat, v = (m : Int) := ⟨v.toNat, by have := checkE_node _ _ _ _ HE.out (by decide); omega⟩
  have hmp : m < M.c.ps.length := by have := checkE_node _ _ _ _ HE.out (by decide); omega
  have hm0 : (0 : Int) ≤ (m : Int) := by omega
  have HMP := Aside0.mk hmp
  obtain ⟨_, C6, m6, e6, C7, m7, e7, C8, m8, e8, C9, m9, e9, C10, m10, e10, hh, h6, h7, h8, h9, h10⟩ := HR2.out
  have hL : (limR M).length = M.c.ps.length := by unfold limR; rw [List.length_take]; have := HI.out.l1; have := HI.out.ok.nodes; omega
  have hU : (useR M).length = M.c.ps.length := by unfold useR; rw [List.length_take]; have := HI.out.l2; have := HI.out.ok.nodes; omega
  have HL := Aside0.mk hL
  have H8 := Aside0.mk h8.1
  obtain ⟨ad8, rfl, cl⟩ := h8.1.get m (by omega)
  obtain ⟨ad9, rfl, cu⟩ := h9.1.get m (by omega)
  have e8' : rd (limR M) (m : Int) = rd M.lim (m : Int) := rd_take _ _ _ hmp
  have e9' : rd (useR M) (m : Int) = rd M.use (m : Int) := rd_take _ _ _ hmp
  rw [e8'] at cl
  rw [e9'] at cu
  have bl : (m : Int) < (m8 : Int) := by have := h8.1.len; omega
  have bu : (m : Int) < (m9 : Int) := by have := h9.1.len; omega
  have HH := Aside0.mk hh
  obtain ⟨_, _, _, _, _, _, _, _, y8, y9, _, fr⟩ := box11 hh
  have hlm := HI.out.lims m hmp
  have hbd := HI.out.bound m (by have := HI.out.ok.nodes; omega)
  have l0 : 0 ≤ rd M.lim (m : Int) := by omega
  have l1 : rd M.lim (m : Int) ≤ 1099511627776 := hlm.2
  have u0 : 0 ≤ rd M.use (m : Int) := hbd.1
  have u1 : rd M.use (m : Int) ≤ 16777216 := hbd.2
  clear hh h6 h7 h8 h9 h10 e8' e9' hL hU hlm hbd hmp r0 r1 r2 r3 f0 f1 f2 f3
  have hrg := moved_range (show movedE M.c.ps (m : Int) n = 0 from by simpa [checkE] using HE.out)
  have a0 : 1 ≤ n := hrg.2.1
  have a1 : n ≤ 1048576 := hrg.2.2
  clear hrg
  have hwr : IntKind.i64.wrap (rd M.lim (m : Int) - rd M.use (m : Int)) = rd M.lim (m : Int) - rd M.use (m : Int) := IntWalk.i64_in _ (by omega)
  have hwn : Aside0 (IntKind.i64.wrap (-n) = -n) := ⟨IntWalk.i64_in _ (by omega)⟩
  go_wp2_with (fail)
  go_region_held3 (fun w3 => w3.cell? ⟨W.heap.size, 1, none⟩ = some (.int .i64 (m : Int)) ∧ w3.cell? ⟨W.heap.size, 2, none⟩ = some (.int .i64 n) ∧ w3.cell? ⟨b, 8, none⟩ = some (.slice (some ad8) m8 e8) ∧ w3.cell? (ad8.add m) = some (.int .i64 (rd M.lim (m : Int))) ∧ w3.cell? ⟨b, 9, none⟩ = some (.slice (some ad9) m9 e9) ∧ w3.cell? (ad9.add m) = some (.int .i64 (rd M.use (m : Int)))) (first | go_keep) (fail)
  rename_i hHeld
  clear hHeld
  by_cases hc : rd M.lim (m : Int) - rd M.use (m : Int) < n
  · have hcb : decide (rd M.lim (m : Int) - rd M.use (m : Int) < n) = true := decide_eq_true hc
    have hres : Aside0 (doM M 4 (m : Int) n = (M, ⟨4, 0, false, (m : Int)⟩)) := ⟨doM_4over M _ n HE.out (by rw [w64 (by omega) (by omega)]; omega)⟩
    clear hwr
    obtain ⟨w3, hX⟩ : ∃ X, w2.drew = X := ⟨_, rfl⟩
    have HR3 : Aside0 (RAt B (HO W G) w3 b M) := ⟨by rw [← hX]; exact HR2.out.below (Below.refl _ _).drew⟩
    have HK3 : Aside0 (KB W w3 b) := ⟨by rw [← hX]; exact HK2.out.trans (KB.of_below (Below.refl _ _).drew b)⟩
    have HY3 : Aside0 (w3.heap[W.heap.size + 1]? = some (.cells #[.int .i64 0, .int .i64 0, .bool false, .int .i64 0] 35 (0, 0))) := ⟨by rw [← hX]; exact blk_below HB2.out.2.1 (Below.refl _ _).drew⟩
    have HX3 : Aside0 (w3.heap[W.heap.size]? = some (.cells #[.int .i64 4, .int .i64 (m : Int), .int .i64 n] 38 (0, 0))) := ⟨by rw [← hX]; exact blk_below HB2.out.1 (Below.refl _ _).drew⟩
    rw [hX]
    clear hX x0 x1 x2 cl cu y8 y9 fr
    obtain ⟨x0, x1, x2⟩ := box3 HX3.out
    obtain ⟨r0, r1, r2, r3, f0, f1, f2, f3⟩ := box4 HY3.out
    go_wp2_with (fail)
    refine bodyPost_ret (results_cell_row rfl _ _ (W.heap.size + 1) 35 #[.int .i64 (4), .int .i64 (0), .bool (false), .int .i64 ((m : Int))] (0, 0) _ rfl (blk_put4 HY3.out _ _ _ _) hua rfl (by kernel_rfl)) rfl ?_
    rw [hres.out]
    exact ⟨rfl, (HK3.out).put4 (by omega) _ _ _ _, (HR3.out).put4 hbn.out.1 _ _ _ _⟩
  · have hcb : decide (rd M.lim (m : Int) - rd M.use (m : Int) < n) = false := decide_eq_false hc
    have hres : Aside0 (doM M 4 (m : Int) n = ({ M with lim := addUse M.lim (m : Int) (-n) }, ⟨0, 0, false, 0⟩)) := ⟨doM_4ok M _ n HE.out (by rw [w64 (by omega) (by omega)]; omega)⟩
    clear hwr
    obtain ⟨w3, hX⟩ : ∃ X, w2.drew = X := ⟨_, rfl⟩
    have HR3 : Aside0 (RAt B (HO W G) w3 b M) := ⟨by rw [← hX]; exact HR2.out.below (Below.refl _ _).drew⟩
    have HK3 : Aside0 (KB W w3 b) := ⟨by rw [← hX]; exact HK2.out.trans (KB.of_below (Below.refl _ _).drew b)⟩
    have HY3 : Aside0 (w3.heap[W.heap.size + 1]? = some (.cells #[.int .i64 0, .int .i64 0, .bool false, .int .i64 0] 35 (0, 0))) := ⟨by rw [← hX]; exact blk_below HB2.out.2.1 (Below.refl _ _).drew⟩
    have HX3 : Aside0 (w3.heap[W.heap.size]? = some (.cells #[.int .i64 4, .int .i64 (m : Int), .int .i64 n] 38 (0, 0))) := ⟨by rw [← hX]; exact blk_below HB2.out.1 (Below.refl _ _).drew⟩
    have hh3 := blk_below HH.out (Below.refl w2.heap.size w2).drew
    rw [hX] at hh3
    have HH3 := Aside0.mk hh3
    clear hh3
    have H83 : Aside0 (IsInts w3 (.slice (some ad8) m8 e8) (limR M)) := ⟨by rw [← hX]; exact H8.out.below (Below.refl _ _).drew⟩
    rw [hX]
    clear hX x0 x1 x2 cl cu y8 y9 fr
    obtain ⟨_, _, _, _, _, _, _, _, y8, y9, _, fr⟩ := box11 HH3.out
    obtain ⟨x0, x1, x2⟩ := box3 HX3.out
    go_wp2_with (fail)
    refine wp_region_noPanic ?_
    refine wp_region_held_drew (S := (fun w3 => w3.cell? ⟨W.heap.size, 1, none⟩ = some (.int .i64 (m : Int)) ∧ w3.cell? ⟨W.heap.size, 2, none⟩ = some (.int .i64 n))) (by kernel_rfl) ?_ (fun hHeld => ?_)
    · (try dsimp only)
      ((go_split_ands; (repeat' apply And.intro); all_goals (first | (with_reducible refine keep_set B9.out ?_ ?_; assumption; (right; exact (Ne.symm hbn.out.2))) | exact below_cell_of (w := w3) (by with_reducible repeat (first | exact Below.refl _ _ | assumption | exact Aside0.out (by assumption) | apply below_alloc | apply below_drew1 | apply pw_below_drewN)) (by assumption))))
    refine wpAnyH_take (i := 0) (oi := _) (v := ?_) ((List.getElem?_toArray ..).trans rfl) (by kernel_rfl) (by kernel_rfl) (by kernel_rfl) (fun _ _ _ h => h) (Or.inl ⟨by rfl, ?_⟩) (by assumption) ?_
    rotate_left
    · (intro w hSw; (try dsimp only at hSw); go_simp; (try with_reducible rfl))
    (try simp only [Act.put, List.setIfInBounds_toArray, List.set_cons_zero, List.set_cons_succ])
    refine wpAnyH_take (i := 1) (oi := _) (v := ?_) ((List.getElem?_toArray ..).trans rfl) (by kernel_rfl) (by kernel_rfl) (by kernel_rfl) (fun _ _ _ h => h) (Or.inl ⟨by rfl, ?_⟩) (by assumption) ?_
    rotate_left
    · (intro w hSw; (try dsimp only at hSw); go_simp; (try with_reducible rfl))
    (try simp only [Act.put, List.setIfInBounds_toArray, List.set_cons_zero, List.set_cons_succ])
    refine wpAnyH_take (i := 2) (oi := _) (v := ?_) ((List.getElem?_toArray ..).trans rfl) (by kernel_rfl) (by kernel_rfl) (by kernel_rfl) (fun _ _ _ h => h) (Or.inl ⟨by rfl, ?_⟩) (by assumption) ?_
    rotate_left
    · (intro w hSw; (try dsimp only at hSw); go_simp; (try with_reducible rfl))
    (try simp only [Act.put, List.setIfInBounds_toArray, List.set_cons_zero, List.set_cons_succ])
    refine wpAnyH_take (i := 3) (oi := _) (v := ?_) ((List.getElem?_toArray ..).trans rfl) (by kernel_rfl) (by kernel_rfl) (by kernel_rfl) (fun _ _ _ h => h) (Or.inl ⟨by rfl, ?_⟩) (by assumption) ?_
    rotate_left
    · (intro w hSw; (try dsimp only at hSw); go_simp; (try with_reducible rfl))
    (try simp only [Act.put, List.setIfInBounds_toArray, List.set_cons_zero, List.set_cons_succ])
    refine wpAnyH_take (i := 5) (oi := _) (v := ?_) ((List.getElem?_toArray ..).trans rfl) (by kernel_rfl) (by kernel_rfl) (by kernel_rfl) (fun _ _ _ h => h) (Or.inl ⟨by rfl, ?_⟩) (by assumption) ?_
    rotate_left
    · (intro w hSw; (try dsimp only at hSw); go_simp; (try with_reducible rfl))
    (try simp only [Act.put, List.setIfInBounds_toArray, List.set_cons_zero, List.set_cons_succ])
    refine wpAnyH_take (i := 6) (oi := _) (v := ?_) ((List.getElem?_toArray ..).trans rfl) (by kernel_rfl) (by kernel_rfl) (by kernel_rfl) (fun _ _ _ h => h) (Or.inl ⟨by rfl, ?_⟩) (by assumption) ?_
    rotate_left
    · (intro w hSw; (try dsimp only at hSw); go_simp; (try with_reducible rfl))
    (try simp only [Act.put, List.setIfInBounds_toArray, List.set_cons_zero, List.set_cons_succ])
    refine wpAnyH_take (i := 8) (oi := _) (v := ?_) ((List.getElem?_toArray ..).trans rfl) (by kernel_rfl) (by kernel_rfl) (by kernel_rfl) (fun _ _ _ h => h) (Or.inl ⟨by rfl, ?_⟩) (by assumption) ?_
    rotate_left
    · (intro w hSw; (try dsimp only at hSw); go_simp; (try with_reducible rfl))
    (try simp only [Act.put, List.setIfInBounds_toArray, List.set_cons_zero, List.set_cons_succ])
    refine wpAnyH_take (i := 9) (oi := _) (v := ?_) ((List.getElem?_toArray ..).trans rfl) (by kernel_rfl) (by kernel_rfl) (by kernel_rfl) (fun _ _ _ h => h) (Or.inl ⟨by rfl, ?_⟩) (by assumption) ?_
    rotate_left
    · (intro w hSw; (try dsimp only at hSw); go_simp; (try with_reducible rfl))
    (try simp only [Act.put, List.setIfInBounds_toArray, List.set_cons_zero, List.set_cons_succ])
    refine wpAnyH_take (i := 10) (oi := _) (v := ?_) ((List.getElem?_toArray ..).trans rfl) (by kernel_rfl) (by kernel_rfl) (by kernel_rfl) (fun _ _ _ h => h) (Or.inl ⟨by rfl, ?_⟩) (by assumption) ?_
    rotate_left
    · (intro w hSw; (try dsimp only at hSw); go_simp; (try with_reducible rfl))
    (try simp only [Act.put, List.setIfInBounds_toArray, List.set_cons_zero, List.set_cons_succ])
    refine wpAnyH_ready (rs := [4, 7]) (by kernel_rfl) (by simp) ?_
    refine AllReadyH.cons (i := 4) (o := _) ((List.getElem?_toArray ..).trans rfl) (fun K hK => ?_) ?_
    · go_simp
      refine hK.out _ _ ?_ (fun hHeld => ?_)
      · (try dsimp only)
        ((go_split_ands; (repeat' apply And.intro); all_goals (first | (with_reducible refine keep_set B9.out ?_ ?_; assumption; (right; exact (Ne.symm hbn.out.2))) | exact below_cell_of (w := w3) (by with_reducible repeat (first | exact Below.refl _ _ | assumption | exact Aside0.out (by assumption) | apply below_alloc | apply below_drew1 | apply pw_below_drewN)) (by assumption))))
      clear hK K
      (try simp only [Act.put, List.setIfInBounds_toArray, List.set_cons_zero, List.set_cons_succ])
      refine wpAnyH_ready (rs := [7]) (by kernel_rfl) (by simp) ?_
      refine AllReadyH.cons (i := 7) (o := _) ((List.getElem?_toArray ..).trans rfl) (fun K hK => ?_) ?_
      · go_simp
        refine hK.out _ _ ?_ (fun hHeld => ?_)
        · (try dsimp only)
          ((go_split_ands; (repeat' apply And.intro); all_goals (first | (with_reducible refine keep_set B9.out ?_ ?_; assumption; (right; exact (Ne.symm hbn.out.2))) | exact below_cell_of (w := w3) (by with_reducible repeat (first | exact Below.refl _ _ | assumption | exact Aside0.out (by assumption) | apply below_alloc | apply below_drew1 | apply pw_below_drewN)) (by assumption))))
        clear hK K
        (try simp only [Act.put, List.setIfInBounds_toArray, List.set_cons_zero, List.set_cons_succ])
        refine wpAnyH_ready (rs := [11]) (by kernel_rfl) (by simp) ?_
        refine AllReadyH.cons (i := 11) (o := _) ((List.getElem?_toArray ..).trans rfl) (fun K hK => ?_) ?_
        · go_simp
          (go_at_call 31; (with_reducible refine (K_rmoved (limR M) [(m : Int)] (IntKind.i64.wrap (-n)) _ _ _ _ _ _ _ ?_ ?_ ?_ ?_ ?_).mono ?_); exact H83.out.below (by with_reducible repeat (first | exact Below.refl _ _ | assumption | exact Aside0.out (by assumption) | apply below_alloc | apply below_drew1 | apply pw_below_drewN)); exact (IsInts.lit1 w3 (m : Int) 3).below (Below.refl _ _).drew; exact (by decide : (1 : Nat) ≤ 1000); (have := HL.out; have := HP12.out; omega); (intro y hy; have h1 := List.mem_singleton.1 hy; have h2 := HL.out; have h3 := HMP.out; omega); rintro e w9 ⟨UA, Un, Uc, rfl, hU, hnb, hb9⟩; rw [hwn.out] at hU; have HU := Aside0.mk hU; have B9 : Aside0 (Below w3.heap.size w3 w9) := ⟨below_step (w := w3) (by with_reducible repeat (first | exact Below.refl _ _ | assumption | exact Aside0.out (by assumption) | apply below_alloc | apply below_drew1 | apply pw_below_drewN)) hb9⟩; have HNB : Aside0 (NB B b (HO W G) w9.heap.size UA) := ⟨NB.of_newB (w3 := w3) hnb (by with_reducible repeat (first | exact Below.refl _ _ | assumption | exact Aside0.out (by assumption) | apply below_alloc | apply below_drew1 | apply pw_below_drewN)) hB.out HR3.out.lt (HO.lt HGL.out (blk_lt HY3.out))⟩; clear hU hnb hb9; obtain ⟨_, _, _, _, _, _, _, _, _, _, _, fr9⟩ := box11 (blk_below HH3.out B9.out))
          refine hK.out _ _ ?_ (fun hHeld => ?_)
          · (try dsimp only)
            ((go_split_ands; (repeat' apply And.intro); all_goals (first | (with_reducible refine keep_set B9.out ?_ ?_; assumption; (right; exact (Ne.symm hbn.out.2))) | exact below_cell_of (w := w3) (by with_reducible repeat (first | exact Below.refl _ _ | assumption | exact Aside0.out (by assumption) | apply below_alloc | apply below_drew1 | apply pw_below_drewN)) (by assumption))))
          clear hK K
          (try simp only [Act.put, List.setIfInBounds_toArray, List.set_cons_zero, List.set_cons_succ])
          refine wpAnyH_take (i := 12) (oi := _) (v := ?_) ((List.getElem?_toArray ..).trans rfl) (by kernel_rfl) (by kernel_rfl) (by kernel_rfl) (fun _ _ _ h => h) (Or.inl ⟨by rfl, ?_⟩) (by assumption) ?_
          rotate_left
          · (intro w hSw; (try dsimp only at hSw); go_simp; (try with_reducible rfl))
          (try simp only [Act.put, List.setIfInBounds_toArray, List.set_cons_zero, List.set_cons_succ])
          refine wpAnyH_take (i := 13) (oi := _) (v := ?_) ((List.getElem?_toArray ..).trans rfl) (by kernel_rfl) (by kernel_rfl) (by kernel_rfl) (fun _ _ _ h => h) (Or.inl ⟨by rfl, ?_⟩) (by assumption) ?_
          rotate_left
          · (intro w hSw; (try dsimp only at hSw); go_simp; (try with_reducible rfl))
          (try simp only [Act.put, List.setIfInBounds_toArray, List.set_cons_zero, List.set_cons_succ])
          refine wpAnyH_ready (rs := [14]) (by kernel_rfl) (by simp) ?_
          refine AllReadyH.cons (i := 14) (o := _) ((List.getElem?_toArray ..).trans rfl) (fun K hK => ?_) ?_
          · go_simp
            refine hK.out _ _ ?_ (fun hHeld => ?_)
            · (try dsimp only)
              ((go_split_ands; (repeat' apply And.intro); all_goals (first | (with_reducible refine keep_set B9.out ?_ ?_; assumption; (right; exact (Ne.symm hbn.out.2))) | exact below_cell_of (w := w3) (by with_reducible repeat (first | exact Below.refl _ _ | assumption | exact Aside0.out (by assumption) | apply below_alloc | apply below_drew1 | apply pw_below_drewN)) (by assumption))))
            clear hK K
            (try simp only [Act.put, List.setIfInBounds_toArray, List.set_cons_zero, List.set_cons_succ])
            refine wpAnyH_done (by kernel_rfl) ?_ _
            refine NoPanic.normal ?_
            obtain ⟨w10, hX⟩ : ∃ X, w9.setCell ⟨b, 8, none⟩ (.slice UA Un Uc) = X := ⟨_, rfl⟩
            have R10 : Aside0 (RAt B (HO W G) w10 b { M with lim := addUse M.lim (m : Int) (-n) }) := ⟨by rw [← hX]; exact (HR3.out.below B9.out).setLim _ (by rw [limR_add M _ _ (by omega) (by have := HMP.out; omega)]; exact HU.out) HNB.out⟩
            have K10 : Aside0 (KB W w10 b) := ⟨by rw [← hX]; exact (HK3.out.trans (KB.of_below B9.out b)).set 8 _⟩
            have Y10 : Aside0 (w10.heap[W.heap.size + 1]? = some (.cells #[.int .i64 0, .int .i64 0, .bool false, .int .i64 0] 35 (0, 0))) := ⟨by rw [← hX]; exact (Below.heap_setCell w9 ⟨b, 8, none⟩ _ (W.heap.size + 1) (Ne.symm hbn.out.1)).trans (blk_below HY3.out B9.out)⟩
            rw [hX]
            clear hX fr9 fr
            obtain ⟨r0, r1, r2, r3, f0, f1, f2, f3⟩ := box4 Y10.out
            go_wp2_with (fail)
            refine bodyPost_ret (results_cell_row rfl _ _ (W.heap.size + 1) 35 #[.int .i64 (0), .int .i64 (0), .bool (false), .int .i64 (0)] (0, 0) _ rfl (blk_put4 Y10.out _ _ _ _) hua rfl (by kernel_rfl)) rfl ?_
            rw [hres.out]
            exact ⟨rfl, K10.out.put4 (by omega) _ _ _ _, R10.out.put4 hbn.out.1 _ _ _ _⟩
          exact AllReadyH.nil
        exact AllReadyH.nil
      exact AllReadyH.nil
    refine AllReadyH.cons (i := 7) (o := _) ((List.getElem?_toArray ..).trans rfl) (fun K hK => ?_) ?_
    · go_simp
      refine hK.out _ _ ?_ (fun hHeld => ?_)
      · (try dsimp only)
        ((go_split_ands; (repeat' apply And.intro); all_goals (first | (with_reducible refine keep_set B9.out ?_ ?_; assumption; (right; exact (Ne.symm hbn.out.2))) | exact below_cell_of (w := w3) (by with_reducible repeat (first | exact Below.refl _ _ | assumption | exact Aside0.out (by assumption) | apply below_alloc | apply below_drew1 | apply pw_below_drewN)) (by assumption))))
      clear hK K
      (try simp only [Act.put, List.setIfInBounds_toArray, List.set_cons_zero, List.set_cons_succ])
      have y8' : (w3.alloc (.cells #[.int .i64 (m : Int)] 3)).drew.cell? ⟨b, 8, none⟩ = some (.slice (some ad8) m8 e8) := below_cell_of (w := w3) (by with_reducible repeat (first | exact Below.refl _ _ | assumption | exact Aside0.out (by assumption) | apply below_alloc | apply below_drew1 | apply pw_below_drewN)) y8
      refine wpAnyH_ready (rs := [4]) (by kernel_rfl) (by simp) ?_
      refine AllReadyH.cons (i := 4) (o := _) ((List.getElem?_toArray ..).trans rfl) (fun K hK => ?_) ?_
      · go_simp
        refine hK.out _ _ ?_ (fun hHeld => ?_)
        · (try dsimp only)
          ((go_split_ands; (repeat' apply And.intro); all_goals (first | (with_reducible refine keep_set B9.out ?_ ?_; assumption; (right; exact (Ne.symm hbn.out.2))) | exact below_cell_of (w := w3) (by with_reducible repeat (first | exact Below.refl _ _ | assumption | exact Aside0.out (by assumption) | apply below_alloc | apply below_drew1 | apply pw_below_drewN)) (by assumption))))
        clear hK K
        (try simp only [Act.put, List.setIfInBounds_toArray, List.set_cons_zero, List.set_cons_succ])
        refine wpAnyH_ready (rs := [11]) (by kernel_rfl) (by simp) ?_
        refine AllReadyH.cons (i := 11) (o := _) ((List.getElem?_toArray ..).trans rfl) (fun K hK => ?_) ?_
        · go_simp
          (go_at_call 31; (with_reducible refine (K_rmoved (limR M) [(m : Int)] (IntKind.i64.wrap (-n)) _ _ _ _ _ _ _ ?_ ?_ ?_ ?_ ?_).mono ?_); exact H83.out.below (by with_reducible repeat (first | exact Below.refl _ _ | assumption | exact Aside0.out (by assumption) | apply below_alloc | apply below_drew1 | apply pw_below_drewN)); exact (IsInts.lit1 w3 (m : Int) 3).below (Below.refl _ _).drew; exact (by decide : (1 : Nat) ≤ 1000); (have := HL.out; have := HP12.out; omega); (intro y hy; have h1 := List.mem_singleton.1 hy; have h2 := HL.out; have h3 := HMP.out; omega); rintro e w9 ⟨UA, Un, Uc, rfl, hU, hnb, hb9⟩; rw [hwn.out] at hU; have HU := Aside0.mk hU; have B9 : Aside0 (Below w3.heap.size w3 w9) := ⟨below_step (w := w3) (by with_reducible repeat (first | exact Below.refl _ _ | assumption | exact Aside0.out (by assumption) | apply below_alloc | apply below_drew1 | apply pw_below_drewN)) hb9⟩; have HNB : Aside0 (NB B b (HO W G) w9.heap.size UA) := ⟨NB.of_newB (w3 := w3) hnb (by with_reducible repeat (first | exact Below.refl _ _ | assumption | exact Aside0.out (by assumption) | apply below_alloc | apply below_drew1 | apply pw_below_drewN)) hB.out HR3.out.lt (HO.lt HGL.out (blk_lt HY3.out))⟩; clear hU hnb hb9; obtain ⟨_, _, _, _, _, _, _, _, _, _, _, fr9⟩ := box11 (blk_below HH3.out B9.out))
          refine hK.out _ _ ?_ (fun hHeld => ?_)
          · (try dsimp only)
            ((go_split_ands; (repeat' apply And.intro); all_goals (first | (with_reducible refine keep_set B9.out ?_ ?_; assumption; (right; exact (Ne.symm hbn.out.2))) | exact below_cell_of (w := w3) (by with_reducible repeat (first | exact Below.refl _ _ | assumption | exact Aside0.out (by assumption) | apply below_alloc | apply below_drew1 | apply pw_below_drewN)) (by assumption))))
          clear hK K
          (try simp only [Act.put, List.setIfInBounds_toArray, List.set_cons_zero, List.set_cons_succ])
          refine wpAnyH_take (i := 12) (oi := _) (v := ?_) ((List.getElem?_toArray ..).trans rfl) (by kernel_rfl) (by kernel_rfl) (by kernel_rfl) (fun _ _ _ h => h) (Or.inl ⟨by rfl, ?_⟩) (by assumption) ?_
          rotate_left
          · (intro w hSw; (try dsimp only at hSw); go_simp; (try with_reducible rfl))
          (try simp only [Act.put, List.setIfInBounds_toArray, List.set_cons_zero, List.set_cons_succ])
          refine wpAnyH_take (i := 13) (oi := _) (v := ?_) ((List.getElem?_toArray ..).trans rfl) (by kernel_rfl) (by kernel_rfl) (by kernel_rfl) (fun _ _ _ h => h) (Or.inl ⟨by rfl, ?_⟩) (by assumption) ?_
          rotate_left
          · (intro w hSw; (try dsimp only at hSw); go_simp; (try with_reducible rfl))
          (try simp only [Act.put, List.setIfInBounds_toArray, List.set_cons_zero, List.set_cons_succ])
          refine wpAnyH_ready (rs := [14]) (by kernel_rfl) (by simp) ?_
          refine AllReadyH.cons (i := 14) (o := _) ((List.getElem?_toArray ..).trans rfl) (fun K hK => ?_) ?_
          · go_simp
            refine hK.out _ _ ?_ (fun hHeld => ?_)
            · (try dsimp only)
              ((go_split_ands; (repeat' apply And.intro); all_goals (first | (with_reducible refine keep_set B9.out ?_ ?_; assumption; (right; exact (Ne.symm hbn.out.2))) | exact below_cell_of (w := w3) (by with_reducible repeat (first | exact Below.refl _ _ | assumption | exact Aside0.out (by assumption) | apply below_alloc | apply below_drew1 | apply pw_below_drewN)) (by assumption))))
            clear hK K
            (try simp only [Act.put, List.setIfInBounds_toArray, List.set_cons_zero, List.set_cons_succ])
            refine wpAnyH_done (by kernel_rfl) ?_ _
            refine NoPanic.normal ?_
            obtain ⟨w10, hX⟩ : ∃ X, w9.setCell ⟨b, 8, none⟩ (.slice UA Un Uc) = X := ⟨_, rfl⟩
            have R10 : Aside0 (RAt B (HO W G) w10 b { M with lim := addUse M.lim (m : Int) (-n) }) := ⟨by rw [← hX]; exact (HR3.out.below B9.out).setLim _ (by rw [limR_add M _ _ (by omega) (by have := HMP.out; omega)]; exact HU.out) HNB.out⟩
            have K10 : Aside0 (KB W w10 b) := ⟨by rw [← hX]; exact (HK3.out.trans (KB.of_below B9.out b)).set 8 _⟩
            have Y10 : Aside0 (w10.heap[W.heap.size + 1]? = some (.cells #[.int .i64 0, .int .i64 0, .bool false, .int .i64 0] 35 (0, 0))) := ⟨by rw [← hX]; exact (Below.heap_setCell w9 ⟨b, 8, none⟩ _ (W.heap.size + 1) (Ne.symm hbn.out.1)).trans (blk_below HY3.out B9.out)⟩
            rw [hX]
            clear hX fr9 fr
            obtain ⟨r0, r1, r2, r3, f0, f1, f2, f3⟩ := box4 Y10.out
            go_wp2_with (fail)
            refine bodyPost_ret (results_cell_row rfl _ _ (W.heap.size + 1) 35 #[.int .i64 (0), .int .i64 (0), .bool (false), .int .i64 (0)] (0, 0) _ rfl (blk_put4 Y10.out _ _ _ _) hua rfl (by kernel_rfl)) rfl ?_
            rw [hres.out]
            exact ⟨rfl, K10.out.put4 (by omega) _ _ _ _, R10.out.put4 hbn.out.1 _ _ _ _⟩
          exact AllReadyH.nil
        exact AllReadyH.nil
      exact AllReadyH.nil
    exact AllReadyH.nil
set_option maxHeartbeats 8000000 in
set_option maxRecDepth 100000 in
theorem K_rDo5 (B : Nat) (G : Nat → Prop) (W : World) (b : Nat) (M : ML) (h : RAt B G W b M) (hG : ∀ x, G x → x < W.heap.size) (hi : Inv M) (v n : Int) (he : checkE M.c (5) v n = 0) (hn : n ≤ 9223372036854775807) : Calls Tryz.prog 14 #[.pointer (some ⟨b, 0, none⟩), .agg #[.int .i64 (5), .int .i64 v, .int .i64 n]] W fun e w' => e = .returned (ansV (doM M (5) v n).2) ∧ KB W w' b ∧ RAt B G w' b (doM M (5) v n).1 := by
  have HI := Aside0.mk hi
  have HN := Aside0.mk hn
  have HE := Aside0.mk he
  have hus := Tryz.underlying24
  have hua := Tryz.underlying35
  have huc := Tryz.underlying38
  have hum := Tryz.underlying61
  have hsz := Aside0.mk h.lt
  have HGL := Aside0.mk hG
  have hge : B ≤ b := h.1
  have hB := Aside0.mk hge
  have HR := Aside0.mk h
  clear h hi hn he hG hge
  go_enter Tryz.func14, Tryz.ntmps14
  go_wp2_with (fail)
  obtain ⟨w1, hX⟩ : ∃ X, (W.alloc (.cells #[.int .i64 (5), .int .i64 v, .int .i64 n] 38)).alloc (.cells #[.int .i64 0, .int .i64 0, .bool false, .int .i64 0] 35) = X := ⟨_, rfl⟩
  have B1 : Aside0 (Below W.heap.size W w1) := ⟨by rw [← hX]; exact below_alloc (below_alloc (Below.refl _ _) _) _⟩
  have HB1 : Aside0 (w1.heap[W.heap.size]? = some (.cells #[.int .i64 (5), .int .i64 v, .int .i64 n] 38 (0, 0)) ∧ w1.heap[W.heap.size + 1]? = some (.cells #[.int .i64 0, .int .i64 0, .bool false, .int .i64 0] 35 (0, 0)) ∧ W.heap.size + 2 ≤ w1.heap.size) := ⟨by rw [← hX]; exact two_box (Below.refl _ _)⟩
  rw [hX]
  clear hX
  have HR1 := Aside0.mk ((HR.out.hole (HO W G) HO.new).below B1.out)
  have hbn : Aside0 (b ≠ W.heap.size + 1 ∧ b ≠ W.heap.size) := ⟨by have := hsz.out; omega⟩
  obtain ⟨_, A6, n6, d6, A7, n7, d7, A8, n8, d8, A9, n9, d9, A10, n10, d10, hh, h6, h7, h8, h9, h10⟩ := HR1.out
  have H6 := Aside0.mk h6.1
  have H7 := Aside0.mk h7.1
  have HP12 := Aside0.mk HI.out.ok.nodes
  obtain ⟨q0, q1, q2, q3, q4, q5, q6, q7, _, _, _, _⟩ := box11 hh
  obtain ⟨x0, x1, x2⟩ := box3 HB1.out.1
  clear hh h6 h7 h8 h9 h10
  go_region_held3 (fun w3 => (w3.cell? ⟨b, 0, none⟩ = some (.int .i64 M.c.th) ∧ w3.cell? ⟨b, 1, none⟩ = some (.int .i64 M.c.st) ∧ w3.cell? ⟨b, 2, none⟩ = some (.int .i64 M.c.ga) ∧ w3.cell? ⟨b, 3, none⟩ = some (.int .i64 M.c.le) ∧ w3.cell? ⟨b, 4, none⟩ = some (.int .i64 M.c.re) ∧ w3.cell? ⟨b, 5, none⟩ = some (.int .i64 M.c.ti) ∧ w3.cell? ⟨b, 6, none⟩ = some (.slice A6 n6 d6) ∧ w3.cell? ⟨b, 7, none⟩ = some (.slice A7 n7 d7)) ∧ w3.cell? ⟨W.heap.size, 0, none⟩ = some (.int .i64 (5)) ∧ w3.cell? ⟨W.heap.size, 1, none⟩ = some (.int .i64 v) ∧ w3.cell? ⟨W.heap.size, 2, none⟩ = some (.int .i64 n)) ((go_split_ands; (repeat' apply And.intro); all_goals (exact below_cell_of (w := w1) (by with_reducible repeat (first | exact Below.refl _ _ | assumption | exact Aside0.out (by assumption) | apply below_alloc | apply below_drew1 | apply pw_below_drewN)) (by assumption)))) ((go_at_call 28; (with_reducible refine (K_rCheck M.c _ _ _ _ _ _ (5) v n HN.out _ ?_ ?_ HP12.out).mono ?_); exact H6.out.below (by repeat (first | exact Below.refl _ _ | apply below_drew1)); exact H7.out.below (by repeat (first | exact Below.refl _ _ | apply below_drew1)); rintro e w2 ⟨rfl, hb2⟩; have B2 : Aside0 (Below w1.heap.size w1 w2) := ⟨below_step (w := w1) (by with_reducible repeat (first | exact Below.refl _ _ | assumption | exact Aside0.out (by assumption) | apply below_alloc | apply below_drew1 | apply pw_below_drewN)) hb2⟩; rw [HE.out]; clear hb2))
  rename_i hHeld
  clear hHeld x0 x1 x2 q0 q1 q2 q3 q4 q5 q6 q7
  have HB2 : Aside0 (w2.heap[W.heap.size]? = some (.cells #[.int .i64 (5), .int .i64 v, .int .i64 n] 38 (0, 0)) ∧ w2.heap[W.heap.size + 1]? = some (.cells #[.int .i64 0, .int .i64 0, .bool false, .int .i64 0] 35 (0, 0)) ∧ W.heap.size + 2 ≤ w2.heap.size) := ⟨blk_below HB1.out.1 B2.out, blk_below HB1.out.2.1 B2.out, Nat.le_trans HB1.out.2.2 B2.out.size⟩
  have HR2 : Aside0 (RAt B (HO W G) w2 b M) := ⟨HR1.out.below B2.out⟩
  have BB : Aside0 (Below W.heap.size W w2) := ⟨B1.out.trans (B2.out.mono B1.out.size)⟩
  have HK2 : Aside0 (KB W w2 b) := ⟨KB.of_below BB.out b⟩
  clear HR1 HB1 B1 H6 H7
  obtain ⟨x0, x1, x2⟩ := box3 HB2.out.1
  obtain ⟨r0, r1, r2, r3, f0, f1, f2, f3⟩ := box4 HB2.out.2.1
  obtain ⟨m, rfl⟩ : ∃ m : Nat, v = (m : Int) := ⟨v.toNat, by have := checkE_node _ _ _ _ HE.out (by decide); omega⟩
  have hmp : m < M.c.ps.length := by have := checkE_node _ _ _ _ HE.out (by decide); omega
  have hm0 : (0 : Int) ≤ (m : Int) := by omega
  have HMP := Aside0.mk hmp
  obtain ⟨_, C6, m6, e6, C7, m7, e7, C8, m8, e8, C9, m9, e9, C10, m10, e10, hh, h6, h7, h8, h9, h10⟩ := HR2.out
  have hL : (limR M).length = M.c.ps.length := by unfold limR; rw [List.length_take]; have := HI.out.l1; have := HI.out.ok.nodes; omega
  have hU : (useR M).length = M.c.ps.length := by unfold useR; rw [List.length_take]; have := HI.out.l2; have := HI.out.ok.nodes; omega
  have HL := Aside0.mk hL
  have H8 := Aside0.mk h8.1
  obtain ⟨ad8, rfl, cl⟩ := h8.1.get m (by omega)
  obtain ⟨ad9, rfl, cu⟩ := h9.1.get m (by omega)
  have e8' : rd (limR M) (m : Int) = rd M.lim (m : Int) := rd_take _ _ _ hmp
  have e9' : rd (useR M) (m : Int) = rd M.use (m : Int) := rd_take _ _ _ hmp
  rw [e8'] at cl
  rw [e9'] at cu
  have bl : (m : Int) < (m8 : Int) := by have := h8.1.len; omega
  have bu : (m : Int) < (m9 : Int) := by have := h9.1.len; omega
  have HH := Aside0.mk hh
  obtain ⟨_, _, _, _, _, _, _, _, y8, y9, _, fr⟩ := box11 hh
  have hlm := HI.out.lims m hmp
  have hbd := HI.out.bound m (by have := HI.out.ok.nodes; omega)
  have l0 : 0 ≤ rd M.lim (m : Int) := by omega
  have l1 : rd M.lim (m : Int) ≤ 1099511627776 := hlm.2
  have u0 : 0 ≤ rd M.use (m : Int) := hbd.1
  have u1 : rd M.use (m : Int) ≤ 16777216 := hbd.2
  clear hh h6 h7 h8 h9 h10 e8' e9' hL hU hlm hbd hmp r0 r1 r2 r3 f0 f1 f2 f3
  obtain ⟨r0, r1, r2, r3, f0, f1, f2, f3⟩ := box4 HB2.out.2.1
  have hres : Aside0 (doM M 5 (m : Int) n = (M, ⟨0, rd M.use (m : Int), true, 0⟩)) := ⟨by rw [doM_56 M _ _ n HE.out (by decide)]; rfl⟩
  go_wp2_with (fail)
  go_region
  go_wp2_with (fail)
  refine bodyPost_ret (results_cell_row rfl _ _ (W.heap.size + 1) 35 #[.int .i64 0, .int .i64 (rd M.use (m : Int)), .bool true, .int .i64 0] (0, 0) _ rfl (blk_drew (blk_put4 HB2.out.2.1 _ _ _ _)) hua rfl (by kernel_rfl)) rfl ?_
  rw [hres.out]
  exact ⟨rfl, (HK2.out.put4 (by omega) _ _ _ _).drew, (HR2.out.put4 hbn.out.1 _ _ _ _).below (Below.refl _ _).drew⟩
set_option maxHeartbeats 8000000 in
set_option maxRecDepth 100000 in
theorem K_rDo6 (B : Nat) (G : Nat → Prop) (W : World) (b : Nat) (M : ML) (h : RAt B G W b M) (hG : ∀ x, G x → x < W.heap.size) (hi : Inv M) (v n : Int) (he : checkE M.c (6) v n = 0) (hn : n ≤ 9223372036854775807) : Calls Tryz.prog 14 #[.pointer (some ⟨b, 0, none⟩), .agg #[.int .i64 (6), .int .i64 v, .int .i64 n]] W fun e w' => e = .returned (ansV (doM M (6) v n).2) ∧ KB W w' b ∧ RAt B G w' b (doM M (6) v n).1 := by
  have HI := Aside0.mk hi
  have HN := Aside0.mk hn
  have HE := Aside0.mk he
  have hus := Tryz.underlying24
  have hua := Tryz.underlying35
  have huc := Tryz.underlying38
  have hum := Tryz.underlying61
  have hsz := Aside0.mk h.lt
  have HGL := Aside0.mk hG
  have hge : B ≤ b := h.1
  have hB := Aside0.mk hge
  have HR := Aside0.mk h
  clear h hi hn he hG hge
  go_enter Tryz.func14, Tryz.ntmps14
  go_wp2_with (fail)
  obtain ⟨w1, hX⟩ : ∃ X, (W.alloc (.cells #[.int .i64 (6), .int .i64 v, .int .i64 n] 38)).alloc (.cells #[.int .i64 0, .int .i64 0, .bool false, .int .i64 0] 35) = X := ⟨_, rfl⟩
  have B1 : Aside0 (Below W.heap.size W w1) := ⟨by rw [← hX]; exact below_alloc (below_alloc (Below.refl _ _) _) _⟩
  have HB1 : Aside0 (w1.heap[W.heap.size]? = some (.cells #[.int .i64 (6), .int .i64 v, .int .i64 n] 38 (0, 0)) ∧ w1.heap[W.heap.size + 1]? = some (.cells #[.int .i64 0, .int .i64 0, .bool false, .int .i64 0] 35 (0, 0)) ∧ W.heap.size + 2 ≤ w1.heap.size) := ⟨by rw [← hX]; exact two_box (Below.refl _ _)⟩
  rw [hX]
  clear hX
  have HR1 := Aside0.mk ((HR.out.hole (HO W G) HO.new).below B1.out)
  have hbn : Aside0 (b ≠ W.heap.size + 1 ∧ b ≠ W.heap.size) := ⟨by have := hsz.out; omega⟩
  obtain ⟨_, A6, n6, d6, A7, n7, d7, A8, n8, d8, A9, n9, d9, A10, n10, d10, hh, h6, h7, h8, h9, h10⟩ := HR1.out
  have H6 := Aside0.mk h6.1
  have H7 := Aside0.mk h7.1
  have HP12 := Aside0.mk HI.out.ok.nodes
  obtain ⟨q0, q1, q2, q3, q4, q5, q6, q7, _, _, _, _⟩ := box11 hh
  obtain ⟨x0, x1, x2⟩ := box3 HB1.out.1
  clear hh h6 h7 h8 h9 h10
  go_region_held3 (fun w3 => (w3.cell? ⟨b, 0, none⟩ = some (.int .i64 M.c.th) ∧ w3.cell? ⟨b, 1, none⟩ = some (.int .i64 M.c.st) ∧ w3.cell? ⟨b, 2, none⟩ = some (.int .i64 M.c.ga) ∧ w3.cell? ⟨b, 3, none⟩ = some (.int .i64 M.c.le) ∧ w3.cell? ⟨b, 4, none⟩ = some (.int .i64 M.c.re) ∧ w3.cell? ⟨b, 5, none⟩ = some (.int .i64 M.c.ti) ∧ w3.cell? ⟨b, 6, none⟩ = some (.slice A6 n6 d6) ∧ w3.cell? ⟨b, 7, none⟩ = some (.slice A7 n7 d7)) ∧ w3.cell? ⟨W.heap.size, 0, none⟩ = some (.int .i64 (6)) ∧ w3.cell? ⟨W.heap.size, 1, none⟩ = some (.int .i64 v) ∧ w3.cell? ⟨W.heap.size, 2, none⟩ = some (.int .i64 n)) ((go_split_ands; (repeat' apply And.intro); all_goals (exact below_cell_of (w := w1) (by with_reducible repeat (first | exact Below.refl _ _ | assumption | exact Aside0.out (by assumption) | apply below_alloc | apply below_drew1 | apply pw_below_drewN)) (by assumption)))) ((go_at_call 28; (with_reducible refine (K_rCheck M.c _ _ _ _ _ _ (6) v n HN.out _ ?_ ?_ HP12.out).mono ?_); exact H6.out.below (by repeat (first | exact Below.refl _ _ | apply below_drew1)); exact H7.out.below (by repeat (first | exact Below.refl _ _ | apply below_drew1)); rintro e w2 ⟨rfl, hb2⟩; have B2 : Aside0 (Below w1.heap.size w1 w2) := ⟨below_step (w := w1) (by with_reducible repeat (first | exact Below.refl _ _ | assumption | exact Aside0.out (by assumption) | apply below_alloc | apply below_drew1 | apply pw_below_drewN)) hb2⟩; rw [HE.out]; clear hb2))
  rename_i hHeld
  clear hHeld x0 x1 x2 q0 q1 q2 q3 q4 q5 q6 q7
  have HB2 : Aside0 (w2.heap[W.heap.size]? = some (.cells #[.int .i64 (6), .int .i64 v, .int .i64 n] 38 (0, 0)) ∧ w2.heap[W.heap.size + 1]? = some (.cells #[.int .i64 0, .int .i64 0, .bool false, .int .i64 0] 35 (0, 0)) ∧ W.heap.size + 2 ≤ w2.heap.size) := ⟨blk_below HB1.out.1 B2.out, blk_below HB1.out.2.1 B2.out, Nat.le_trans HB1.out.2.2 B2.out.size⟩
  have HR2 : Aside0 (RAt B (HO W G) w2 b M) := ⟨HR1.out.below B2.out⟩
  have BB : Aside0 (Below W.heap.size W w2) := ⟨B1.out.trans (B2.out.mono B1.out.size)⟩
  have HK2 : Aside0 (KB W w2 b) := ⟨KB.of_below BB.out b⟩
  clear HR1 HB1 B1 H6 H7
  obtain ⟨x0, x1, x2⟩ := box3 HB2.out.1
  obtain ⟨r0, r1, r2, r3, f0, f1, f2, f3⟩ := box4 HB2.out.2.1
  obtain ⟨m, rfl⟩ : ∃ m : Nat, v = (m : Int) := ⟨v.toNat, by have := checkE_node _ _ _ _ HE.out (by decide); omega⟩
  have hmp : m < M.c.ps.length := by have := checkE_node _ _ _ _ HE.out (by decide); omega
  have hm0 : (0 : Int) ≤ (m : Int) := by omega
  have HMP := Aside0.mk hmp
  obtain ⟨_, C6, m6, e6, C7, m7, e7, C8, m8, e8, C9, m9, e9, C10, m10, e10, hh, h6, h7, h8, h9, h10⟩ := HR2.out
  have hL : (limR M).length = M.c.ps.length := by unfold limR; rw [List.length_take]; have := HI.out.l1; have := HI.out.ok.nodes; omega
  have hU : (useR M).length = M.c.ps.length := by unfold useR; rw [List.length_take]; have := HI.out.l2; have := HI.out.ok.nodes; omega
  have HL := Aside0.mk hL
  have H8 := Aside0.mk h8.1
  obtain ⟨ad8, rfl, cl⟩ := h8.1.get m (by omega)
  obtain ⟨ad9, rfl, cu⟩ := h9.1.get m (by omega)
  have e8' : rd (limR M) (m : Int) = rd M.lim (m : Int) := rd_take _ _ _ hmp
  have e9' : rd (useR M) (m : Int) = rd M.use (m : Int) := rd_take _ _ _ hmp
  rw [e8'] at cl
  rw [e9'] at cu
  have bl : (m : Int) < (m8 : Int) := by have := h8.1.len; omega
  have bu : (m : Int) < (m9 : Int) := by have := h9.1.len; omega
  have HH := Aside0.mk hh
  obtain ⟨_, _, _, _, _, _, _, _, y8, y9, _, fr⟩ := box11 hh
  have hlm := HI.out.lims m hmp
  have hbd := HI.out.bound m (by have := HI.out.ok.nodes; omega)
  have l0 : 0 ≤ rd M.lim (m : Int) := by omega
  have l1 : rd M.lim (m : Int) ≤ 1099511627776 := hlm.2
  have u0 : 0 ≤ rd M.use (m : Int) := hbd.1
  have u1 : rd M.use (m : Int) ≤ 16777216 := hbd.2
  clear hh h6 h7 h8 h9 h10 e8' e9' hL hU hlm hbd hmp r0 r1 r2 r3 f0 f1 f2 f3
  obtain ⟨r0, r1, r2, r3, f0, f1, f2, f3⟩ := box4 HB2.out.2.1
  have hres : Aside0 (doM M 6 (m : Int) n = (M, ⟨0, rd M.use (m : Int), false, 0⟩)) := ⟨by rw [doM_56 M _ _ n HE.out (by decide)]; rfl⟩
  go_wp2_with (fail)
  go_region
  go_wp2_with (fail)
  refine bodyPost_ret (results_cell_row rfl _ _ (W.heap.size + 1) 35 #[.int .i64 0, .int .i64 (rd M.use (m : Int)), .bool false, .int .i64 0] (0, 0) _ rfl (blk_drew (blk_put4 HB2.out.2.1 _ _ _ _)) hua rfl (by kernel_rfl)) rfl ?_
  rw [hres.out]
  exact ⟨rfl, (HK2.out.put4 (by omega) _ _ _ _).drew, (HR2.out.put4 hbn.out.1 _ _ _ _).below (Below.refl _ _).drew⟩
theorem K_rDo (B : Nat) (G : Nat → Prop) (W : World) (b : Nat) (M : ML) (h : RAt B G W b M) (hG : ∀ x, G x → x < W.heap.size) (hi : Inv M) (kk v n : Int) (hn : n ≤ 9223372036854775807) : Calls Tryz.prog 14 #[.pointer (some ⟨b, 0, none⟩), .agg #[.int .i64 kk, .int .i64 v, .int .i64 n]] W fun e w' => e = .returned (ansV (doM M kk v n).2) ∧ KB W w' b ∧ RAt B G w' b (doM M kk v n).1 := by
  by_cases he : checkE M.c kk v n = 0
  · by_cases e1 : kk = 1
    · subst e1; exact K_rDo1 B G W b M h hG hi v n he hn
    by_cases e2 : kk = 2
    · subst e2; exact K_rDo2 B G W b M h hG hi v n he hn
    by_cases e3 : kk = 3
    · subst e3; exact K_rDo3 B G W b M h hG hi v n he hn
    by_cases e4 : kk = 4
    · subst e4; exact K_rDo4 B G W b M h hG hi v n he hn
    by_cases e5 : kk = 5
    · subst e5; exact K_rDo5 B G W b M h hG hi v n he hn
    by_cases e6 : kk = 6
    · subst e6; exact K_rDo6 B G W b M h hG hi v n he hn
    exfalso
    unfold checkE at he
    rw [if_neg e1, if_neg e2, if_neg (by omega), if_neg (by omega)] at he
    exact absurd he (by decide)
  · exact K_rDo_err B G W b M h hG hi kk v n _ he rfl hn
end Go.Proofs.YteaidhoimaphlaaGreat.PM
