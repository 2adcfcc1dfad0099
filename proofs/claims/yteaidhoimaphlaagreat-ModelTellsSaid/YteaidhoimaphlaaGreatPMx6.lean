-- Printed by the session's own driver (wip/tools/drive.py) on the kit's print.py, with hand-proved functions put in. Not trusted: Lean checks it.
import Derived.Test.YteaidhoimaphlaaGreatPMx0
import Derived.Test.YteaidhoimaphlaaGreatPMx5
namespace Go.Proofs.YteaidhoimaphlaaGreat.PM
open Go.RowKit Go.Proofs.YteaidhoimaphlaaGreatW.PrintWords Go.Proofs.YteaidhoimaphlaaGreatW.PrintLast Go.Proofs.YteaidhoimaphlaaGreatW.PrintMore
attribute [local go_sem] max2_int min2_int max_two min_two max_three min_three max_four min_four
set_option linter.unusedVariables false
set_option linter.unusedSimpArgs false

/-! ### breadlineref15_Check: function 28 -/
mutual
def breadlineref15_Check.j0 : Nat → Bool → Int → Int → Int → Int → Int → Int → List Int → List Int → Int → Int → Int → Option (Int)
  | 0, _, _, _, _, _, _, _, _, _, _, _, _ => none
  | k + 1, x5, x226000, x226001, x226002, x226003, x226004, x226005, x226006, x226007, x227000, x227001, x227002 => if x227002 ≥ 1 then (breadlineref15_Check.j1 k x5 (decide (x227002 ≤ 1048576)) x226000 x226001 x226002 x226003 x226004 x226005 x226006 x226007 x227000 x227001 x227002) else (breadlineref15_Check.j1 k x5 false x226000 x226001 x226002 x226003 x226004 x226005 x226006 x226007 x227000 x227001 x227002)
def breadlineref15_Check.j1 : Nat → Bool → Bool → Int → Int → Int → Int → Int → Int → List Int → List Int → Int → Int → Int → Option (Int)
  | 0, _, _, _, _, _, _, _, _, _, _, _, _, _ => none
  | k + 1, x5, x6, x226000, x226001, x226002, x226003, x226004, x226005, x226006, x226007, x227000, x227001, x227002 => if x227000 = 1 then ((breadlineref04_Leaf.f k x226000 x226001 x226002 x226003 x226004 x226005 x226006 x226007 x227001).bind fun t227 => (if t227 = true then (if x6 = true then (some 0) else (some 1)) else (some 2))) else (if x227000 = 2 then ((breadlineref10_Named.f x227002 x226005).bind fun bt228 => (if bt228.2.2 = true then (some 0) else (some 5))) else (if x227000 = 3 then (breadlineref15_Check.j2 k x5 x6 x227000 (x227000 == 3)) else (breadlineref15_Check.j2 k x5 x6 x227000 (x227000 == 4))))
def breadlineref15_Check.j2 : Nat → Bool → Bool → Int → Bool → Option (Int)
  | 0, _, _, _, _ => none
  | k + 1, x5, x6, x30, x53 => if x53 = true then (if x5 = true then (if x6 = true then (some 0) else (some 1)) else (some 2)) else (if x30 = 5 then (breadlineref15_Check.j3 k x5 (x30 == 5)) else (breadlineref15_Check.j3 k x5 (x30 == 6)))
def breadlineref15_Check.j3 : Nat → Bool → Bool → Option (Int)
  | 0, _, _ => none
  | k + 1, x5, x60 => if x60 = true then (if x5 = true then (some 0) else (some 2)) else (some 1)
end
def breadlineref15_Check.f (k : Nat) (a0_0 : Int) (a0_1 : Int) (a0_2 : Int) (a0_3 : Int) (a0_4 : Int) (a0_5 : Int) (l0_6 : List Int) (l0_7 : List Int) (a1_0 : Int) (a1_1 : Int) (a1_2 : Int) : Option (Int) := if a1_1 ≥ 0 then (breadlineref15_Check.j0 k (decide (a1_1 < (l0_6.length : Int))) a0_0 a0_1 a0_2 a0_3 a0_4 a0_5 l0_6 l0_7 a1_0 a1_1 a1_2) else (breadlineref15_Check.j0 k false a0_0 a0_1 a0_2 a0_3 a0_4 a0_5 l0_6 l0_7 a1_0 a1_1 a1_2)
set_option maxHeartbeats 8000000 in
set_option maxRecDepth 100000 in
theorem breadlineref15_Check.calls (k : Nat) (a0_0 : Int) (a0_1 : Int) (a0_2 : Int) (a0_3 : Int) (a0_4 : Int) (a0_5 : Int) (A0_6 : Option Addr) (c0_6 : Nat) (l0_6 : List Int) (A0_7 : Option Addr) (c0_7 : Nat) (l0_7 : List Int) (a1_0 : Int) (a1_1 : Int) (a1_2 : Int) (r : Int) (w : World) (hr0_6 : Kd.C (Kd.int .i64) w A0_6 l0_6.length l0_6) (hc0_6 : l0_6.length ≤ c0_6) (hr0_7 : Kd.C (Kd.int .i64) w A0_7 l0_7.length l0_7) (hc0_7 : l0_7.length ≤ c0_7) (h : breadlineref15_Check.f k a0_0 a0_1 a0_2 a0_3 a0_4 a0_5 l0_6 l0_7 a1_0 a1_1 a1_2 = some r) :
    Calls Tryz.prog 28 #[.agg #[.int .i64 a0_0, .int .i64 a0_1, .int .i64 a0_2, .int .i64 a0_3, .int .i64 a0_4, .int .i64 a0_5, .slice A0_6 l0_6.length c0_6, .slice A0_7 l0_7.length c0_7], .agg #[.int .i64 a1_0, .int .i64 a1_1, .int .i64 a1_2]] w fun e w' => e = .returned (.int .i64 r) ∧ Below w.heap.size w w' := by
  have hu24 := Tryz.underlying24
  have hu38 := Tryz.underlying38
  have HR0_6 := Aside0.mk hr0_6
  have HC0_6 := Aside0.mk hc0_6
  clear hr0_6 hc0_6
  have HR0_7 := Aside0.mk hr0_7
  have HC0_7 := Aside0.mk hc0_7
  clear hr0_7 hc0_7
  have HB := Aside0.mk (Below.refl w.heap.size w)
  have H : (if a1_1 ≥ 0 then (breadlineref15_Check.j0 k (decide (a1_1 < (l0_6.length : Int))) a0_0 a0_1 a0_2 a0_3 a0_4 a0_5 l0_6 l0_7 a1_0 a1_1 a1_2) else (breadlineref15_Check.j0 k false a0_0 a0_1 a0_2 a0_3 a0_4 a0_5 l0_6 l0_7 a1_0 a1_1 a1_2)) = some r := h
  clear h
  have HC3 := Aside0.mk H
  clear H
  go_enter Tryz.func28, Tryz.ntmps28
  go_upto_region 1 with (first | ((with_reducible refine gate_dst (N := 2) rfl ?_); (try (refine gate_guard (by rfl) ?_; dsimp only)); refine box_event ?hg (N := 2) ?hd (cs := #[.int .i64 a0_0, .int .i64 a0_1, .int .i64 a0_2, .int .i64 a0_3, .int .i64 a0_4, .int .i64 a0_5, .slice A0_6 l0_6.length c0_6, .slice A0_7 l0_7.length c0_7]) (t := 24) ?hr ?_; (case hd => rfl); (case hg => rfl); (case hr => first | (go_simp; done) | (go_simp; rfl)); intro gb225 hg w4 hbox hb; have n0_ := Aside0.mk (below_step (by repeat (first | (with_reducible first | exact HB.out | apply below_alloc | apply pw_below_drewN | apply below_drew1) | exact HB.out)) hb); have n1_ := Aside0.mk (hbox); have n2_ := Aside0.mk ((by rw [hg]; exact (below_size (by repeat (first | (with_reducible first | exact HB.out | apply below_alloc | apply pw_below_drewN | apply below_drew1) | exact HB.out))) : w.heap.size ≤ gb225)); have n3_ := Aside0.mk ((by rw [hg]; exact (below_size (by repeat (first | (with_reducible first | exact HB.out | apply below_alloc | apply pw_below_drewN | apply below_drew1) | exact HB.out))) : w.heap.size ≤ gb225)); clear HB; have HB := n0_; have BK225 := n1_; have GW225 := n2_; have GE225 := n3_; clear n0_ n1_ n2_ n3_; clear hb hbox hg) | ((with_reducible refine gate_dst (N := 3) rfl ?_); (try (refine gate_guard (by rfl) ?_; dsimp only)); refine box_event ?hg (N := 3) ?hd (cs := #[.int .i64 a1_0, .int .i64 a1_1, .int .i64 a1_2]) (t := 38) ?hr ?_; (case hd => rfl); (case hg => rfl); (case hr => first | (go_simp; done) | (go_simp; rfl)); intro gb226 hg w5 hbox hb; have n0_ := Aside0.mk (blk_below (g := gb225) (o := .cells #[.int .i64 a0_0, .int .i64 a0_1, .int .i64 a0_2, .int .i64 a0_3, .int .i64 a0_4, .int .i64 a0_5, .slice A0_6 l0_6.length c0_6, .slice A0_7 l0_7.length c0_7] 24 (0, 0)) (by (with_reducible repeat (first | refine blk_drewN ?_ _ | refine blk_drew ?_ | refine blk_alloc ?_ _)); exact BK225.out) hb); have n1_ := Aside0.mk (below_step (by repeat (first | (with_reducible first | exact HB.out | apply below_alloc | apply pw_below_drewN | apply below_drew1 | refine below_set ?_ GE225.out) | exact HB.out)) hb); have n2_ := Aside0.mk (hbox); have n3_ := Aside0.mk ((by rw [hg]; exact (below_size (by repeat (first | (with_reducible first | exact HB.out | apply below_alloc | apply pw_below_drewN | apply below_drew1 | refine below_set ?_ GE225.out) | exact HB.out))) : w.heap.size ≤ gb226)); have n4_ := Aside0.mk ((by rw [hg]; exact (below_size (by repeat (first | (with_reducible first | exact HB.out | apply below_alloc | apply pw_below_drewN | apply below_drew1 | refine below_set ?_ GE225.out) | exact HB.out))) : w.heap.size ≤ gb226)); have n5_ := Aside0.mk ((by rw [hg]; exact Nat.ne_of_lt (blk_lt (g := gb225) (o := .cells #[.int .i64 a0_0, .int .i64 a0_1, .int .i64 a0_2, .int .i64 a0_3, .int .i64 a0_4, .int .i64 a0_5, .slice A0_6 l0_6.length c0_6, .slice A0_7 l0_7.length c0_7] 24 (0, 0)) (by (with_reducible repeat (first | refine blk_drewN ?_ _ | refine blk_drew ?_ | refine blk_alloc ?_ _)); exact BK225.out)) : gb225 ≠ gb226)); have n6_ := Aside0.mk ((by rw [hg]; exact Nat.ne_of_gt (blk_lt (g := gb225) (o := .cells #[.int .i64 a0_0, .int .i64 a0_1, .int .i64 a0_2, .int .i64 a0_3, .int .i64 a0_4, .int .i64 a0_5, .slice A0_6 l0_6.length c0_6, .slice A0_7 l0_7.length c0_7] 24 (0, 0)) (by (with_reducible repeat (first | refine blk_drewN ?_ _ | refine blk_drew ?_ | refine blk_alloc ?_ _)); exact BK225.out)) : gb226 ≠ gb225)); clear BK225; clear HB; have BK225 := n0_; have HB := n1_; have BK226 := n2_; have GW226 := n3_; have GE226 := n4_; have NB225_226 := n5_; have NB226_225 := n6_; clear n0_ n1_ n2_ n3_ n4_ n5_ n6_; clear hb hbox hg))
  (try simp only [Act.put, List.setIfInBounds_toArray, List.set_cons_zero, List.set_cons_succ])
  go_cut [5] (fun v5 wc => ∃ (kq : Nat) (x5_2 : Bool), v5 = .bool x5_2 ∧ Aside0 (breadlineref15_Check.j0 kq x5_2 a0_0 a0_1 a0_2 a0_3 a0_4 a0_5 l0_6 l0_7 a1_0 a1_1 a1_2 = some r) ∧ Aside0 (kq ≤ k) ∧ Aside0 (wc.heap[gb225]? = some (.cells #[.int .i64 a0_0, .int .i64 a0_1, .int .i64 a0_2, .int .i64 a0_3, .int .i64 a0_4, .int .i64 a0_5, (.slice A0_6 l0_6.length c0_6), (.slice A0_7 l0_7.length c0_7)] 24 (0, 0))) ∧ Aside0 (wc.heap[gb226]? = some (.cells #[.int .i64 a1_0, .int .i64 a1_1, .int .i64 a1_2] 38 (0, 0))) ∧ Aside0 (Below w.heap.size w wc))
  case first =>
    have H := HC3.out
    clear HC3
    by_cases c6 : a1_1 ≥ 0
    · rw [if_pos c6] at H
      have c6b0 : decide (0 ≤ a1_1) = true := decide_eq_true c6
      clear c6
      (first | rw [c6b0] | (simp only [i64_w, i32_w]; rw [c6b0]) | skip)
      have H' := Aside0.mk H
      clear H
      have hnb7 := NB226_225.out
      have hnc7 := NB225_226.out
      have hcz8_0 : w5.cell? ⟨gb226, 0, none⟩ = some (.int .i64 a1_0) := (blk_cell BK226.out 0).trans rfl
      have hcz8_1 : w5.cell? ⟨gb226, 1, none⟩ = some (.int .i64 a1_1) := (blk_cell BK226.out 1).trans rfl
      have hcz8_2 : w5.cell? ⟨gb226, 2, none⟩ = some (.int .i64 a1_2) := (blk_cell BK226.out 2).trans rfl
      have hfz8_0 := blk_frozen BK226.out 0
      have hfz8_1 := blk_frozen BK226.out 1
      have hfz8_2 := blk_frozen BK226.out 2
      have hcz9_0 : w5.cell? ⟨gb225, 0, none⟩ = some (.int .i64 a0_0) := (blk_cell BK225.out 0).trans rfl
      have hcz9_1 : w5.cell? ⟨gb225, 1, none⟩ = some (.int .i64 a0_1) := (blk_cell BK225.out 1).trans rfl
      have hcz9_2 : w5.cell? ⟨gb225, 2, none⟩ = some (.int .i64 a0_2) := (blk_cell BK225.out 2).trans rfl
      have hcz9_3 : w5.cell? ⟨gb225, 3, none⟩ = some (.int .i64 a0_3) := (blk_cell BK225.out 3).trans rfl
      have hcz9_4 : w5.cell? ⟨gb225, 4, none⟩ = some (.int .i64 a0_4) := (blk_cell BK225.out 4).trans rfl
      have hcz9_5 : w5.cell? ⟨gb225, 5, none⟩ = some (.int .i64 a0_5) := (blk_cell BK225.out 5).trans rfl
      have hcz9_6 : w5.cell? ⟨gb225, 6, none⟩ = some (.slice A0_6 l0_6.length c0_6) := (blk_cell BK225.out 6).trans rfl
      have hcz9_7 : w5.cell? ⟨gb225, 7, none⟩ = some (.slice A0_7 l0_7.length c0_7) := (blk_cell BK225.out 7).trans rfl
      have hfz9_0 := blk_frozen BK225.out 0
      have hfz9_1 := blk_frozen BK225.out 1
      have hfz9_2 := blk_frozen BK225.out 2
      have hfz9_3 := blk_frozen BK225.out 3
      have hfz9_4 := blk_frozen BK225.out 4
      have hfz9_5 := blk_frozen BK225.out 5
      have hfz9_6 := blk_frozen BK225.out 6
      have hfz9_7 := blk_frozen BK225.out 7
      go_wp2
      go_meet
      case rel => exact ⟨_, (decide (a1_1 < (l0_6.length : Int))), (by first | rfl | (simp; done) | (simp [*]; done)), H', ⟨by first | omega | exact Nat.le_refl _⟩, ⟨by (with_reducible repeat (first | refine blk_drewN ?_ _ | refine blk_drew ?_ | refine blk_alloc ?_ _)); exact BK225.out⟩, ⟨by (with_reducible repeat (first | refine blk_drewN ?_ _ | refine blk_drew ?_ | refine blk_alloc ?_ _)); exact BK226.out⟩, ⟨by repeat (first | (with_reducible first | exact HB.out | apply below_alloc | apply pw_below_drewN | apply below_drew1 | refine below_set ?_ GE225.out | refine below_set ?_ GE226.out) | exact HB.out)⟩⟩
    · rw [if_neg c6] at H
      have c6b0 : decide (0 ≤ a1_1) = false := decide_eq_false c6
      clear c6
      (first | rw [c6b0] | (simp only [i64_w, i32_w]; rw [c6b0]) | skip)
      have H' := Aside0.mk H
      clear H
      have hnb10 := NB226_225.out
      have hnc10 := NB225_226.out
      have hcz11_0 : w5.cell? ⟨gb226, 0, none⟩ = some (.int .i64 a1_0) := (blk_cell BK226.out 0).trans rfl
      have hcz11_1 : w5.cell? ⟨gb226, 1, none⟩ = some (.int .i64 a1_1) := (blk_cell BK226.out 1).trans rfl
      have hcz11_2 : w5.cell? ⟨gb226, 2, none⟩ = some (.int .i64 a1_2) := (blk_cell BK226.out 2).trans rfl
      have hfz11_0 := blk_frozen BK226.out 0
      have hfz11_1 := blk_frozen BK226.out 1
      have hfz11_2 := blk_frozen BK226.out 2
      go_wp2
      go_meet
      case rel => exact ⟨_, (false), (by first | rfl | (simp; done) | (simp [*]; done)), H', ⟨by first | omega | exact Nat.le_refl _⟩, ⟨by (with_reducible repeat (first | refine blk_drewN ?_ _ | refine blk_drew ?_ | refine blk_alloc ?_ _)); exact BK225.out⟩, ⟨by (with_reducible repeat (first | refine blk_drewN ?_ _ | refine blk_drew ?_ | refine blk_alloc ?_ _)); exact BK226.out⟩, ⟨by repeat (first | (with_reducible first | exact HB.out | apply below_alloc | apply pw_below_drewN | apply below_drew1 | refine below_set ?_ GE225.out | refine below_set ?_ GE226.out) | exact HB.out)⟩⟩
  case rest =>
    clear HC3
    try clear c1
    try clear c2
    try clear p2
    try clear c6
    try clear c6b0
    try clear c7
    try clear c10
    try clear hcz11_0
    try clear hcz11_1
    try clear hcz11_2
    try clear hcz8_0
    try clear hcz8_1
    try clear hcz8_2
    try clear hcz9_0
    try clear hcz9_1
    try clear hcz9_2
    try clear hcz9_3
    try clear hcz9_4
    try clear hcz9_5
    try clear hcz9_6
    try clear hcz9_7
    try clear hfz11_0
    try clear hfz11_1
    try clear hfz11_2
    try clear hfz8_0
    try clear hfz8_1
    try clear hfz8_2
    try clear hfz9_0
    try clear hfz9_1
    try clear hfz9_2
    try clear hfz9_3
    try clear hfz9_4
    try clear hfz9_5
    try clear hfz9_6
    try clear hfz9_7
    obtain ⟨kq, x5_2, rfl, HA, HJ2, BK225, BK226, HB⟩ := hcut
    cases kq with
    | zero => exact absurd HA.out (by simp [breadlineref15_Check.j0])
    | succ kj2 =>
      have H := HA.out
      clear HA
      simp only [breadlineref15_Check.j0] at H
      have HC12 := Aside0.mk H
      clear H
      go_upto_region 2 with (fail)
      go_cut [6] (fun v6 wc => ∃ (kq : Nat) (x6_11 : Bool), v6 = .bool x6_11 ∧ Aside0 (breadlineref15_Check.j1 kq x5_2 x6_11 a0_0 a0_1 a0_2 a0_3 a0_4 a0_5 l0_6 l0_7 a1_0 a1_1 a1_2 = some r) ∧ Aside0 (kq ≤ kj2) ∧ Aside0 (wc.heap[gb225]? = some (.cells #[.int .i64 a0_0, .int .i64 a0_1, .int .i64 a0_2, .int .i64 a0_3, .int .i64 a0_4, .int .i64 a0_5, (.slice A0_6 l0_6.length c0_6), (.slice A0_7 l0_7.length c0_7)] 24 (0, 0))) ∧ Aside0 (wc.heap[gb226]? = some (.cells #[.int .i64 a1_0, .int .i64 a1_1, .int .i64 a1_2] 38 (0, 0))) ∧ Aside0 (Below w.heap.size w wc))
      case first =>
        have H := HC12.out
        clear HC12
        by_cases c13 : a1_2 ≥ 1
        · rw [if_pos c13] at H
          have c13b0 : decide (1 ≤ a1_2) = true := decide_eq_true c13
          clear c13
          (first | rw [c13b0] | (simp only [i64_w, i32_w]; rw [c13b0]) | skip)
          have H' := Aside0.mk H
          clear H
          have hnb14 := NB226_225.out
          have hnc14 := NB225_226.out
          have hcz15_0 : wc.cell? ⟨gb226, 0, none⟩ = some (.int .i64 a1_0) := (blk_cell BK226.out 0).trans rfl
          have hcz15_1 : wc.cell? ⟨gb226, 1, none⟩ = some (.int .i64 a1_1) := (blk_cell BK226.out 1).trans rfl
          have hcz15_2 : wc.cell? ⟨gb226, 2, none⟩ = some (.int .i64 a1_2) := (blk_cell BK226.out 2).trans rfl
          have hfz15_0 := blk_frozen BK226.out 0
          have hfz15_1 := blk_frozen BK226.out 1
          have hfz15_2 := blk_frozen BK226.out 2
          go_wp2
          go_meet
          case rel => exact ⟨_, (decide (a1_2 ≤ 1048576)), (by first | rfl | (simp; done) | (simp [*]; done)), H', ⟨by have := HJ2.out; first | omega | exact Nat.le_refl _⟩, ⟨by (with_reducible repeat (first | refine blk_drewN ?_ _ | refine blk_drew ?_ | refine blk_alloc ?_ _)); exact BK225.out⟩, ⟨by (with_reducible repeat (first | refine blk_drewN ?_ _ | refine blk_drew ?_ | refine blk_alloc ?_ _)); exact BK226.out⟩, ⟨by repeat (first | (with_reducible first | exact HB.out | apply below_alloc | apply pw_below_drewN | apply below_drew1 | refine below_set ?_ GE225.out | refine below_set ?_ GE226.out) | exact HB.out)⟩⟩
        · rw [if_neg c13] at H
          have c13b0 : decide (1 ≤ a1_2) = false := decide_eq_false c13
          clear c13
          (first | rw [c13b0] | (simp only [i64_w, i32_w]; rw [c13b0]) | skip)
          have H' := Aside0.mk H
          clear H
          have hnb16 := NB226_225.out
          have hnc16 := NB225_226.out
          have hcz17_0 : wc.cell? ⟨gb226, 0, none⟩ = some (.int .i64 a1_0) := (blk_cell BK226.out 0).trans rfl
          have hcz17_1 : wc.cell? ⟨gb226, 1, none⟩ = some (.int .i64 a1_1) := (blk_cell BK226.out 1).trans rfl
          have hcz17_2 : wc.cell? ⟨gb226, 2, none⟩ = some (.int .i64 a1_2) := (blk_cell BK226.out 2).trans rfl
          have hfz17_0 := blk_frozen BK226.out 0
          have hfz17_1 := blk_frozen BK226.out 1
          have hfz17_2 := blk_frozen BK226.out 2
          go_wp2
          go_meet
          case rel => exact ⟨_, (false), (by first | rfl | (simp; done) | (simp [*]; done)), H', ⟨by have := HJ2.out; first | omega | exact Nat.le_refl _⟩, ⟨by (with_reducible repeat (first | refine blk_drewN ?_ _ | refine blk_drew ?_ | refine blk_alloc ?_ _)); exact BK225.out⟩, ⟨by (with_reducible repeat (first | refine blk_drewN ?_ _ | refine blk_drew ?_ | refine blk_alloc ?_ _)); exact BK226.out⟩, ⟨by repeat (first | (with_reducible first | exact HB.out | apply below_alloc | apply pw_below_drewN | apply below_drew1 | refine below_set ?_ GE225.out | refine below_set ?_ GE226.out) | exact HB.out)⟩⟩
      case rest =>
        clear HC12
        try clear c1
        try clear c2
        try clear p2
        try clear c6
        try clear c6b0
        try clear c7
        try clear c10
        try clear c13
        try clear c13b0
        try clear c14
        try clear c16
        try clear hcz11_0
        try clear hcz11_1
        try clear hcz11_2
        try clear hcz15_0
        try clear hcz15_1
        try clear hcz15_2
        try clear hcz17_0
        try clear hcz17_1
        try clear hcz17_2
        try clear hcz8_0
        try clear hcz8_1
        try clear hcz8_2
        try clear hcz9_0
        try clear hcz9_1
        try clear hcz9_2
        try clear hcz9_3
        try clear hcz9_4
        try clear hcz9_5
        try clear hcz9_6
        try clear hcz9_7
        try clear hfz11_0
        try clear hfz11_1
        try clear hfz11_2
        try clear hfz15_0
        try clear hfz15_1
        try clear hfz15_2
        try clear hfz17_0
        try clear hfz17_1
        try clear hfz17_2
        try clear hfz8_0
        try clear hfz8_1
        try clear hfz8_2
        try clear hfz9_0
        try clear hfz9_1
        try clear hfz9_2
        try clear hfz9_3
        try clear hfz9_4
        try clear hfz9_5
        try clear hfz9_6
        try clear hfz9_7
        try clear p2
        obtain ⟨kq, x6_11, rfl, HA, HJ11, BK225, BK226, HB⟩ := hcut
        cases kq with
        | zero => exact absurd HA.out (by simp [breadlineref15_Check.j1])
        | succ kj11 =>
          have H := HA.out
          clear HA
          simp only [breadlineref15_Check.j1] at H
          by_cases c18 : a1_0 = 1
          · rw [if_pos c18] at H
            have c18b0 : (a1_0 == 1) = true := beq_iff_eq.mpr c18
            have c18b1 : (a1_0 != 1) = false := bne_eq_false_iff_eq.mpr c18
            clear c18
            replace H := Option.bind_eq_some_iff.mp H
            obtain ⟨t227, A190, H⟩ := H
            replace H : (if t227 = true then (if x6_11 = true then (some 0) else (some 1)) else (some 2)) = some r := H
            have A19 := Aside0.mk A190
            clear A190
            by_cases c20 : t227 = true
            · subst c20
              have H1 : (if x6_11 = true then (some 0) else (some 1)) = some r := by rw [if_pos rfl] at H; exact H
              clear H
              have H := H1
              clear H1
              by_cases c21 : x6_11 = true
              · subst c21
                have H1 : (some 0) = some r := by rw [if_pos rfl] at H; exact H
                clear H
                have H := H1
                clear H1
                obtain rfl := Option.some.inj H
                have hnb22 := NB226_225.out
                have hnc22 := NB225_226.out
                have hcz23_0 : wc.cell? ⟨gb226, 0, none⟩ = some (.int .i64 a1_0) := (blk_cell BK226.out 0).trans rfl
                have hcz23_1 : wc.cell? ⟨gb226, 1, none⟩ = some (.int .i64 a1_1) := (blk_cell BK226.out 1).trans rfl
                have hcz23_2 : wc.cell? ⟨gb226, 2, none⟩ = some (.int .i64 a1_2) := (blk_cell BK226.out 2).trans rfl
                have hfz23_0 := blk_frozen BK226.out 0
                have hfz23_1 := blk_frozen BK226.out 1
                have hfz23_2 := blk_frozen BK226.out 2
                have hcz24_0 : wc.cell? ⟨gb225, 0, none⟩ = some (.int .i64 a0_0) := (blk_cell BK225.out 0).trans rfl
                have hcz24_1 : wc.cell? ⟨gb225, 1, none⟩ = some (.int .i64 a0_1) := (blk_cell BK225.out 1).trans rfl
                have hcz24_2 : wc.cell? ⟨gb225, 2, none⟩ = some (.int .i64 a0_2) := (blk_cell BK225.out 2).trans rfl
                have hcz24_3 : wc.cell? ⟨gb225, 3, none⟩ = some (.int .i64 a0_3) := (blk_cell BK225.out 3).trans rfl
                have hcz24_4 : wc.cell? ⟨gb225, 4, none⟩ = some (.int .i64 a0_4) := (blk_cell BK225.out 4).trans rfl
                have hcz24_5 : wc.cell? ⟨gb225, 5, none⟩ = some (.int .i64 a0_5) := (blk_cell BK225.out 5).trans rfl
                have hcz24_6 : wc.cell? ⟨gb225, 6, none⟩ = some (.slice A0_6 l0_6.length c0_6) := (blk_cell BK225.out 6).trans rfl
                have hcz24_7 : wc.cell? ⟨gb225, 7, none⟩ = some (.slice A0_7 l0_7.length c0_7) := (blk_cell BK225.out 7).trans rfl
                have hfz24_0 := blk_frozen BK225.out 0
                have hfz24_1 := blk_frozen BK225.out 1
                have hfz24_2 := blk_frozen BK225.out 2
                have hfz24_3 := blk_frozen BK225.out 3
                have hfz24_4 := blk_frozen BK225.out 4
                have hfz24_5 := blk_frozen BK225.out 5
                have hfz24_6 := blk_frozen BK225.out 6
                have hfz24_7 := blk_frozen BK225.out 7
                go_wp2_with (first | ((with_reducible refine gate_callee (f := 39) rfl ?_); refine goesL_ (some 36) rfl rfl Tryz.func39 (by kernel_rfl) rfl #[.agg #[.int .i64 a0_0, .int .i64 a0_1, .int .i64 a0_2, .int .i64 a0_3, .int .i64 a0_4, .int .i64 a0_5, .slice A0_6 l0_6.length c0_6, .slice A0_7 l0_7.length c0_7], .int .i64 a1_1] rfl (by (try simp only [List.map_toArray, List.map_cons, List.map_nil]); first | done | rfl | (simp only [List.length_drop, List.length_take]; rfl)) ?_; (with_reducible refine (breadlineref04_Leaf.calls kj11 a0_0 a0_1 a0_2 a0_3 a0_4 a0_5 _ _ l0_6 _ _ l0_7 a1_1 true _ ?side1 ?side2 ?side3 ?side4 A19.out).mono ?_); (case side1 => repeat (first | exact (Kd.C_below HR0_6.out HB.out) | (with_reducible refine Kd.C_alloc ?_ _) | (with_reducible refine Kd.C_drewN ?_ _) | (with_reducible refine Kd.C_drew ?_))); (case side2 => exact HC0_6.out); (case side3 => repeat (first | exact (Kd.C_below HR0_7.out HB.out) | (with_reducible refine Kd.C_alloc ?_ _) | (with_reducible refine Kd.C_drewN ?_ _) | (with_reducible refine Kd.C_drew ?_))); (case side4 => exact HC0_7.out); rintro e w25 ⟨rfl, hb⟩; refine ⟨_, rfl, ?_⟩; have n0_ := Aside0.mk (blk_below (g := gb225) (o := .cells #[.int .i64 a0_0, .int .i64 a0_1, .int .i64 a0_2, .int .i64 a0_3, .int .i64 a0_4, .int .i64 a0_5, .slice A0_6 l0_6.length c0_6, .slice A0_7 l0_7.length c0_7] 24 (0, 0)) (by (with_reducible repeat (first | refine blk_drewN ?_ _ | refine blk_drew ?_ | refine blk_alloc ?_ _)); exact BK225.out) hb); have n1_ := Aside0.mk (blk_below (g := gb226) (o := .cells #[.int .i64 a1_0, .int .i64 a1_1, .int .i64 a1_2] 38 (0, 0)) (by (with_reducible repeat (first | refine blk_drewN ?_ _ | refine blk_drew ?_ | refine blk_alloc ?_ _)); exact BK226.out) hb); have n2_ := Aside0.mk (below_step (by repeat (first | (with_reducible first | exact HB.out | apply below_alloc | apply pw_below_drewN | apply below_drew1 | refine below_set ?_ GE225.out | refine below_set ?_ GE226.out) | exact HB.out)) hb); clear BK225; clear BK226; clear HB; have BK225 := n0_; have BK226 := n1_; have HB := n2_; clear n0_ n1_ n2_; (try clear hb); (try clear hb2); (try clear hk); (try clear hi)))
                go_ret
                exact ⟨by first | rfl | (simp [errW_none, errW_some] <;> rfl) | (simp [*, errW_none, errW_some] <;> rfl), by repeat (first | (with_reducible first | exact HB.out | apply below_alloc | apply pw_below_drewN | apply below_drew1 | refine below_set ?_ GE225.out | refine below_set ?_ GE226.out) | exact HB.out)⟩
              · replace c21 := Bool.eq_false_iff.mpr c21
                subst c21
                have H1 : (some 1) = some r := by rw [if_neg (show ¬ (false = true) by decide)] at H; exact H
                clear H
                have H := H1
                clear H1
                obtain rfl := Option.some.inj H
                have hnb26 := NB226_225.out
                have hnc26 := NB225_226.out
                have hcz27_0 : wc.cell? ⟨gb226, 0, none⟩ = some (.int .i64 a1_0) := (blk_cell BK226.out 0).trans rfl
                have hcz27_1 : wc.cell? ⟨gb226, 1, none⟩ = some (.int .i64 a1_1) := (blk_cell BK226.out 1).trans rfl
                have hcz27_2 : wc.cell? ⟨gb226, 2, none⟩ = some (.int .i64 a1_2) := (blk_cell BK226.out 2).trans rfl
                have hfz27_0 := blk_frozen BK226.out 0
                have hfz27_1 := blk_frozen BK226.out 1
                have hfz27_2 := blk_frozen BK226.out 2
                have hcz28_0 : wc.cell? ⟨gb225, 0, none⟩ = some (.int .i64 a0_0) := (blk_cell BK225.out 0).trans rfl
                have hcz28_1 : wc.cell? ⟨gb225, 1, none⟩ = some (.int .i64 a0_1) := (blk_cell BK225.out 1).trans rfl
                have hcz28_2 : wc.cell? ⟨gb225, 2, none⟩ = some (.int .i64 a0_2) := (blk_cell BK225.out 2).trans rfl
                have hcz28_3 : wc.cell? ⟨gb225, 3, none⟩ = some (.int .i64 a0_3) := (blk_cell BK225.out 3).trans rfl
                have hcz28_4 : wc.cell? ⟨gb225, 4, none⟩ = some (.int .i64 a0_4) := (blk_cell BK225.out 4).trans rfl
                have hcz28_5 : wc.cell? ⟨gb225, 5, none⟩ = some (.int .i64 a0_5) := (blk_cell BK225.out 5).trans rfl
                have hcz28_6 : wc.cell? ⟨gb225, 6, none⟩ = some (.slice A0_6 l0_6.length c0_6) := (blk_cell BK225.out 6).trans rfl
                have hcz28_7 : wc.cell? ⟨gb225, 7, none⟩ = some (.slice A0_7 l0_7.length c0_7) := (blk_cell BK225.out 7).trans rfl
                have hfz28_0 := blk_frozen BK225.out 0
                have hfz28_1 := blk_frozen BK225.out 1
                have hfz28_2 := blk_frozen BK225.out 2
                have hfz28_3 := blk_frozen BK225.out 3
                have hfz28_4 := blk_frozen BK225.out 4
                have hfz28_5 := blk_frozen BK225.out 5
                have hfz28_6 := blk_frozen BK225.out 6
                have hfz28_7 := blk_frozen BK225.out 7
                go_wp2_with (first | ((with_reducible refine gate_callee (f := 39) rfl ?_); refine goesL_ (some 36) rfl rfl Tryz.func39 (by kernel_rfl) rfl #[.agg #[.int .i64 a0_0, .int .i64 a0_1, .int .i64 a0_2, .int .i64 a0_3, .int .i64 a0_4, .int .i64 a0_5, .slice A0_6 l0_6.length c0_6, .slice A0_7 l0_7.length c0_7], .int .i64 a1_1] rfl (by (try simp only [List.map_toArray, List.map_cons, List.map_nil]); first | done | rfl | (simp only [List.length_drop, List.length_take]; rfl)) ?_; (with_reducible refine (breadlineref04_Leaf.calls kj11 a0_0 a0_1 a0_2 a0_3 a0_4 a0_5 _ _ l0_6 _ _ l0_7 a1_1 true _ ?side1 ?side2 ?side3 ?side4 A19.out).mono ?_); (case side1 => repeat (first | exact (Kd.C_below HR0_6.out HB.out) | (with_reducible refine Kd.C_alloc ?_ _) | (with_reducible refine Kd.C_drewN ?_ _) | (with_reducible refine Kd.C_drew ?_))); (case side2 => exact HC0_6.out); (case side3 => repeat (first | exact (Kd.C_below HR0_7.out HB.out) | (with_reducible refine Kd.C_alloc ?_ _) | (with_reducible refine Kd.C_drewN ?_ _) | (with_reducible refine Kd.C_drew ?_))); (case side4 => exact HC0_7.out); rintro e w29 ⟨rfl, hb⟩; refine ⟨_, rfl, ?_⟩; have n0_ := Aside0.mk (blk_below (g := gb225) (o := .cells #[.int .i64 a0_0, .int .i64 a0_1, .int .i64 a0_2, .int .i64 a0_3, .int .i64 a0_4, .int .i64 a0_5, .slice A0_6 l0_6.length c0_6, .slice A0_7 l0_7.length c0_7] 24 (0, 0)) (by (with_reducible repeat (first | refine blk_drewN ?_ _ | refine blk_drew ?_ | refine blk_alloc ?_ _)); exact BK225.out) hb); have n1_ := Aside0.mk (blk_below (g := gb226) (o := .cells #[.int .i64 a1_0, .int .i64 a1_1, .int .i64 a1_2] 38 (0, 0)) (by (with_reducible repeat (first | refine blk_drewN ?_ _ | refine blk_drew ?_ | refine blk_alloc ?_ _)); exact BK226.out) hb); have n2_ := Aside0.mk (below_step (by repeat (first | (with_reducible first | exact HB.out | apply below_alloc | apply pw_below_drewN | apply below_drew1 | refine below_set ?_ GE225.out | refine below_set ?_ GE226.out) | exact HB.out)) hb); clear BK225; clear BK226; clear HB; have BK225 := n0_; have BK226 := n1_; have HB := n2_; clear n0_ n1_ n2_; (try clear hb); (try clear hb2); (try clear hk); (try clear hi)))
                go_ret
                exact ⟨by first | rfl | (simp [errW_none, errW_some] <;> rfl) | (simp [*, errW_none, errW_some] <;> rfl), by repeat (first | (with_reducible first | exact HB.out | apply below_alloc | apply pw_below_drewN | apply below_drew1 | refine below_set ?_ GE225.out | refine below_set ?_ GE226.out) | exact HB.out)⟩
            · replace c20 := Bool.eq_false_iff.mpr c20
              subst c20
              have H1 : (some 2) = some r := by rw [if_neg (show ¬ (false = true) by decide)] at H; exact H
              clear H
              have H := H1
              clear H1
              obtain rfl := Option.some.inj H
              have hnb30 := NB226_225.out
              have hnc30 := NB225_226.out
              have hcz31_0 : wc.cell? ⟨gb226, 0, none⟩ = some (.int .i64 a1_0) := (blk_cell BK226.out 0).trans rfl
              have hcz31_1 : wc.cell? ⟨gb226, 1, none⟩ = some (.int .i64 a1_1) := (blk_cell BK226.out 1).trans rfl
              have hcz31_2 : wc.cell? ⟨gb226, 2, none⟩ = some (.int .i64 a1_2) := (blk_cell BK226.out 2).trans rfl
              have hfz31_0 := blk_frozen BK226.out 0
              have hfz31_1 := blk_frozen BK226.out 1
              have hfz31_2 := blk_frozen BK226.out 2
              have hcz32_0 : wc.cell? ⟨gb225, 0, none⟩ = some (.int .i64 a0_0) := (blk_cell BK225.out 0).trans rfl
              have hcz32_1 : wc.cell? ⟨gb225, 1, none⟩ = some (.int .i64 a0_1) := (blk_cell BK225.out 1).trans rfl
              have hcz32_2 : wc.cell? ⟨gb225, 2, none⟩ = some (.int .i64 a0_2) := (blk_cell BK225.out 2).trans rfl
              have hcz32_3 : wc.cell? ⟨gb225, 3, none⟩ = some (.int .i64 a0_3) := (blk_cell BK225.out 3).trans rfl
              have hcz32_4 : wc.cell? ⟨gb225, 4, none⟩ = some (.int .i64 a0_4) := (blk_cell BK225.out 4).trans rfl
              have hcz32_5 : wc.cell? ⟨gb225, 5, none⟩ = some (.int .i64 a0_5) := (blk_cell BK225.out 5).trans rfl
              have hcz32_6 : wc.cell? ⟨gb225, 6, none⟩ = some (.slice A0_6 l0_6.length c0_6) := (blk_cell BK225.out 6).trans rfl
              have hcz32_7 : wc.cell? ⟨gb225, 7, none⟩ = some (.slice A0_7 l0_7.length c0_7) := (blk_cell BK225.out 7).trans rfl
              have hfz32_0 := blk_frozen BK225.out 0
              have hfz32_1 := blk_frozen BK225.out 1
              have hfz32_2 := blk_frozen BK225.out 2
              have hfz32_3 := blk_frozen BK225.out 3
              have hfz32_4 := blk_frozen BK225.out 4
              have hfz32_5 := blk_frozen BK225.out 5
              have hfz32_6 := blk_frozen BK225.out 6
              have hfz32_7 := blk_frozen BK225.out 7
              go_wp2_with (first | ((with_reducible refine gate_callee (f := 39) rfl ?_); refine goesL_ (some 36) rfl rfl Tryz.func39 (by kernel_rfl) rfl #[.agg #[.int .i64 a0_0, .int .i64 a0_1, .int .i64 a0_2, .int .i64 a0_3, .int .i64 a0_4, .int .i64 a0_5, .slice A0_6 l0_6.length c0_6, .slice A0_7 l0_7.length c0_7], .int .i64 a1_1] rfl (by (try simp only [List.map_toArray, List.map_cons, List.map_nil]); first | done | rfl | (simp only [List.length_drop, List.length_take]; rfl)) ?_; (with_reducible refine (breadlineref04_Leaf.calls kj11 a0_0 a0_1 a0_2 a0_3 a0_4 a0_5 _ _ l0_6 _ _ l0_7 a1_1 false _ ?side1 ?side2 ?side3 ?side4 A19.out).mono ?_); (case side1 => repeat (first | exact (Kd.C_below HR0_6.out HB.out) | (with_reducible refine Kd.C_alloc ?_ _) | (with_reducible refine Kd.C_drewN ?_ _) | (with_reducible refine Kd.C_drew ?_))); (case side2 => exact HC0_6.out); (case side3 => repeat (first | exact (Kd.C_below HR0_7.out HB.out) | (with_reducible refine Kd.C_alloc ?_ _) | (with_reducible refine Kd.C_drewN ?_ _) | (with_reducible refine Kd.C_drew ?_))); (case side4 => exact HC0_7.out); rintro e w33 ⟨rfl, hb⟩; refine ⟨_, rfl, ?_⟩; have n0_ := Aside0.mk (blk_below (g := gb225) (o := .cells #[.int .i64 a0_0, .int .i64 a0_1, .int .i64 a0_2, .int .i64 a0_3, .int .i64 a0_4, .int .i64 a0_5, .slice A0_6 l0_6.length c0_6, .slice A0_7 l0_7.length c0_7] 24 (0, 0)) (by (with_reducible repeat (first | refine blk_drewN ?_ _ | refine blk_drew ?_ | refine blk_alloc ?_ _)); exact BK225.out) hb); have n1_ := Aside0.mk (blk_below (g := gb226) (o := .cells #[.int .i64 a1_0, .int .i64 a1_1, .int .i64 a1_2] 38 (0, 0)) (by (with_reducible repeat (first | refine blk_drewN ?_ _ | refine blk_drew ?_ | refine blk_alloc ?_ _)); exact BK226.out) hb); have n2_ := Aside0.mk (below_step (by repeat (first | (with_reducible first | exact HB.out | apply below_alloc | apply pw_below_drewN | apply below_drew1 | refine below_set ?_ GE225.out | refine below_set ?_ GE226.out) | exact HB.out)) hb); clear BK225; clear BK226; clear HB; have BK225 := n0_; have BK226 := n1_; have HB := n2_; clear n0_ n1_ n2_; (try clear hb); (try clear hb2); (try clear hk); (try clear hi)))
              go_ret
              exact ⟨by first | rfl | (simp [errW_none, errW_some] <;> rfl) | (simp [*, errW_none, errW_some] <;> rfl), by repeat (first | (with_reducible first | exact HB.out | apply below_alloc | apply pw_below_drewN | apply below_drew1 | refine below_set ?_ GE225.out | refine below_set ?_ GE226.out) | exact HB.out)⟩
          · rw [if_neg c18] at H
            have c18b0 : (a1_0 == 1) = false := beq_eq_false_iff_ne.mpr c18
            have c18b1 : (a1_0 != 1) = true := bne_iff_ne.mpr c18
            by_cases c34 : a1_0 = 2
            · rw [if_pos c34] at H
              have c34b0 : (a1_0 == 2) = true := beq_iff_eq.mpr c34
              have c34b1 : (a1_0 != 2) = false := bne_eq_false_iff_eq.mpr c34
              clear c34
              replace H := Option.bind_eq_some_iff.mp H
              obtain ⟨⟨t228, t229, t230⟩, A350, H⟩ := H
              replace H : (if t230 = true then (some 0) else (some 5)) = some r := H
              have A35 := Aside0.mk A350
              clear A350
              by_cases c36 : t230 = true
              · subst c36
                have H1 : (some 0) = some r := by rw [if_pos rfl] at H; exact H
                clear H
                have H := H1
                clear H1
                obtain rfl := Option.some.inj H
                have hnb37 := NB226_225.out
                have hnc37 := NB225_226.out
                have hcz38_0 : wc.cell? ⟨gb226, 0, none⟩ = some (.int .i64 a1_0) := (blk_cell BK226.out 0).trans rfl
                have hcz38_1 : wc.cell? ⟨gb226, 1, none⟩ = some (.int .i64 a1_1) := (blk_cell BK226.out 1).trans rfl
                have hcz38_2 : wc.cell? ⟨gb226, 2, none⟩ = some (.int .i64 a1_2) := (blk_cell BK226.out 2).trans rfl
                have hfz38_0 := blk_frozen BK226.out 0
                have hfz38_1 := blk_frozen BK226.out 1
                have hfz38_2 := blk_frozen BK226.out 2
                have hcz39_0 : wc.cell? ⟨gb225, 0, none⟩ = some (.int .i64 a0_0) := (blk_cell BK225.out 0).trans rfl
                have hcz39_1 : wc.cell? ⟨gb225, 1, none⟩ = some (.int .i64 a0_1) := (blk_cell BK225.out 1).trans rfl
                have hcz39_2 : wc.cell? ⟨gb225, 2, none⟩ = some (.int .i64 a0_2) := (blk_cell BK225.out 2).trans rfl
                have hcz39_3 : wc.cell? ⟨gb225, 3, none⟩ = some (.int .i64 a0_3) := (blk_cell BK225.out 3).trans rfl
                have hcz39_4 : wc.cell? ⟨gb225, 4, none⟩ = some (.int .i64 a0_4) := (blk_cell BK225.out 4).trans rfl
                have hcz39_5 : wc.cell? ⟨gb225, 5, none⟩ = some (.int .i64 a0_5) := (blk_cell BK225.out 5).trans rfl
                have hcz39_6 : wc.cell? ⟨gb225, 6, none⟩ = some (.slice A0_6 l0_6.length c0_6) := (blk_cell BK225.out 6).trans rfl
                have hcz39_7 : wc.cell? ⟨gb225, 7, none⟩ = some (.slice A0_7 l0_7.length c0_7) := (blk_cell BK225.out 7).trans rfl
                have hfz39_0 := blk_frozen BK225.out 0
                have hfz39_1 := blk_frozen BK225.out 1
                have hfz39_2 := blk_frozen BK225.out 2
                have hfz39_3 := blk_frozen BK225.out 3
                have hfz39_4 := blk_frozen BK225.out 4
                have hfz39_5 := blk_frozen BK225.out 5
                have hfz39_6 := blk_frozen BK225.out 6
                have hfz39_7 := blk_frozen BK225.out 7
                go_wp2_with (first | ((with_reducible refine gate_callee (f := 40) rfl ?_); refine goesL_ (some 47) rfl rfl Tryz.func40 (by kernel_rfl) rfl #[.int .i64 a1_2, .int .i64 a0_5] rfl (by (try simp only [List.map_toArray, List.map_cons, List.map_nil]); first | done | rfl | (simp only [List.length_drop, List.length_take]; rfl)) ?_; (with_reducible refine (breadlineref10_Named.calls a1_2 a0_5 t228 t229 true _ A35.out).mono ?_); rintro e w' ⟨rfl, ⟨nd, rfl⟩⟩; refine ⟨_, rfl, ?_⟩))
                go_ret
                exact ⟨by first | rfl | (simp [errW_none, errW_some] <;> rfl) | (simp [*, errW_none, errW_some] <;> rfl), by repeat (first | (with_reducible first | exact HB.out | apply below_alloc | apply pw_below_drewN | apply below_drew1 | refine below_set ?_ GE225.out | refine below_set ?_ GE226.out) | exact HB.out)⟩
              · replace c36 := Bool.eq_false_iff.mpr c36
                subst c36
                have H1 : (some 5) = some r := by rw [if_neg (show ¬ (false = true) by decide)] at H; exact H
                clear H
                have H := H1
                clear H1
                obtain rfl := Option.some.inj H
                have hnb40 := NB226_225.out
                have hnc40 := NB225_226.out
                have hcz41_0 : wc.cell? ⟨gb226, 0, none⟩ = some (.int .i64 a1_0) := (blk_cell BK226.out 0).trans rfl
                have hcz41_1 : wc.cell? ⟨gb226, 1, none⟩ = some (.int .i64 a1_1) := (blk_cell BK226.out 1).trans rfl
                have hcz41_2 : wc.cell? ⟨gb226, 2, none⟩ = some (.int .i64 a1_2) := (blk_cell BK226.out 2).trans rfl
                have hfz41_0 := blk_frozen BK226.out 0
                have hfz41_1 := blk_frozen BK226.out 1
                have hfz41_2 := blk_frozen BK226.out 2
                have hcz42_0 : wc.cell? ⟨gb225, 0, none⟩ = some (.int .i64 a0_0) := (blk_cell BK225.out 0).trans rfl
                have hcz42_1 : wc.cell? ⟨gb225, 1, none⟩ = some (.int .i64 a0_1) := (blk_cell BK225.out 1).trans rfl
                have hcz42_2 : wc.cell? ⟨gb225, 2, none⟩ = some (.int .i64 a0_2) := (blk_cell BK225.out 2).trans rfl
                have hcz42_3 : wc.cell? ⟨gb225, 3, none⟩ = some (.int .i64 a0_3) := (blk_cell BK225.out 3).trans rfl
                have hcz42_4 : wc.cell? ⟨gb225, 4, none⟩ = some (.int .i64 a0_4) := (blk_cell BK225.out 4).trans rfl
                have hcz42_5 : wc.cell? ⟨gb225, 5, none⟩ = some (.int .i64 a0_5) := (blk_cell BK225.out 5).trans rfl
                have hcz42_6 : wc.cell? ⟨gb225, 6, none⟩ = some (.slice A0_6 l0_6.length c0_6) := (blk_cell BK225.out 6).trans rfl
                have hcz42_7 : wc.cell? ⟨gb225, 7, none⟩ = some (.slice A0_7 l0_7.length c0_7) := (blk_cell BK225.out 7).trans rfl
                have hfz42_0 := blk_frozen BK225.out 0
                have hfz42_1 := blk_frozen BK225.out 1
                have hfz42_2 := blk_frozen BK225.out 2
                have hfz42_3 := blk_frozen BK225.out 3
                have hfz42_4 := blk_frozen BK225.out 4
                have hfz42_5 := blk_frozen BK225.out 5
                have hfz42_6 := blk_frozen BK225.out 6
                have hfz42_7 := blk_frozen BK225.out 7
                go_wp2_with (first | ((with_reducible refine gate_callee (f := 40) rfl ?_); refine goesL_ (some 47) rfl rfl Tryz.func40 (by kernel_rfl) rfl #[.int .i64 a1_2, .int .i64 a0_5] rfl (by (try simp only [List.map_toArray, List.map_cons, List.map_nil]); first | done | rfl | (simp only [List.length_drop, List.length_take]; rfl)) ?_; (with_reducible refine (breadlineref10_Named.calls a1_2 a0_5 t228 t229 false _ A35.out).mono ?_); rintro e w' ⟨rfl, ⟨nd, rfl⟩⟩; refine ⟨_, rfl, ?_⟩))
                go_ret
                exact ⟨by first | rfl | (simp [errW_none, errW_some] <;> rfl) | (simp [*, errW_none, errW_some] <;> rfl), by repeat (first | (with_reducible first | exact HB.out | apply below_alloc | apply pw_below_drewN | apply below_drew1 | refine below_set ?_ GE225.out | refine below_set ?_ GE226.out) | exact HB.out)⟩
            · rw [if_neg c34] at H
              have c34b0 : (a1_0 == 2) = false := beq_eq_false_iff_ne.mpr c34
              have c34b1 : (a1_0 != 2) = true := bne_iff_ne.mpr c34
              have HC43 := Aside0.mk H
              clear H
              have hnb44 := NB226_225.out
              have hnc44 := NB225_226.out
              have hcz45_0 : wc.cell? ⟨gb226, 0, none⟩ = some (.int .i64 a1_0) := (blk_cell BK226.out 0).trans rfl
              have hcz45_1 : wc.cell? ⟨gb226, 1, none⟩ = some (.int .i64 a1_1) := (blk_cell BK226.out 1).trans rfl
              have hcz45_2 : wc.cell? ⟨gb226, 2, none⟩ = some (.int .i64 a1_2) := (blk_cell BK226.out 2).trans rfl
              have hfz45_0 := blk_frozen BK226.out 0
              have hfz45_1 := blk_frozen BK226.out 1
              have hfz45_2 := blk_frozen BK226.out 2
              go_upto_if 53 with (fail)
              go_cut [53] (fun v53 wc => ∃ (kq : Nat) (x53_42 : Bool), v53 = .bool x53_42 ∧ Aside0 (breadlineref15_Check.j2 kq x5_2 x6_11 a1_0 x53_42 = some r) ∧ Aside0 (kq ≤ kj11) ∧ Aside0 (wc.heap[gb225]? = some (.cells #[.int .i64 a0_0, .int .i64 a0_1, .int .i64 a0_2, .int .i64 a0_3, .int .i64 a0_4, .int .i64 a0_5, (.slice A0_6 l0_6.length c0_6), (.slice A0_7 l0_7.length c0_7)] 24 (0, 0))) ∧ Aside0 (wc.heap[gb226]? = some (.cells #[.int .i64 a1_0, .int .i64 a1_1, .int .i64 a1_2] 38 (0, 0))) ∧ Aside0 (Below w.heap.size w wc))
              case first =>
                have H := HC43.out
                clear HC43
                by_cases c46 : a1_0 = 3
                · rw [if_pos c46] at H
                  have c46b0 : (a1_0 == 3) = true := beq_iff_eq.mpr c46
                  have c46b1 : (a1_0 != 3) = false := bne_eq_false_iff_eq.mpr c46
                  clear c46
                  (first | rw [c46b0] | (simp only [i64_w, i32_w]; rw [c46b0]) | skip)
                  have H' := Aside0.mk H
                  clear H
                  go_wp2
                  go_meet
                  case rel => exact ⟨_, ((a1_0 == 3)), (by first | rfl | (simp; done) | (simp [*]; done)), H', ⟨by have := HJ2.out; have := HJ11.out; first | omega | exact Nat.le_refl _⟩, ⟨by (with_reducible repeat (first | refine blk_drewN ?_ _ | refine blk_drew ?_ | refine blk_alloc ?_ _)); exact BK225.out⟩, ⟨by (with_reducible repeat (first | refine blk_drewN ?_ _ | refine blk_drew ?_ | refine blk_alloc ?_ _)); exact BK226.out⟩, ⟨by repeat (first | (with_reducible first | exact HB.out | apply below_alloc | apply pw_below_drewN | apply below_drew1 | refine below_set ?_ GE225.out | refine below_set ?_ GE226.out) | exact HB.out)⟩⟩
                · rw [if_neg c46] at H
                  have c46b0 : (a1_0 == 3) = false := beq_eq_false_iff_ne.mpr c46
                  have c46b1 : (a1_0 != 3) = true := bne_iff_ne.mpr c46
                  (first | rw [c46b0] | (simp only [i64_w, i32_w]; rw [c46b0]) | skip)
                  have H' := Aside0.mk H
                  clear H
                  go_wp2
                  go_meet
                  case rel => exact ⟨_, ((a1_0 == 4)), (by first | rfl | (simp; done) | (simp [*]; done)), H', ⟨by have := HJ2.out; have := HJ11.out; first | omega | exact Nat.le_refl _⟩, ⟨by (with_reducible repeat (first | refine blk_drewN ?_ _ | refine blk_drew ?_ | refine blk_alloc ?_ _)); exact BK225.out⟩, ⟨by (with_reducible repeat (first | refine blk_drewN ?_ _ | refine blk_drew ?_ | refine blk_alloc ?_ _)); exact BK226.out⟩, ⟨by repeat (first | (with_reducible first | exact HB.out | apply below_alloc | apply pw_below_drewN | apply below_drew1 | refine below_set ?_ GE225.out | refine below_set ?_ GE226.out) | exact HB.out)⟩⟩
              case rest =>
                clear HC43
                try clear c1
                try clear c2
                try clear p2
                try clear c3
                try clear c4
                try clear c6
                try clear c6b0
                try clear c7
                try clear c10
                try clear c13
                try clear c13b0
                try clear c14
                try clear c16
                try clear c18
                try clear c18b0
                try clear c18b1
                try clear c20
                try clear c21
                try clear c22
                try clear c26
                try clear c28
                try clear c30
                try clear c34
                try clear c34b0
                try clear c34b1
                try clear c36
                try clear c37
                try clear c39
                try clear c40
                try clear c44
                try clear c46
                try clear c46b0
                try clear c46b1
                try clear hcz11_0
                try clear hcz11_1
                try clear hcz11_2
                try clear hcz15_0
                try clear hcz15_1
                try clear hcz15_2
                try clear hcz17_0
                try clear hcz17_1
                try clear hcz17_2
                try clear hcz23_0
                try clear hcz23_1
                try clear hcz23_2
                try clear hcz24_0
                try clear hcz24_1
                try clear hcz24_2
                try clear hcz24_3
                try clear hcz24_4
                try clear hcz24_5
                try clear hcz24_6
                try clear hcz24_7
                try clear hcz27_0
                try clear hcz27_1
                try clear hcz27_2
                try clear hcz28_0
                try clear hcz28_1
                try clear hcz28_2
                try clear hcz28_3
                try clear hcz28_4
                try clear hcz28_5
                try clear hcz28_6
                try clear hcz28_7
                try clear hcz31_0
                try clear hcz31_1
                try clear hcz31_2
                try clear hcz32_0
                try clear hcz32_1
                try clear hcz32_2
                try clear hcz32_3
                try clear hcz32_4
                try clear hcz32_5
                try clear hcz32_6
                try clear hcz32_7
                try clear hcz38_0
                try clear hcz38_1
                try clear hcz38_2
                try clear hcz39_0
                try clear hcz39_1
                try clear hcz39_2
                try clear hcz39_3
                try clear hcz39_4
                try clear hcz39_5
                try clear hcz39_6
                try clear hcz39_7
                try clear hcz41_0
                try clear hcz41_1
                try clear hcz41_2
                try clear hcz42_0
                try clear hcz42_1
                try clear hcz42_2
                try clear hcz42_3
                try clear hcz42_4
                try clear hcz42_5
                try clear hcz42_6
                try clear hcz42_7
                try clear hcz45_0
                try clear hcz45_1
                try clear hcz45_2
                try clear hcz8_0
                try clear hcz8_1
                try clear hcz8_2
                try clear hcz9_0
                try clear hcz9_1
                try clear hcz9_2
                try clear hcz9_3
                try clear hcz9_4
                try clear hcz9_5
                try clear hcz9_6
                try clear hcz9_7
                try clear hfz11_0
                try clear hfz11_1
                try clear hfz11_2
                try clear hfz15_0
                try clear hfz15_1
                try clear hfz15_2
                try clear hfz17_0
                try clear hfz17_1
                try clear hfz17_2
                try clear hfz23_0
                try clear hfz23_1
                try clear hfz23_2
                try clear hfz24_0
                try clear hfz24_1
                try clear hfz24_2
                try clear hfz24_3
                try clear hfz24_4
                try clear hfz24_5
                try clear hfz24_6
                try clear hfz24_7
                try clear hfz27_0
                try clear hfz27_1
                try clear hfz27_2
                try clear hfz28_0
                try clear hfz28_1
                try clear hfz28_2
                try clear hfz28_3
                try clear hfz28_4
                try clear hfz28_5
                try clear hfz28_6
                try clear hfz28_7
                try clear hfz31_0
                try clear hfz31_1
                try clear hfz31_2
                try clear hfz32_0
                try clear hfz32_1
                try clear hfz32_2
                try clear hfz32_3
                try clear hfz32_4
                try clear hfz32_5
                try clear hfz32_6
                try clear hfz32_7
                try clear hfz38_0
                try clear hfz38_1
                try clear hfz38_2
                try clear hfz39_0
                try clear hfz39_1
                try clear hfz39_2
                try clear hfz39_3
                try clear hfz39_4
                try clear hfz39_5
                try clear hfz39_6
                try clear hfz39_7
                try clear hfz41_0
                try clear hfz41_1
                try clear hfz41_2
                try clear hfz42_0
                try clear hfz42_1
                try clear hfz42_2
                try clear hfz42_3
                try clear hfz42_4
                try clear hfz42_5
                try clear hfz42_6
                try clear hfz42_7
                try clear hfz45_0
                try clear hfz45_1
                try clear hfz45_2
                try clear hfz8_0
                try clear hfz8_1
                try clear hfz8_2
                try clear hfz9_0
                try clear hfz9_1
                try clear hfz9_2
                try clear hfz9_3
                try clear hfz9_4
                try clear hfz9_5
                try clear hfz9_6
                try clear hfz9_7
                try clear p2
                obtain ⟨kq, x53_42, rfl, HA, HJ42, BK225, BK226, HB⟩ := hcut
                cases kq with
                | zero => exact absurd HA.out (by simp [breadlineref15_Check.j2])
                | succ kj42 =>
                  have H := HA.out
                  clear HA
                  simp only [breadlineref15_Check.j2] at H
                  by_cases c47 : x53_42 = true
                  · subst c47
                    have H1 : (if x5_2 = true then (if x6_11 = true then (some 0) else (some 1)) else (some 2)) = some r := by rw [if_pos rfl] at H; exact H
                    clear H
                    have H := H1
                    clear H1
                    by_cases c48 : x5_2 = true
                    · subst c48
                      have H1 : (if x6_11 = true then (some 0) else (some 1)) = some r := by rw [if_pos rfl] at H; exact H
                      clear H
                      have H := H1
                      clear H1
                      by_cases c49 : x6_11 = true
                      · subst c49
                        have H1 : (some 0) = some r := by rw [if_pos rfl] at H; exact H
                        clear H
                        have H := H1
                        clear H1
                        obtain rfl := Option.some.inj H
                        go_wp2
                        go_ret
                        exact ⟨by first | rfl | (simp [errW_none, errW_some] <;> rfl) | (simp [*, errW_none, errW_some] <;> rfl), by repeat (first | (with_reducible first | exact HB.out | apply below_alloc | apply pw_below_drewN | apply below_drew1 | refine below_set ?_ GE225.out | refine below_set ?_ GE226.out) | exact HB.out)⟩
                      · replace c49 := Bool.eq_false_iff.mpr c49
                        subst c49
                        have H1 : (some 1) = some r := by rw [if_neg (show ¬ (false = true) by decide)] at H; exact H
                        clear H
                        have H := H1
                        clear H1
                        obtain rfl := Option.some.inj H
                        go_wp2
                        go_ret
                        exact ⟨by first | rfl | (simp [errW_none, errW_some] <;> rfl) | (simp [*, errW_none, errW_some] <;> rfl), by repeat (first | (with_reducible first | exact HB.out | apply below_alloc | apply pw_below_drewN | apply below_drew1 | refine below_set ?_ GE225.out | refine below_set ?_ GE226.out) | exact HB.out)⟩
                    · replace c48 := Bool.eq_false_iff.mpr c48
                      subst c48
                      have H1 : (some 2) = some r := by rw [if_neg (show ¬ (false = true) by decide)] at H; exact H
                      clear H
                      have H := H1
                      clear H1
                      obtain rfl := Option.some.inj H
                      go_wp2
                      go_ret
                      exact ⟨by first | rfl | (simp [errW_none, errW_some] <;> rfl) | (simp [*, errW_none, errW_some] <;> rfl), by repeat (first | (with_reducible first | exact HB.out | apply below_alloc | apply pw_below_drewN | apply below_drew1 | refine below_set ?_ GE225.out | refine below_set ?_ GE226.out) | exact HB.out)⟩
                  · replace c47 := Bool.eq_false_iff.mpr c47
                    subst c47
                    have H1 : (if a1_0 = 5 then (breadlineref15_Check.j3 kj42 x5_2 (a1_0 == 5)) else (breadlineref15_Check.j3 kj42 x5_2 (a1_0 == 6))) = some r := by rw [if_neg (show ¬ (false = true) by decide)] at H; exact H
                    clear H
                    have H := H1
                    clear H1
                    have HC50 := Aside0.mk H
                    clear H
                    go_upto_if 60 with (fail)
                    go_cut [60] (fun v60 wc => ∃ (kq : Nat) (x60_49 : Bool), v60 = .bool x60_49 ∧ Aside0 (breadlineref15_Check.j3 kq x5_2 x60_49 = some r) ∧ Aside0 (kq ≤ kj42) ∧ Aside0 (wc.heap[gb225]? = some (.cells #[.int .i64 a0_0, .int .i64 a0_1, .int .i64 a0_2, .int .i64 a0_3, .int .i64 a0_4, .int .i64 a0_5, (.slice A0_6 l0_6.length c0_6), (.slice A0_7 l0_7.length c0_7)] 24 (0, 0))) ∧ Aside0 (wc.heap[gb226]? = some (.cells #[.int .i64 a1_0, .int .i64 a1_1, .int .i64 a1_2] 38 (0, 0))) ∧ Aside0 (Below w.heap.size w wc))
                    case first =>
                      have H := HC50.out
                      clear HC50
                      by_cases c51 : a1_0 = 5
                      · rw [if_pos c51] at H
                        have c51b0 : (a1_0 == 5) = true := beq_iff_eq.mpr c51
                        have c51b1 : (a1_0 != 5) = false := bne_eq_false_iff_eq.mpr c51
                        clear c51
                        (first | rw [c51b0] | (simp only [i64_w, i32_w]; rw [c51b0]) | skip)
                        have H' := Aside0.mk H
                        clear H
                        go_wp2
                        go_meet
                        case rel => exact ⟨_, ((a1_0 == 5)), (by first | rfl | (simp; done) | (simp [*]; done)), H', ⟨by have := HJ2.out; have := HJ11.out; have := HJ42.out; first | omega | exact Nat.le_refl _⟩, ⟨by (with_reducible repeat (first | refine blk_drewN ?_ _ | refine blk_drew ?_ | refine blk_alloc ?_ _)); exact BK225.out⟩, ⟨by (with_reducible repeat (first | refine blk_drewN ?_ _ | refine blk_drew ?_ | refine blk_alloc ?_ _)); exact BK226.out⟩, ⟨by repeat (first | (with_reducible first | exact HB.out | apply below_alloc | apply pw_below_drewN | apply below_drew1 | refine below_set ?_ GE225.out | refine below_set ?_ GE226.out) | exact HB.out)⟩⟩
                      · rw [if_neg c51] at H
                        have c51b0 : (a1_0 == 5) = false := beq_eq_false_iff_ne.mpr c51
                        have c51b1 : (a1_0 != 5) = true := bne_iff_ne.mpr c51
                        (first | rw [c51b0] | (simp only [i64_w, i32_w]; rw [c51b0]) | skip)
                        have H' := Aside0.mk H
                        clear H
                        go_wp2
                        go_meet
                        case rel => exact ⟨_, ((a1_0 == 6)), (by first | rfl | (simp; done) | (simp [*]; done)), H', ⟨by have := HJ2.out; have := HJ11.out; have := HJ42.out; first | omega | exact Nat.le_refl _⟩, ⟨by (with_reducible repeat (first | refine blk_drewN ?_ _ | refine blk_drew ?_ | refine blk_alloc ?_ _)); exact BK225.out⟩, ⟨by (with_reducible repeat (first | refine blk_drewN ?_ _ | refine blk_drew ?_ | refine blk_alloc ?_ _)); exact BK226.out⟩, ⟨by repeat (first | (with_reducible first | exact HB.out | apply below_alloc | apply pw_below_drewN | apply below_drew1 | refine below_set ?_ GE225.out | refine below_set ?_ GE226.out) | exact HB.out)⟩⟩
                    case rest =>
                      clear HC50
                      try clear c1
                      try clear c2
                      try clear p2
                      try clear c3
                      try clear c4
                      try clear c5
                      try clear c6
                      try clear c6b0
                      try clear c7
                      try clear c10
                      try clear c13
                      try clear c13b0
                      try clear c14
                      try clear c16
                      try clear c18
                      try clear c18b0
                      try clear c18b1
                      try clear c20
                      try clear c21
                      try clear c22
                      try clear c26
                      try clear c28
                      try clear c30
                      try clear c34
                      try clear c34b0
                      try clear c34b1
                      try clear c36
                      try clear c37
                      try clear c39
                      try clear c40
                      try clear c44
                      try clear c46
                      try clear c46b0
                      try clear c46b1
                      try clear c47
                      try clear c48
                      try clear c49
                      try clear c51
                      try clear c51b0
                      try clear c51b1
                      try clear hcz11_0
                      try clear hcz11_1
                      try clear hcz11_2
                      try clear hcz15_0
                      try clear hcz15_1
                      try clear hcz15_2
                      try clear hcz17_0
                      try clear hcz17_1
                      try clear hcz17_2
                      try clear hcz23_0
                      try clear hcz23_1
                      try clear hcz23_2
                      try clear hcz24_0
                      try clear hcz24_1
                      try clear hcz24_2
                      try clear hcz24_3
                      try clear hcz24_4
                      try clear hcz24_5
                      try clear hcz24_6
                      try clear hcz24_7
                      try clear hcz27_0
                      try clear hcz27_1
                      try clear hcz27_2
                      try clear hcz28_0
                      try clear hcz28_1
                      try clear hcz28_2
                      try clear hcz28_3
                      try clear hcz28_4
                      try clear hcz28_5
                      try clear hcz28_6
                      try clear hcz28_7
                      try clear hcz31_0
                      try clear hcz31_1
                      try clear hcz31_2
                      try clear hcz32_0
                      try clear hcz32_1
                      try clear hcz32_2
                      try clear hcz32_3
                      try clear hcz32_4
                      try clear hcz32_5
                      try clear hcz32_6
                      try clear hcz32_7
                      try clear hcz38_0
                      try clear hcz38_1
                      try clear hcz38_2
                      try clear hcz39_0
                      try clear hcz39_1
                      try clear hcz39_2
                      try clear hcz39_3
                      try clear hcz39_4
                      try clear hcz39_5
                      try clear hcz39_6
                      try clear hcz39_7
                      try clear hcz41_0
                      try clear hcz41_1
                      try clear hcz41_2
                      try clear hcz42_0
                      try clear hcz42_1
                      try clear hcz42_2
                      try clear hcz42_3
                      try clear hcz42_4
                      try clear hcz42_5
                      try clear hcz42_6
                      try clear hcz42_7
                      try clear hcz45_0
                      try clear hcz45_1
                      try clear hcz45_2
                      try clear hcz8_0
                      try clear hcz8_1
                      try clear hcz8_2
                      try clear hcz9_0
                      try clear hcz9_1
                      try clear hcz9_2
                      try clear hcz9_3
                      try clear hcz9_4
                      try clear hcz9_5
                      try clear hcz9_6
                      try clear hcz9_7
                      try clear hfz11_0
                      try clear hfz11_1
                      try clear hfz11_2
                      try clear hfz15_0
                      try clear hfz15_1
                      try clear hfz15_2
                      try clear hfz17_0
                      try clear hfz17_1
                      try clear hfz17_2
                      try clear hfz23_0
                      try clear hfz23_1
                      try clear hfz23_2
                      try clear hfz24_0
                      try clear hfz24_1
                      try clear hfz24_2
                      try clear hfz24_3
                      try clear hfz24_4
                      try clear hfz24_5
                      try clear hfz24_6
                      try clear hfz24_7
                      try clear hfz27_0
                      try clear hfz27_1
                      try clear hfz27_2
                      try clear hfz28_0
                      try clear hfz28_1
                      try clear hfz28_2
                      try clear hfz28_3
                      try clear hfz28_4
                      try clear hfz28_5
                      try clear hfz28_6
                      try clear hfz28_7
                      try clear hfz31_0
                      try clear hfz31_1
                      try clear hfz31_2
                      try clear hfz32_0
                      try clear hfz32_1
                      try clear hfz32_2
                      try clear hfz32_3
                      try clear hfz32_4
                      try clear hfz32_5
                      try clear hfz32_6
                      try clear hfz32_7
                      try clear hfz38_0
                      try clear hfz38_1
                      try clear hfz38_2
                      try clear hfz39_0
                      try clear hfz39_1
                      try clear hfz39_2
                      try clear hfz39_3
                      try clear hfz39_4
                      try clear hfz39_5
                      try clear hfz39_6
                      try clear hfz39_7
                      try clear hfz41_0
                      try clear hfz41_1
                      try clear hfz41_2
                      try clear hfz42_0
                      try clear hfz42_1
                      try clear hfz42_2
                      try clear hfz42_3
                      try clear hfz42_4
                      try clear hfz42_5
                      try clear hfz42_6
                      try clear hfz42_7
                      try clear hfz45_0
                      try clear hfz45_1
                      try clear hfz45_2
                      try clear hfz8_0
                      try clear hfz8_1
                      try clear hfz8_2
                      try clear hfz9_0
                      try clear hfz9_1
                      try clear hfz9_2
                      try clear hfz9_3
                      try clear hfz9_4
                      try clear hfz9_5
                      try clear hfz9_6
                      try clear hfz9_7
                      try clear p2
                      obtain ⟨kq, x60_49, rfl, HA, HJ49, BK225, BK226, HB⟩ := hcut
                      cases kq with
                      | zero => exact absurd HA.out (by simp [breadlineref15_Check.j3])
                      | succ kj49 =>
                        have H := HA.out
                        clear HA
                        simp only [breadlineref15_Check.j3] at H
                        by_cases c52 : x60_49 = true
                        · subst c52
                          have H1 : (if x5_2 = true then (some 0) else (some 2)) = some r := by rw [if_pos rfl] at H; exact H
                          clear H
                          have H := H1
                          clear H1
                          by_cases c53 : x5_2 = true
                          · subst c53
                            have H1 : (some 0) = some r := by rw [if_pos rfl] at H; exact H
                            clear H
                            have H := H1
                            clear H1
                            obtain rfl := Option.some.inj H
                            go_wp2
                            go_ret
                            exact ⟨by first | rfl | (simp [errW_none, errW_some] <;> rfl) | (simp [*, errW_none, errW_some] <;> rfl), by repeat (first | (with_reducible first | exact HB.out | apply below_alloc | apply pw_below_drewN | apply below_drew1 | refine below_set ?_ GE225.out | refine below_set ?_ GE226.out) | exact HB.out)⟩
                          · replace c53 := Bool.eq_false_iff.mpr c53
                            subst c53
                            have H1 : (some 2) = some r := by rw [if_neg (show ¬ (false = true) by decide)] at H; exact H
                            clear H
                            have H := H1
                            clear H1
                            obtain rfl := Option.some.inj H
                            go_wp2
                            go_ret
                            exact ⟨by first | rfl | (simp [errW_none, errW_some] <;> rfl) | (simp [*, errW_none, errW_some] <;> rfl), by repeat (first | (with_reducible first | exact HB.out | apply below_alloc | apply pw_below_drewN | apply below_drew1 | refine below_set ?_ GE225.out | refine below_set ?_ GE226.out) | exact HB.out)⟩
                        · replace c52 := Bool.eq_false_iff.mpr c52
                          subst c52
                          have H1 : (some 1) = some r := by rw [if_neg (show ¬ (false = true) by decide)] at H; exact H
                          clear H
                          have H := H1
                          clear H1
                          obtain rfl := Option.some.inj H
                          go_wp2
                          go_ret
                          exact ⟨by first | rfl | (simp [errW_none, errW_some] <;> rfl) | (simp [*, errW_none, errW_some] <;> rfl), by repeat (first | (with_reducible first | exact HB.out | apply below_alloc | apply pw_below_drewN | apply below_drew1 | refine below_set ?_ GE225.out | refine below_set ?_ GE226.out) | exact HB.out)⟩

end Go.Proofs.YteaidhoimaphlaaGreat.PM
