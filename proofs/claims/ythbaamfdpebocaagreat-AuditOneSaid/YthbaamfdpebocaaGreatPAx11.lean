-- Printed by the session's own driver (wip/tools/drive.py) on the kit's print.py, with hand-proved functions put in. Not trusted: Lean checks it.
import Derived.Test.YthbaamfdpebocaaGreatPAx0
import Derived.Test.YthbaamfdpebocaaGreatPAx9
namespace Go.Proofs.YthbaamfdpebocaaGreat.PA
open Go.RowKit Go.Proofs.YthbaamfdpebocaaGreatW.PrintWords Go.Proofs.YthbaamfdpebocaaGreatW.PrintLast Go.Proofs.YthbaamfdpebocaaGreatW.PrintMore
attribute [local go_sem] max2_int min2_int max_two min_two max_three min_three max_four min_four
set_option linter.unusedVariables false
set_option linter.unusedSimpArgs false

/-! ### breadlineref07_Machine_word: function 114 -/
-- NOT PRINTED: function 115 (breadlineref07_Machine_closed)

-- NOT PRINTED: function 83 (breadlineref07_Machine_Step)

-- NOT PRINTED: function 51 (breadlineref15_Machine_Step)

-- NOT PRINTED: function 84 (breadlineref12_Machine_Ans)

-- NOT PRINTED: function 85 (breadlineref13_Machine_Ans)

/-! ### breadlineref09_Machine_Ans: function 86 -/
/-! ### breadlineref07_Machine_Ans: function 87 -/
-- NOT PRINTED: function 52 (breadlineref15_Machine_Ans)

-- NOT PRINTED: function 22 (breadlineref16_Sched_Pick)

/-! ### breadlinelaw04_Base: function 30 -/
-- NOT PRINTED: function 9 (breadlinelaw19_head)

/-! ### breadlinelaw04_Great: function 10 -/
def breadlinelaw04_Great.f (a0_0 : Int) (a0_1 : Int) (a0_2 : Int) (a0_3 : Int) (a0_4 : Int) (a0_5 : Int) (l0_6 : List Int) (l0_7 : List Int) : Option (Bool) := if (l0_6.length : Int) > 100 then (some true) else (some (decide ((l0_7.length : Int) > 100)))
set_option maxHeartbeats 8000000 in
set_option maxRecDepth 100000 in
theorem breadlinelaw04_Great.calls (a0_0 : Int) (a0_1 : Int) (a0_2 : Int) (a0_3 : Int) (a0_4 : Int) (a0_5 : Int) (A0_6 : Option Addr) (c0_6 : Nat) (l0_6 : List Int) (A0_7 : Option Addr) (c0_7 : Nat) (l0_7 : List Int) (r : Bool) (w : World) (hr0_6 : Kd.C (Kd.int .i64) w A0_6 l0_6.length l0_6) (hc0_6 : l0_6.length ≤ c0_6) (hr0_7 : Kd.C (Kd.int .i64) w A0_7 l0_7.length l0_7) (hc0_7 : l0_7.length ≤ c0_7) (h : breadlinelaw04_Great.f a0_0 a0_1 a0_2 a0_3 a0_4 a0_5 l0_6 l0_7 = some r) :
    Calls Tryz.prog 10 #[.agg #[.int .i64 a0_0, .int .i64 a0_1, .int .i64 a0_2, .int .i64 a0_3, .int .i64 a0_4, .int .i64 a0_5, .slice A0_6 l0_6.length c0_6, .slice A0_7 l0_7.length c0_7]] w fun e w' => e = .returned (.bool r) ∧ Below w.heap.size w w' := by
  have hu24 := Tryz.underlying24
  have HR0_6 := Aside0.mk hr0_6
  have HC0_6 := Aside0.mk hc0_6
  clear hr0_6 hc0_6
  have HR0_7 := Aside0.mk hr0_7
  have HC0_7 := Aside0.mk hc0_7
  clear hr0_7 hc0_7
  have HB := Aside0.mk (Below.refl w.heap.size w)
  have H : (if (l0_6.length : Int) > 100 then (some true) else (some (decide ((l0_7.length : Int) > 100)))) = some r := h
  clear h
  by_cases c2 : (l0_6.length : Int) > 100
  · rw [if_pos c2] at H
    have c2b0 : decide (100 < (l0_6.length : Int)) = true := decide_eq_true c2
    have c2b1 : decide (100 < l0_6.length) = true := decide_eq_true (by omega)
    clear c2
    obtain rfl := Option.some.inj H
    go_enter Tryz.func10, Tryz.ntmps10
    go_wp2_with (first | ((with_reducible refine gate_dst (N := 1) rfl ?_); (try (refine gate_guard (by rfl) ?_; dsimp only)); refine box_event ?hg (N := 1) ?hd (cs := #[.int .i64 a0_0, .int .i64 a0_1, .int .i64 a0_2, .int .i64 a0_3, .int .i64 a0_4, .int .i64 a0_5, .slice A0_6 l0_6.length c0_6, .slice A0_7 l0_7.length c0_7]) (t := 24) ?hr ?_; (case hd => rfl); (case hg => rfl); (case hr => first | (go_simp; done) | (go_simp; rfl)); intro gb325 hg w3 hbox hb; have n0_ := Aside0.mk (below_step (by repeat (first | (with_reducible first | exact HB.out | apply below_alloc | apply pw_below_drewN | apply below_drew1) | exact HB.out)) hb); have n1_ := Aside0.mk (hbox); have n2_ := Aside0.mk ((by rw [hg]; exact (below_size (by repeat (first | (with_reducible first | exact HB.out | apply below_alloc | apply pw_below_drewN | apply below_drew1) | exact HB.out))) : w.heap.size ≤ gb325)); have n3_ := Aside0.mk ((by rw [hg]; exact (below_size (by repeat (first | (with_reducible first | exact HB.out | apply below_alloc | apply pw_below_drewN | apply below_drew1) | exact HB.out))) : w.heap.size ≤ gb325)); clear HB; have HB := n0_; have BK325 := n1_; have GW325 := n2_; have GE325 := n3_; clear n0_ n1_ n2_ n3_; clear hb hbox hg; have hcz4_0 : w3.cell? ⟨gb325, 0, none⟩ = some (.int .i64 a0_0) := (blk_cell BK325.out 0).trans rfl; have hcz4_1 : w3.cell? ⟨gb325, 1, none⟩ = some (.int .i64 a0_1) := (blk_cell BK325.out 1).trans rfl; have hcz4_2 : w3.cell? ⟨gb325, 2, none⟩ = some (.int .i64 a0_2) := (blk_cell BK325.out 2).trans rfl; have hcz4_3 : w3.cell? ⟨gb325, 3, none⟩ = some (.int .i64 a0_3) := (blk_cell BK325.out 3).trans rfl; have hcz4_4 : w3.cell? ⟨gb325, 4, none⟩ = some (.int .i64 a0_4) := (blk_cell BK325.out 4).trans rfl; have hcz4_5 : w3.cell? ⟨gb325, 5, none⟩ = some (.int .i64 a0_5) := (blk_cell BK325.out 5).trans rfl; have hcz4_6 : w3.cell? ⟨gb325, 6, none⟩ = some (.slice A0_6 l0_6.length c0_6) := (blk_cell BK325.out 6).trans rfl; have hcz4_7 : w3.cell? ⟨gb325, 7, none⟩ = some (.slice A0_7 l0_7.length c0_7) := (blk_cell BK325.out 7).trans rfl; have hfz4_0 := blk_frozen BK325.out 0; have hfz4_1 := blk_frozen BK325.out 1; have hfz4_2 := blk_frozen BK325.out 2; have hfz4_3 := blk_frozen BK325.out 3; have hfz4_4 := blk_frozen BK325.out 4; have hfz4_5 := blk_frozen BK325.out 5; have hfz4_6 := blk_frozen BK325.out 6; have hfz4_7 := blk_frozen BK325.out 7))
    go_ret
    exact ⟨by first | rfl | (simp [errW_none, errW_some] <;> rfl) | (simp [*, errW_none, errW_some] <;> rfl), by repeat (first | (with_reducible first | exact HB.out | apply below_alloc | apply pw_below_drewN | apply below_drew1 | refine below_set ?_ GE325.out) | exact HB.out)⟩
  · rw [if_neg c2] at H
    have c2b0 : decide (100 < (l0_6.length : Int)) = false := decide_eq_false c2
    have c2b1 : decide (100 < l0_6.length) = false := decide_eq_false (by omega)
    clear c2
    obtain rfl := Option.some.inj H
    go_enter Tryz.func10, Tryz.ntmps10
    go_wp2_with (first | ((with_reducible refine gate_dst (N := 1) rfl ?_); (try (refine gate_guard (by rfl) ?_; dsimp only)); refine box_event ?hg (N := 1) ?hd (cs := #[.int .i64 a0_0, .int .i64 a0_1, .int .i64 a0_2, .int .i64 a0_3, .int .i64 a0_4, .int .i64 a0_5, .slice A0_6 l0_6.length c0_6, .slice A0_7 l0_7.length c0_7]) (t := 24) ?hr ?_; (case hd => rfl); (case hg => rfl); (case hr => first | (go_simp; done) | (go_simp; rfl)); intro gb325 hg w5 hbox hb; have n0_ := Aside0.mk (below_step (by repeat (first | (with_reducible first | exact HB.out | apply below_alloc | apply pw_below_drewN | apply below_drew1) | exact HB.out)) hb); have n1_ := Aside0.mk (hbox); have n2_ := Aside0.mk ((by rw [hg]; exact (below_size (by repeat (first | (with_reducible first | exact HB.out | apply below_alloc | apply pw_below_drewN | apply below_drew1) | exact HB.out))) : w.heap.size ≤ gb325)); have n3_ := Aside0.mk ((by rw [hg]; exact (below_size (by repeat (first | (with_reducible first | exact HB.out | apply below_alloc | apply pw_below_drewN | apply below_drew1) | exact HB.out))) : w.heap.size ≤ gb325)); clear HB; have HB := n0_; have BK325 := n1_; have GW325 := n2_; have GE325 := n3_; clear n0_ n1_ n2_ n3_; clear hb hbox hg; have hcz6_0 : w5.cell? ⟨gb325, 0, none⟩ = some (.int .i64 a0_0) := (blk_cell BK325.out 0).trans rfl; have hcz6_1 : w5.cell? ⟨gb325, 1, none⟩ = some (.int .i64 a0_1) := (blk_cell BK325.out 1).trans rfl; have hcz6_2 : w5.cell? ⟨gb325, 2, none⟩ = some (.int .i64 a0_2) := (blk_cell BK325.out 2).trans rfl; have hcz6_3 : w5.cell? ⟨gb325, 3, none⟩ = some (.int .i64 a0_3) := (blk_cell BK325.out 3).trans rfl; have hcz6_4 : w5.cell? ⟨gb325, 4, none⟩ = some (.int .i64 a0_4) := (blk_cell BK325.out 4).trans rfl; have hcz6_5 : w5.cell? ⟨gb325, 5, none⟩ = some (.int .i64 a0_5) := (blk_cell BK325.out 5).trans rfl; have hcz6_6 : w5.cell? ⟨gb325, 6, none⟩ = some (.slice A0_6 l0_6.length c0_6) := (blk_cell BK325.out 6).trans rfl; have hcz6_7 : w5.cell? ⟨gb325, 7, none⟩ = some (.slice A0_7 l0_7.length c0_7) := (blk_cell BK325.out 7).trans rfl; have hfz6_0 := blk_frozen BK325.out 0; have hfz6_1 := blk_frozen BK325.out 1; have hfz6_2 := blk_frozen BK325.out 2; have hfz6_3 := blk_frozen BK325.out 3; have hfz6_4 := blk_frozen BK325.out 4; have hfz6_5 := blk_frozen BK325.out 5; have hfz6_6 := blk_frozen BK325.out 6; have hfz6_7 := blk_frozen BK325.out 7))
    go_ret
    exact ⟨by first | rfl | (simp [errW_none, errW_some] <;> rfl) | (simp [*, errW_none, errW_some] <;> rfl), by repeat (first | (with_reducible first | exact HB.out | apply below_alloc | apply pw_below_drewN | apply below_drew1 | refine below_set ?_ GE325.out) | exact HB.out)⟩

/-! ### breadlineref04_in: function 31 -/
def breadlineref04_in.f (a0 : Int) (a1 : Int) (a2 : Int) : Option (Bool) := if a0 ≥ a1 then (some (decide (a0 ≤ a2))) else (some false)
set_option maxHeartbeats 8000000 in
set_option maxRecDepth 100000 in
theorem breadlineref04_in.calls (a0 : Int) (a1 : Int) (a2 : Int) (r : Bool) (w : World) (h : breadlineref04_in.f a0 a1 a2 = some r) :
    Calls Tryz.prog 31 #[.int .i64 a0, .int .i64 a1, .int .i64 a2] w fun e w' => e = .returned (.bool r) ∧ Drawn0 w w' := by
  have H : (if a0 ≥ a1 then (some (decide (a0 ≤ a2))) else (some false)) = some r := h
  clear h
  by_cases c4 : a0 ≥ a1
  · rw [if_pos c4] at H
    have c4b0 : decide (a1 ≤ a0) = true := decide_eq_true c4
    clear c4
    obtain rfl := Option.some.inj H
    go_enter Tryz.func31, Tryz.ntmps31
    go_wp2
    go_ret
    exact ⟨by first | rfl | (simp; done) | (simp [*]; done), by repeat (first | exact Drawn0.refl _ | apply Drawn0.step)⟩
  · rw [if_neg c4] at H
    have c4b0 : decide (a1 ≤ a0) = false := decide_eq_false c4
    clear c4
    obtain rfl := Option.some.inj H
    go_enter Tryz.func31, Tryz.ntmps31
    go_wp2
    go_ret
    exact ⟨by first | rfl | (simp; done) | (simp [*]; done), by repeat (first | exact Drawn0.refl _ | apply Drawn0.step)⟩

end Go.Proofs.YthbaamfdpebocaaGreat.PA
