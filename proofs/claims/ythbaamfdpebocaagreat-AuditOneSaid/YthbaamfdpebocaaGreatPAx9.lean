-- Printed by the session's own driver (wip/tools/drive.py) on the kit's print.py, with hand-proved functions put in. Not trusted: Lean checks it.
import Derived.Test.YthbaamfdpebocaaGreatPAx0
import Derived.Test.YthbaamfdpebocaaGreatPAx7
namespace Go.Proofs.YthbaamfdpebocaaGreat.PA
open Go.RowKit Go.Proofs.YthbaamfdpebocaaGreatW.PrintWords Go.Proofs.YthbaamfdpebocaaGreatW.PrintLast Go.Proofs.YthbaamfdpebocaaGreatW.PrintMore
attribute [local go_sem] max2_int min2_int max_two min_two max_three min_three max_four min_four
set_option linter.unusedVariables false
set_option linter.unusedSimpArgs false

-- NOT PRINTED: function 49 (breadlineref16_now)

/-! ### breadlineref04_Path: function 93 -/
-- NOT PRINTED: function 95 (breadlineref11_New)

-- NOT PRINTED: function 74 (breadlineref12_New)

-- NOT PRINTED: function 75 (breadlineref13_New)

-- NOT PRINTED: function 76 (breadlineref09_Raise)

-- NOT PRINTED: function 77 (breadlineref09_Lower)

/-! ### breadlineref07_Count: function 78 -/
/-! ### breadlineref07_Peek: function 79 -/
-- NOT PRINTED: function 50 (breadlineref15_New)

/-! ### breadlineref11_Machine_Ans: function 96 -/
/-! ### breadlineref01_Value: function 66 -/
/-! ### breadlineref10_State: function 44 -/
/-! ### breadlineref01_Version: function 110 -/
/-! ### breadlineref01_Word: function 132 -/
/-! ### breadlineref01_Next: function 123 -/
/-! ### breadlineref10_Turn: function 102 -/
-- NOT PRINTED: function 122 (breadlineref03_Mem_log)

-- NOT PRINTED: function 109 (breadlineref03_Mem_Load)

-- NOT PRINTED: function 112 (breadlineref03_Mem_Cas)

/-! ### breadlineref11_Machine_next: function 119 -/
-- NOT PRINTED: function 97 (breadlineref11_Machine_Step)

-- NOT PRINTED: function 131 (breadlineref08_New)

-- NOT PRINTED: function 120 (breadlineref12_Machine_pool)

-- NOT PRINTED: function 98 (breadlineref12_Machine_claimed)

/-! ### breadlineref05_Lease: function 28 -/
def breadlineref05_Lease.f (a0_0 : Int) (a0_1 : Int) (a0_2 : Int) (a0_3 : Int) (a0_4 : Int) (a0_5 : Int) (l0_6 : List Int) (l0_7 : List Int) (a1 : Int) (a2 : Int) : Option (Int) := (breadlineref05_Limit.f a0_0 a0_1 a0_2 a0_3 a0_4 a0_5 l0_6 l0_7 a1).bind fun t281 => (some (wrap64 ((wrap64 (t281 + 2)) + a2)))
set_option maxHeartbeats 8000000 in
set_option maxRecDepth 100000 in
theorem breadlineref05_Lease.calls (a0_0 : Int) (a0_1 : Int) (a0_2 : Int) (a0_3 : Int) (a0_4 : Int) (a0_5 : Int) (A0_6 : Option Addr) (c0_6 : Nat) (l0_6 : List Int) (A0_7 : Option Addr) (c0_7 : Nat) (l0_7 : List Int) (a1 : Int) (a2 : Int) (r : Int) (w : World) (hr0_6 : Kd.C (Kd.int .i64) w A0_6 l0_6.length l0_6) (hc0_6 : l0_6.length ≤ c0_6) (hr0_7 : Kd.C (Kd.int .i64) w A0_7 l0_7.length l0_7) (hc0_7 : l0_7.length ≤ c0_7) (h : breadlineref05_Lease.f a0_0 a0_1 a0_2 a0_3 a0_4 a0_5 l0_6 l0_7 a1 a2 = some r) :
    Calls Tryz.prog 28 #[.agg #[.int .i64 a0_0, .int .i64 a0_1, .int .i64 a0_2, .int .i64 a0_3, .int .i64 a0_4, .int .i64 a0_5, .slice A0_6 l0_6.length c0_6, .slice A0_7 l0_7.length c0_7], .int .i64 a1, .int .i64 a2] w fun e w' => e = .returned (.int .i64 r) ∧ Below w.heap.size w w' := by
  have hu24 := Tryz.underlying24
  have HR0_6 := Aside0.mk hr0_6
  have HC0_6 := Aside0.mk hc0_6
  clear hr0_6 hc0_6
  have HR0_7 := Aside0.mk hr0_7
  have HC0_7 := Aside0.mk hc0_7
  clear hr0_7 hc0_7
  have HB := Aside0.mk (Below.refl w.heap.size w)
  have H : ((breadlineref05_Limit.f a0_0 a0_1 a0_2 a0_3 a0_4 a0_5 l0_6 l0_7 a1).bind fun t281 => (some (wrap64 ((wrap64 (t281 + 2)) + a2)))) = some r := h
  clear h
  replace H := Option.bind_eq_some_iff.mp H
  obtain ⟨t281, A40, H⟩ := H
  replace H : (some (wrap64 ((wrap64 (t281 + 2)) + a2))) = some r := H
  have A4 := Aside0.mk A40
  clear A40
  obtain rfl := Option.some.inj H
  go_enter Tryz.func28, Tryz.ntmps28
  go_wp2_with (first | ((with_reducible refine gate_dst (N := 3) rfl ?_); refine box_event ?hg (N := 3) ?hd (cs := #[.int .i64 a0_0, .int .i64 a0_1, .int .i64 a0_2, .int .i64 a0_3, .int .i64 a0_4, .int .i64 a0_5, .slice A0_6 l0_6.length c0_6, .slice A0_7 l0_7.length c0_7]) (t := 24) ?hr ?_; (case hd => rfl); (case hg => rfl); (case hr => first | (go_simp; done) | (go_simp; rfl)); intro gb280 hg w5 hbox hb; have n0_ := Aside0.mk (below_step (by repeat (first | (with_reducible first | exact HB.out | apply below_alloc | apply pw_below_drewN | apply below_drew1) | exact HB.out)) hb); have n1_ := Aside0.mk (hbox); have n2_ := Aside0.mk ((by rw [hg]; exact (below_size (by repeat (first | (with_reducible first | exact HB.out | apply below_alloc | apply pw_below_drewN | apply below_drew1) | exact HB.out))) : w.heap.size ≤ gb280)); have n3_ := Aside0.mk ((by rw [hg]; exact (below_size (by repeat (first | (with_reducible first | exact HB.out | apply below_alloc | apply pw_below_drewN | apply below_drew1) | exact HB.out))) : w.heap.size ≤ gb280)); clear HB; have HB := n0_; have BK280 := n1_; have GW280 := n2_; have GE280 := n3_; clear n0_ n1_ n2_ n3_; clear hb hbox hg; have hcz6_0 : w5.cell? ⟨gb280, 0, none⟩ = some (.int .i64 a0_0) := (blk_cell BK280.out 0).trans rfl; have hcz6_1 : w5.cell? ⟨gb280, 1, none⟩ = some (.int .i64 a0_1) := (blk_cell BK280.out 1).trans rfl; have hcz6_2 : w5.cell? ⟨gb280, 2, none⟩ = some (.int .i64 a0_2) := (blk_cell BK280.out 2).trans rfl; have hcz6_3 : w5.cell? ⟨gb280, 3, none⟩ = some (.int .i64 a0_3) := (blk_cell BK280.out 3).trans rfl; have hcz6_4 : w5.cell? ⟨gb280, 4, none⟩ = some (.int .i64 a0_4) := (blk_cell BK280.out 4).trans rfl; have hcz6_5 : w5.cell? ⟨gb280, 5, none⟩ = some (.int .i64 a0_5) := (blk_cell BK280.out 5).trans rfl; have hcz6_6 : w5.cell? ⟨gb280, 6, none⟩ = some (.slice A0_6 l0_6.length c0_6) := (blk_cell BK280.out 6).trans rfl; have hcz6_7 : w5.cell? ⟨gb280, 7, none⟩ = some (.slice A0_7 l0_7.length c0_7) := (blk_cell BK280.out 7).trans rfl; have hfz6_0 := blk_frozen BK280.out 0; have hfz6_1 := blk_frozen BK280.out 1; have hfz6_2 := blk_frozen BK280.out 2; have hfz6_3 := blk_frozen BK280.out 3; have hfz6_4 := blk_frozen BK280.out 4; have hfz6_5 := blk_frozen BK280.out 5; have hfz6_6 := blk_frozen BK280.out 6; have hfz6_7 := blk_frozen BK280.out 7) | ((with_reducible refine gate_callee (f := 26) rfl ?_); refine goesL_ (some 9) rfl rfl Tryz.func26 (by kernel_rfl) rfl #[.agg #[.int .i64 a0_0, .int .i64 a0_1, .int .i64 a0_2, .int .i64 a0_3, .int .i64 a0_4, .int .i64 a0_5, .slice A0_6 l0_6.length c0_6, .slice A0_7 l0_7.length c0_7], .int .i64 a1] rfl (by (try simp only [List.map_toArray, List.map_cons, List.map_nil]); first | done | rfl | (simp only [List.length_drop, List.length_take]; rfl)) ?_; (with_reducible refine (breadlineref05_Limit.calls a0_0 a0_1 a0_2 a0_3 a0_4 a0_5 _ _ l0_6 _ _ l0_7 a1 t281 _ ?side1 ?side2 ?side3 ?side4 A4.out).mono ?_); (case side1 => repeat (first | exact (Kd.C_below HR0_6.out HB.out) | (with_reducible refine Kd.C_alloc ?_ _) | (with_reducible refine Kd.C_drewN ?_ _) | (with_reducible refine Kd.C_drew ?_))); (case side2 => exact HC0_6.out); (case side3 => repeat (first | exact (Kd.C_below HR0_7.out HB.out) | (with_reducible refine Kd.C_alloc ?_ _) | (with_reducible refine Kd.C_drewN ?_ _) | (with_reducible refine Kd.C_drew ?_))); (case side4 => exact HC0_7.out); rintro e w7 ⟨rfl, hb⟩; refine ⟨_, rfl, ?_⟩; have n0_ := Aside0.mk (blk_below (g := gb280) (o := .cells #[.int .i64 a0_0, .int .i64 a0_1, .int .i64 a0_2, .int .i64 a0_3, .int .i64 a0_4, .int .i64 a0_5, .slice A0_6 l0_6.length c0_6, .slice A0_7 l0_7.length c0_7] 24 (0, 0)) (by (with_reducible repeat (first | refine blk_drewN ?_ _ | refine blk_drew ?_ | refine blk_alloc ?_ _)); exact BK280.out) hb); have n1_ := Aside0.mk (below_step (by repeat (first | (with_reducible first | exact HB.out | apply below_alloc | apply pw_below_drewN | apply below_drew1 | refine below_set ?_ GE280.out) | exact HB.out)) hb); clear BK280; clear HB; have BK280 := n0_; have HB := n1_; clear n0_ n1_; (try clear hb); (try clear hb2); (try clear hk); (try clear hi)))
  go_ret
  exact ⟨by first | rfl | (simp [errW_none, errW_some] <;> rfl) | (simp [*, errW_none, errW_some] <;> rfl), by repeat (first | (with_reducible first | exact HB.out | apply below_alloc | apply pw_below_drewN | apply below_drew1 | refine below_set ?_ GE280.out) | exact HB.out)⟩

-- NOT PRINTED: function 101 (breadlineref03_Mem_Add)

-- NOT PRINTED: function 99 (breadlineref08_Machine_Step)

end Go.Proofs.YthbaamfdpebocaaGreat.PA
