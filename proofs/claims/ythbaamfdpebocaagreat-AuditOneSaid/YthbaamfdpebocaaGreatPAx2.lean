-- Printed by the session's own driver (wip/tools/drive.py) on the kit's print.py, with hand-proved functions put in. Not trusted: Lean checks it.
import Derived.Test.YthbaamfdpebocaaGreatPAx0
import Derived.Test.YthbaamfdpebocaaGreatPAx1
namespace Go.Proofs.YthbaamfdpebocaaGreat.PA
open Go.RowKit Go.Proofs.YthbaamfdpebocaaGreatW.PrintWords Go.Proofs.YthbaamfdpebocaaGreatW.PrintLast Go.Proofs.YthbaamfdpebocaaGreatW.PrintMore
attribute [local go_sem] max2_int min2_int max_two min_two max_three min_three max_four min_four
set_option linter.unusedVariables false
set_option linter.unusedSimpArgs false

/-! ### audit_stripes: function 35 -/
/-! ### plan_Counter: function 56 -/
def plan_Counter.f (a0_0 : Int) (a0_1 : Int) (a0_2 : Int) (a0_3 : Int) (a0_4 : Int) (a0_5 : Int) (l0_6 : List Int) (l0_7 : List Int) (a1 : Int) : Option (Int) := (plan_Lease.f a0_0 a0_1 a0_2 a0_3 a0_4 a0_5 l0_6 l0_7 a1 a0_1).bind fun t134 => (some t134)
set_option maxHeartbeats 8000000 in
set_option maxRecDepth 100000 in
theorem plan_Counter.calls (a0_0 : Int) (a0_1 : Int) (a0_2 : Int) (a0_3 : Int) (a0_4 : Int) (a0_5 : Int) (A0_6 : Option Addr) (c0_6 : Nat) (l0_6 : List Int) (A0_7 : Option Addr) (c0_7 : Nat) (l0_7 : List Int) (a1 : Int) (r : Int) (w : World) (hr0_6 : Kd.C (Kd.int .i64) w A0_6 l0_6.length l0_6) (hc0_6 : l0_6.length ≤ c0_6) (hr0_7 : Kd.C (Kd.int .i64) w A0_7 l0_7.length l0_7) (hc0_7 : l0_7.length ≤ c0_7) (h : plan_Counter.f a0_0 a0_1 a0_2 a0_3 a0_4 a0_5 l0_6 l0_7 a1 = some r) :
    Calls Tryz.prog 56 #[.agg #[.int .i64 a0_0, .int .i64 a0_1, .int .i64 a0_2, .int .i64 a0_3, .int .i64 a0_4, .int .i64 a0_5, .slice A0_6 l0_6.length c0_6, .slice A0_7 l0_7.length c0_7], .int .i64 a1] w fun e w' => e = .returned (.int .i64 r) ∧ Below w.heap.size w w' := by
  have hu24 := Tryz.underlying24
  have HR0_6 := Aside0.mk hr0_6
  have HC0_6 := Aside0.mk hc0_6
  clear hr0_6 hc0_6
  have HR0_7 := Aside0.mk hr0_7
  have HC0_7 := Aside0.mk hc0_7
  clear hr0_7 hc0_7
  have HB := Aside0.mk (Below.refl w.heap.size w)
  have H : ((plan_Lease.f a0_0 a0_1 a0_2 a0_3 a0_4 a0_5 l0_6 l0_7 a1 a0_1).bind fun t134 => (some t134)) = some r := h
  clear h
  replace H := Option.bind_eq_some_iff.mp H
  obtain ⟨t134, A30, H⟩ := H
  try dsimp only at H
  have A3 := Aside0.mk A30
  clear A30
  obtain rfl := Option.some.inj H
  go_enter Tryz.func56, Tryz.ntmps56
  go_wp2_with (first | ((with_reducible refine gate_dst (N := 2) rfl ?_); refine box_event ?hg (N := 2) ?hd (cs := #[.int .i64 a0_0, .int .i64 a0_1, .int .i64 a0_2, .int .i64 a0_3, .int .i64 a0_4, .int .i64 a0_5, .slice A0_6 l0_6.length c0_6, .slice A0_7 l0_7.length c0_7]) (t := 24) ?hr ?_; (case hd => rfl); (case hg => rfl); (case hr => first | (go_simp; done) | (go_simp; rfl)); intro gb133 hg w4 hbox hb; have n0_ := Aside0.mk (below_step (by repeat (first | (with_reducible first | exact HB.out | apply below_alloc | apply pw_below_drewN | apply below_drew1) | exact HB.out)) hb); have n1_ := Aside0.mk (hbox); have n2_ := Aside0.mk ((by rw [hg]; exact (below_size (by repeat (first | (with_reducible first | exact HB.out | apply below_alloc | apply pw_below_drewN | apply below_drew1) | exact HB.out))) : w.heap.size ≤ gb133)); have n3_ := Aside0.mk ((by rw [hg]; exact (below_size (by repeat (first | (with_reducible first | exact HB.out | apply below_alloc | apply pw_below_drewN | apply below_drew1) | exact HB.out))) : w.heap.size ≤ gb133)); clear HB; have HB := n0_; have BK133 := n1_; have GW133 := n2_; have GE133 := n3_; clear n0_ n1_ n2_ n3_; clear hb hbox hg; have hcz5_0 : w4.cell? ⟨gb133, 0, none⟩ = some (.int .i64 a0_0) := (blk_cell BK133.out 0).trans rfl; have hcz5_1 : w4.cell? ⟨gb133, 1, none⟩ = some (.int .i64 a0_1) := (blk_cell BK133.out 1).trans rfl; have hcz5_2 : w4.cell? ⟨gb133, 2, none⟩ = some (.int .i64 a0_2) := (blk_cell BK133.out 2).trans rfl; have hcz5_3 : w4.cell? ⟨gb133, 3, none⟩ = some (.int .i64 a0_3) := (blk_cell BK133.out 3).trans rfl; have hcz5_4 : w4.cell? ⟨gb133, 4, none⟩ = some (.int .i64 a0_4) := (blk_cell BK133.out 4).trans rfl; have hcz5_5 : w4.cell? ⟨gb133, 5, none⟩ = some (.int .i64 a0_5) := (blk_cell BK133.out 5).trans rfl; have hcz5_6 : w4.cell? ⟨gb133, 6, none⟩ = some (.slice A0_6 l0_6.length c0_6) := (blk_cell BK133.out 6).trans rfl; have hcz5_7 : w4.cell? ⟨gb133, 7, none⟩ = some (.slice A0_7 l0_7.length c0_7) := (blk_cell BK133.out 7).trans rfl; have hfz5_0 := blk_frozen BK133.out 0; have hfz5_1 := blk_frozen BK133.out 1; have hfz5_2 := blk_frozen BK133.out 2; have hfz5_3 := blk_frozen BK133.out 3; have hfz5_4 := blk_frozen BK133.out 4; have hfz5_5 := blk_frozen BK133.out 5; have hfz5_6 := blk_frozen BK133.out 6; have hfz5_7 := blk_frozen BK133.out 7) | ((with_reducible refine gate_callee (f := 64) rfl ?_); refine goesL_ (some 9) rfl rfl Tryz.func64 (by kernel_rfl) rfl #[.agg #[.int .i64 a0_0, .int .i64 a0_1, .int .i64 a0_2, .int .i64 a0_3, .int .i64 a0_4, .int .i64 a0_5, .slice A0_6 l0_6.length c0_6, .slice A0_7 l0_7.length c0_7], .int .i64 a1, .int .i64 a0_1] rfl (by (try simp only [List.map_toArray, List.map_cons, List.map_nil]); first | done | rfl | (simp only [List.length_drop, List.length_take]; rfl)) ?_; (with_reducible refine (plan_Lease.calls a0_0 a0_1 a0_2 a0_3 a0_4 a0_5 _ _ l0_6 _ _ l0_7 a1 a0_1 t134 _ ?side1 ?side2 ?side3 ?side4 A3.out).mono ?_); (case side1 => repeat (first | exact (Kd.C_below HR0_6.out HB.out) | (with_reducible refine Kd.C_alloc ?_ _) | (with_reducible refine Kd.C_drewN ?_ _) | (with_reducible refine Kd.C_drew ?_))); (case side2 => exact HC0_6.out); (case side3 => repeat (first | exact (Kd.C_below HR0_7.out HB.out) | (with_reducible refine Kd.C_alloc ?_ _) | (with_reducible refine Kd.C_drewN ?_ _) | (with_reducible refine Kd.C_drew ?_))); (case side4 => exact HC0_7.out); rintro e w6 ⟨rfl, hb⟩; refine ⟨_, rfl, ?_⟩; have n0_ := Aside0.mk (blk_below (g := gb133) (o := .cells #[.int .i64 a0_0, .int .i64 a0_1, .int .i64 a0_2, .int .i64 a0_3, .int .i64 a0_4, .int .i64 a0_5, .slice A0_6 l0_6.length c0_6, .slice A0_7 l0_7.length c0_7] 24 (0, 0)) (by (with_reducible repeat (first | refine blk_drewN ?_ _ | refine blk_drew ?_ | refine blk_alloc ?_ _)); exact BK133.out) hb); have n1_ := Aside0.mk (below_step (by repeat (first | (with_reducible first | exact HB.out | apply below_alloc | apply pw_below_drewN | apply below_drew1 | refine below_set ?_ GE133.out) | exact HB.out)) hb); clear BK133; clear HB; have BK133 := n0_; have HB := n1_; clear n0_ n1_; (try clear hb); (try clear hb2); (try clear hk); (try clear hi)))
  go_ret
  exact ⟨by first | rfl | (simp [errW_none, errW_some] <;> rfl) | (simp [*, errW_none, errW_some] <;> rfl), by repeat (first | (with_reducible first | exact HB.out | apply below_alloc | apply pw_below_drewN | apply below_drew1 | refine below_set ?_ GE133.out) | exact HB.out)⟩

-- NOT PRINTED: function 32 (audit_first)

/-! ### plan_Avail: function 59 -/
def plan_Avail.f (a0_0 : Int) (a0_1 : Int) (a0_2 : Int) (a0_3 : Int) (a0_4 : Int) (a0_5 : Int) (l0_6 : List Int) (l0_7 : List Int) (a1 : Int) : Option (Int) := (plan_Limit.f a0_0 a0_1 a0_2 a0_3 a0_4 a0_5 l0_6 l0_7 a1).bind fun t136 => (some (wrap64 (t136 + 1)))
set_option maxHeartbeats 8000000 in
set_option maxRecDepth 100000 in
theorem plan_Avail.calls (a0_0 : Int) (a0_1 : Int) (a0_2 : Int) (a0_3 : Int) (a0_4 : Int) (a0_5 : Int) (A0_6 : Option Addr) (c0_6 : Nat) (l0_6 : List Int) (A0_7 : Option Addr) (c0_7 : Nat) (l0_7 : List Int) (a1 : Int) (r : Int) (w : World) (hr0_6 : Kd.C (Kd.int .i64) w A0_6 l0_6.length l0_6) (hc0_6 : l0_6.length ≤ c0_6) (hr0_7 : Kd.C (Kd.int .i64) w A0_7 l0_7.length l0_7) (hc0_7 : l0_7.length ≤ c0_7) (h : plan_Avail.f a0_0 a0_1 a0_2 a0_3 a0_4 a0_5 l0_6 l0_7 a1 = some r) :
    Calls Tryz.prog 59 #[.agg #[.int .i64 a0_0, .int .i64 a0_1, .int .i64 a0_2, .int .i64 a0_3, .int .i64 a0_4, .int .i64 a0_5, .slice A0_6 l0_6.length c0_6, .slice A0_7 l0_7.length c0_7], .int .i64 a1] w fun e w' => e = .returned (.int .i64 r) ∧ Below w.heap.size w w' := by
  have hu24 := Tryz.underlying24
  have HR0_6 := Aside0.mk hr0_6
  have HC0_6 := Aside0.mk hc0_6
  clear hr0_6 hc0_6
  have HR0_7 := Aside0.mk hr0_7
  have HC0_7 := Aside0.mk hc0_7
  clear hr0_7 hc0_7
  have HB := Aside0.mk (Below.refl w.heap.size w)
  have H : ((plan_Limit.f a0_0 a0_1 a0_2 a0_3 a0_4 a0_5 l0_6 l0_7 a1).bind fun t136 => (some (wrap64 (t136 + 1)))) = some r := h
  clear h
  replace H := Option.bind_eq_some_iff.mp H
  obtain ⟨t136, A30, H⟩ := H
  try dsimp only at H
  have A3 := Aside0.mk A30
  clear A30
  obtain rfl := Option.some.inj H
  go_enter Tryz.func59, Tryz.ntmps59
  go_wp2_with (first | ((with_reducible refine gate_dst (N := 2) rfl ?_); refine box_event ?hg (N := 2) ?hd (cs := #[.int .i64 a0_0, .int .i64 a0_1, .int .i64 a0_2, .int .i64 a0_3, .int .i64 a0_4, .int .i64 a0_5, .slice A0_6 l0_6.length c0_6, .slice A0_7 l0_7.length c0_7]) (t := 24) ?hr ?_; (case hd => rfl); (case hg => rfl); (case hr => first | (go_simp; done) | (go_simp; rfl)); intro gb135 hg w4 hbox hb; have n0_ := Aside0.mk (below_step (by repeat (first | (with_reducible first | exact HB.out | apply below_alloc | apply pw_below_drewN | apply below_drew1) | exact HB.out)) hb); have n1_ := Aside0.mk (hbox); have n2_ := Aside0.mk ((by rw [hg]; exact (below_size (by repeat (first | (with_reducible first | exact HB.out | apply below_alloc | apply pw_below_drewN | apply below_drew1) | exact HB.out))) : w.heap.size ≤ gb135)); have n3_ := Aside0.mk ((by rw [hg]; exact (below_size (by repeat (first | (with_reducible first | exact HB.out | apply below_alloc | apply pw_below_drewN | apply below_drew1) | exact HB.out))) : w.heap.size ≤ gb135)); clear HB; have HB := n0_; have BK135 := n1_; have GW135 := n2_; have GE135 := n3_; clear n0_ n1_ n2_ n3_; clear hb hbox hg; have hcz5_0 : w4.cell? ⟨gb135, 0, none⟩ = some (.int .i64 a0_0) := (blk_cell BK135.out 0).trans rfl; have hcz5_1 : w4.cell? ⟨gb135, 1, none⟩ = some (.int .i64 a0_1) := (blk_cell BK135.out 1).trans rfl; have hcz5_2 : w4.cell? ⟨gb135, 2, none⟩ = some (.int .i64 a0_2) := (blk_cell BK135.out 2).trans rfl; have hcz5_3 : w4.cell? ⟨gb135, 3, none⟩ = some (.int .i64 a0_3) := (blk_cell BK135.out 3).trans rfl; have hcz5_4 : w4.cell? ⟨gb135, 4, none⟩ = some (.int .i64 a0_4) := (blk_cell BK135.out 4).trans rfl; have hcz5_5 : w4.cell? ⟨gb135, 5, none⟩ = some (.int .i64 a0_5) := (blk_cell BK135.out 5).trans rfl; have hcz5_6 : w4.cell? ⟨gb135, 6, none⟩ = some (.slice A0_6 l0_6.length c0_6) := (blk_cell BK135.out 6).trans rfl; have hcz5_7 : w4.cell? ⟨gb135, 7, none⟩ = some (.slice A0_7 l0_7.length c0_7) := (blk_cell BK135.out 7).trans rfl; have hfz5_0 := blk_frozen BK135.out 0; have hfz5_1 := blk_frozen BK135.out 1; have hfz5_2 := blk_frozen BK135.out 2; have hfz5_3 := blk_frozen BK135.out 3; have hfz5_4 := blk_frozen BK135.out 4; have hfz5_5 := blk_frozen BK135.out 5; have hfz5_6 := blk_frozen BK135.out 6; have hfz5_7 := blk_frozen BK135.out 7) | ((with_reducible refine gate_callee (f := 57) rfl ?_); refine goesL_ (some 7) rfl rfl Tryz.func57 (by kernel_rfl) rfl #[.agg #[.int .i64 a0_0, .int .i64 a0_1, .int .i64 a0_2, .int .i64 a0_3, .int .i64 a0_4, .int .i64 a0_5, .slice A0_6 l0_6.length c0_6, .slice A0_7 l0_7.length c0_7], .int .i64 a1] rfl (by (try simp only [List.map_toArray, List.map_cons, List.map_nil]); first | done | rfl | (simp only [List.length_drop, List.length_take]; rfl)) ?_; (with_reducible refine (plan_Limit.calls a0_0 a0_1 a0_2 a0_3 a0_4 a0_5 _ _ l0_6 _ _ l0_7 a1 t136 _ ?side1 ?side2 ?side3 ?side4 A3.out).mono ?_); (case side1 => repeat (first | exact (Kd.C_below HR0_6.out HB.out) | (with_reducible refine Kd.C_alloc ?_ _) | (with_reducible refine Kd.C_drewN ?_ _) | (with_reducible refine Kd.C_drew ?_))); (case side2 => exact HC0_6.out); (case side3 => repeat (first | exact (Kd.C_below HR0_7.out HB.out) | (with_reducible refine Kd.C_alloc ?_ _) | (with_reducible refine Kd.C_drewN ?_ _) | (with_reducible refine Kd.C_drew ?_))); (case side4 => exact HC0_7.out); rintro e w6 ⟨rfl, hb⟩; refine ⟨_, rfl, ?_⟩; have n0_ := Aside0.mk (blk_below (g := gb135) (o := .cells #[.int .i64 a0_0, .int .i64 a0_1, .int .i64 a0_2, .int .i64 a0_3, .int .i64 a0_4, .int .i64 a0_5, .slice A0_6 l0_6.length c0_6, .slice A0_7 l0_7.length c0_7] 24 (0, 0)) (by (with_reducible repeat (first | refine blk_drewN ?_ _ | refine blk_drew ?_ | refine blk_alloc ?_ _)); exact BK135.out) hb); have n1_ := Aside0.mk (below_step (by repeat (first | (with_reducible first | exact HB.out | apply below_alloc | apply pw_below_drewN | apply below_drew1 | refine below_set ?_ GE135.out) | exact HB.out)) hb); clear BK135; clear HB; have BK135 := n0_; have HB := n1_; clear n0_ n1_; (try clear hb); (try clear hb2); (try clear hk); (try clear hi)))
  go_ret
  exact ⟨by first | rfl | (simp [errW_none, errW_some] <;> rfl) | (simp [*, errW_none, errW_some] <;> rfl), by repeat (first | (with_reducible first | exact HB.out | apply below_alloc | apply pw_below_drewN | apply below_drew1 | refine below_set ?_ GE135.out) | exact HB.out)⟩

-- NOT PRINTED: function 88 (usage_under)

/-! ### usage_Used: function 60 -/
section
/-- the amounts that are used at a node, ticket by ticket. -/
def usesL (x0 x1 x2 x3 x4 x5 : Int) (ps l7 ws : List Int) (node : Int) : Nat → Int → Option (List Int)
  | 0, _ => some []
  | m + 1, k => (usage_Live.f x0 x1 x2 x3 x4 x5 ps l7 ws k).bind fun t => if t.2.2 = true then ((tree_Under.f x0 x1 x2 x3 x4 x5 ps l7 t.1 node).bind fun u => if u = true then (usesL x0 x1 x2 x3 x4 x5 ps l7 ws node m (k + 1)).map (t.2.1 :: ·) else usesL x0 x1 x2 x3 x4 x5 ps l7 ws node m (k + 1)) else usesL x0 x1 x2 x3 x4 x5 ps l7 ws node m (k + 1)
theorem wu64 {x : Int} (h0 : -9223372036854775808 ≤ x) (h1 : x ≤ 9223372036854775807) : wrap64 x = x := by unfold wrap64; omega
theorem wideFn (f : FuncId) : Fence.wide.fn f := trivial
theorem wideNone : ∀ f : FuncId, none = some f → Fence.wide.fn f := nofun
theorem grown_below {W W' : World} (h : Below W.heap.size W W') : W.grownBy W' none := ⟨h.os, h.tape, h.output, h.size, fun i hi _ => h.block i hi⟩
def KpU (n₀ b1 b2 b3 : Nat) (W W' : World) : Prop := Below n₀ W W' ∧ W'.heap[b1]? = W.heap[b1]? ∧ W'.heap[b2]? = W.heap[b2]? ∧ W'.heap[b3]? = W.heap[b3]?
theorem KpU.t {n₀ b1 b2 b3 : Nat} {X Y Z : World} (h : KpU n₀ b1 b2 b3 X Y) (k : KpU n₀ b1 b2 b3 Y Z) : KpU n₀ b1 b2 b3 X Z := ⟨h.1.trans k.1, k.2.1.trans h.2.1, k.2.2.1.trans h.2.2.1, k.2.2.2.trans h.2.2.2⟩
theorem KpU.below {n₀ b1 b2 b3 : Nat} {X Y : World} (h : Below X.heap.size X Y) (hn : n₀ ≤ X.heap.size) (h1 : b1 < X.heap.size) (h2 : b2 < X.heap.size) (h3 : b3 < X.heap.size) : KpU n₀ b1 b2 b3 X Y := ⟨h.mono hn, h.block b1 h1, h.block b2 h2, h.block b3 h3⟩
theorem KpU.b {n₀ b1 b2 b3 : Nat} {w : World} (hn : n₀ ≤ w.heap.size) (h1 : b1 < w.heap.size) (h2 : b2 < w.heap.size) (h3 : b3 < w.heap.size) (W : World) (l : Nat) (o o' : Obj) (hl : w.heap.size ≤ l) (h : W.heap[l]? = some o) (hc : o.isCells = false) (hw : o.isWalk = false) : KpU n₀ b1 b2 b3 W (W.putObj l o') :=
  ⟨belowK_b hn W l o o' hl h hc hw, World.putObj_heap_other (by omega), World.putObj_heap_other (by omega), World.putObj_heap_other (by omega)⟩
attribute [local go_sem] Oper.semAt_some
set_option maxRecDepth 100000 in
set_option maxHeartbeats 4000000 in
theorem under1_in (n : Nat) (hn : 1 ≤ n) (l bc bw bn : Nat) (x0 x1 x2 x3 x4 x5 : Int) (A6 : Option Addr) (c6 : Nat) (ps : List Int) (A7 : Option Addr) (c7 : Nat) (l7 : List Int) (A1 : Option Addr) (c1 : Nat) (ws : List Int) (v0 : Int) (xs : List Int) (h5 : x5 < 1000000)
    (hx : usesL x0 x1 x2 x3 x4 x5 ps l7 ws v0 x5.toNat 0 = some xs) (W0 : World) (hC6 : Kd.C (Kd.int .i64) W0 A6 ps.length ps) (hc6 : ps.length ≤ c6) (hC7 : Kd.C (Kd.int .i64) W0 A7 l7.length l7) (hc7 : l7.length ≤ c7) (hC1 : Kd.C (Kd.int .i64) W0 A1 ws.length ws) (hc1 : ws.length ≤ c1)
    (J Jx : List Int → World → Prop) (W : World) (hA : AbidesFrom W.heap.size J)
    (hY : ∀ pre x W, J pre W → pre.length < xs.length → YieldAt Fence.wide (n - 1) Tryz.prog l #[.int .i64 x] W fun e W' =>
      (e = .returned (.bool true) ∧ J (pre ++ [x]) W' ∧ KpU W0.heap.size bc bw bn W W') ∨ (e = .returned (.bool false) ∧ Jx (pre ++ [x]) W'))
    (hB : Below W0.heap.size W0 W) (hbn : W.heap[bn]? = some (.cells #[.int .i64 v0] 3 (0, 0))) (hbw : W.heap[bw]? = some (.cells #[.slice A1 ws.length c1] 22 (0, 0)))
    (hbc : W.heap[bc]? = some (.cells #[.int .i64 x0, .int .i64 x1, .int .i64 x2, .int .i64 x3, .int .i64 x4, .int .i64 x5, .slice A6 ps.length c6, .slice A7 l7.length c7] 24 (0, 0))) (h0 : J [] W) :
    CallsIn Fence.wide n Tryz.prog 116 #[.func (.yield l) #[] #[], .pointer (some ⟨bc, 0, none⟩), .pointer (some ⟨bw, 0, none⟩), .pointer (some ⟨bn, 0, none⟩)] W fun e W' => (∃ v, e = .returned v) ∧
      ((∃ ys, ys = xs ∧ J ys W') ∨ (∃ pre, pre <+: xs ∧ Jx pre W')) := by
  have hu := Tryz.underlying24
  have hb5 : W.cell? ⟨bc, 5, none⟩ = some (.int .i64 x5) := (blk_cell hbc 5).trans rfl
  have HX := Aside0.mk hx
  have H6 := Aside0.mk hC6
  have H7 := Aside0.mk hC7
  have H1 := Aside0.mk hC1
  have HA := Aside0.mk hA
  have HY := Aside0.mk hY
  have HB := Aside0.mk hB
  have HN := Aside0.mk hbn
  have HW := Aside0.mk hbw
  have HC := Aside0.mk hbc
  clear hx hC6 hC7 hC1 hA hY hB hbn hbw hbc
  refine callsIn_of_wp Tryz.func116 rfl trivial ?_ rfl
  simp only [Tryz.ntmps116, List.size_toArray, List.length_cons, List.length_nil, Nat.reduceAdd, Nat.reduceSub, Array.replicate_succ, Array.replicate_zero, List.push_toArray, List.append_toArray, List.nil_append, List.cons_append]
  gi_wp2
  gi_loopw [11] (fun p wr => ∃ (pre rest : List Int) (k : Int), p = .int .i64 k ∧ 0 ≤ k ∧ k ≤ max x5 0 ∧ xs = pre ++ rest ∧ usesL x0 x1 x2 x3 x4 x5 ps l7 ws v0 (x5 - k).toNat k = some rest ∧ J pre wr ∧ KpU W0.heap.size bc bw bn W wr ∧ W.heap.size ≤ wr.heap.size)
    (fun p _ => (x5 - intOf p).toNat)
  case atStart => exact ⟨[], xs, 0, rfl, by omega, by omega, rfl, by simpa using HX.out, h0, ⟨Below.refl _ _, rfl, rfl, rfl⟩, Nat.le_refl _⟩
  case round =>
    obtain ⟨pre, rest, k, rfl, hk0, hk1, hxs, hus, hJs, hk, hsz⟩ := hrel
    by_cases hlt : k < x5
    · have hlb : decide (k < x5) = true := decide_eq_true hlt
      obtain ⟨m, hm⟩ : ∃ m, (x5 - k).toNat = m + 1 := ⟨(x5 - k).toNat - 1, by omega⟩
      have hm' : (x5 - (k + 1)).toNat = m := by omega
      rw [hm] at hus
      unfold usesL at hus
      obtain ⟨⟨t1, t2, t3⟩, hlive, hus⟩ := Option.bind_eq_some_iff.1 hus
      have hwk : wrap64 (k + 1) = k + 1 := wu64 (by omega) (by omega)
      have hbca := (hk.2.1).trans HC.out
      have hbwa := (hk.2.2.1).trans HW.out
      have hbna := (hk.2.2.2).trans HN.out
      have fa0 : wr.cell? ⟨bc, 0, none⟩ = some (.int .i64 x0) := (blk_cell hbca 0).trans rfl
      have fa1 : wr.cell? ⟨bc, 1, none⟩ = some (.int .i64 x1) := (blk_cell hbca 1).trans rfl
      have fa2 : wr.cell? ⟨bc, 2, none⟩ = some (.int .i64 x2) := (blk_cell hbca 2).trans rfl
      have fa3 : wr.cell? ⟨bc, 3, none⟩ = some (.int .i64 x3) := (blk_cell hbca 3).trans rfl
      have fa4 : wr.cell? ⟨bc, 4, none⟩ = some (.int .i64 x4) := (blk_cell hbca 4).trans rfl
      have fa5 : wr.cell? ⟨bc, 5, none⟩ = some (.int .i64 x5) := (blk_cell hbca 5).trans rfl
      have fa6 : wr.cell? ⟨bc, 6, none⟩ = some (.slice A6 ps.length c6) := (blk_cell hbca 6).trans rfl
      have fa7 : wr.cell? ⟨bc, 7, none⟩ = some (.slice A7 l7.length c7) := (blk_cell hbca 7).trans rfl
      have ga : wr.cell? ⟨bw, 0, none⟩ = some (.slice A1 ws.length c1) := (blk_cell hbwa 0).trans rfl
      have da : wr.cell? ⟨bn, 0, none⟩ = some (.int .i64 v0) := (blk_cell hbna 0).trans rfl
      have hB2 := HB.out.trans hk.1
      have hn0 : W0.heap.size ≤ wr.heap.size := Nat.le_trans HB.out.size hsz
      have lc := blk_lt hbca
      have lw := blk_lt hbwa
      have ln := blk_lt hbna
      have hlv := usage_Live.calls x0 x1 x2 x3 x4 x5 A6 c6 ps A7 c7 l7 A1 c1 ws k t1 t2 t3 wr (Kd.C_below H6.out hB2) hc6 (Kd.C_below H7.out hB2) hc7 (Kd.C_below H1.out hB2) hc1 hlive
      cases ht3 : t3 with
      | false =>
        subst ht3
        simp only [Bool.false_eq_true, if_false] at hus
        gi_wp2_with (first | (refine ⟨trivial, ?_⟩; gi_at_call 117; refine ((callsIn_wide (n := _)).2 hlv).mono ?_; rintro e w1 ⟨rfl, hb⟩) | (with_reducible refine And.intro (wideFn _) ?_) | (with_reducible refine And.intro wideNone ?_))
        gi_wp2
        go_roundw
        case rel => exact ⟨pre, rest, k + 1, rfl, by omega, by omega, hxs, by rw [hm']; exact hus, HA.out _ _ _ none hJs (grown_below hb) (fun r e => by cases e), hk.t (KpU.below hb hn0 lc lw ln), by have := hb.size; omega⟩
        case measure => simp [intOf]; omega
      | true =>
        subst ht3
        simp only [if_true] at hus
        obtain ⟨u, hund, hus⟩ := Option.bind_eq_some_iff.1 hus
        cases u with
        | false =>
          simp only [Bool.false_eq_true, if_false] at hus
          gi_wp2_with (first | (refine ⟨trivial, ?_⟩; gi_at_call 117; refine ((callsIn_wide (n := _)).2 hlv).mono ?_; rintro e w1 ⟨rfl, hb⟩; have hk1 := hk.t (KpU.below hb hn0 lc lw ln); have hbcb := (hk1.2.1).trans HC.out; have hbwb := (hk1.2.2.1).trans HW.out; have hbnb := (hk1.2.2.2).trans HN.out; have fb0 : w1.cell? ⟨bc, 0, none⟩ = some (.int .i64 x0) := (blk_cell hbcb 0).trans rfl; have fb1 : w1.cell? ⟨bc, 1, none⟩ = some (.int .i64 x1) := (blk_cell hbcb 1).trans rfl; have fb2 : w1.cell? ⟨bc, 2, none⟩ = some (.int .i64 x2) := (blk_cell hbcb 2).trans rfl; have fb3 : w1.cell? ⟨bc, 3, none⟩ = some (.int .i64 x3) := (blk_cell hbcb 3).trans rfl; have fb4 : w1.cell? ⟨bc, 4, none⟩ = some (.int .i64 x4) := (blk_cell hbcb 4).trans rfl; have fb5 : w1.cell? ⟨bc, 5, none⟩ = some (.int .i64 x5) := (blk_cell hbcb 5).trans rfl; have fb6 : w1.cell? ⟨bc, 6, none⟩ = some (.slice A6 ps.length c6) := (blk_cell hbcb 6).trans rfl; have fb7 : w1.cell? ⟨bc, 7, none⟩ = some (.slice A7 l7.length c7) := (blk_cell hbcb 7).trans rfl; have db : w1.cell? ⟨bn, 0, none⟩ = some (.int .i64 v0) := (blk_cell hbnb 0).trans rfl) | (refine ⟨trivial, ?_⟩; gi_at_call 118; refine ((callsIn_wide (n := _)).2 (tree_Under.calls x0 x1 x2 x3 x4 x5 A6 c6 ps A7 c7 l7 t1 v0 false w1 (Kd.C_below H6.out (HB.out.trans hk1.1)) hc6 (Kd.C_below H7.out (HB.out.trans hk1.1)) hc7 hund)).mono ?_; rintro e w2 ⟨rfl, hb2⟩) | (with_reducible refine And.intro (wideFn _) ?_) | (with_reducible refine And.intro wideNone ?_))
          gi_wp2
          go_roundw
          case rel => exact ⟨pre, rest, k + 1, rfl, by omega, by omega, hxs, by rw [hm']; exact hus, HA.out _ _ _ none (HA.out _ _ _ none hJs (grown_below hb) (fun r e => by cases e)) (grown_below hb2) (fun r e => by cases e), hk1.t (KpU.below hb2 (Nat.le_trans hn0 hb.size) (Nat.lt_of_lt_of_le lc hb.size) (Nat.lt_of_lt_of_le lw hb.size) (Nat.lt_of_lt_of_le ln hb.size)), by have := hb.size; have := hb2.size; omega⟩
          case measure => simp [intOf]; omega
        | true =>
          simp only [if_true] at hus
          obtain ⟨rest', hus', rfl⟩ := Option.map_eq_some_iff.1 hus
          gi_wp2_with (first | (refine ⟨trivial, ?_⟩; gi_at_call 117; refine ((callsIn_wide (n := _)).2 hlv).mono ?_; rintro e w1 ⟨rfl, hb⟩; have hk1 := hk.t (KpU.below hb hn0 lc lw ln); have hbcb := (hk1.2.1).trans HC.out; have hbwb := (hk1.2.2.1).trans HW.out; have hbnb := (hk1.2.2.2).trans HN.out; have fb0 : w1.cell? ⟨bc, 0, none⟩ = some (.int .i64 x0) := (blk_cell hbcb 0).trans rfl; have fb1 : w1.cell? ⟨bc, 1, none⟩ = some (.int .i64 x1) := (blk_cell hbcb 1).trans rfl; have fb2 : w1.cell? ⟨bc, 2, none⟩ = some (.int .i64 x2) := (blk_cell hbcb 2).trans rfl; have fb3 : w1.cell? ⟨bc, 3, none⟩ = some (.int .i64 x3) := (blk_cell hbcb 3).trans rfl; have fb4 : w1.cell? ⟨bc, 4, none⟩ = some (.int .i64 x4) := (blk_cell hbcb 4).trans rfl; have fb5 : w1.cell? ⟨bc, 5, none⟩ = some (.int .i64 x5) := (blk_cell hbcb 5).trans rfl; have fb6 : w1.cell? ⟨bc, 6, none⟩ = some (.slice A6 ps.length c6) := (blk_cell hbcb 6).trans rfl; have fb7 : w1.cell? ⟨bc, 7, none⟩ = some (.slice A7 l7.length c7) := (blk_cell hbcb 7).trans rfl; have db : w1.cell? ⟨bn, 0, none⟩ = some (.int .i64 v0) := (blk_cell hbnb 0).trans rfl) | (refine ⟨trivial, ?_⟩; gi_at_call 118; refine ((callsIn_wide (n := _)).2 (tree_Under.calls x0 x1 x2 x3 x4 x5 A6 c6 ps A7 c7 l7 t1 v0 true w1 (Kd.C_below H6.out (HB.out.trans hk1.1)) hc6 (Kd.C_below H7.out (HB.out.trans hk1.1)) hc7 hund)).mono ?_; rintro e w2 ⟨rfl, hb2⟩; obtain ⟨fn, tmps, assign, body, hy, hR⟩ := HY.out pre t2 w2 (HA.out _ _ _ none (HA.out _ _ _ none hJs (grown_below hb) (fun r e => by cases e)) (grown_below hb2) (fun r e => by cases e)) (by rw [hxs]; simp)))
          have hk2 := hk1.t (KpU.below hb2 (Nat.le_trans hn0 hb.size) (Nat.lt_of_lt_of_le lc hb.size) (Nat.lt_of_lt_of_le lw hb.size) (Nat.lt_of_lt_of_le ln hb.size))
          refine hR.mono ?_
          rintro e W3 (⟨rfl, hJ3, hk3⟩ | ⟨rfl, hJx3⟩)
          · gi_wp2
            go_roundw
            case rel => exact ⟨pre ++ [t2], rest', k + 1, rfl, by omega, by omega, by simp [hxs], by rw [hm']; exact hus', hJ3, hk2.t hk3, Nat.le_trans hsz (Nat.le_trans hb.size (Nat.le_trans hb2.size hk3.1.size))⟩
            case measure => simp [intOf]; omega
          · gi_wp2
            refine bodyPost_ret (results_none rfl _ _ _) rfl ?_
            exact ⟨⟨_, rfl⟩, .inr ⟨pre ++ [t2], ⟨rest', by simp [hxs]⟩, hJx3⟩⟩
    · have hlb : decide (k < x5) = false := decide_eq_false hlt
      have e0 : (x5 - k).toNat = 0 := by omega
      rw [e0] at hus
      simp only [usesL, Option.some.injEq] at hus
      subst hus
      gi_wp2
      go_end0
      exact ⟨⟨_, rfl⟩, .inl (by simpa [hxs] using hJs)⟩
end
section
theorem under1_stops (n : Nat) (hn : 1 ≤ n) (bc bw bn : Nat) (x0 x1 x2 x3 x4 x5 : Int) (A6 : Option Addr) (c6 : Nat) (ps : List Int) (A7 : Option Addr) (c7 : Nat) (l7 : List Int) (A1 : Option Addr) (c1 : Nat) (ws : List Int) (v0 : Int) (xs : List Int) (h5 : x5 < 1000000)
    (hx : usesL x0 x1 x2 x3 x4 x5 ps l7 ws v0 x5.toNat 0 = some xs) (W0 : World) (hC6 : Kd.C (Kd.int .i64) W0 A6 ps.length ps) (hc6 : ps.length ≤ c6) (hC7 : Kd.C (Kd.int .i64) W0 A7 l7.length l7) (hc7 : l7.length ≤ c7) (hC1 : Kd.C (Kd.int .i64) W0 A1 ws.length ws) (hc1 : ws.length ≤ c1)
    (w : World) (hB : Below W0.heap.size W0 w) (hbn : w.heap[bn]? = some (.cells #[.int .i64 v0] 3 (0, 0))) (hbw : w.heap[bw]? = some (.cells #[.slice A1 ws.length c1] 22 (0, 0)))
    (hbc : w.heap[bc]? = some (.cells #[.int .i64 x0, .int .i64 x1, .int .i64 x2, .int .i64 x3, .int .i64 x4, .int .i64 x5, .slice A6 ps.length c6, .slice A7 l7.length c7] 24 (0, 0))) :
    SeqStopsK Fence.wide n Tryz.prog 116 #[.pointer (some ⟨bc, 0, none⟩), .pointer (some ⟨bw, 0, none⟩), .pointer (some ⟨bn, 0, none⟩)] (fun x : Int => #[Value.int .i64 x]) (KpU W0.heap.size bc bw bn) (fun ys => ys = xs) (fun pre => pre <+: xs) xs.length w := fun l J Jx W hW hA _ hY h0 =>
  under1_in n hn l bc bw bn x0 x1 x2 x3 x4 x5 A6 c6 ps A7 c7 l7 A1 c1 ws v0 xs h5 hx W0 hC6 hc6 hC7 hc7 hC1 hc1 J Jx W hA hY (hB.trans (hW.mono hB.size)) ((hW.block bn (blk_lt hbn)).trans hbn) ((hW.block bw (blk_lt hbw)).trans hbw) ((hW.block bc (blk_lt hbc)).trans hbc) h0
theorem blk_own {β : Type} (b : Nat) (cs : Array Value) (t : TypeId) (fr : Nat × Nat) : Own (fun (_ : β) W => W.heap[b]? = some (.cells cs t fr)) := fun _ X _ _ hs hg hrow =>
  blk_grown hs hg (fun e' => by obtain ⟨o, ho, hc⟩ := hrow b e'.symm; rw [hs] at ho; cases ho; cases hc)
attribute [local go_sem] Oper.semAt_some
set_option maxHeartbeats 1000000 in
theorem under_any (n : Nat) (x0 x1 x2 x3 x4 x5 : Int) (v6 v7 v1 : Value) (v0 : Int) (w : World) (h1 : v1.oneCell' = true) :
    CallsIn Fence.wide n Tryz.prog 88 #[.agg #[.int .i64 x0, .int .i64 x1, .int .i64 x2, .int .i64 x3, .int .i64 x4, .int .i64 x5, v6, v7], v1, .int .i64 v0] w fun e w' =>
      e = .returned (.func (.func 116) #[] #[.pointer (some ⟨w.heap.size, 0, none⟩), .pointer (some ⟨w.heap.size + 1, 0, none⟩), .pointer (some ⟨w.heap.size + 2, 0, none⟩)]) ∧ w' = ((w.alloc (.cells #[.int .i64 x0, .int .i64 x1, .int .i64 x2, .int .i64 x3, .int .i64 x4, .int .i64 x5, v6, v7] 24)).alloc (.cells #[v1] 22)).alloc (.cells #[.int .i64 v0] 3) := by
  have hu := Tryz.underlying24
  refine callsIn_of_wp Tryz.func88 rfl trivial ?_ rfl
  simp only [Tryz.ntmps88, List.size_toArray, List.length_cons, List.length_nil, Nat.reduceAdd, Nat.reduceSub, Array.replicate_succ, Array.replicate_zero, List.push_toArray, List.append_toArray, List.nil_append, List.cons_append]
  cases v1 <;> first | (cases h1; done) | skip
  all_goals
    gi_wp2
    go_ret
    exact ⟨rfl, rfl⟩
def usage_Used.f (a0_0 : Int) (a0_1 : Int) (a0_2 : Int) (a0_3 : Int) (a0_4 : Int) (a0_5 : Int) (l0_6 : List Int) (l0_7 : List Int) (l1 : List Int) (a2 : Int) : Option Int := if a0_5 < 1000000 then (usesL a0_0 a0_1 a0_2 a0_3 a0_4 a0_5 l0_6 l0_7 l1 a2 a0_5.toNat 0).map (fun l => l.foldl (fun s x => wrap64 (s + x)) 0) else none
set_option maxRecDepth 100000 in
set_option maxHeartbeats 4000000 in
theorem usage_Used.calls (a0_0 : Int) (a0_1 : Int) (a0_2 : Int) (a0_3 : Int) (a0_4 : Int) (a0_5 : Int) (A0_6 : Option Addr) (c0_6 : Nat) (l0_6 : List Int) (A0_7 : Option Addr) (c0_7 : Nat) (l0_7 : List Int) (A1 : Option Addr) (c1 : Nat) (l1 : List Int) (a2 : Int) (r : Int) (w : World) (hr0_6 : Kd.C (Kd.int .i64) w A0_6 l0_6.length l0_6) (hc0_6 : l0_6.length ≤ c0_6) (hr0_7 : Kd.C (Kd.int .i64) w A0_7 l0_7.length l0_7) (hc0_7 : l0_7.length ≤ c0_7) (hr1 : Kd.C (Kd.int .i64) w A1 l1.length l1) (hc1 : l1.length ≤ c1) (h : usage_Used.f a0_0 a0_1 a0_2 a0_3 a0_4 a0_5 l0_6 l0_7 l1 a2 = some r) :
    Calls Tryz.prog 60 #[.agg #[.int .i64 a0_0, .int .i64 a0_1, .int .i64 a0_2, .int .i64 a0_3, .int .i64 a0_4, .int .i64 a0_5, .slice A0_6 l0_6.length c0_6, .slice A0_7 l0_7.length c0_7], .slice A1 l1.length c1, .int .i64 a2] w fun e w' => e = .returned (.int .i64 r) ∧ Below w.heap.size w w' := by
  have hu := Tryz.underlying24
  unfold usage_Used.f at h
  split at h
  case isFalse => cases h
  rename_i h5
  obtain ⟨xs, hxs, rfl⟩ := Option.map_eq_some_iff.1 h
  have HXS := Aside0.mk hxs
  clear h hxs
  refine (callsIn_wide (n := 5)).1 ?_
  refine callsIn_of_wp_marks Tryz.func60 rfl trivial ?_ rfl
  simp only [Tryz.ntmps60, List.size_toArray, List.length_cons, List.length_nil, Nat.reduceAdd, Nat.reduceSub, Array.replicate_succ, Array.replicate_zero, List.push_toArray, List.append_toArray, List.nil_append, List.cons_append]
  gi_wp2_with (refine ⟨trivial, ?_⟩; gi_at_call 88; refine (under_any _ _ _ _ _ _ _ _ _ _ _ _ rfl).mono ?_; rintro e w' ⟨rfl, rfl⟩)
  have bS := (((Boxed.new (w.alloc (.cells #[.int .i64 a0_0, .int .i64 a0_1, .int .i64 a0_2, .int .i64 a0_3, .int .i64 a0_4, .int .i64 a0_5, .slice A0_6 l0_6.length c0_6, .slice A0_7 l0_7.length c0_7] 24)) 3 (.int .i64 0)).alloc (.cells #[.int .i64 a0_0, .int .i64 a0_1, .int .i64 a0_2, .int .i64 a0_3, .int .i64 a0_4, .int .i64 a0_5, .slice A0_6 l0_6.length c0_6, .slice A0_7 l0_7.length c0_7] 24)).alloc (.cells #[.slice A1 l1.length c1] 22)).alloc (.cells #[.int .i64 a2] 3)
  obtain ⟨W0, hW0⟩ : ∃ W0, (((((w.alloc (.cells #[.int .i64 a0_0, .int .i64 a0_1, .int .i64 a0_2, .int .i64 a0_3, .int .i64 a0_4, .int .i64 a0_5, .slice A0_6 l0_6.length c0_6, .slice A0_7 l0_7.length c0_7] 24)).alloc (.cells #[.int .i64 0] 3)).alloc (.cells #[.int .i64 a0_0, .int .i64 a0_1, .int .i64 a0_2, .int .i64 a0_3, .int .i64 a0_4, .int .i64 a0_5, .slice A0_6 l0_6.length c0_6, .slice A0_7 l0_7.length c0_7] 24)).alloc (.cells #[.slice A1 l1.length c1] 22)).alloc (.cells #[.int .i64 a2] 3)) = W0 := ⟨_, rfl⟩
  have hB0 : Below w.heap.size w W0 := by rw [← hW0]; exact (((((Below.refl _ w).alloc (Nat.le_refl _) _).alloc (by simp) _).alloc (by simp; omega) _).alloc (by simp; omega) _).alloc (by simp; omega) _
  have hsz : W0.heap.size = w.heap.size + 5 := by rw [← hW0]; simp
  have hbn : W0.heap[w.heap.size + 1 + 1 + 2]? = some (.cells #[.int .i64 a2] 3 (0, 0)) := by rw [← hW0]; simpa using blk_new ((((w.alloc _).alloc _).alloc _).alloc _) (.cells #[.int .i64 a2] 3)
  have hbw : W0.heap[w.heap.size + 1 + 1 + 1]? = some (.cells #[.slice A1 l1.length c1] 22 (0, 0)) := by
    rw [← hW0]; exact blk_alloc (by simpa using blk_new (((w.alloc _).alloc _).alloc _) (.cells #[.slice A1 l1.length c1] 22)) _
  have hbc : W0.heap[w.heap.size + 1 + 1]? = some (.cells #[.int .i64 a0_0, .int .i64 a0_1, .int .i64 a0_2, .int .i64 a0_3, .int .i64 a0_4, .int .i64 a0_5, .slice A0_6 l0_6.length c0_6, .slice A0_7 l0_7.length c0_7] 24 (0, 0)) := by
    rw [← hW0]; exact blk_alloc (blk_alloc (by simpa using blk_new ((w.alloc _).alloc _) (.cells #[.int .i64 a0_0, .int .i64 a0_1, .int .i64 a0_2, .int .i64 a0_3, .int .i64 a0_4, .int .i64 a0_5, .slice A0_6 l0_6.length c0_6, .slice A0_7 l0_7.length c0_7] 24)) _) _
  have bS' : Boxed W0 (w.heap.size + 1) 3 (.int .i64 0) := by rw [← hW0]; simpa using bS
  rw [hW0]
  clear hW0 bS
  have HXS' := HXS.out
  refine wpIn_rangeFunc_ownF rfl (by omega) (gf := 116) (lb := #[.pointer (some ⟨w.heap.size + 1 + 1, 0, none⟩), .pointer (some ⟨w.heap.size + 1 + 1 + 1, 0, none⟩), .pointer (some ⟨w.heap.size + 1 + 1 + 2, 0, none⟩)]) rfl trivial (enters_of Tryz.func116 (by kernel_rfl) rfl)
    (under1_stops 4 (by omega) (w.heap.size + 1 + 1) (w.heap.size + 1 + 1 + 1) (w.heap.size + 1 + 1 + 2) a0_0 a0_1 a0_2 a0_3 a0_4 a0_5 A0_6 c0_6 l0_6 A0_7 c0_7 l0_7 A1 c1 l1 a2 xs h5 HXS' w hr0_6 hc0_6 hr0_7 hc0_7 hr1 hc1 W0 hB0 hbn hbw hbc)
    (fun h k => h.t k) (KpU.b (by omega) (by omega) (by omega) (by omega)) (Below.refl _ _) (fun _ => rfl)
    (fun pre W => Boxed W (w.heap.size + 1) 3 (.int .i64 (pre.foldl (fun s x => wrap64 (s + x)) 0)) ∧ Below w.heap.size w W ∧ W.heap[w.heap.size + 1 + 1]? = some (.cells #[.int .i64 a0_0, .int .i64 a0_1, .int .i64 a0_2, .int .i64 a0_3, .int .i64 a0_4, .int .i64 a0_5, .slice A0_6 l0_6.length c0_6, .slice A0_7 l0_7.length c0_7] 24 (0, 0)) ∧ W.heap[w.heap.size + 1 + 1 + 1]? = some (.cells #[.slice A1 l1.length c1] 22 (0, 0)) ∧ W.heap[w.heap.size + 1 + 1 + 2]? = some (.cells #[.int .i64 a2] 3 (0, 0)))
    (fun _ _ _ => False)
    (OwnFrom.and (Own.from (boxed_own (w.heap.size + 1) 3 (fun pre : List Int => .int .i64 (pre.foldl (fun s x => wrap64 (s + x)) 0))) _) (OwnFrom.and (ownFrom_below (Nat.le_refl _) (by omega)) (OwnFrom.and (Own.from (blk_own (w.heap.size + 1 + 1) _ _ _) _) (OwnFrom.and (Own.from (blk_own (w.heap.size + 1 + 1 + 1) _ _ _) _) (Own.from (blk_own (w.heap.size + 1 + 1 + 2) _ _ _) _)))))
    (fun _ _ _ _ _ hs _ _ => hs)
    ⟨bS', hB0, hbc, hbw, hbn⟩
    (fun x => { tmps := #[.agg #[.int .i64 a0_0, .int .i64 a0_1, .int .i64 a0_2, .int .i64 a0_3, .int .i64 a0_4, .int .i64 a0_5, .slice A0_6 l0_6.length c0_6, .slice A0_7 l0_7.length c0_7], .slice A1 l1.length c1, .int .i64 a2, .pointer (some ⟨w.heap.size, 0, none⟩), undef, undef, .int .i64 0, .pointer (some ⟨w.heap.size + 1, 0, none⟩), .int .i64 x, .agg #[.int .i64 a0_0, .int .i64 a0_1, .int .i64 a0_2, .int .i64 a0_3, .int .i64 a0_4, .int .i64 a0_5, .slice A0_6 l0_6.length c0_6, .slice A0_7 l0_7.length c0_7], .slice A1 l1.length c1, .int .i64 a2, .func (.func 116) #[] #[.pointer (some ⟨w.heap.size + 1 + 1, 0, none⟩), .pointer (some ⟨w.heap.size + 1 + 1 + 1, 0, none⟩), .pointer (some ⟨w.heap.size + 1 + 1 + 2, 0, none⟩)], .int .i64 x, undef, undef, undef, undef], defers := [] })
    ?assign ?body ?done ?stop
  case assign =>
    intro l x W K hK
    gi_wp2
    exact hK
  case body =>
    rintro l pre x W ⟨hb, hB, hc1', hw1, hn1⟩ _
    have hcb := hb.cell
    have hfr := hb.frozen
    gi_wp2
    have e1 := blk_far hc1' (p := ⟨w.heap.size + 1, 0, none⟩) (by show w.heap.size + 1 + 1 ≠ w.heap.size + 1; omega) (.int .i64 (wrap64 (pre.foldl (fun s x => wrap64 (s + x)) 0 + x)))
    have e2 := blk_far hw1 (p := ⟨w.heap.size + 1, 0, none⟩) (by show w.heap.size + 1 + 1 + 1 ≠ w.heap.size + 1; omega) (.int .i64 (wrap64 (pre.foldl (fun s x => wrap64 (s + x)) 0 + x)))
    have e3 := blk_far hn1 (p := ⟨w.heap.size + 1, 0, none⟩) (by show w.heap.size + 1 + 1 + 2 ≠ w.heap.size + 1; omega) (.int .i64 (wrap64 (pre.foldl (fun s x => wrap64 (s + x)) 0 + x)))
    refine ⟨KeepsOthers.setCell _ _ _, ⟨(Below.refl _ W).setCell (p := ⟨w.heap.size + 1, 0, none⟩) (by simp) _, e1.trans hc1'.symm, e2.trans hw1.symm, e3.trans hn1.symm⟩, ?_, hB.setCell (p := ⟨w.heap.size + 1, 0, none⟩) (by simp) _, e1, e2, e3⟩
    have := hb.set (.int .i64 (wrap64 (pre.foldl (fun s x => wrap64 (s + x)) 0 + x)))
    simpa [List.foldl_append] using this
  case done =>
    rintro D ys W hD rfl ⟨hb, hB, -⟩ hK
    have hcb := hb.cell
    gi_wp2
    refine ⟨by simp, .inl ⟨_, _, rfl, run_takeDeferred hK, ?_⟩⟩
    exact ⟨_, results_tmp rfl _ _ _, rfl, hB.trans (belowK_b (w := w) (Nat.le_refl _) W D _ _ (by omega) hK rfl rfl)⟩
  case stop =>
    rintro D c pre W _ _ h _
    exact h.elim
end

end Go.Proofs.YthbaamfdpebocaaGreat.PA
