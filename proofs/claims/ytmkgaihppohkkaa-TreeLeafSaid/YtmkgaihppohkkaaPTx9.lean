-- Printed by the session's own driver (wip/tools/drive.py) on the kit's print.py, with hand-proved functions put in. Not trusted: Lean checks it.
import Derived.Test.YtmkgaihppohkkaaPTx0
import Derived.Test.YtmkgaihppohkkaaPTx3
import Derived.Test.YtmkgaihppohkkaaPTx4
import Derived.Test.YtmkgaihppohkkaaPTx5
namespace Go.Proofs.Ytmkgaihppohkkaa.PT
open Go.RowKit Go.Proofs.YtmkgaihppohkkaaW.PrintWords Go.Proofs.YtmkgaihppohkkaaW.PrintLast Go.Proofs.YtmkgaihppohkkaaW.PrintMore
attribute [local go_sem] max2_int min2_int max_two min_two max_three min_three max_four min_four   -- for this text's walks alone
set_option linter.unusedVariables false
set_option linter.unusedSimpArgs false

/-! ### breadlinelaw04_TreeLeaf: function 6 -/
mutual
def breadlinelaw04_TreeLeaf.j0 : Nat → Int → Bool → Bool → Int → Int → Int → Int → Int → Int → List Int → List Int → Option (Bool)
  | 0, _, _, _, _, _, _, _, _, _, _, _ => none
  | k + 1, x1, x5, x18, x229000, x229001, x229002, x229003, x229004, x229005, x229006, x229007 => if x18 = true then (some x5) else (if (x229006.length : Int) = 0 then (none) else (breadlinelaw04_TreeLeaf.l0 k x5 (x229006.length : Int) (Int.tmod (wrap64 (x1)) (x229006.length : Int)) false true 0 x229000 x229001 x229002 x229003 x229004 x229005 x229006 x229007))
def breadlinelaw04_TreeLeaf.l0 : Nat → Bool → Int → Int → Bool → Bool → Int → Int → Int → Int → Int → Int → Int → List Int → List Int → Option (Bool)
  | 0, _, _, _, _, _, _, _, _, _, _, _, _, _, _ => none
  | k + 1, x5, x6, x7, x8, x9, x10, x229000, x229001, x229002, x229003, x229004, x229005, x229006, x229007 => if x10 < x6 then ((tree_Under.f x229000 x229001 x229002 x229003 x229004 x229005 x229006 x229007 x10 x7).bind fun t235 => (if t235 = true then (if x8 = true then (if x9 = true then (breadlinelaw04_TreeLeaf.l0 k x5 x6 x7 true (x10 == x7) (wrap64 (x10 + 1)) x229000 x229001 x229002 x229003 x229004 x229005 x229006 x229007) else (breadlinelaw04_TreeLeaf.l0 k x5 x6 x7 true false (wrap64 (x10 + 1)) x229000 x229001 x229002 x229003 x229004 x229005 x229006 x229007)) else ((tree_Leaf.f k x229000 x229001 x229002 x229003 x229004 x229005 x229006 x229007 x10).bind fun t236 => (if x9 = true then (breadlinelaw04_TreeLeaf.l0 k x5 x6 x7 t236 (x10 == x7) (wrap64 (x10 + 1)) x229000 x229001 x229002 x229003 x229004 x229005 x229006 x229007) else (breadlinelaw04_TreeLeaf.l0 k x5 x6 x7 t236 false (wrap64 (x10 + 1)) x229000 x229001 x229002 x229003 x229004 x229005 x229006 x229007)))) else (breadlinelaw04_TreeLeaf.l0 k x5 x6 x7 x8 x9 (wrap64 (x10 + 1)) x229000 x229001 x229002 x229003 x229004 x229005 x229006 x229007))) else (if x5 = true then (if x8 = true then ((tree_Leaf.f k x229000 x229001 x229002 x229003 x229004 x229005 x229006 x229007 x7).bind fun t232 => (if (t232 == x9) = true then ((tree_Leaf.f k x229000 x229001 x229002 x229003 x229004 x229005 x229006 x229007 (wrap64 (x6 - 1))).bind fun t233 => (if t233 = true then ((tree_Leaf.f k x229000 x229001 x229002 x229003 x229004 x229005 x229006 x229007 x6).bind fun t234 => (some (!t234))) else (some false))) else (some false))) else (some false)) else (some false))
end
def breadlinelaw04_TreeLeaf.f (k : Nat) (a0_0 : Int) (a0_1 : Int) (a0_2 : Int) (a0_3 : Int) (a0_4 : Int) (a0_5 : Int) (l0_6 : List Int) (l0_7 : List Int) (a1 : Int) : Option (Bool) := (breadlinelaw04_head.f).bind fun t229 => ((breadlinelaw04_Great.f a0_0 a0_1 a0_2 a0_3 a0_4 a0_5 l0_6 l0_7).bind fun t230 => (if t230 = true then (breadlinelaw04_TreeLeaf.j0 k a1 t229 true a0_0 a0_1 a0_2 a0_3 a0_4 a0_5 l0_6 l0_7) else ((breadlineref04_Right.f k a0_0 a0_1 a0_2 a0_3 a0_4 a0_5 l0_6 l0_7).bind fun t231 => (breadlinelaw04_TreeLeaf.j0 k a1 t229 (!t231) a0_0 a0_1 a0_2 a0_3 a0_4 a0_5 l0_6 l0_7))))
theorem breadlinelaw04_TreeLeaf.mono_l : ∀ k, (∀ y0 y1 y2 y3 y4 y5 y6 y7 y8 y9 y10, LeO (breadlinelaw04_TreeLeaf.j0 k y0 y1 y2 y3 y4 y5 y6 y7 y8 y9 y10) (breadlinelaw04_TreeLeaf.j0 (k + 1) y0 y1 y2 y3 y4 y5 y6 y7 y8 y9 y10)) ∧ (∀ y0 y1 y2 y3 y4 y5 y6 y7 y8 y9 y10 y11 y12 y13, LeO (breadlinelaw04_TreeLeaf.l0 k y0 y1 y2 y3 y4 y5 y6 y7 y8 y9 y10 y11 y12 y13) (breadlinelaw04_TreeLeaf.l0 (k + 1) y0 y1 y2 y3 y4 y5 y6 y7 y8 y9 y10 y11 y12 y13))
  | 0 => ⟨fun _ _ _ _ _ _ _ _ _ _ _ r h => by simp [breadlinelaw04_TreeLeaf.j0] at h, fun _ _ _ _ _ _ _ _ _ _ _ _ _ _ r h => by simp [breadlinelaw04_TreeLeaf.l0] at h⟩
  | k + 1 => by
    obtain ⟨ih0, ih1⟩ := breadlinelaw04_TreeLeaf.mono_l k
    refine ⟨?_, ?_⟩
    · intro y0 y1 y2 y3 y4 y5 y6 y7 y8 y9 y10
      unfold breadlinelaw04_TreeLeaf.j0
      repeat' first
      | (with_reducible exact ih0 _ _ _ _ _ _ _ _ _ _ _)
      | (with_reducible exact ih1 _ _ _ _ _ _ _ _ _ _ _ _ _ _)
      | (with_reducible exact breadlineref04_Right.mono _ _ _ _ _ _ _ _ _)
      | (with_reducible exact tree_Leaf.mono _ _ _ _ _ _ _ _ _ _)
      | (with_reducible exact LeO.refl _)
      | (with_reducible exact LeO.none _)
      | (with_reducible refine LeO.ite ?_ ?_)
      | (with_reducible refine LeO.bind ?_ (fun _ => ?_))
      | exact ih0 _ _ _ _ _ _ _ _ _ _ _
      | exact ih1 _ _ _ _ _ _ _ _ _ _ _ _ _ _
      | exact breadlineref04_Right.mono _ _ _ _ _ _ _ _ _
      | exact tree_Leaf.mono _ _ _ _ _ _ _ _ _ _
      | exact LeO.none _
      | refine LeO.ite ?_ ?_
      | refine LeO.bind ?_ (fun _ => ?_)
    · intro y0 y1 y2 y3 y4 y5 y6 y7 y8 y9 y10 y11 y12 y13
      unfold breadlinelaw04_TreeLeaf.l0
      repeat' first
      | (with_reducible exact ih0 _ _ _ _ _ _ _ _ _ _ _)
      | (with_reducible exact ih1 _ _ _ _ _ _ _ _ _ _ _ _ _ _)
      | (with_reducible exact breadlineref04_Right.mono _ _ _ _ _ _ _ _ _)
      | (with_reducible exact tree_Leaf.mono _ _ _ _ _ _ _ _ _ _)
      | (with_reducible exact LeO.refl _)
      | (with_reducible exact LeO.none _)
      | (with_reducible refine LeO.ite ?_ ?_)
      | (with_reducible refine LeO.bind ?_ (fun _ => ?_))
      | exact ih0 _ _ _ _ _ _ _ _ _ _ _
      | exact ih1 _ _ _ _ _ _ _ _ _ _ _ _ _ _
      | exact breadlineref04_Right.mono _ _ _ _ _ _ _ _ _
      | exact tree_Leaf.mono _ _ _ _ _ _ _ _ _ _
      | exact LeO.none _
      | refine LeO.ite ?_ ?_
      | refine LeO.bind ?_ (fun _ => ?_)
theorem breadlinelaw04_TreeLeaf.mono : ∀ a0 a1 a2 a3 a4 a5 a6 a7 a8 k, LeO (breadlinelaw04_TreeLeaf.f k a0 a1 a2 a3 a4 a5 a6 a7 a8) (breadlinelaw04_TreeLeaf.f (k + 1) a0 a1 a2 a3 a4 a5 a6 a7 a8) := by
  intro a0 a1 a2 a3 a4 a5 a6 a7 a8 k
  obtain ⟨ih0, ih1⟩ := breadlinelaw04_TreeLeaf.mono_l k
  unfold breadlinelaw04_TreeLeaf.f
  repeat' first
      | (with_reducible exact ih0 _ _ _ _ _ _ _ _ _ _ _)
      | (with_reducible exact ih1 _ _ _ _ _ _ _ _ _ _ _ _ _ _)
      | (with_reducible exact breadlineref04_Right.mono _ _ _ _ _ _ _ _ _)
      | (with_reducible exact tree_Leaf.mono _ _ _ _ _ _ _ _ _ _)
      | (with_reducible exact LeO.refl _)
      | (with_reducible exact LeO.none _)
      | (with_reducible refine LeO.ite ?_ ?_)
      | (with_reducible refine LeO.bind ?_ (fun _ => ?_))
      | exact ih0 _ _ _ _ _ _ _ _ _ _ _
      | exact ih1 _ _ _ _ _ _ _ _ _ _ _ _ _ _
      | exact breadlineref04_Right.mono _ _ _ _ _ _ _ _ _
      | exact tree_Leaf.mono _ _ _ _ _ _ _ _ _ _
      | exact LeO.none _
      | refine LeO.ite ?_ ?_
      | refine LeO.bind ?_ (fun _ => ?_)
set_option maxHeartbeats 8000000 in
set_option maxRecDepth 100000 in
theorem breadlinelaw04_TreeLeaf.calls (k : Nat) (a0_0 : Int) (a0_1 : Int) (a0_2 : Int) (a0_3 : Int) (a0_4 : Int) (a0_5 : Int) (A0_6 : Option Addr) (c0_6 : Nat) (l0_6 : List Int) (A0_7 : Option Addr) (c0_7 : Nat) (l0_7 : List Int) (a1 : Int) (r : Bool) (w : World) (hr0_6 : Kd.C (Kd.int .i64) w A0_6 l0_6.length l0_6) (hc0_6 : l0_6.length ≤ c0_6) (hr0_7 : Kd.C (Kd.int .i64) w A0_7 l0_7.length l0_7) (hc0_7 : l0_7.length ≤ c0_7) (h : breadlinelaw04_TreeLeaf.f k a0_0 a0_1 a0_2 a0_3 a0_4 a0_5 l0_6 l0_7 a1 = some r) :
    Calls Try.prog 6 #[.agg #[.int .i64 a0_0, .int .i64 a0_1, .int .i64 a0_2, .int .i64 a0_3, .int .i64 a0_4, .int .i64 a0_5, .slice A0_6 l0_6.length c0_6, .slice A0_7 l0_7.length c0_7], .int .u8 a1] w fun e w' => e = .returned (.bool r) ∧ Below w.heap.size w w' := by
  have hu24 := Try.underlying24
  have HR0_6 := Aside0.mk hr0_6
  have HC0_6 := Aside0.mk hc0_6
  clear hr0_6 hc0_6
  have HR0_7 := Aside0.mk hr0_7
  have HC0_7 := Aside0.mk hc0_7
  clear hr0_7 hc0_7
  have HB := Aside0.mk (Below.refl w.heap.size w)
  have H : ((breadlinelaw04_head.f).bind fun t229 => ((breadlinelaw04_Great.f a0_0 a0_1 a0_2 a0_3 a0_4 a0_5 l0_6 l0_7).bind fun t230 => (if t230 = true then (breadlinelaw04_TreeLeaf.j0 k a1 t229 true a0_0 a0_1 a0_2 a0_3 a0_4 a0_5 l0_6 l0_7) else ((breadlineref04_Right.f k a0_0 a0_1 a0_2 a0_3 a0_4 a0_5 l0_6 l0_7).bind fun t231 => (breadlinelaw04_TreeLeaf.j0 k a1 t229 (!t231) a0_0 a0_1 a0_2 a0_3 a0_4 a0_5 l0_6 l0_7))))) = some r := h
  clear h
  replace H := Option.bind_eq_some_iff.mp H
  obtain ⟨t229, A30, H⟩ := H
  replace H : ((breadlinelaw04_Great.f a0_0 a0_1 a0_2 a0_3 a0_4 a0_5 l0_6 l0_7).bind fun t230 => (if t230 = true then (breadlinelaw04_TreeLeaf.j0 k a1 t229 true a0_0 a0_1 a0_2 a0_3 a0_4 a0_5 l0_6 l0_7) else ((breadlineref04_Right.f k a0_0 a0_1 a0_2 a0_3 a0_4 a0_5 l0_6 l0_7).bind fun t231 => (breadlinelaw04_TreeLeaf.j0 k a1 t229 (!t231) a0_0 a0_1 a0_2 a0_3 a0_4 a0_5 l0_6 l0_7)))) = some r := H
  have A3 := Aside0.mk A30
  clear A30
  have HC4 := Aside0.mk H
  clear H
  go_enter Try.func6, Try.ntmps6
  go_upto_region 2 with (first | ((with_reducible refine gate_dst (N := 2) rfl ?_); refine box_event ?hg (N := 2) ?hd (cs := #[.int .i64 a0_0, .int .i64 a0_1, .int .i64 a0_2, .int .i64 a0_3, .int .i64 a0_4, .int .i64 a0_5, .slice A0_6 l0_6.length c0_6, .slice A0_7 l0_7.length c0_7]) (t := 24) ?hr ?_; (case hd => rfl); (case hg => rfl); (case hr => first | (go_simp; done) | (go_simp; rfl)); intro gb228 hg w5 hbox hb; have n0_ := Aside0.mk (below_step (by repeat (first | (with_reducible first | exact HB.out | apply below_alloc | apply pw_below_drewN | apply below_drew1) | exact HB.out)) hb); have n1_ := Aside0.mk (hbox); have n2_ := Aside0.mk ((by rw [hg]; exact (below_size (by repeat (first | (with_reducible first | exact HB.out | apply below_alloc | apply pw_below_drewN | apply below_drew1) | exact HB.out))) : w.heap.size ≤ gb228)); have n3_ := Aside0.mk ((by rw [hg]; exact (below_size (by repeat (first | (with_reducible first | exact HB.out | apply below_alloc | apply pw_below_drewN | apply below_drew1) | exact HB.out))) : w.heap.size ≤ gb228)); clear HB; have HB := n0_; have BK228 := n1_; have GW228 := n2_; have GE228 := n3_; clear n0_ n1_ n2_ n3_; clear hb hbox hg) | ((with_reducible refine gate_callee (f := 9) rfl ?_); refine goesL_ (some 11) rfl rfl Try.func9 (by kernel_rfl) rfl #[] rfl (by (try simp only [List.map_toArray, List.map_cons, List.map_nil]); first | done | rfl | (simp only [List.length_drop, List.length_take]; rfl)) ?_; (with_reducible refine (breadlinelaw04_head.calls  t229 _ A3.out).mono ?_); rintro e w6 ⟨rfl, hb⟩; refine ⟨_, rfl, ?_⟩; have n0_ := Aside0.mk (blk_below (g := gb228) (o := .cells #[.int .i64 a0_0, .int .i64 a0_1, .int .i64 a0_2, .int .i64 a0_3, .int .i64 a0_4, .int .i64 a0_5, .slice A0_6 l0_6.length c0_6, .slice A0_7 l0_7.length c0_7] 24 (0, 0)) (by (with_reducible repeat (first | refine blk_drewN ?_ _ | refine blk_drew ?_ | refine blk_alloc ?_ _)); exact BK228.out) hb); have n1_ := Aside0.mk (below_step (by repeat (first | (with_reducible first | exact HB.out | apply below_alloc | apply pw_below_drewN | apply below_drew1 | refine below_set ?_ GE228.out) | exact HB.out)) hb); clear BK228; clear HB; have BK228 := n0_; have HB := n1_; clear n0_ n1_; (try clear hb); (try clear hb2); (try clear hk); (try clear hi)))
  (try simp only [Act.put, List.setIfInBounds_toArray, List.set_cons_zero, List.set_cons_succ])
  go_cut [18] (fun v18 wc => ∃ (kq : Nat) (x18_3 : Bool), v18 = .bool x18_3 ∧ Aside0 (breadlinelaw04_TreeLeaf.j0 kq a1 t229 x18_3 a0_0 a0_1 a0_2 a0_3 a0_4 a0_5 l0_6 l0_7 = some r) ∧ Aside0 (kq ≤ k) ∧ Aside0 (wc.heap[gb228]? = some (.cells #[.int .i64 a0_0, .int .i64 a0_1, .int .i64 a0_2, .int .i64 a0_3, .int .i64 a0_4, .int .i64 a0_5, (.slice A0_6 l0_6.length c0_6), (.slice A0_7 l0_7.length c0_7)] 24 (0, 0))) ∧ Aside0 (Below w.heap.size w wc))
  case first =>
    have H := HC4.out
    clear HC4
    replace H := Option.bind_eq_some_iff.mp H
    obtain ⟨t230, A70, H⟩ := H
    replace H : (if t230 = true then (breadlinelaw04_TreeLeaf.j0 k a1 t229 true a0_0 a0_1 a0_2 a0_3 a0_4 a0_5 l0_6 l0_7) else ((breadlineref04_Right.f k a0_0 a0_1 a0_2 a0_3 a0_4 a0_5 l0_6 l0_7).bind fun t231 => (breadlinelaw04_TreeLeaf.j0 k a1 t229 (!t231) a0_0 a0_1 a0_2 a0_3 a0_4 a0_5 l0_6 l0_7))) = some r := H
    have A7 := Aside0.mk A70
    clear A70
    by_cases c8 : t230 = true
    · subst c8
      have H1 : (breadlinelaw04_TreeLeaf.j0 k a1 t229 true a0_0 a0_1 a0_2 a0_3 a0_4 a0_5 l0_6 l0_7) = some r := by rw [if_pos rfl] at H; exact H
      clear H
      have H := H1
      clear H1
      have H' := Aside0.mk H
      clear H
      have hcz9_0 : w6.cell? ⟨gb228, 0, none⟩ = some (.int .i64 a0_0) := (blk_cell BK228.out 0).trans rfl
      have hcz9_1 : w6.cell? ⟨gb228, 1, none⟩ = some (.int .i64 a0_1) := (blk_cell BK228.out 1).trans rfl
      have hcz9_2 : w6.cell? ⟨gb228, 2, none⟩ = some (.int .i64 a0_2) := (blk_cell BK228.out 2).trans rfl
      have hcz9_3 : w6.cell? ⟨gb228, 3, none⟩ = some (.int .i64 a0_3) := (blk_cell BK228.out 3).trans rfl
      have hcz9_4 : w6.cell? ⟨gb228, 4, none⟩ = some (.int .i64 a0_4) := (blk_cell BK228.out 4).trans rfl
      have hcz9_5 : w6.cell? ⟨gb228, 5, none⟩ = some (.int .i64 a0_5) := (blk_cell BK228.out 5).trans rfl
      have hcz9_6 : w6.cell? ⟨gb228, 6, none⟩ = some (.slice A0_6 l0_6.length c0_6) := (blk_cell BK228.out 6).trans rfl
      have hcz9_7 : w6.cell? ⟨gb228, 7, none⟩ = some (.slice A0_7 l0_7.length c0_7) := (blk_cell BK228.out 7).trans rfl
      have hfz9_0 := blk_frozen BK228.out 0
      have hfz9_1 := blk_frozen BK228.out 1
      have hfz9_2 := blk_frozen BK228.out 2
      have hfz9_3 := blk_frozen BK228.out 3
      have hfz9_4 := blk_frozen BK228.out 4
      have hfz9_5 := blk_frozen BK228.out 5
      have hfz9_6 := blk_frozen BK228.out 6
      have hfz9_7 := blk_frozen BK228.out 7
      go_wp2_with (first | ((with_reducible refine gate_callee (f := 10) rfl ?_); refine goesL_ (some 13) rfl rfl Try.func10 (by kernel_rfl) rfl #[.agg #[.int .i64 a0_0, .int .i64 a0_1, .int .i64 a0_2, .int .i64 a0_3, .int .i64 a0_4, .int .i64 a0_5, .slice A0_6 l0_6.length c0_6, .slice A0_7 l0_7.length c0_7]] rfl (by (try simp only [List.map_toArray, List.map_cons, List.map_nil]); first | done | rfl | (simp only [List.length_drop, List.length_take]; rfl)) ?_; (with_reducible refine (breadlinelaw04_Great.calls a0_0 a0_1 a0_2 a0_3 a0_4 a0_5 _ _ l0_6 _ _ l0_7 true _ ?side1 ?side2 ?side3 ?side4 A7.out).mono ?_); (case side1 => repeat (first | exact (Kd.C_below HR0_6.out HB.out) | (with_reducible refine Kd.C_alloc ?_ _) | (with_reducible refine Kd.C_drewN ?_ _) | (with_reducible refine Kd.C_drew ?_))); (case side2 => exact HC0_6.out); (case side3 => repeat (first | exact (Kd.C_below HR0_7.out HB.out) | (with_reducible refine Kd.C_alloc ?_ _) | (with_reducible refine Kd.C_drewN ?_ _) | (with_reducible refine Kd.C_drew ?_))); (case side4 => exact HC0_7.out); rintro e w10 ⟨rfl, hb⟩; refine ⟨_, rfl, ?_⟩; have n0_ := Aside0.mk (blk_below (g := gb228) (o := .cells #[.int .i64 a0_0, .int .i64 a0_1, .int .i64 a0_2, .int .i64 a0_3, .int .i64 a0_4, .int .i64 a0_5, .slice A0_6 l0_6.length c0_6, .slice A0_7 l0_7.length c0_7] 24 (0, 0)) (by (with_reducible repeat (first | refine blk_drewN ?_ _ | refine blk_drew ?_ | refine blk_alloc ?_ _)); exact BK228.out) hb); have n1_ := Aside0.mk (below_step (by repeat (first | (with_reducible first | exact HB.out | apply below_alloc | apply pw_below_drewN | apply below_drew1 | refine below_set ?_ GE228.out) | exact HB.out)) hb); clear BK228; clear HB; have BK228 := n0_; have HB := n1_; clear n0_ n1_; (try clear hb); (try clear hb2); (try clear hk); (try clear hi)))
      go_meet
      case rel => exact ⟨_, (true), (by first | rfl | (simp; done) | (simp [*]; done)), H', ⟨by first | omega | exact Nat.le_refl _⟩, ⟨by (with_reducible repeat (first | refine blk_drewN ?_ _ | refine blk_drew ?_ | refine blk_alloc ?_ _)); exact BK228.out⟩, ⟨by repeat (first | (with_reducible first | exact HB.out | apply below_alloc | apply pw_below_drewN | apply below_drew1 | refine below_set ?_ GE228.out) | exact HB.out)⟩⟩
    · replace c8 := Bool.eq_false_iff.mpr c8
      subst c8
      have H1 : ((breadlineref04_Right.f k a0_0 a0_1 a0_2 a0_3 a0_4 a0_5 l0_6 l0_7).bind fun t231 => (breadlinelaw04_TreeLeaf.j0 k a1 t229 (!t231) a0_0 a0_1 a0_2 a0_3 a0_4 a0_5 l0_6 l0_7)) = some r := by rw [if_neg (show ¬ (false = true) by decide)] at H; exact H
      clear H
      have H := H1
      clear H1
      replace H := Option.bind_eq_some_iff.mp H
      obtain ⟨t231, A110, H⟩ := H
      replace H : (breadlinelaw04_TreeLeaf.j0 k a1 t229 (!t231) a0_0 a0_1 a0_2 a0_3 a0_4 a0_5 l0_6 l0_7) = some r := H
      have A11 := Aside0.mk A110
      clear A110
      have H' := Aside0.mk H
      clear H
      have hcz12_0 : w6.cell? ⟨gb228, 0, none⟩ = some (.int .i64 a0_0) := (blk_cell BK228.out 0).trans rfl
      have hcz12_1 : w6.cell? ⟨gb228, 1, none⟩ = some (.int .i64 a0_1) := (blk_cell BK228.out 1).trans rfl
      have hcz12_2 : w6.cell? ⟨gb228, 2, none⟩ = some (.int .i64 a0_2) := (blk_cell BK228.out 2).trans rfl
      have hcz12_3 : w6.cell? ⟨gb228, 3, none⟩ = some (.int .i64 a0_3) := (blk_cell BK228.out 3).trans rfl
      have hcz12_4 : w6.cell? ⟨gb228, 4, none⟩ = some (.int .i64 a0_4) := (blk_cell BK228.out 4).trans rfl
      have hcz12_5 : w6.cell? ⟨gb228, 5, none⟩ = some (.int .i64 a0_5) := (blk_cell BK228.out 5).trans rfl
      have hcz12_6 : w6.cell? ⟨gb228, 6, none⟩ = some (.slice A0_6 l0_6.length c0_6) := (blk_cell BK228.out 6).trans rfl
      have hcz12_7 : w6.cell? ⟨gb228, 7, none⟩ = some (.slice A0_7 l0_7.length c0_7) := (blk_cell BK228.out 7).trans rfl
      have hfz12_0 := blk_frozen BK228.out 0
      have hfz12_1 := blk_frozen BK228.out 1
      have hfz12_2 := blk_frozen BK228.out 2
      have hfz12_3 := blk_frozen BK228.out 3
      have hfz12_4 := blk_frozen BK228.out 4
      have hfz12_5 := blk_frozen BK228.out 5
      have hfz12_6 := blk_frozen BK228.out 6
      have hfz12_7 := blk_frozen BK228.out 7
      go_wp2_with (first | ((with_reducible refine gate_callee (f := 10) rfl ?_); refine goesL_ (some 13) rfl rfl Try.func10 (by kernel_rfl) rfl #[.agg #[.int .i64 a0_0, .int .i64 a0_1, .int .i64 a0_2, .int .i64 a0_3, .int .i64 a0_4, .int .i64 a0_5, .slice A0_6 l0_6.length c0_6, .slice A0_7 l0_7.length c0_7]] rfl (by (try simp only [List.map_toArray, List.map_cons, List.map_nil]); first | done | rfl | (simp only [List.length_drop, List.length_take]; rfl)) ?_; (with_reducible refine (breadlinelaw04_Great.calls a0_0 a0_1 a0_2 a0_3 a0_4 a0_5 _ _ l0_6 _ _ l0_7 false _ ?side1 ?side2 ?side3 ?side4 A7.out).mono ?_); (case side1 => repeat (first | exact (Kd.C_below HR0_6.out HB.out) | (with_reducible refine Kd.C_alloc ?_ _) | (with_reducible refine Kd.C_drewN ?_ _) | (with_reducible refine Kd.C_drew ?_))); (case side2 => exact HC0_6.out); (case side3 => repeat (first | exact (Kd.C_below HR0_7.out HB.out) | (with_reducible refine Kd.C_alloc ?_ _) | (with_reducible refine Kd.C_drewN ?_ _) | (with_reducible refine Kd.C_drew ?_))); (case side4 => exact HC0_7.out); rintro e w13 ⟨rfl, hb⟩; refine ⟨_, rfl, ?_⟩; have n0_ := Aside0.mk (blk_below (g := gb228) (o := .cells #[.int .i64 a0_0, .int .i64 a0_1, .int .i64 a0_2, .int .i64 a0_3, .int .i64 a0_4, .int .i64 a0_5, .slice A0_6 l0_6.length c0_6, .slice A0_7 l0_7.length c0_7] 24 (0, 0)) (by (with_reducible repeat (first | refine blk_drewN ?_ _ | refine blk_drew ?_ | refine blk_alloc ?_ _)); exact BK228.out) hb); have n1_ := Aside0.mk (below_step (by repeat (first | (with_reducible first | exact HB.out | apply below_alloc | apply pw_below_drewN | apply below_drew1 | refine below_set ?_ GE228.out) | exact HB.out)) hb); clear BK228; clear HB; have BK228 := n0_; have HB := n1_; clear n0_ n1_; (try clear hb); (try clear hb2); (try clear hk); (try clear hi); have hcz14_0 : w13.cell? ⟨gb228, 0, none⟩ = some (.int .i64 a0_0) := (blk_cell BK228.out 0).trans rfl; have hcz14_1 : w13.cell? ⟨gb228, 1, none⟩ = some (.int .i64 a0_1) := (blk_cell BK228.out 1).trans rfl; have hcz14_2 : w13.cell? ⟨gb228, 2, none⟩ = some (.int .i64 a0_2) := (blk_cell BK228.out 2).trans rfl; have hcz14_3 : w13.cell? ⟨gb228, 3, none⟩ = some (.int .i64 a0_3) := (blk_cell BK228.out 3).trans rfl; have hcz14_4 : w13.cell? ⟨gb228, 4, none⟩ = some (.int .i64 a0_4) := (blk_cell BK228.out 4).trans rfl; have hcz14_5 : w13.cell? ⟨gb228, 5, none⟩ = some (.int .i64 a0_5) := (blk_cell BK228.out 5).trans rfl; have hcz14_6 : w13.cell? ⟨gb228, 6, none⟩ = some (.slice A0_6 l0_6.length c0_6) := (blk_cell BK228.out 6).trans rfl; have hcz14_7 : w13.cell? ⟨gb228, 7, none⟩ = some (.slice A0_7 l0_7.length c0_7) := (blk_cell BK228.out 7).trans rfl; have hfz14_0 := blk_frozen BK228.out 0; have hfz14_1 := blk_frozen BK228.out 1; have hfz14_2 := blk_frozen BK228.out 2; have hfz14_3 := blk_frozen BK228.out 3; have hfz14_4 := blk_frozen BK228.out 4; have hfz14_5 := blk_frozen BK228.out 5; have hfz14_6 := blk_frozen BK228.out 6; have hfz14_7 := blk_frozen BK228.out 7) | (go_at_call 12; (with_reducible refine (breadlineref04_Right.calls k a0_0 a0_1 a0_2 a0_3 a0_4 a0_5 _ _ l0_6 _ _ l0_7 t231 _ ?side1 ?side2 ?side3 ?side4 A11.out).mono ?_); (case side1 => repeat (first | exact (Kd.C_below HR0_6.out HB.out) | (with_reducible refine Kd.C_alloc ?_ _) | (with_reducible refine Kd.C_drewN ?_ _) | (with_reducible refine Kd.C_drew ?_))); (case side2 => exact HC0_6.out); (case side3 => repeat (first | exact (Kd.C_below HR0_7.out HB.out) | (with_reducible refine Kd.C_alloc ?_ _) | (with_reducible refine Kd.C_drewN ?_ _) | (with_reducible refine Kd.C_drew ?_))); (case side4 => exact HC0_7.out); rintro e w15 ⟨rfl, hb⟩; have n0_ := Aside0.mk (blk_below (g := gb228) (o := .cells #[.int .i64 a0_0, .int .i64 a0_1, .int .i64 a0_2, .int .i64 a0_3, .int .i64 a0_4, .int .i64 a0_5, .slice A0_6 l0_6.length c0_6, .slice A0_7 l0_7.length c0_7] 24 (0, 0)) (by (with_reducible repeat (first | refine blk_drewN ?_ _ | refine blk_drew ?_ | refine blk_alloc ?_ _)); exact BK228.out) hb); have n1_ := Aside0.mk (below_step (by repeat (first | (with_reducible first | exact HB.out | apply below_alloc | apply pw_below_drewN | apply below_drew1 | refine below_set ?_ GE228.out) | exact HB.out)) hb); clear BK228; clear HB; have BK228 := n0_; have HB := n1_; clear n0_ n1_; (try clear hb); (try clear hb2); (try clear hk); (try clear hi)))
      go_meet
      case rel => exact ⟨_, (!t231), (by first | rfl | (simp; done) | (simp [*]; done)), H', ⟨by first | omega | exact Nat.le_refl _⟩, ⟨by (with_reducible repeat (first | refine blk_drewN ?_ _ | refine blk_drew ?_ | refine blk_alloc ?_ _)); exact BK228.out⟩, ⟨by repeat (first | (with_reducible first | exact HB.out | apply below_alloc | apply pw_below_drewN | apply below_drew1 | refine below_set ?_ GE228.out) | exact HB.out)⟩⟩
  case rest =>
    clear HC4
    try clear c1
    try clear p2
    try clear c6
    try clear c8
    try clear c9
    try clear c10
    try clear hcz12_0
    try clear hcz12_1
    try clear hcz12_2
    try clear hcz12_3
    try clear hcz12_4
    try clear hcz12_5
    try clear hcz12_6
    try clear hcz12_7
    try clear hcz14_0
    try clear hcz14_1
    try clear hcz14_2
    try clear hcz14_3
    try clear hcz14_4
    try clear hcz14_5
    try clear hcz14_6
    try clear hcz14_7
    try clear hcz9_0
    try clear hcz9_1
    try clear hcz9_2
    try clear hcz9_3
    try clear hcz9_4
    try clear hcz9_5
    try clear hcz9_6
    try clear hcz9_7
    try clear hfz12_0
    try clear hfz12_1
    try clear hfz12_2
    try clear hfz12_3
    try clear hfz12_4
    try clear hfz12_5
    try clear hfz12_6
    try clear hfz12_7
    try clear hfz14_0
    try clear hfz14_1
    try clear hfz14_2
    try clear hfz14_3
    try clear hfz14_4
    try clear hfz14_5
    try clear hfz14_6
    try clear hfz14_7
    try clear hfz9_0
    try clear hfz9_1
    try clear hfz9_2
    try clear hfz9_3
    try clear hfz9_4
    try clear hfz9_5
    try clear hfz9_6
    try clear hfz9_7
    obtain ⟨kq, x18_3, rfl, HA, HJ3, BK228, HB⟩ := hcut
    cases kq with
    | zero => exact absurd HA.out (by simp [breadlinelaw04_TreeLeaf.j0])
    | succ kj3 =>
      have H := HA.out
      clear HA
      simp only [breadlinelaw04_TreeLeaf.j0] at H
      by_cases c16 : x18_3 = true
      · subst c16
        have H1 : (some t229) = some r := by rw [if_pos rfl] at H; exact H
        clear H
        have H := H1
        clear H1
        obtain rfl := Option.some.inj H
        go_wp2
        go_ret
        exact ⟨by first | rfl | (simp [errW_none, errW_some] <;> rfl) | (simp [*, errW_none, errW_some] <;> rfl), by repeat (first | (with_reducible first | exact HB.out | apply below_alloc | apply pw_below_drewN | apply below_drew1 | refine below_set ?_ GE228.out) | exact HB.out)⟩
      · replace c16 := Bool.eq_false_iff.mpr c16
        subst c16
        have H1 : (if (l0_6.length : Int) = 0 then (none) else (breadlinelaw04_TreeLeaf.l0 kj3 t229 (l0_6.length : Int) (Int.tmod (wrap64 (a1)) (l0_6.length : Int)) false true 0 a0_0 a0_1 a0_2 a0_3 a0_4 a0_5 l0_6 l0_7)) = some r := by rw [if_neg (show ¬ (false = true) by decide)] at H; exact H
        clear H
        have H := H1
        clear H1
        by_cases c17 : (l0_6.length : Int) = 0
        · rw [if_pos c17] at H
          exact absurd H (by simp)
        · rw [if_neg c17] at H
          have c17b0 : ((l0_6.length : Int) == 0) = false := beq_eq_false_iff_ne.mpr c17
          have c17b1 : ((l0_6.length : Int) != 0) = true := bne_iff_ne.mpr c17
          have c17b2 : ¬ (l0_6 = []) := fun h_ => c17 (by rw [h_]; rfl)
          have H' := Aside0.mk H
          clear H
          have hcz18_0 : wc.cell? ⟨gb228, 0, none⟩ = some (.int .i64 a0_0) := (blk_cell BK228.out 0).trans rfl
          have hcz18_1 : wc.cell? ⟨gb228, 1, none⟩ = some (.int .i64 a0_1) := (blk_cell BK228.out 1).trans rfl
          have hcz18_2 : wc.cell? ⟨gb228, 2, none⟩ = some (.int .i64 a0_2) := (blk_cell BK228.out 2).trans rfl
          have hcz18_3 : wc.cell? ⟨gb228, 3, none⟩ = some (.int .i64 a0_3) := (blk_cell BK228.out 3).trans rfl
          have hcz18_4 : wc.cell? ⟨gb228, 4, none⟩ = some (.int .i64 a0_4) := (blk_cell BK228.out 4).trans rfl
          have hcz18_5 : wc.cell? ⟨gb228, 5, none⟩ = some (.int .i64 a0_5) := (blk_cell BK228.out 5).trans rfl
          have hcz18_6 : wc.cell? ⟨gb228, 6, none⟩ = some (.slice A0_6 l0_6.length c0_6) := (blk_cell BK228.out 6).trans rfl
          have hcz18_7 : wc.cell? ⟨gb228, 7, none⟩ = some (.slice A0_7 l0_7.length c0_7) := (blk_cell BK228.out 7).trans rfl
          have hfz18_0 := blk_frozen BK228.out 0
          have hfz18_1 := blk_frozen BK228.out 1
          have hfz18_2 := blk_frozen BK228.out 2
          have hfz18_3 := blk_frozen BK228.out 3
          have hfz18_4 := blk_frozen BK228.out 4
          have hfz18_5 := blk_frozen BK228.out 5
          have hfz18_6 := blk_frozen BK228.out 6
          have hfz18_7 := blk_frozen BK228.out 7
          go_wp2
          go_loopg [8, 9, 10] kj3 (fun kq v8 v9 v10 w' => ∃ (x8_2 : Bool) (x9_2 : Bool) (x10_2 : Int), v8 = .bool x8_2 ∧ v9 = .bool x9_2 ∧ v10 = .int .i64 x10_2 ∧ Aside0 (breadlinelaw04_TreeLeaf.l0 kq t229 (l0_6.length : Int) (Int.tmod (wrap64 (a1)) (l0_6.length : Int)) x8_2 x9_2 x10_2 a0_0 a0_1 a0_2 a0_3 a0_4 a0_5 l0_6 l0_7 = some r) ∧ Aside0 (kq ≤ kj3) ∧ Aside0 (w'.heap[gb228]? = some (.cells #[.int .i64 a0_0, .int .i64 a0_1, .int .i64 a0_2, .int .i64 a0_3, .int .i64 a0_4, .int .i64 a0_5, (.slice A0_6 l0_6.length c0_6), (.slice A0_7 l0_7.length c0_7)] 24 (0, 0))) ∧ Aside0 (Below w.heap.size w w'))
          case atStart => exact ⟨(false), (true), (0), (by first | rfl | (simp; done) | (simp [*]; done)), (by first | rfl | (simp; done) | (simp [*]; done)), (by first | rfl | (simp; done) | (simp [*]; done)), H', ⟨Nat.le_refl _⟩, ⟨by (with_reducible repeat (first | refine blk_drewN ?_ _ | refine blk_drew ?_ | refine blk_alloc ?_ _)); exact BK228.out⟩, ⟨by repeat (first | (with_reducible first | exact HB.out | apply below_alloc | apply pw_below_drewN | apply below_drew1 | refine below_set ?_ GE228.out) | exact HB.out)⟩⟩
          case round =>
            clear H'
            try clear c1
            try clear p2
            try clear c6
            try clear p6
            try clear c8
            try clear c9
            try clear c10
            try clear c16
            try clear c17
            try clear c17b0
            try clear c17b1
            try clear c17b2
            try clear hcz12_0
            try clear hcz12_1
            try clear hcz12_2
            try clear hcz12_3
            try clear hcz12_4
            try clear hcz12_5
            try clear hcz12_6
            try clear hcz12_7
            try clear hcz14_0
            try clear hcz14_1
            try clear hcz14_2
            try clear hcz14_3
            try clear hcz14_4
            try clear hcz14_5
            try clear hcz14_6
            try clear hcz14_7
            try clear hcz18_0
            try clear hcz18_1
            try clear hcz18_2
            try clear hcz18_3
            try clear hcz18_4
            try clear hcz18_5
            try clear hcz18_6
            try clear hcz18_7
            try clear hcz9_0
            try clear hcz9_1
            try clear hcz9_2
            try clear hcz9_3
            try clear hcz9_4
            try clear hcz9_5
            try clear hcz9_6
            try clear hcz9_7
            try clear hfz12_0
            try clear hfz12_1
            try clear hfz12_2
            try clear hfz12_3
            try clear hfz12_4
            try clear hfz12_5
            try clear hfz12_6
            try clear hfz12_7
            try clear hfz14_0
            try clear hfz14_1
            try clear hfz14_2
            try clear hfz14_3
            try clear hfz14_4
            try clear hfz14_5
            try clear hfz14_6
            try clear hfz14_7
            try clear hfz18_0
            try clear hfz18_1
            try clear hfz18_2
            try clear hfz18_3
            try clear hfz18_4
            try clear hfz18_5
            try clear hfz18_6
            try clear hfz18_7
            try clear hfz9_0
            try clear hfz9_1
            try clear hfz9_2
            try clear hfz9_3
            try clear hfz9_4
            try clear hfz9_5
            try clear hfz9_6
            try clear hfz9_7
            try clear p2
            obtain ⟨x8_2, x9_2, x10_2, rfl, rfl, rfl, HA, HK2, BK228, HB⟩ := hrel
            cases gk with
            | zero => exact absurd HA.out (by simp [breadlinelaw04_TreeLeaf.l0])
            | succ k2 =>
              have H := HA.out
              clear HA
              simp only [breadlinelaw04_TreeLeaf.l0] at H
              by_cases c19 : x10_2 < (l0_6.length : Int)
              · rw [if_pos c19] at H
                have c19b0 : decide (x10_2 < (l0_6.length : Int)) = true := decide_eq_true c19
                clear c19
                replace H := Option.bind_eq_some_iff.mp H
                obtain ⟨t235, A200, H⟩ := H
                replace H : (if t235 = true then (if x8_2 = true then (if x9_2 = true then (breadlinelaw04_TreeLeaf.l0 k2 t229 (l0_6.length : Int) (Int.tmod (wrap64 (a1)) (l0_6.length : Int)) true (x10_2 == (Int.tmod (wrap64 (a1)) (l0_6.length : Int))) (wrap64 (x10_2 + 1)) a0_0 a0_1 a0_2 a0_3 a0_4 a0_5 l0_6 l0_7) else (breadlinelaw04_TreeLeaf.l0 k2 t229 (l0_6.length : Int) (Int.tmod (wrap64 (a1)) (l0_6.length : Int)) true false (wrap64 (x10_2 + 1)) a0_0 a0_1 a0_2 a0_3 a0_4 a0_5 l0_6 l0_7)) else ((tree_Leaf.f k2 a0_0 a0_1 a0_2 a0_3 a0_4 a0_5 l0_6 l0_7 x10_2).bind fun t236 => (if x9_2 = true then (breadlinelaw04_TreeLeaf.l0 k2 t229 (l0_6.length : Int) (Int.tmod (wrap64 (a1)) (l0_6.length : Int)) t236 (x10_2 == (Int.tmod (wrap64 (a1)) (l0_6.length : Int))) (wrap64 (x10_2 + 1)) a0_0 a0_1 a0_2 a0_3 a0_4 a0_5 l0_6 l0_7) else (breadlinelaw04_TreeLeaf.l0 k2 t229 (l0_6.length : Int) (Int.tmod (wrap64 (a1)) (l0_6.length : Int)) t236 false (wrap64 (x10_2 + 1)) a0_0 a0_1 a0_2 a0_3 a0_4 a0_5 l0_6 l0_7)))) else (breadlinelaw04_TreeLeaf.l0 k2 t229 (l0_6.length : Int) (Int.tmod (wrap64 (a1)) (l0_6.length : Int)) x8_2 x9_2 (wrap64 (x10_2 + 1)) a0_0 a0_1 a0_2 a0_3 a0_4 a0_5 l0_6 l0_7)) = some r := H
                have A20 := Aside0.mk A200
                clear A200
                by_cases c21 : t235 = true
                · subst c21
                  have H1 : (if x8_2 = true then (if x9_2 = true then (breadlinelaw04_TreeLeaf.l0 k2 t229 (l0_6.length : Int) (Int.tmod (wrap64 (a1)) (l0_6.length : Int)) true (x10_2 == (Int.tmod (wrap64 (a1)) (l0_6.length : Int))) (wrap64 (x10_2 + 1)) a0_0 a0_1 a0_2 a0_3 a0_4 a0_5 l0_6 l0_7) else (breadlinelaw04_TreeLeaf.l0 k2 t229 (l0_6.length : Int) (Int.tmod (wrap64 (a1)) (l0_6.length : Int)) true false (wrap64 (x10_2 + 1)) a0_0 a0_1 a0_2 a0_3 a0_4 a0_5 l0_6 l0_7)) else ((tree_Leaf.f k2 a0_0 a0_1 a0_2 a0_3 a0_4 a0_5 l0_6 l0_7 x10_2).bind fun t236 => (if x9_2 = true then (breadlinelaw04_TreeLeaf.l0 k2 t229 (l0_6.length : Int) (Int.tmod (wrap64 (a1)) (l0_6.length : Int)) t236 (x10_2 == (Int.tmod (wrap64 (a1)) (l0_6.length : Int))) (wrap64 (x10_2 + 1)) a0_0 a0_1 a0_2 a0_3 a0_4 a0_5 l0_6 l0_7) else (breadlinelaw04_TreeLeaf.l0 k2 t229 (l0_6.length : Int) (Int.tmod (wrap64 (a1)) (l0_6.length : Int)) t236 false (wrap64 (x10_2 + 1)) a0_0 a0_1 a0_2 a0_3 a0_4 a0_5 l0_6 l0_7)))) = some r := by rw [if_pos rfl] at H; exact H
                  clear H
                  have H := H1
                  clear H1
                  by_cases c22 : x8_2 = true
                  · subst c22
                    have H1 : (if x9_2 = true then (breadlinelaw04_TreeLeaf.l0 k2 t229 (l0_6.length : Int) (Int.tmod (wrap64 (a1)) (l0_6.length : Int)) true (x10_2 == (Int.tmod (wrap64 (a1)) (l0_6.length : Int))) (wrap64 (x10_2 + 1)) a0_0 a0_1 a0_2 a0_3 a0_4 a0_5 l0_6 l0_7) else (breadlinelaw04_TreeLeaf.l0 k2 t229 (l0_6.length : Int) (Int.tmod (wrap64 (a1)) (l0_6.length : Int)) true false (wrap64 (x10_2 + 1)) a0_0 a0_1 a0_2 a0_3 a0_4 a0_5 l0_6 l0_7)) = some r := by rw [if_pos rfl] at H; exact H
                    clear H
                    have H := H1
                    clear H1
                    by_cases c23 : x9_2 = true
                    · subst c23
                      have H1 : (breadlinelaw04_TreeLeaf.l0 k2 t229 (l0_6.length : Int) (Int.tmod (wrap64 (a1)) (l0_6.length : Int)) true (x10_2 == (Int.tmod (wrap64 (a1)) (l0_6.length : Int))) (wrap64 (x10_2 + 1)) a0_0 a0_1 a0_2 a0_3 a0_4 a0_5 l0_6 l0_7) = some r := by rw [if_pos rfl] at H; exact H
                      clear H
                      have H := H1
                      clear H1
                      have H' := Aside0.mk H
                      clear H
                      have hcz24_0 : wr.cell? ⟨gb228, 0, none⟩ = some (.int .i64 a0_0) := (blk_cell BK228.out 0).trans rfl
                      have hcz24_1 : wr.cell? ⟨gb228, 1, none⟩ = some (.int .i64 a0_1) := (blk_cell BK228.out 1).trans rfl
                      have hcz24_2 : wr.cell? ⟨gb228, 2, none⟩ = some (.int .i64 a0_2) := (blk_cell BK228.out 2).trans rfl
                      have hcz24_3 : wr.cell? ⟨gb228, 3, none⟩ = some (.int .i64 a0_3) := (blk_cell BK228.out 3).trans rfl
                      have hcz24_4 : wr.cell? ⟨gb228, 4, none⟩ = some (.int .i64 a0_4) := (blk_cell BK228.out 4).trans rfl
                      have hcz24_5 : wr.cell? ⟨gb228, 5, none⟩ = some (.int .i64 a0_5) := (blk_cell BK228.out 5).trans rfl
                      have hcz24_6 : wr.cell? ⟨gb228, 6, none⟩ = some (.slice A0_6 l0_6.length c0_6) := (blk_cell BK228.out 6).trans rfl
                      have hcz24_7 : wr.cell? ⟨gb228, 7, none⟩ = some (.slice A0_7 l0_7.length c0_7) := (blk_cell BK228.out 7).trans rfl
                      have hfz24_0 := blk_frozen BK228.out 0
                      have hfz24_1 := blk_frozen BK228.out 1
                      have hfz24_2 := blk_frozen BK228.out 2
                      have hfz24_3 := blk_frozen BK228.out 3
                      have hfz24_4 := blk_frozen BK228.out 4
                      have hfz24_5 := blk_frozen BK228.out 5
                      have hfz24_6 := blk_frozen BK228.out 6
                      have hfz24_7 := blk_frozen BK228.out 7
                      go_wp2_with (first | ((with_reducible refine gate_callee (f := 18) rfl ?_); refine goesL_ (some 35) rfl rfl Try.func18 (by kernel_rfl) rfl #[.agg #[.int .i64 a0_0, .int .i64 a0_1, .int .i64 a0_2, .int .i64 a0_3, .int .i64 a0_4, .int .i64 a0_5, .slice A0_6 l0_6.length c0_6, .slice A0_7 l0_7.length c0_7], .int .i64 x10_2, .int .i64 (Int.tmod (wrap64 (a1)) (l0_6.length : Int))] rfl (by (try simp only [List.map_toArray, List.map_cons, List.map_nil]); first | done | rfl | (simp only [List.length_drop, List.length_take]; rfl)) ?_; (with_reducible refine (tree_Under.calls a0_0 a0_1 a0_2 a0_3 a0_4 a0_5 _ _ l0_6 _ _ l0_7 x10_2 (Int.tmod (wrap64 (a1)) (l0_6.length : Int)) true _ ?side1 ?side2 ?side3 ?side4 A20.out).mono ?_); (case side1 => repeat (first | exact (Kd.C_below HR0_6.out HB.out) | (with_reducible refine Kd.C_alloc ?_ _) | (with_reducible refine Kd.C_drewN ?_ _) | (with_reducible refine Kd.C_drew ?_))); (case side2 => exact HC0_6.out); (case side3 => repeat (first | exact (Kd.C_below HR0_7.out HB.out) | (with_reducible refine Kd.C_alloc ?_ _) | (with_reducible refine Kd.C_drewN ?_ _) | (with_reducible refine Kd.C_drew ?_))); (case side4 => exact HC0_7.out); rintro e w25 ⟨rfl, hb⟩; refine ⟨_, rfl, ?_⟩; have n0_ := Aside0.mk (blk_below (g := gb228) (o := .cells #[.int .i64 a0_0, .int .i64 a0_1, .int .i64 a0_2, .int .i64 a0_3, .int .i64 a0_4, .int .i64 a0_5, .slice A0_6 l0_6.length c0_6, .slice A0_7 l0_7.length c0_7] 24 (0, 0)) (by (with_reducible repeat (first | refine blk_drewN ?_ _ | refine blk_drew ?_ | refine blk_alloc ?_ _)); exact BK228.out) hb); have n1_ := Aside0.mk (below_step (by repeat (first | (with_reducible first | exact HB.out | apply below_alloc | apply pw_below_drewN | apply below_drew1 | refine below_set ?_ GE228.out) | exact HB.out)) hb); clear BK228; clear HB; have BK228 := n0_; have HB := n1_; clear n0_ n1_; (try clear hb); (try clear hb2); (try clear hk); (try clear hi)))
                      go_roundg k2
                      case measure => have := HJ3.out; have := HK2.out; omega
                      case rel => exact ⟨(true), ((x10_2 == (Int.tmod (wrap64 (a1)) (l0_6.length : Int)))), (wrap64 (x10_2 + 1)), (by first | rfl | (simp; done) | (simp [*]; done)), (by first | rfl | (simp; done) | (simp [*]; done)), (by first | rfl | (simp; done) | (simp [*]; done)), H', ⟨by have := HJ3.out; have := HK2.out; omega⟩, ⟨by (with_reducible repeat (first | refine blk_drewN ?_ _ | refine blk_drew ?_ | refine blk_alloc ?_ _)); exact BK228.out⟩, ⟨by repeat (first | (with_reducible first | exact HB.out | apply below_alloc | apply pw_below_drewN | apply below_drew1 | refine below_set ?_ GE228.out) | exact HB.out)⟩⟩
                    · replace c23 := Bool.eq_false_iff.mpr c23
                      subst c23
                      have H1 : (breadlinelaw04_TreeLeaf.l0 k2 t229 (l0_6.length : Int) (Int.tmod (wrap64 (a1)) (l0_6.length : Int)) true false (wrap64 (x10_2 + 1)) a0_0 a0_1 a0_2 a0_3 a0_4 a0_5 l0_6 l0_7) = some r := by rw [if_neg (show ¬ (false = true) by decide)] at H; exact H
                      clear H
                      have H := H1
                      clear H1
                      have H' := Aside0.mk H
                      clear H
                      have hcz26_0 : wr.cell? ⟨gb228, 0, none⟩ = some (.int .i64 a0_0) := (blk_cell BK228.out 0).trans rfl
                      have hcz26_1 : wr.cell? ⟨gb228, 1, none⟩ = some (.int .i64 a0_1) := (blk_cell BK228.out 1).trans rfl
                      have hcz26_2 : wr.cell? ⟨gb228, 2, none⟩ = some (.int .i64 a0_2) := (blk_cell BK228.out 2).trans rfl
                      have hcz26_3 : wr.cell? ⟨gb228, 3, none⟩ = some (.int .i64 a0_3) := (blk_cell BK228.out 3).trans rfl
                      have hcz26_4 : wr.cell? ⟨gb228, 4, none⟩ = some (.int .i64 a0_4) := (blk_cell BK228.out 4).trans rfl
                      have hcz26_5 : wr.cell? ⟨gb228, 5, none⟩ = some (.int .i64 a0_5) := (blk_cell BK228.out 5).trans rfl
                      have hcz26_6 : wr.cell? ⟨gb228, 6, none⟩ = some (.slice A0_6 l0_6.length c0_6) := (blk_cell BK228.out 6).trans rfl
                      have hcz26_7 : wr.cell? ⟨gb228, 7, none⟩ = some (.slice A0_7 l0_7.length c0_7) := (blk_cell BK228.out 7).trans rfl
                      have hfz26_0 := blk_frozen BK228.out 0
                      have hfz26_1 := blk_frozen BK228.out 1
                      have hfz26_2 := blk_frozen BK228.out 2
                      have hfz26_3 := blk_frozen BK228.out 3
                      have hfz26_4 := blk_frozen BK228.out 4
                      have hfz26_5 := blk_frozen BK228.out 5
                      have hfz26_6 := blk_frozen BK228.out 6
                      have hfz26_7 := blk_frozen BK228.out 7
                      go_wp2_with (first | ((with_reducible refine gate_callee (f := 18) rfl ?_); refine goesL_ (some 35) rfl rfl Try.func18 (by kernel_rfl) rfl #[.agg #[.int .i64 a0_0, .int .i64 a0_1, .int .i64 a0_2, .int .i64 a0_3, .int .i64 a0_4, .int .i64 a0_5, .slice A0_6 l0_6.length c0_6, .slice A0_7 l0_7.length c0_7], .int .i64 x10_2, .int .i64 (Int.tmod (wrap64 (a1)) (l0_6.length : Int))] rfl (by (try simp only [List.map_toArray, List.map_cons, List.map_nil]); first | done | rfl | (simp only [List.length_drop, List.length_take]; rfl)) ?_; (with_reducible refine (tree_Under.calls a0_0 a0_1 a0_2 a0_3 a0_4 a0_5 _ _ l0_6 _ _ l0_7 x10_2 (Int.tmod (wrap64 (a1)) (l0_6.length : Int)) true _ ?side1 ?side2 ?side3 ?side4 A20.out).mono ?_); (case side1 => repeat (first | exact (Kd.C_below HR0_6.out HB.out) | (with_reducible refine Kd.C_alloc ?_ _) | (with_reducible refine Kd.C_drewN ?_ _) | (with_reducible refine Kd.C_drew ?_))); (case side2 => exact HC0_6.out); (case side3 => repeat (first | exact (Kd.C_below HR0_7.out HB.out) | (with_reducible refine Kd.C_alloc ?_ _) | (with_reducible refine Kd.C_drewN ?_ _) | (with_reducible refine Kd.C_drew ?_))); (case side4 => exact HC0_7.out); rintro e w27 ⟨rfl, hb⟩; refine ⟨_, rfl, ?_⟩; have n0_ := Aside0.mk (blk_below (g := gb228) (o := .cells #[.int .i64 a0_0, .int .i64 a0_1, .int .i64 a0_2, .int .i64 a0_3, .int .i64 a0_4, .int .i64 a0_5, .slice A0_6 l0_6.length c0_6, .slice A0_7 l0_7.length c0_7] 24 (0, 0)) (by (with_reducible repeat (first | refine blk_drewN ?_ _ | refine blk_drew ?_ | refine blk_alloc ?_ _)); exact BK228.out) hb); have n1_ := Aside0.mk (below_step (by repeat (first | (with_reducible first | exact HB.out | apply below_alloc | apply pw_below_drewN | apply below_drew1 | refine below_set ?_ GE228.out) | exact HB.out)) hb); clear BK228; clear HB; have BK228 := n0_; have HB := n1_; clear n0_ n1_; (try clear hb); (try clear hb2); (try clear hk); (try clear hi)))
                      go_roundg k2
                      case measure => have := HJ3.out; have := HK2.out; omega
                      case rel => exact ⟨(true), (false), (wrap64 (x10_2 + 1)), (by first | rfl | (simp; done) | (simp [*]; done)), (by first | rfl | (simp; done) | (simp [*]; done)), (by first | rfl | (simp; done) | (simp [*]; done)), H', ⟨by have := HJ3.out; have := HK2.out; omega⟩, ⟨by (with_reducible repeat (first | refine blk_drewN ?_ _ | refine blk_drew ?_ | refine blk_alloc ?_ _)); exact BK228.out⟩, ⟨by repeat (first | (with_reducible first | exact HB.out | apply below_alloc | apply pw_below_drewN | apply below_drew1 | refine below_set ?_ GE228.out) | exact HB.out)⟩⟩
                  · replace c22 := Bool.eq_false_iff.mpr c22
                    subst c22
                    have H1 : ((tree_Leaf.f k2 a0_0 a0_1 a0_2 a0_3 a0_4 a0_5 l0_6 l0_7 x10_2).bind fun t236 => (if x9_2 = true then (breadlinelaw04_TreeLeaf.l0 k2 t229 (l0_6.length : Int) (Int.tmod (wrap64 (a1)) (l0_6.length : Int)) t236 (x10_2 == (Int.tmod (wrap64 (a1)) (l0_6.length : Int))) (wrap64 (x10_2 + 1)) a0_0 a0_1 a0_2 a0_3 a0_4 a0_5 l0_6 l0_7) else (breadlinelaw04_TreeLeaf.l0 k2 t229 (l0_6.length : Int) (Int.tmod (wrap64 (a1)) (l0_6.length : Int)) t236 false (wrap64 (x10_2 + 1)) a0_0 a0_1 a0_2 a0_3 a0_4 a0_5 l0_6 l0_7))) = some r := by rw [if_neg (show ¬ (false = true) by decide)] at H; exact H
                    clear H
                    have H := H1
                    clear H1
                    replace H := Option.bind_eq_some_iff.mp H
                    obtain ⟨t236, A280, H⟩ := H
                    replace H : (if x9_2 = true then (breadlinelaw04_TreeLeaf.l0 k2 t229 (l0_6.length : Int) (Int.tmod (wrap64 (a1)) (l0_6.length : Int)) t236 (x10_2 == (Int.tmod (wrap64 (a1)) (l0_6.length : Int))) (wrap64 (x10_2 + 1)) a0_0 a0_1 a0_2 a0_3 a0_4 a0_5 l0_6 l0_7) else (breadlinelaw04_TreeLeaf.l0 k2 t229 (l0_6.length : Int) (Int.tmod (wrap64 (a1)) (l0_6.length : Int)) t236 false (wrap64 (x10_2 + 1)) a0_0 a0_1 a0_2 a0_3 a0_4 a0_5 l0_6 l0_7)) = some r := H
                    have A28 := Aside0.mk A280
                    clear A280
                    by_cases c29 : x9_2 = true
                    · subst c29
                      have H1 : (breadlinelaw04_TreeLeaf.l0 k2 t229 (l0_6.length : Int) (Int.tmod (wrap64 (a1)) (l0_6.length : Int)) t236 (x10_2 == (Int.tmod (wrap64 (a1)) (l0_6.length : Int))) (wrap64 (x10_2 + 1)) a0_0 a0_1 a0_2 a0_3 a0_4 a0_5 l0_6 l0_7) = some r := by rw [if_pos rfl] at H; exact H
                      clear H
                      have H := H1
                      clear H1
                      have H' := Aside0.mk H
                      clear H
                      have hcz30_0 : wr.cell? ⟨gb228, 0, none⟩ = some (.int .i64 a0_0) := (blk_cell BK228.out 0).trans rfl
                      have hcz30_1 : wr.cell? ⟨gb228, 1, none⟩ = some (.int .i64 a0_1) := (blk_cell BK228.out 1).trans rfl
                      have hcz30_2 : wr.cell? ⟨gb228, 2, none⟩ = some (.int .i64 a0_2) := (blk_cell BK228.out 2).trans rfl
                      have hcz30_3 : wr.cell? ⟨gb228, 3, none⟩ = some (.int .i64 a0_3) := (blk_cell BK228.out 3).trans rfl
                      have hcz30_4 : wr.cell? ⟨gb228, 4, none⟩ = some (.int .i64 a0_4) := (blk_cell BK228.out 4).trans rfl
                      have hcz30_5 : wr.cell? ⟨gb228, 5, none⟩ = some (.int .i64 a0_5) := (blk_cell BK228.out 5).trans rfl
                      have hcz30_6 : wr.cell? ⟨gb228, 6, none⟩ = some (.slice A0_6 l0_6.length c0_6) := (blk_cell BK228.out 6).trans rfl
                      have hcz30_7 : wr.cell? ⟨gb228, 7, none⟩ = some (.slice A0_7 l0_7.length c0_7) := (blk_cell BK228.out 7).trans rfl
                      have hfz30_0 := blk_frozen BK228.out 0
                      have hfz30_1 := blk_frozen BK228.out 1
                      have hfz30_2 := blk_frozen BK228.out 2
                      have hfz30_3 := blk_frozen BK228.out 3
                      have hfz30_4 := blk_frozen BK228.out 4
                      have hfz30_5 := blk_frozen BK228.out 5
                      have hfz30_6 := blk_frozen BK228.out 6
                      have hfz30_7 := blk_frozen BK228.out 7
                      go_wp2_with (first | ((with_reducible refine gate_callee (f := 18) rfl ?_); refine goesL_ (some 35) rfl rfl Try.func18 (by kernel_rfl) rfl #[.agg #[.int .i64 a0_0, .int .i64 a0_1, .int .i64 a0_2, .int .i64 a0_3, .int .i64 a0_4, .int .i64 a0_5, .slice A0_6 l0_6.length c0_6, .slice A0_7 l0_7.length c0_7], .int .i64 x10_2, .int .i64 (Int.tmod (wrap64 (a1)) (l0_6.length : Int))] rfl (by (try simp only [List.map_toArray, List.map_cons, List.map_nil]); first | done | rfl | (simp only [List.length_drop, List.length_take]; rfl)) ?_; (with_reducible refine (tree_Under.calls a0_0 a0_1 a0_2 a0_3 a0_4 a0_5 _ _ l0_6 _ _ l0_7 x10_2 (Int.tmod (wrap64 (a1)) (l0_6.length : Int)) true _ ?side1 ?side2 ?side3 ?side4 A20.out).mono ?_); (case side1 => repeat (first | exact (Kd.C_below HR0_6.out HB.out) | (with_reducible refine Kd.C_alloc ?_ _) | (with_reducible refine Kd.C_drewN ?_ _) | (with_reducible refine Kd.C_drew ?_))); (case side2 => exact HC0_6.out); (case side3 => repeat (first | exact (Kd.C_below HR0_7.out HB.out) | (with_reducible refine Kd.C_alloc ?_ _) | (with_reducible refine Kd.C_drewN ?_ _) | (with_reducible refine Kd.C_drew ?_))); (case side4 => exact HC0_7.out); rintro e w31 ⟨rfl, hb⟩; refine ⟨_, rfl, ?_⟩; have n0_ := Aside0.mk (blk_below (g := gb228) (o := .cells #[.int .i64 a0_0, .int .i64 a0_1, .int .i64 a0_2, .int .i64 a0_3, .int .i64 a0_4, .int .i64 a0_5, .slice A0_6 l0_6.length c0_6, .slice A0_7 l0_7.length c0_7] 24 (0, 0)) (by (with_reducible repeat (first | refine blk_drewN ?_ _ | refine blk_drew ?_ | refine blk_alloc ?_ _)); exact BK228.out) hb); have n1_ := Aside0.mk (below_step (by repeat (first | (with_reducible first | exact HB.out | apply below_alloc | apply pw_below_drewN | apply below_drew1 | refine below_set ?_ GE228.out) | exact HB.out)) hb); clear BK228; clear HB; have BK228 := n0_; have HB := n1_; clear n0_ n1_; (try clear hb); (try clear hb2); (try clear hk); (try clear hi); have hcz32_0 : w31.cell? ⟨gb228, 0, none⟩ = some (.int .i64 a0_0) := (blk_cell BK228.out 0).trans rfl; have hcz32_1 : w31.cell? ⟨gb228, 1, none⟩ = some (.int .i64 a0_1) := (blk_cell BK228.out 1).trans rfl; have hcz32_2 : w31.cell? ⟨gb228, 2, none⟩ = some (.int .i64 a0_2) := (blk_cell BK228.out 2).trans rfl; have hcz32_3 : w31.cell? ⟨gb228, 3, none⟩ = some (.int .i64 a0_3) := (blk_cell BK228.out 3).trans rfl; have hcz32_4 : w31.cell? ⟨gb228, 4, none⟩ = some (.int .i64 a0_4) := (blk_cell BK228.out 4).trans rfl; have hcz32_5 : w31.cell? ⟨gb228, 5, none⟩ = some (.int .i64 a0_5) := (blk_cell BK228.out 5).trans rfl; have hcz32_6 : w31.cell? ⟨gb228, 6, none⟩ = some (.slice A0_6 l0_6.length c0_6) := (blk_cell BK228.out 6).trans rfl; have hcz32_7 : w31.cell? ⟨gb228, 7, none⟩ = some (.slice A0_7 l0_7.length c0_7) := (blk_cell BK228.out 7).trans rfl; have hfz32_0 := blk_frozen BK228.out 0; have hfz32_1 := blk_frozen BK228.out 1; have hfz32_2 := blk_frozen BK228.out 2; have hfz32_3 := blk_frozen BK228.out 3; have hfz32_4 := blk_frozen BK228.out 4; have hfz32_5 := blk_frozen BK228.out 5; have hfz32_6 := blk_frozen BK228.out 6; have hfz32_7 := blk_frozen BK228.out 7) | (go_at_call 20; (with_reducible refine (tree_Leaf.calls k2 a0_0 a0_1 a0_2 a0_3 a0_4 a0_5 _ _ l0_6 _ _ l0_7 x10_2 t236 _ ?side1 ?side2 ?side3 ?side4 A28.out).mono ?_); (case side1 => repeat (first | exact (Kd.C_below HR0_6.out HB.out) | (with_reducible refine Kd.C_alloc ?_ _) | (with_reducible refine Kd.C_drewN ?_ _) | (with_reducible refine Kd.C_drew ?_))); (case side2 => exact HC0_6.out); (case side3 => repeat (first | exact (Kd.C_below HR0_7.out HB.out) | (with_reducible refine Kd.C_alloc ?_ _) | (with_reducible refine Kd.C_drewN ?_ _) | (with_reducible refine Kd.C_drew ?_))); (case side4 => exact HC0_7.out); rintro e w33 ⟨rfl, hb⟩; have n0_ := Aside0.mk (blk_below (g := gb228) (o := .cells #[.int .i64 a0_0, .int .i64 a0_1, .int .i64 a0_2, .int .i64 a0_3, .int .i64 a0_4, .int .i64 a0_5, .slice A0_6 l0_6.length c0_6, .slice A0_7 l0_7.length c0_7] 24 (0, 0)) (by (with_reducible repeat (first | refine blk_drewN ?_ _ | refine blk_drew ?_ | refine blk_alloc ?_ _)); exact BK228.out) hb); have n1_ := Aside0.mk (below_step (by repeat (first | (with_reducible first | exact HB.out | apply below_alloc | apply pw_below_drewN | apply below_drew1 | refine below_set ?_ GE228.out) | exact HB.out)) hb); clear BK228; clear HB; have BK228 := n0_; have HB := n1_; clear n0_ n1_; (try clear hb); (try clear hb2); (try clear hk); (try clear hi)))
                      go_roundg k2
                      case measure => have := HJ3.out; have := HK2.out; omega
                      case rel => exact ⟨(t236), ((x10_2 == (Int.tmod (wrap64 (a1)) (l0_6.length : Int)))), (wrap64 (x10_2 + 1)), (by first | rfl | (simp; done) | (simp [*]; done)), (by first | rfl | (simp; done) | (simp [*]; done)), (by first | rfl | (simp; done) | (simp [*]; done)), H', ⟨by have := HJ3.out; have := HK2.out; omega⟩, ⟨by (with_reducible repeat (first | refine blk_drewN ?_ _ | refine blk_drew ?_ | refine blk_alloc ?_ _)); exact BK228.out⟩, ⟨by repeat (first | (with_reducible first | exact HB.out | apply below_alloc | apply pw_below_drewN | apply below_drew1 | refine below_set ?_ GE228.out) | exact HB.out)⟩⟩
                    · replace c29 := Bool.eq_false_iff.mpr c29
                      subst c29
                      have H1 : (breadlinelaw04_TreeLeaf.l0 k2 t229 (l0_6.length : Int) (Int.tmod (wrap64 (a1)) (l0_6.length : Int)) t236 false (wrap64 (x10_2 + 1)) a0_0 a0_1 a0_2 a0_3 a0_4 a0_5 l0_6 l0_7) = some r := by rw [if_neg (show ¬ (false = true) by decide)] at H; exact H
                      clear H
                      have H := H1
                      clear H1
                      have H' := Aside0.mk H
                      clear H
                      have hcz34_0 : wr.cell? ⟨gb228, 0, none⟩ = some (.int .i64 a0_0) := (blk_cell BK228.out 0).trans rfl
                      have hcz34_1 : wr.cell? ⟨gb228, 1, none⟩ = some (.int .i64 a0_1) := (blk_cell BK228.out 1).trans rfl
                      have hcz34_2 : wr.cell? ⟨gb228, 2, none⟩ = some (.int .i64 a0_2) := (blk_cell BK228.out 2).trans rfl
                      have hcz34_3 : wr.cell? ⟨gb228, 3, none⟩ = some (.int .i64 a0_3) := (blk_cell BK228.out 3).trans rfl
                      have hcz34_4 : wr.cell? ⟨gb228, 4, none⟩ = some (.int .i64 a0_4) := (blk_cell BK228.out 4).trans rfl
                      have hcz34_5 : wr.cell? ⟨gb228, 5, none⟩ = some (.int .i64 a0_5) := (blk_cell BK228.out 5).trans rfl
                      have hcz34_6 : wr.cell? ⟨gb228, 6, none⟩ = some (.slice A0_6 l0_6.length c0_6) := (blk_cell BK228.out 6).trans rfl
                      have hcz34_7 : wr.cell? ⟨gb228, 7, none⟩ = some (.slice A0_7 l0_7.length c0_7) := (blk_cell BK228.out 7).trans rfl
                      have hfz34_0 := blk_frozen BK228.out 0
                      have hfz34_1 := blk_frozen BK228.out 1
                      have hfz34_2 := blk_frozen BK228.out 2
                      have hfz34_3 := blk_frozen BK228.out 3
                      have hfz34_4 := blk_frozen BK228.out 4
                      have hfz34_5 := blk_frozen BK228.out 5
                      have hfz34_6 := blk_frozen BK228.out 6
                      have hfz34_7 := blk_frozen BK228.out 7
                      go_wp2_with (first | ((with_reducible refine gate_callee (f := 18) rfl ?_); refine goesL_ (some 35) rfl rfl Try.func18 (by kernel_rfl) rfl #[.agg #[.int .i64 a0_0, .int .i64 a0_1, .int .i64 a0_2, .int .i64 a0_3, .int .i64 a0_4, .int .i64 a0_5, .slice A0_6 l0_6.length c0_6, .slice A0_7 l0_7.length c0_7], .int .i64 x10_2, .int .i64 (Int.tmod (wrap64 (a1)) (l0_6.length : Int))] rfl (by (try simp only [List.map_toArray, List.map_cons, List.map_nil]); first | done | rfl | (simp only [List.length_drop, List.length_take]; rfl)) ?_; (with_reducible refine (tree_Under.calls a0_0 a0_1 a0_2 a0_3 a0_4 a0_5 _ _ l0_6 _ _ l0_7 x10_2 (Int.tmod (wrap64 (a1)) (l0_6.length : Int)) true _ ?side1 ?side2 ?side3 ?side4 A20.out).mono ?_); (case side1 => repeat (first | exact (Kd.C_below HR0_6.out HB.out) | (with_reducible refine Kd.C_alloc ?_ _) | (with_reducible refine Kd.C_drewN ?_ _) | (with_reducible refine Kd.C_drew ?_))); (case side2 => exact HC0_6.out); (case side3 => repeat (first | exact (Kd.C_below HR0_7.out HB.out) | (with_reducible refine Kd.C_alloc ?_ _) | (with_reducible refine Kd.C_drewN ?_ _) | (with_reducible refine Kd.C_drew ?_))); (case side4 => exact HC0_7.out); rintro e w35 ⟨rfl, hb⟩; refine ⟨_, rfl, ?_⟩; have n0_ := Aside0.mk (blk_below (g := gb228) (o := .cells #[.int .i64 a0_0, .int .i64 a0_1, .int .i64 a0_2, .int .i64 a0_3, .int .i64 a0_4, .int .i64 a0_5, .slice A0_6 l0_6.length c0_6, .slice A0_7 l0_7.length c0_7] 24 (0, 0)) (by (with_reducible repeat (first | refine blk_drewN ?_ _ | refine blk_drew ?_ | refine blk_alloc ?_ _)); exact BK228.out) hb); have n1_ := Aside0.mk (below_step (by repeat (first | (with_reducible first | exact HB.out | apply below_alloc | apply pw_below_drewN | apply below_drew1 | refine below_set ?_ GE228.out) | exact HB.out)) hb); clear BK228; clear HB; have BK228 := n0_; have HB := n1_; clear n0_ n1_; (try clear hb); (try clear hb2); (try clear hk); (try clear hi); have hcz36_0 : w35.cell? ⟨gb228, 0, none⟩ = some (.int .i64 a0_0) := (blk_cell BK228.out 0).trans rfl; have hcz36_1 : w35.cell? ⟨gb228, 1, none⟩ = some (.int .i64 a0_1) := (blk_cell BK228.out 1).trans rfl; have hcz36_2 : w35.cell? ⟨gb228, 2, none⟩ = some (.int .i64 a0_2) := (blk_cell BK228.out 2).trans rfl; have hcz36_3 : w35.cell? ⟨gb228, 3, none⟩ = some (.int .i64 a0_3) := (blk_cell BK228.out 3).trans rfl; have hcz36_4 : w35.cell? ⟨gb228, 4, none⟩ = some (.int .i64 a0_4) := (blk_cell BK228.out 4).trans rfl; have hcz36_5 : w35.cell? ⟨gb228, 5, none⟩ = some (.int .i64 a0_5) := (blk_cell BK228.out 5).trans rfl; have hcz36_6 : w35.cell? ⟨gb228, 6, none⟩ = some (.slice A0_6 l0_6.length c0_6) := (blk_cell BK228.out 6).trans rfl; have hcz36_7 : w35.cell? ⟨gb228, 7, none⟩ = some (.slice A0_7 l0_7.length c0_7) := (blk_cell BK228.out 7).trans rfl; have hfz36_0 := blk_frozen BK228.out 0; have hfz36_1 := blk_frozen BK228.out 1; have hfz36_2 := blk_frozen BK228.out 2; have hfz36_3 := blk_frozen BK228.out 3; have hfz36_4 := blk_frozen BK228.out 4; have hfz36_5 := blk_frozen BK228.out 5; have hfz36_6 := blk_frozen BK228.out 6; have hfz36_7 := blk_frozen BK228.out 7) | (go_at_call 20; (with_reducible refine (tree_Leaf.calls k2 a0_0 a0_1 a0_2 a0_3 a0_4 a0_5 _ _ l0_6 _ _ l0_7 x10_2 t236 _ ?side1 ?side2 ?side3 ?side4 A28.out).mono ?_); (case side1 => repeat (first | exact (Kd.C_below HR0_6.out HB.out) | (with_reducible refine Kd.C_alloc ?_ _) | (with_reducible refine Kd.C_drewN ?_ _) | (with_reducible refine Kd.C_drew ?_))); (case side2 => exact HC0_6.out); (case side3 => repeat (first | exact (Kd.C_below HR0_7.out HB.out) | (with_reducible refine Kd.C_alloc ?_ _) | (with_reducible refine Kd.C_drewN ?_ _) | (with_reducible refine Kd.C_drew ?_))); (case side4 => exact HC0_7.out); rintro e w37 ⟨rfl, hb⟩; have n0_ := Aside0.mk (blk_below (g := gb228) (o := .cells #[.int .i64 a0_0, .int .i64 a0_1, .int .i64 a0_2, .int .i64 a0_3, .int .i64 a0_4, .int .i64 a0_5, .slice A0_6 l0_6.length c0_6, .slice A0_7 l0_7.length c0_7] 24 (0, 0)) (by (with_reducible repeat (first | refine blk_drewN ?_ _ | refine blk_drew ?_ | refine blk_alloc ?_ _)); exact BK228.out) hb); have n1_ := Aside0.mk (below_step (by repeat (first | (with_reducible first | exact HB.out | apply below_alloc | apply pw_below_drewN | apply below_drew1 | refine below_set ?_ GE228.out) | exact HB.out)) hb); clear BK228; clear HB; have BK228 := n0_; have HB := n1_; clear n0_ n1_; (try clear hb); (try clear hb2); (try clear hk); (try clear hi)))
                      go_roundg k2
                      case measure => have := HJ3.out; have := HK2.out; omega
                      case rel => exact ⟨(t236), (false), (wrap64 (x10_2 + 1)), (by first | rfl | (simp; done) | (simp [*]; done)), (by first | rfl | (simp; done) | (simp [*]; done)), (by first | rfl | (simp; done) | (simp [*]; done)), H', ⟨by have := HJ3.out; have := HK2.out; omega⟩, ⟨by (with_reducible repeat (first | refine blk_drewN ?_ _ | refine blk_drew ?_ | refine blk_alloc ?_ _)); exact BK228.out⟩, ⟨by repeat (first | (with_reducible first | exact HB.out | apply below_alloc | apply pw_below_drewN | apply below_drew1 | refine below_set ?_ GE228.out) | exact HB.out)⟩⟩
                · replace c21 := Bool.eq_false_iff.mpr c21
                  subst c21
                  have H1 : (breadlinelaw04_TreeLeaf.l0 k2 t229 (l0_6.length : Int) (Int.tmod (wrap64 (a1)) (l0_6.length : Int)) x8_2 x9_2 (wrap64 (x10_2 + 1)) a0_0 a0_1 a0_2 a0_3 a0_4 a0_5 l0_6 l0_7) = some r := by rw [if_neg (show ¬ (false = true) by decide)] at H; exact H
                  clear H
                  have H := H1
                  clear H1
                  have H' := Aside0.mk H
                  clear H
                  have hcz38_0 : wr.cell? ⟨gb228, 0, none⟩ = some (.int .i64 a0_0) := (blk_cell BK228.out 0).trans rfl
                  have hcz38_1 : wr.cell? ⟨gb228, 1, none⟩ = some (.int .i64 a0_1) := (blk_cell BK228.out 1).trans rfl
                  have hcz38_2 : wr.cell? ⟨gb228, 2, none⟩ = some (.int .i64 a0_2) := (blk_cell BK228.out 2).trans rfl
                  have hcz38_3 : wr.cell? ⟨gb228, 3, none⟩ = some (.int .i64 a0_3) := (blk_cell BK228.out 3).trans rfl
                  have hcz38_4 : wr.cell? ⟨gb228, 4, none⟩ = some (.int .i64 a0_4) := (blk_cell BK228.out 4).trans rfl
                  have hcz38_5 : wr.cell? ⟨gb228, 5, none⟩ = some (.int .i64 a0_5) := (blk_cell BK228.out 5).trans rfl
                  have hcz38_6 : wr.cell? ⟨gb228, 6, none⟩ = some (.slice A0_6 l0_6.length c0_6) := (blk_cell BK228.out 6).trans rfl
                  have hcz38_7 : wr.cell? ⟨gb228, 7, none⟩ = some (.slice A0_7 l0_7.length c0_7) := (blk_cell BK228.out 7).trans rfl
                  have hfz38_0 := blk_frozen BK228.out 0
                  have hfz38_1 := blk_frozen BK228.out 1
                  have hfz38_2 := blk_frozen BK228.out 2
                  have hfz38_3 := blk_frozen BK228.out 3
                  have hfz38_4 := blk_frozen BK228.out 4
                  have hfz38_5 := blk_frozen BK228.out 5
                  have hfz38_6 := blk_frozen BK228.out 6
                  have hfz38_7 := blk_frozen BK228.out 7
                  go_wp2_with (first | ((with_reducible refine gate_callee (f := 18) rfl ?_); refine goesL_ (some 35) rfl rfl Try.func18 (by kernel_rfl) rfl #[.agg #[.int .i64 a0_0, .int .i64 a0_1, .int .i64 a0_2, .int .i64 a0_3, .int .i64 a0_4, .int .i64 a0_5, .slice A0_6 l0_6.length c0_6, .slice A0_7 l0_7.length c0_7], .int .i64 x10_2, .int .i64 (Int.tmod (wrap64 (a1)) (l0_6.length : Int))] rfl (by (try simp only [List.map_toArray, List.map_cons, List.map_nil]); first | done | rfl | (simp only [List.length_drop, List.length_take]; rfl)) ?_; (with_reducible refine (tree_Under.calls a0_0 a0_1 a0_2 a0_3 a0_4 a0_5 _ _ l0_6 _ _ l0_7 x10_2 (Int.tmod (wrap64 (a1)) (l0_6.length : Int)) false _ ?side1 ?side2 ?side3 ?side4 A20.out).mono ?_); (case side1 => repeat (first | exact (Kd.C_below HR0_6.out HB.out) | (with_reducible refine Kd.C_alloc ?_ _) | (with_reducible refine Kd.C_drewN ?_ _) | (with_reducible refine Kd.C_drew ?_))); (case side2 => exact HC0_6.out); (case side3 => repeat (first | exact (Kd.C_below HR0_7.out HB.out) | (with_reducible refine Kd.C_alloc ?_ _) | (with_reducible refine Kd.C_drewN ?_ _) | (with_reducible refine Kd.C_drew ?_))); (case side4 => exact HC0_7.out); rintro e w39 ⟨rfl, hb⟩; refine ⟨_, rfl, ?_⟩; have n0_ := Aside0.mk (blk_below (g := gb228) (o := .cells #[.int .i64 a0_0, .int .i64 a0_1, .int .i64 a0_2, .int .i64 a0_3, .int .i64 a0_4, .int .i64 a0_5, .slice A0_6 l0_6.length c0_6, .slice A0_7 l0_7.length c0_7] 24 (0, 0)) (by (with_reducible repeat (first | refine blk_drewN ?_ _ | refine blk_drew ?_ | refine blk_alloc ?_ _)); exact BK228.out) hb); have n1_ := Aside0.mk (below_step (by repeat (first | (with_reducible first | exact HB.out | apply below_alloc | apply pw_below_drewN | apply below_drew1 | refine below_set ?_ GE228.out) | exact HB.out)) hb); clear BK228; clear HB; have BK228 := n0_; have HB := n1_; clear n0_ n1_; (try clear hb); (try clear hb2); (try clear hk); (try clear hi)))
                  go_roundg k2
                  case measure => have := HJ3.out; have := HK2.out; omega
                  case rel => exact ⟨(x8_2), (x9_2), (wrap64 (x10_2 + 1)), (by first | rfl | (simp; done) | (simp [*]; done)), (by first | rfl | (simp; done) | (simp [*]; done)), (by first | rfl | (simp; done) | (simp [*]; done)), H', ⟨by have := HJ3.out; have := HK2.out; omega⟩, ⟨by (with_reducible repeat (first | refine blk_drewN ?_ _ | refine blk_drew ?_ | refine blk_alloc ?_ _)); exact BK228.out⟩, ⟨by repeat (first | (with_reducible first | exact HB.out | apply below_alloc | apply pw_below_drewN | apply below_drew1 | refine below_set ?_ GE228.out) | exact HB.out)⟩⟩
              · rw [if_neg c19] at H
                have c19b0 : decide (x10_2 < (l0_6.length : Int)) = false := decide_eq_false c19
                clear c19
                by_cases c40 : t229 = true
                · subst c40
                  have H1 : (if x8_2 = true then ((tree_Leaf.f k2 a0_0 a0_1 a0_2 a0_3 a0_4 a0_5 l0_6 l0_7 (Int.tmod (wrap64 (a1)) (l0_6.length : Int))).bind fun t232 => (if (t232 == x9_2) = true then ((tree_Leaf.f k2 a0_0 a0_1 a0_2 a0_3 a0_4 a0_5 l0_6 l0_7 (wrap64 ((l0_6.length : Int) - 1))).bind fun t233 => (if t233 = true then ((tree_Leaf.f k2 a0_0 a0_1 a0_2 a0_3 a0_4 a0_5 l0_6 l0_7 (l0_6.length : Int)).bind fun t234 => (some (!t234))) else (some false))) else (some false))) else (some false)) = some r := by rw [if_pos rfl] at H; exact H
                  clear H
                  have H := H1
                  clear H1
                  by_cases c41 : x8_2 = true
                  · subst c41
                    have H1 : ((tree_Leaf.f k2 a0_0 a0_1 a0_2 a0_3 a0_4 a0_5 l0_6 l0_7 (Int.tmod (wrap64 (a1)) (l0_6.length : Int))).bind fun t232 => (if (t232 == x9_2) = true then ((tree_Leaf.f k2 a0_0 a0_1 a0_2 a0_3 a0_4 a0_5 l0_6 l0_7 (wrap64 ((l0_6.length : Int) - 1))).bind fun t233 => (if t233 = true then ((tree_Leaf.f k2 a0_0 a0_1 a0_2 a0_3 a0_4 a0_5 l0_6 l0_7 (l0_6.length : Int)).bind fun t234 => (some (!t234))) else (some false))) else (some false))) = some r := by rw [if_pos rfl] at H; exact H
                    clear H
                    have H := H1
                    clear H1
                    replace H := Option.bind_eq_some_iff.mp H
                    obtain ⟨t232, A420, H⟩ := H
                    replace H : (if (t232 == x9_2) = true then ((tree_Leaf.f k2 a0_0 a0_1 a0_2 a0_3 a0_4 a0_5 l0_6 l0_7 (wrap64 ((l0_6.length : Int) - 1))).bind fun t233 => (if t233 = true then ((tree_Leaf.f k2 a0_0 a0_1 a0_2 a0_3 a0_4 a0_5 l0_6 l0_7 (l0_6.length : Int)).bind fun t234 => (some (!t234))) else (some false))) else (some false)) = some r := H
                    have A42 := Aside0.mk A420
                    clear A420
                    by_cases c43 : (t232 == x9_2) = true
                    · rw [if_pos c43] at H
                      have c43b0 : (t232 == x9_2) = true := c43
                      (try (have c43b1 : decide (t232 = x9_2) = true := by simpa using c43))
                      (try (have c43b2 : (t232 == x9_2) = true := by simpa using c43))
                      clear c43
                      replace H := Option.bind_eq_some_iff.mp H
                      obtain ⟨t233, A440, H⟩ := H
                      replace H : (if t233 = true then ((tree_Leaf.f k2 a0_0 a0_1 a0_2 a0_3 a0_4 a0_5 l0_6 l0_7 (l0_6.length : Int)).bind fun t234 => (some (!t234))) else (some false)) = some r := H
                      have A44 := Aside0.mk A440
                      clear A440
                      by_cases c45 : t233 = true
                      · subst c45
                        have H1 : ((tree_Leaf.f k2 a0_0 a0_1 a0_2 a0_3 a0_4 a0_5 l0_6 l0_7 (l0_6.length : Int)).bind fun t234 => (some (!t234))) = some r := by rw [if_pos rfl] at H; exact H
                        clear H
                        have H := H1
                        clear H1
                        replace H := Option.bind_eq_some_iff.mp H
                        obtain ⟨t234, A460, H⟩ := H
                        replace H : (some (!t234)) = some r := H
                        have A46 := Aside0.mk A460
                        clear A460
                        obtain rfl := Option.some.inj H
                        have hcz47_0 : wr.cell? ⟨gb228, 0, none⟩ = some (.int .i64 a0_0) := (blk_cell BK228.out 0).trans rfl
                        have hcz47_1 : wr.cell? ⟨gb228, 1, none⟩ = some (.int .i64 a0_1) := (blk_cell BK228.out 1).trans rfl
                        have hcz47_2 : wr.cell? ⟨gb228, 2, none⟩ = some (.int .i64 a0_2) := (blk_cell BK228.out 2).trans rfl
                        have hcz47_3 : wr.cell? ⟨gb228, 3, none⟩ = some (.int .i64 a0_3) := (blk_cell BK228.out 3).trans rfl
                        have hcz47_4 : wr.cell? ⟨gb228, 4, none⟩ = some (.int .i64 a0_4) := (blk_cell BK228.out 4).trans rfl
                        have hcz47_5 : wr.cell? ⟨gb228, 5, none⟩ = some (.int .i64 a0_5) := (blk_cell BK228.out 5).trans rfl
                        have hcz47_6 : wr.cell? ⟨gb228, 6, none⟩ = some (.slice A0_6 l0_6.length c0_6) := (blk_cell BK228.out 6).trans rfl
                        have hcz47_7 : wr.cell? ⟨gb228, 7, none⟩ = some (.slice A0_7 l0_7.length c0_7) := (blk_cell BK228.out 7).trans rfl
                        have hfz47_0 := blk_frozen BK228.out 0
                        have hfz47_1 := blk_frozen BK228.out 1
                        have hfz47_2 := blk_frozen BK228.out 2
                        have hfz47_3 := blk_frozen BK228.out 3
                        have hfz47_4 := blk_frozen BK228.out 4
                        have hfz47_5 := blk_frozen BK228.out 5
                        have hfz47_6 := blk_frozen BK228.out 6
                        have hfz47_7 := blk_frozen BK228.out 7
                        go_wp2_with (first | (go_at_call 20; (with_reducible refine (tree_Leaf.calls k2 a0_0 a0_1 a0_2 a0_3 a0_4 a0_5 _ _ l0_6 _ _ l0_7 (Int.tmod (wrap64 (a1)) (l0_6.length : Int)) t232 _ ?side1 ?side2 ?side3 ?side4 A42.out).mono ?_); (case side1 => repeat (first | exact (Kd.C_below HR0_6.out HB.out) | (with_reducible refine Kd.C_alloc ?_ _) | (with_reducible refine Kd.C_drewN ?_ _) | (with_reducible refine Kd.C_drew ?_))); (case side2 => exact HC0_6.out); (case side3 => repeat (first | exact (Kd.C_below HR0_7.out HB.out) | (with_reducible refine Kd.C_alloc ?_ _) | (with_reducible refine Kd.C_drewN ?_ _) | (with_reducible refine Kd.C_drew ?_))); (case side4 => exact HC0_7.out); rintro e w48 ⟨rfl, hb⟩; have n0_ := Aside0.mk (blk_below (g := gb228) (o := .cells #[.int .i64 a0_0, .int .i64 a0_1, .int .i64 a0_2, .int .i64 a0_3, .int .i64 a0_4, .int .i64 a0_5, .slice A0_6 l0_6.length c0_6, .slice A0_7 l0_7.length c0_7] 24 (0, 0)) (by (with_reducible repeat (first | refine blk_drewN ?_ _ | refine blk_drew ?_ | refine blk_alloc ?_ _)); exact BK228.out) hb); have n1_ := Aside0.mk (below_step (by repeat (first | (with_reducible first | exact HB.out | apply below_alloc | apply pw_below_drewN | apply below_drew1 | refine below_set ?_ GE228.out) | exact HB.out)) hb); clear BK228; clear HB; have BK228 := n0_; have HB := n1_; clear n0_ n1_; (try clear hb); (try clear hb2); (try clear hk); (try clear hi); have hcz49_0 : w48.cell? ⟨gb228, 0, none⟩ = some (.int .i64 a0_0) := (blk_cell BK228.out 0).trans rfl; have hcz49_1 : w48.cell? ⟨gb228, 1, none⟩ = some (.int .i64 a0_1) := (blk_cell BK228.out 1).trans rfl; have hcz49_2 : w48.cell? ⟨gb228, 2, none⟩ = some (.int .i64 a0_2) := (blk_cell BK228.out 2).trans rfl; have hcz49_3 : w48.cell? ⟨gb228, 3, none⟩ = some (.int .i64 a0_3) := (blk_cell BK228.out 3).trans rfl; have hcz49_4 : w48.cell? ⟨gb228, 4, none⟩ = some (.int .i64 a0_4) := (blk_cell BK228.out 4).trans rfl; have hcz49_5 : w48.cell? ⟨gb228, 5, none⟩ = some (.int .i64 a0_5) := (blk_cell BK228.out 5).trans rfl; have hcz49_6 : w48.cell? ⟨gb228, 6, none⟩ = some (.slice A0_6 l0_6.length c0_6) := (blk_cell BK228.out 6).trans rfl; have hcz49_7 : w48.cell? ⟨gb228, 7, none⟩ = some (.slice A0_7 l0_7.length c0_7) := (blk_cell BK228.out 7).trans rfl; have hfz49_0 := blk_frozen BK228.out 0; have hfz49_1 := blk_frozen BK228.out 1; have hfz49_2 := blk_frozen BK228.out 2; have hfz49_3 := blk_frozen BK228.out 3; have hfz49_4 := blk_frozen BK228.out 4; have hfz49_5 := blk_frozen BK228.out 5; have hfz49_6 := blk_frozen BK228.out 6; have hfz49_7 := blk_frozen BK228.out 7) | (go_at_call 20; (with_reducible refine (tree_Leaf.calls k2 a0_0 a0_1 a0_2 a0_3 a0_4 a0_5 _ _ l0_6 _ _ l0_7 (wrap64 ((l0_6.length : Int) - 1)) true _ ?side1 ?side2 ?side3 ?side4 A44.out).mono ?_); (case side1 => repeat (first | exact (Kd.C_below HR0_6.out HB.out) | (with_reducible refine Kd.C_alloc ?_ _) | (with_reducible refine Kd.C_drewN ?_ _) | (with_reducible refine Kd.C_drew ?_))); (case side2 => exact HC0_6.out); (case side3 => repeat (first | exact (Kd.C_below HR0_7.out HB.out) | (with_reducible refine Kd.C_alloc ?_ _) | (with_reducible refine Kd.C_drewN ?_ _) | (with_reducible refine Kd.C_drew ?_))); (case side4 => exact HC0_7.out); rintro e w50 ⟨rfl, hb⟩; have n0_ := Aside0.mk (blk_below (g := gb228) (o := .cells #[.int .i64 a0_0, .int .i64 a0_1, .int .i64 a0_2, .int .i64 a0_3, .int .i64 a0_4, .int .i64 a0_5, .slice A0_6 l0_6.length c0_6, .slice A0_7 l0_7.length c0_7] 24 (0, 0)) (by (with_reducible repeat (first | refine blk_drewN ?_ _ | refine blk_drew ?_ | refine blk_alloc ?_ _)); exact BK228.out) hb); have n1_ := Aside0.mk (below_step (by repeat (first | (with_reducible first | exact HB.out | apply below_alloc | apply pw_below_drewN | apply below_drew1 | refine below_set ?_ GE228.out) | exact HB.out)) hb); clear BK228; clear HB; have BK228 := n0_; have HB := n1_; clear n0_ n1_; (try clear hb); (try clear hb2); (try clear hk); (try clear hi); have hcz51_0 : w50.cell? ⟨gb228, 0, none⟩ = some (.int .i64 a0_0) := (blk_cell BK228.out 0).trans rfl; have hcz51_1 : w50.cell? ⟨gb228, 1, none⟩ = some (.int .i64 a0_1) := (blk_cell BK228.out 1).trans rfl; have hcz51_2 : w50.cell? ⟨gb228, 2, none⟩ = some (.int .i64 a0_2) := (blk_cell BK228.out 2).trans rfl; have hcz51_3 : w50.cell? ⟨gb228, 3, none⟩ = some (.int .i64 a0_3) := (blk_cell BK228.out 3).trans rfl; have hcz51_4 : w50.cell? ⟨gb228, 4, none⟩ = some (.int .i64 a0_4) := (blk_cell BK228.out 4).trans rfl; have hcz51_5 : w50.cell? ⟨gb228, 5, none⟩ = some (.int .i64 a0_5) := (blk_cell BK228.out 5).trans rfl; have hcz51_6 : w50.cell? ⟨gb228, 6, none⟩ = some (.slice A0_6 l0_6.length c0_6) := (blk_cell BK228.out 6).trans rfl; have hcz51_7 : w50.cell? ⟨gb228, 7, none⟩ = some (.slice A0_7 l0_7.length c0_7) := (blk_cell BK228.out 7).trans rfl; have hfz51_0 := blk_frozen BK228.out 0; have hfz51_1 := blk_frozen BK228.out 1; have hfz51_2 := blk_frozen BK228.out 2; have hfz51_3 := blk_frozen BK228.out 3; have hfz51_4 := blk_frozen BK228.out 4; have hfz51_5 := blk_frozen BK228.out 5; have hfz51_6 := blk_frozen BK228.out 6; have hfz51_7 := blk_frozen BK228.out 7) | (go_at_call 20; (with_reducible refine (tree_Leaf.calls k2 a0_0 a0_1 a0_2 a0_3 a0_4 a0_5 _ _ l0_6 _ _ l0_7 (l0_6.length : Int) t234 _ ?side1 ?side2 ?side3 ?side4 A46.out).mono ?_); (case side1 => repeat (first | exact (Kd.C_below HR0_6.out HB.out) | (with_reducible refine Kd.C_alloc ?_ _) | (with_reducible refine Kd.C_drewN ?_ _) | (with_reducible refine Kd.C_drew ?_))); (case side2 => exact HC0_6.out); (case side3 => repeat (first | exact (Kd.C_below HR0_7.out HB.out) | (with_reducible refine Kd.C_alloc ?_ _) | (with_reducible refine Kd.C_drewN ?_ _) | (with_reducible refine Kd.C_drew ?_))); (case side4 => exact HC0_7.out); rintro e w52 ⟨rfl, hb⟩; have n0_ := Aside0.mk (blk_below (g := gb228) (o := .cells #[.int .i64 a0_0, .int .i64 a0_1, .int .i64 a0_2, .int .i64 a0_3, .int .i64 a0_4, .int .i64 a0_5, .slice A0_6 l0_6.length c0_6, .slice A0_7 l0_7.length c0_7] 24 (0, 0)) (by (with_reducible repeat (first | refine blk_drewN ?_ _ | refine blk_drew ?_ | refine blk_alloc ?_ _)); exact BK228.out) hb); have n1_ := Aside0.mk (below_step (by repeat (first | (with_reducible first | exact HB.out | apply below_alloc | apply pw_below_drewN | apply below_drew1 | refine below_set ?_ GE228.out) | exact HB.out)) hb); clear BK228; clear HB; have BK228 := n0_; have HB := n1_; clear n0_ n1_; (try clear hb); (try clear hb2); (try clear hk); (try clear hi)))
                        go_ret
                        exact ⟨by first | rfl | (simp [errW_none, errW_some] <;> rfl) | (simp [*, errW_none, errW_some] <;> rfl), by repeat (first | (with_reducible first | exact HB.out | apply below_alloc | apply pw_below_drewN | apply below_drew1 | refine below_set ?_ GE228.out) | exact HB.out)⟩
                      · replace c45 := Bool.eq_false_iff.mpr c45
                        subst c45
                        have H1 : (some false) = some r := by rw [if_neg (show ¬ (false = true) by decide)] at H; exact H
                        clear H
                        have H := H1
                        clear H1
                        obtain rfl := Option.some.inj H
                        have hcz53_0 : wr.cell? ⟨gb228, 0, none⟩ = some (.int .i64 a0_0) := (blk_cell BK228.out 0).trans rfl
                        have hcz53_1 : wr.cell? ⟨gb228, 1, none⟩ = some (.int .i64 a0_1) := (blk_cell BK228.out 1).trans rfl
                        have hcz53_2 : wr.cell? ⟨gb228, 2, none⟩ = some (.int .i64 a0_2) := (blk_cell BK228.out 2).trans rfl
                        have hcz53_3 : wr.cell? ⟨gb228, 3, none⟩ = some (.int .i64 a0_3) := (blk_cell BK228.out 3).trans rfl
                        have hcz53_4 : wr.cell? ⟨gb228, 4, none⟩ = some (.int .i64 a0_4) := (blk_cell BK228.out 4).trans rfl
                        have hcz53_5 : wr.cell? ⟨gb228, 5, none⟩ = some (.int .i64 a0_5) := (blk_cell BK228.out 5).trans rfl
                        have hcz53_6 : wr.cell? ⟨gb228, 6, none⟩ = some (.slice A0_6 l0_6.length c0_6) := (blk_cell BK228.out 6).trans rfl
                        have hcz53_7 : wr.cell? ⟨gb228, 7, none⟩ = some (.slice A0_7 l0_7.length c0_7) := (blk_cell BK228.out 7).trans rfl
                        have hfz53_0 := blk_frozen BK228.out 0
                        have hfz53_1 := blk_frozen BK228.out 1
                        have hfz53_2 := blk_frozen BK228.out 2
                        have hfz53_3 := blk_frozen BK228.out 3
                        have hfz53_4 := blk_frozen BK228.out 4
                        have hfz53_5 := blk_frozen BK228.out 5
                        have hfz53_6 := blk_frozen BK228.out 6
                        have hfz53_7 := blk_frozen BK228.out 7
                        go_wp2_with (first | (go_at_call 20; (with_reducible refine (tree_Leaf.calls k2 a0_0 a0_1 a0_2 a0_3 a0_4 a0_5 _ _ l0_6 _ _ l0_7 (Int.tmod (wrap64 (a1)) (l0_6.length : Int)) t232 _ ?side1 ?side2 ?side3 ?side4 A42.out).mono ?_); (case side1 => repeat (first | exact (Kd.C_below HR0_6.out HB.out) | (with_reducible refine Kd.C_alloc ?_ _) | (with_reducible refine Kd.C_drewN ?_ _) | (with_reducible refine Kd.C_drew ?_))); (case side2 => exact HC0_6.out); (case side3 => repeat (first | exact (Kd.C_below HR0_7.out HB.out) | (with_reducible refine Kd.C_alloc ?_ _) | (with_reducible refine Kd.C_drewN ?_ _) | (with_reducible refine Kd.C_drew ?_))); (case side4 => exact HC0_7.out); rintro e w54 ⟨rfl, hb⟩; have n0_ := Aside0.mk (blk_below (g := gb228) (o := .cells #[.int .i64 a0_0, .int .i64 a0_1, .int .i64 a0_2, .int .i64 a0_3, .int .i64 a0_4, .int .i64 a0_5, .slice A0_6 l0_6.length c0_6, .slice A0_7 l0_7.length c0_7] 24 (0, 0)) (by (with_reducible repeat (first | refine blk_drewN ?_ _ | refine blk_drew ?_ | refine blk_alloc ?_ _)); exact BK228.out) hb); have n1_ := Aside0.mk (below_step (by repeat (first | (with_reducible first | exact HB.out | apply below_alloc | apply pw_below_drewN | apply below_drew1 | refine below_set ?_ GE228.out) | exact HB.out)) hb); clear BK228; clear HB; have BK228 := n0_; have HB := n1_; clear n0_ n1_; (try clear hb); (try clear hb2); (try clear hk); (try clear hi); have hcz55_0 : w54.cell? ⟨gb228, 0, none⟩ = some (.int .i64 a0_0) := (blk_cell BK228.out 0).trans rfl; have hcz55_1 : w54.cell? ⟨gb228, 1, none⟩ = some (.int .i64 a0_1) := (blk_cell BK228.out 1).trans rfl; have hcz55_2 : w54.cell? ⟨gb228, 2, none⟩ = some (.int .i64 a0_2) := (blk_cell BK228.out 2).trans rfl; have hcz55_3 : w54.cell? ⟨gb228, 3, none⟩ = some (.int .i64 a0_3) := (blk_cell BK228.out 3).trans rfl; have hcz55_4 : w54.cell? ⟨gb228, 4, none⟩ = some (.int .i64 a0_4) := (blk_cell BK228.out 4).trans rfl; have hcz55_5 : w54.cell? ⟨gb228, 5, none⟩ = some (.int .i64 a0_5) := (blk_cell BK228.out 5).trans rfl; have hcz55_6 : w54.cell? ⟨gb228, 6, none⟩ = some (.slice A0_6 l0_6.length c0_6) := (blk_cell BK228.out 6).trans rfl; have hcz55_7 : w54.cell? ⟨gb228, 7, none⟩ = some (.slice A0_7 l0_7.length c0_7) := (blk_cell BK228.out 7).trans rfl; have hfz55_0 := blk_frozen BK228.out 0; have hfz55_1 := blk_frozen BK228.out 1; have hfz55_2 := blk_frozen BK228.out 2; have hfz55_3 := blk_frozen BK228.out 3; have hfz55_4 := blk_frozen BK228.out 4; have hfz55_5 := blk_frozen BK228.out 5; have hfz55_6 := blk_frozen BK228.out 6; have hfz55_7 := blk_frozen BK228.out 7) | (go_at_call 20; (with_reducible refine (tree_Leaf.calls k2 a0_0 a0_1 a0_2 a0_3 a0_4 a0_5 _ _ l0_6 _ _ l0_7 (wrap64 ((l0_6.length : Int) - 1)) false _ ?side1 ?side2 ?side3 ?side4 A44.out).mono ?_); (case side1 => repeat (first | exact (Kd.C_below HR0_6.out HB.out) | (with_reducible refine Kd.C_alloc ?_ _) | (with_reducible refine Kd.C_drewN ?_ _) | (with_reducible refine Kd.C_drew ?_))); (case side2 => exact HC0_6.out); (case side3 => repeat (first | exact (Kd.C_below HR0_7.out HB.out) | (with_reducible refine Kd.C_alloc ?_ _) | (with_reducible refine Kd.C_drewN ?_ _) | (with_reducible refine Kd.C_drew ?_))); (case side4 => exact HC0_7.out); rintro e w56 ⟨rfl, hb⟩; have n0_ := Aside0.mk (blk_below (g := gb228) (o := .cells #[.int .i64 a0_0, .int .i64 a0_1, .int .i64 a0_2, .int .i64 a0_3, .int .i64 a0_4, .int .i64 a0_5, .slice A0_6 l0_6.length c0_6, .slice A0_7 l0_7.length c0_7] 24 (0, 0)) (by (with_reducible repeat (first | refine blk_drewN ?_ _ | refine blk_drew ?_ | refine blk_alloc ?_ _)); exact BK228.out) hb); have n1_ := Aside0.mk (below_step (by repeat (first | (with_reducible first | exact HB.out | apply below_alloc | apply pw_below_drewN | apply below_drew1 | refine below_set ?_ GE228.out) | exact HB.out)) hb); clear BK228; clear HB; have BK228 := n0_; have HB := n1_; clear n0_ n1_; (try clear hb); (try clear hb2); (try clear hk); (try clear hi)))
                        go_ret
                        exact ⟨by first | rfl | (simp [errW_none, errW_some] <;> rfl) | (simp [*, errW_none, errW_some] <;> rfl), by repeat (first | (with_reducible first | exact HB.out | apply below_alloc | apply pw_below_drewN | apply below_drew1 | refine below_set ?_ GE228.out) | exact HB.out)⟩
                    · rw [if_neg c43] at H
                      have c43b0 : (t232 == x9_2) = false := by simpa using c43
                      (try (have c43b1 : decide (t232 = x9_2) = false := by simpa using c43))
                      (try (have c43b2 : (t232 == x9_2) = false := by simpa using c43))
                      (try (have c43b3 : ¬ (t232 = x9_2) := by simpa using c43))
                      clear c43
                      obtain rfl := Option.some.inj H
                      have hcz57_0 : wr.cell? ⟨gb228, 0, none⟩ = some (.int .i64 a0_0) := (blk_cell BK228.out 0).trans rfl
                      have hcz57_1 : wr.cell? ⟨gb228, 1, none⟩ = some (.int .i64 a0_1) := (blk_cell BK228.out 1).trans rfl
                      have hcz57_2 : wr.cell? ⟨gb228, 2, none⟩ = some (.int .i64 a0_2) := (blk_cell BK228.out 2).trans rfl
                      have hcz57_3 : wr.cell? ⟨gb228, 3, none⟩ = some (.int .i64 a0_3) := (blk_cell BK228.out 3).trans rfl
                      have hcz57_4 : wr.cell? ⟨gb228, 4, none⟩ = some (.int .i64 a0_4) := (blk_cell BK228.out 4).trans rfl
                      have hcz57_5 : wr.cell? ⟨gb228, 5, none⟩ = some (.int .i64 a0_5) := (blk_cell BK228.out 5).trans rfl
                      have hcz57_6 : wr.cell? ⟨gb228, 6, none⟩ = some (.slice A0_6 l0_6.length c0_6) := (blk_cell BK228.out 6).trans rfl
                      have hcz57_7 : wr.cell? ⟨gb228, 7, none⟩ = some (.slice A0_7 l0_7.length c0_7) := (blk_cell BK228.out 7).trans rfl
                      have hfz57_0 := blk_frozen BK228.out 0
                      have hfz57_1 := blk_frozen BK228.out 1
                      have hfz57_2 := blk_frozen BK228.out 2
                      have hfz57_3 := blk_frozen BK228.out 3
                      have hfz57_4 := blk_frozen BK228.out 4
                      have hfz57_5 := blk_frozen BK228.out 5
                      have hfz57_6 := blk_frozen BK228.out 6
                      have hfz57_7 := blk_frozen BK228.out 7
                      go_wp2_with (first | (go_at_call 20; (with_reducible refine (tree_Leaf.calls k2 a0_0 a0_1 a0_2 a0_3 a0_4 a0_5 _ _ l0_6 _ _ l0_7 (Int.tmod (wrap64 (a1)) (l0_6.length : Int)) t232 _ ?side1 ?side2 ?side3 ?side4 A42.out).mono ?_); (case side1 => repeat (first | exact (Kd.C_below HR0_6.out HB.out) | (with_reducible refine Kd.C_alloc ?_ _) | (with_reducible refine Kd.C_drewN ?_ _) | (with_reducible refine Kd.C_drew ?_))); (case side2 => exact HC0_6.out); (case side3 => repeat (first | exact (Kd.C_below HR0_7.out HB.out) | (with_reducible refine Kd.C_alloc ?_ _) | (with_reducible refine Kd.C_drewN ?_ _) | (with_reducible refine Kd.C_drew ?_))); (case side4 => exact HC0_7.out); rintro e w58 ⟨rfl, hb⟩; have n0_ := Aside0.mk (blk_below (g := gb228) (o := .cells #[.int .i64 a0_0, .int .i64 a0_1, .int .i64 a0_2, .int .i64 a0_3, .int .i64 a0_4, .int .i64 a0_5, .slice A0_6 l0_6.length c0_6, .slice A0_7 l0_7.length c0_7] 24 (0, 0)) (by (with_reducible repeat (first | refine blk_drewN ?_ _ | refine blk_drew ?_ | refine blk_alloc ?_ _)); exact BK228.out) hb); have n1_ := Aside0.mk (below_step (by repeat (first | (with_reducible first | exact HB.out | apply below_alloc | apply pw_below_drewN | apply below_drew1 | refine below_set ?_ GE228.out) | exact HB.out)) hb); clear BK228; clear HB; have BK228 := n0_; have HB := n1_; clear n0_ n1_; (try clear hb); (try clear hb2); (try clear hk); (try clear hi)))
                      go_ret
                      exact ⟨by first | rfl | (simp [errW_none, errW_some] <;> rfl) | (simp [*, errW_none, errW_some] <;> rfl), by repeat (first | (with_reducible first | exact HB.out | apply below_alloc | apply pw_below_drewN | apply below_drew1 | refine below_set ?_ GE228.out) | exact HB.out)⟩
                  · replace c41 := Bool.eq_false_iff.mpr c41
                    subst c41
                    have H1 : (some false) = some r := by rw [if_neg (show ¬ (false = true) by decide)] at H; exact H
                    clear H
                    have H := H1
                    clear H1
                    obtain rfl := Option.some.inj H
                    go_wp2
                    go_ret
                    exact ⟨by first | rfl | (simp [errW_none, errW_some] <;> rfl) | (simp [*, errW_none, errW_some] <;> rfl), by repeat (first | (with_reducible first | exact HB.out | apply below_alloc | apply pw_below_drewN | apply below_drew1 | refine below_set ?_ GE228.out) | exact HB.out)⟩
                · replace c40 := Bool.eq_false_iff.mpr c40
                  subst c40
                  have H1 : (some false) = some r := by rw [if_neg (show ¬ (false = true) by decide)] at H; exact H
                  clear H
                  have H := H1
                  clear H1
                  obtain rfl := Option.some.inj H
                  go_wp2
                  go_ret
                  exact ⟨by first | rfl | (simp [errW_none, errW_some] <;> rfl) | (simp [*, errW_none, errW_some] <;> rfl), by repeat (first | (with_reducible first | exact HB.out | apply below_alloc | apply pw_below_drewN | apply below_drew1 | refine below_set ?_ GE228.out) | exact HB.out)⟩

-- NOT PRINTED: function 7 (breadlinelaw04_TreeBounds)

-- NOT PRINTED: function 8 (breadlinelaw04_TreeMore)

end Go.Proofs.Ytmkgaihppohkkaa.PT
