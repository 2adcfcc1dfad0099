-- Printed by the session's own driver (wip/tools/drive.py) on the kit's print.py, with hand-proved functions put in. Not trusted: Lean checks it.
import Derived.Test.YtmkgaihppohkkaaPTx0
import Derived.Test.YtmkgaihppohkkaaPTx3
import Derived.Test.YtmkgaihppohkkaaPTx4
import Derived.Test.YtmkgaihppohkkaaPTx5
namespace Go.Proofs.Ytmkgaihppohkkaa.PT
open Go.RowKit Go.Proofs.YtmkgaihppohkkaaW.PrintWords Go.Proofs.YtmkgaihppohkkaaW.PrintLast Go.Proofs.YtmkgaihppohkkaaW.PrintMore
attribute [local go_sem] max2_int min2_int max_two min_two max_three min_three max_four min_four   -- for this text's walks alone
set_option linter.unusedVariables false
set_option linter.unusedSimpArgs false

/-! ### breadlinelaw04_TreePath: function 4 -/
mutual
def breadlinelaw04_TreePath.j0 : Nat → Int → Bool → Bool → Int → Int → Int → Int → Int → Int → List Int → List Int → Option (Bool)
  | 0, _, _, _, _, _, _, _, _, _, _, _ => none
  | k + 1, x1, x5, x16, x195000, x195001, x195002, x195003, x195004, x195005, x195006, x195007 => if x16 = true then (some x5) else (if (x195006.length : Int) = 0 then (none) else ((tree_Path.f x195000 x195001 x195002 x195003 x195004 x195005 x195006 x195007 (Int.tmod (wrap64 (x1)) (x195006.length : Int))).bind fun t198 => (if (t198.length : Int) = 0 then (breadlinelaw04_TreePath.j1 k x5 t198 true x195000 x195001 x195002 x195003 x195004 x195005 x195006 x195007) else (if 0 < (t198.length : Int) then (if (rd t198 0) = (Int.tmod (wrap64 (x1)) (x195006.length : Int)) then (if 0 ≤ (wrap64 ((t198.length : Int) - 1)) then (if (wrap64 ((t198.length : Int) - 1)) < (t198.length : Int) then (if (rd t198 (wrap64 ((t198.length : Int) - 1))) = 0 then ((tree_Depth.f k x195000 x195001 x195002 x195003 x195004 x195005 x195006 x195007).bind fun t203 => (breadlinelaw04_TreePath.j1 k x5 t198 (decide ((t198.length : Int) > t203)) x195000 x195001 x195002 x195003 x195004 x195005 x195006 x195007)) else (breadlinelaw04_TreePath.j1 k x5 t198 true x195000 x195001 x195002 x195003 x195004 x195005 x195006 x195007)) else (none)) else (none)) else (breadlinelaw04_TreePath.j1 k x5 t198 true x195000 x195001 x195002 x195003 x195004 x195005 x195006 x195007)) else (none)))))
def breadlinelaw04_TreePath.j1 : Nat → Bool → List Int → Bool → Int → Int → Int → Int → Int → Int → List Int → List Int → Option (Bool)
  | 0, _, _, _, _, _, _, _, _, _, _, _ => none
  | k + 1, x5, x7, x52, x195000, x195001, x195002, x195003, x195004, x195005, x195006, x195007 => if x52 = true then (some false) else (breadlinelaw04_TreePath.l0 k x5 x7 1 x195000 x195001 x195002 x195003 x195004 x195005 x195006 x195007)
def breadlinelaw04_TreePath.l0 : Nat → Bool → List Int → Int → Int → Int → Int → Int → Int → Int → List Int → List Int → Option (Bool)
  | 0, _, _, _, _, _, _, _, _, _, _, _ => none
  | k + 1, x5, x7, x8, x195000, x195001, x195002, x195003, x195004, x195005, x195006, x195007 => if x8 < (x7.length : Int) then (if 0 ≤ x8 then (if 0 ≤ (wrap64 (x8 - 1)) then (if (wrap64 (x8 - 1)) < (x7.length : Int) then (if (rd x7 x8) ≥ (rd x7 (wrap64 (x8 - 1))) then (some false) else (if (rd x7 x8) < 0 then (some false) else (if (rd x7 (wrap64 (x8 - 1))) ≥ (x195006.length : Int) then (some false) else (if 0 ≤ (rd x7 (wrap64 (x8 - 1))) then (if (rd x7 (wrap64 (x8 - 1))) < (x195006.length : Int) then (if (rd x195006 (rd x7 (wrap64 (x8 - 1)))) = (rd x7 x8) then (breadlinelaw04_TreePath.l0 k x5 x7 (wrap64 (x8 + 1)) x195000 x195001 x195002 x195003 x195004 x195005 x195006 x195007) else (some false)) else (none)) else (none))))) else (none)) else (none)) else (none)) else (some x5)
end
def breadlinelaw04_TreePath.f (k : Nat) (a0_0 : Int) (a0_1 : Int) (a0_2 : Int) (a0_3 : Int) (a0_4 : Int) (a0_5 : Int) (l0_6 : List Int) (l0_7 : List Int) (a1 : Int) : Option (Bool) := (breadlinelaw04_head.f).bind fun t195 => ((breadlinelaw04_Great.f a0_0 a0_1 a0_2 a0_3 a0_4 a0_5 l0_6 l0_7).bind fun t196 => (if t196 = true then (breadlinelaw04_TreePath.j0 k a1 t195 true a0_0 a0_1 a0_2 a0_3 a0_4 a0_5 l0_6 l0_7) else ((breadlineref04_Right.f k a0_0 a0_1 a0_2 a0_3 a0_4 a0_5 l0_6 l0_7).bind fun t197 => (breadlinelaw04_TreePath.j0 k a1 t195 (!t197) a0_0 a0_1 a0_2 a0_3 a0_4 a0_5 l0_6 l0_7))))
theorem breadlinelaw04_TreePath.mono_l : ∀ k, (∀ y0 y1 y2 y3 y4 y5 y6 y7 y8 y9 y10, LeO (breadlinelaw04_TreePath.j0 k y0 y1 y2 y3 y4 y5 y6 y7 y8 y9 y10) (breadlinelaw04_TreePath.j0 (k + 1) y0 y1 y2 y3 y4 y5 y6 y7 y8 y9 y10)) ∧ (∀ y0 y1 y2 y3 y4 y5 y6 y7 y8 y9 y10, LeO (breadlinelaw04_TreePath.j1 k y0 y1 y2 y3 y4 y5 y6 y7 y8 y9 y10) (breadlinelaw04_TreePath.j1 (k + 1) y0 y1 y2 y3 y4 y5 y6 y7 y8 y9 y10)) ∧ (∀ y0 y1 y2 y3 y4 y5 y6 y7 y8 y9 y10, LeO (breadlinelaw04_TreePath.l0 k y0 y1 y2 y3 y4 y5 y6 y7 y8 y9 y10) (breadlinelaw04_TreePath.l0 (k + 1) y0 y1 y2 y3 y4 y5 y6 y7 y8 y9 y10))
  | 0 => ⟨fun _ _ _ _ _ _ _ _ _ _ _ r h => by simp [breadlinelaw04_TreePath.j0] at h, fun _ _ _ _ _ _ _ _ _ _ _ r h => by simp [breadlinelaw04_TreePath.j1] at h, fun _ _ _ _ _ _ _ _ _ _ _ r h => by simp [breadlinelaw04_TreePath.l0] at h⟩
  | k + 1 => by
    obtain ⟨ih0, ih1, ih2⟩ := breadlinelaw04_TreePath.mono_l k
    refine ⟨?_, ?_, ?_⟩
    · intro y0 y1 y2 y3 y4 y5 y6 y7 y8 y9 y10
      unfold breadlinelaw04_TreePath.j0
      repeat' first
      | (with_reducible exact ih0 _ _ _ _ _ _ _ _ _ _ _)
      | (with_reducible exact ih1 _ _ _ _ _ _ _ _ _ _ _)
      | (with_reducible exact ih2 _ _ _ _ _ _ _ _ _ _ _)
      | (with_reducible exact breadlineref04_Right.mono _ _ _ _ _ _ _ _ _)
      | (with_reducible exact tree_Depth.mono _ _ _ _ _ _ _ _ _)
      | (with_reducible exact LeO.refl _)
      | (with_reducible exact LeO.none _)
      | (with_reducible refine LeO.ite ?_ ?_)
      | (with_reducible refine LeO.bind ?_ (fun _ => ?_))
      | exact ih0 _ _ _ _ _ _ _ _ _ _ _
      | exact ih1 _ _ _ _ _ _ _ _ _ _ _
      | exact ih2 _ _ _ _ _ _ _ _ _ _ _
      | exact breadlineref04_Right.mono _ _ _ _ _ _ _ _ _
      | exact tree_Depth.mono _ _ _ _ _ _ _ _ _
      | exact LeO.none _
      | refine LeO.ite ?_ ?_
      | refine LeO.bind ?_ (fun _ => ?_)
    · intro y0 y1 y2 y3 y4 y5 y6 y7 y8 y9 y10
      unfold breadlinelaw04_TreePath.j1
      repeat' first
      | (with_reducible exact ih0 _ _ _ _ _ _ _ _ _ _ _)
      | (with_reducible exact ih1 _ _ _ _ _ _ _ _ _ _ _)
      | (with_reducible exact ih2 _ _ _ _ _ _ _ _ _ _ _)
      | (with_reducible exact breadlineref04_Right.mono _ _ _ _ _ _ _ _ _)
      | (with_reducible exact tree_Depth.mono _ _ _ _ _ _ _ _ _)
      | (with_reducible exact LeO.refl _)
      | (with_reducible exact LeO.none _)
      | (with_reducible refine LeO.ite ?_ ?_)
      | (with_reducible refine LeO.bind ?_ (fun _ => ?_))
      | exact ih0 _ _ _ _ _ _ _ _ _ _ _
      | exact ih1 _ _ _ _ _ _ _ _ _ _ _
      | exact ih2 _ _ _ _ _ _ _ _ _ _ _
      | exact breadlineref04_Right.mono _ _ _ _ _ _ _ _ _
      | exact tree_Depth.mono _ _ _ _ _ _ _ _ _
      | exact LeO.none _
      | refine LeO.ite ?_ ?_
      | refine LeO.bind ?_ (fun _ => ?_)
    · intro y0 y1 y2 y3 y4 y5 y6 y7 y8 y9 y10
      unfold breadlinelaw04_TreePath.l0
      repeat' first
      | (with_reducible exact ih0 _ _ _ _ _ _ _ _ _ _ _)
      | (with_reducible exact ih1 _ _ _ _ _ _ _ _ _ _ _)
      | (with_reducible exact ih2 _ _ _ _ _ _ _ _ _ _ _)
      | (with_reducible exact breadlineref04_Right.mono _ _ _ _ _ _ _ _ _)
      | (with_reducible exact tree_Depth.mono _ _ _ _ _ _ _ _ _)
      | (with_reducible exact LeO.refl _)
      | (with_reducible exact LeO.none _)
      | (with_reducible refine LeO.ite ?_ ?_)
      | (with_reducible refine LeO.bind ?_ (fun _ => ?_))
      | exact ih0 _ _ _ _ _ _ _ _ _ _ _
      | exact ih1 _ _ _ _ _ _ _ _ _ _ _
      | exact ih2 _ _ _ _ _ _ _ _ _ _ _
      | exact breadlineref04_Right.mono _ _ _ _ _ _ _ _ _
      | exact tree_Depth.mono _ _ _ _ _ _ _ _ _
      | exact LeO.none _
      | refine LeO.ite ?_ ?_
      | refine LeO.bind ?_ (fun _ => ?_)
theorem breadlinelaw04_TreePath.mono : ∀ a0 a1 a2 a3 a4 a5 a6 a7 a8 k, LeO (breadlinelaw04_TreePath.f k a0 a1 a2 a3 a4 a5 a6 a7 a8) (breadlinelaw04_TreePath.f (k + 1) a0 a1 a2 a3 a4 a5 a6 a7 a8) := by
  intro a0 a1 a2 a3 a4 a5 a6 a7 a8 k
  obtain ⟨ih0, ih1, ih2⟩ := breadlinelaw04_TreePath.mono_l k
  unfold breadlinelaw04_TreePath.f
  repeat' first
      | (with_reducible exact ih0 _ _ _ _ _ _ _ _ _ _ _)
      | (with_reducible exact ih1 _ _ _ _ _ _ _ _ _ _ _)
      | (with_reducible exact ih2 _ _ _ _ _ _ _ _ _ _ _)
      | (with_reducible exact breadlineref04_Right.mono _ _ _ _ _ _ _ _ _)
      | (with_reducible exact tree_Depth.mono _ _ _ _ _ _ _ _ _)
      | (with_reducible exact LeO.refl _)
      | (with_reducible exact LeO.none _)
      | (with_reducible refine LeO.ite ?_ ?_)
      | (with_reducible refine LeO.bind ?_ (fun _ => ?_))
      | exact ih0 _ _ _ _ _ _ _ _ _ _ _
      | exact ih1 _ _ _ _ _ _ _ _ _ _ _
      | exact ih2 _ _ _ _ _ _ _ _ _ _ _
      | exact breadlineref04_Right.mono _ _ _ _ _ _ _ _ _
      | exact tree_Depth.mono _ _ _ _ _ _ _ _ _
      | exact LeO.none _
      | refine LeO.ite ?_ ?_
      | refine LeO.bind ?_ (fun _ => ?_)
set_option maxHeartbeats 8000000 in
set_option maxRecDepth 100000 in
theorem breadlinelaw04_TreePath.calls (k : Nat) (a0_0 : Int) (a0_1 : Int) (a0_2 : Int) (a0_3 : Int) (a0_4 : Int) (a0_5 : Int) (A0_6 : Option Addr) (c0_6 : Nat) (l0_6 : List Int) (A0_7 : Option Addr) (c0_7 : Nat) (l0_7 : List Int) (a1 : Int) (r : Bool) (w : World) (hr0_6 : Kd.C (Kd.int .i64) w A0_6 l0_6.length l0_6) (hc0_6 : l0_6.length ≤ c0_6) (hr0_7 : Kd.C (Kd.int .i64) w A0_7 l0_7.length l0_7) (hc0_7 : l0_7.length ≤ c0_7) (h : breadlinelaw04_TreePath.f k a0_0 a0_1 a0_2 a0_3 a0_4 a0_5 l0_6 l0_7 a1 = some r) :
    Calls Try.prog 4 #[.agg #[.int .i64 a0_0, .int .i64 a0_1, .int .i64 a0_2, .int .i64 a0_3, .int .i64 a0_4, .int .i64 a0_5, .slice A0_6 l0_6.length c0_6, .slice A0_7 l0_7.length c0_7], .int .u8 a1] w fun e w' => e = .returned (.bool r) ∧ Below w.heap.size w w' := by
  have hu24 := Try.underlying24
  have HR0_6 := Aside0.mk hr0_6
  have HC0_6 := Aside0.mk hc0_6
  clear hr0_6 hc0_6
  have HR0_7 := Aside0.mk hr0_7
  have HC0_7 := Aside0.mk hc0_7
  clear hr0_7 hc0_7
  have HB := Aside0.mk (Below.refl w.heap.size w)
  have H : ((breadlinelaw04_head.f).bind fun t195 => ((breadlinelaw04_Great.f a0_0 a0_1 a0_2 a0_3 a0_4 a0_5 l0_6 l0_7).bind fun t196 => (if t196 = true then (breadlinelaw04_TreePath.j0 k a1 t195 true a0_0 a0_1 a0_2 a0_3 a0_4 a0_5 l0_6 l0_7) else ((breadlineref04_Right.f k a0_0 a0_1 a0_2 a0_3 a0_4 a0_5 l0_6 l0_7).bind fun t197 => (breadlinelaw04_TreePath.j0 k a1 t195 (!t197) a0_0 a0_1 a0_2 a0_3 a0_4 a0_5 l0_6 l0_7))))) = some r := h
  clear h
  replace H := Option.bind_eq_some_iff.mp H
  obtain ⟨t195, A30, H⟩ := H
  replace H : ((breadlinelaw04_Great.f a0_0 a0_1 a0_2 a0_3 a0_4 a0_5 l0_6 l0_7).bind fun t196 => (if t196 = true then (breadlinelaw04_TreePath.j0 k a1 t195 true a0_0 a0_1 a0_2 a0_3 a0_4 a0_5 l0_6 l0_7) else ((breadlineref04_Right.f k a0_0 a0_1 a0_2 a0_3 a0_4 a0_5 l0_6 l0_7).bind fun t197 => (breadlinelaw04_TreePath.j0 k a1 t195 (!t197) a0_0 a0_1 a0_2 a0_3 a0_4 a0_5 l0_6 l0_7)))) = some r := H
  have A3 := Aside0.mk A30
  clear A30
  have HC4 := Aside0.mk H
  clear H
  go_enter Try.func4, Try.ntmps4
  go_upto_region 2 with (first | ((with_reducible refine gate_dst (N := 2) rfl ?_); (try (refine gate_guard (by rfl) ?_; dsimp only)); refine box_event ?hg (N := 2) ?hd (cs := #[.int .i64 a0_0, .int .i64 a0_1, .int .i64 a0_2, .int .i64 a0_3, .int .i64 a0_4, .int .i64 a0_5, .slice A0_6 l0_6.length c0_6, .slice A0_7 l0_7.length c0_7]) (t := 24) ?hr ?_; (case hd => rfl); (case hg => rfl); (case hr => first | (go_simp; done) | (go_simp; rfl)); intro gb194 hg w5 hbox hb; have n0_ := Aside0.mk (below_step (by repeat (first | (with_reducible first | exact HB.out | apply below_alloc | apply pw_below_drewN | apply below_drew1) | exact HB.out)) hb); have n1_ := Aside0.mk (hbox); have n2_ := Aside0.mk ((by rw [hg]; exact (below_size (by repeat (first | (with_reducible first | exact HB.out | apply below_alloc | apply pw_below_drewN | apply below_drew1) | exact HB.out))) : w.heap.size ≤ gb194)); have n3_ := Aside0.mk ((by rw [hg]; exact (below_size (by repeat (first | (with_reducible first | exact HB.out | apply below_alloc | apply pw_below_drewN | apply below_drew1) | exact HB.out))) : w.heap.size ≤ gb194)); clear HB; have HB := n0_; have BK194 := n1_; have GW194 := n2_; have GE194 := n3_; clear n0_ n1_ n2_ n3_; clear hb hbox hg) | (go_at_call 9; (with_reducible refine (breadlinelaw04_head.calls  t195 _ A3.out).mono ?_); rintro e w6 ⟨rfl, hb⟩; have n0_ := Aside0.mk (blk_below (g := gb194) (o := .cells #[.int .i64 a0_0, .int .i64 a0_1, .int .i64 a0_2, .int .i64 a0_3, .int .i64 a0_4, .int .i64 a0_5, .slice A0_6 l0_6.length c0_6, .slice A0_7 l0_7.length c0_7] 24 (0, 0)) (by (with_reducible repeat (first | refine blk_drewN ?_ _ | refine blk_drew ?_ | refine blk_alloc ?_ _)); exact BK194.out) hb); have n1_ := Aside0.mk (below_step (by repeat (first | (with_reducible first | exact HB.out | apply below_alloc | apply pw_below_drewN | apply below_drew1 | refine below_set ?_ GE194.out) | exact HB.out)) hb); clear BK194; clear HB; have BK194 := n0_; have HB := n1_; clear n0_ n1_; (try clear hb); (try clear hb2); (try clear hk); (try clear hi)))
  repeat (go_quiet (first | ((with_reducible refine gate_dst (N := 2) rfl ?_); (try (refine gate_guard (by rfl) ?_; dsimp only)); refine box_event ?hg (N := 2) ?hd (cs := #[.int .i64 a0_0, .int .i64 a0_1, .int .i64 a0_2, .int .i64 a0_3, .int .i64 a0_4, .int .i64 a0_5, .slice A0_6 l0_6.length c0_6, .slice A0_7 l0_7.length c0_7]) (t := 24) ?hr ?_; (case hd => rfl); (case hg => rfl); (case hr => first | (go_simp; done) | (go_simp; rfl)); intro gb194 hg w5 hbox hb; have n0_ := Aside0.mk (below_step (by repeat (first | (with_reducible first | exact HB.out | apply below_alloc | apply pw_below_drewN | apply below_drew1) | exact HB.out)) hb); have n1_ := Aside0.mk (hbox); have n2_ := Aside0.mk ((by rw [hg]; exact (below_size (by repeat (first | (with_reducible first | exact HB.out | apply below_alloc | apply pw_below_drewN | apply below_drew1) | exact HB.out))) : w.heap.size ≤ gb194)); have n3_ := Aside0.mk ((by rw [hg]; exact (below_size (by repeat (first | (with_reducible first | exact HB.out | apply below_alloc | apply pw_below_drewN | apply below_drew1) | exact HB.out))) : w.heap.size ≤ gb194)); clear HB; have HB := n0_; have BK194 := n1_; have GW194 := n2_; have GE194 := n3_; clear n0_ n1_ n2_ n3_; clear hb hbox hg) | (go_at_call 9; (with_reducible refine (breadlinelaw04_head.calls  t195 _ A3.out).mono ?_); rintro e w6 ⟨rfl, hb⟩; have n0_ := Aside0.mk (blk_below (g := gb194) (o := .cells #[.int .i64 a0_0, .int .i64 a0_1, .int .i64 a0_2, .int .i64 a0_3, .int .i64 a0_4, .int .i64 a0_5, .slice A0_6 l0_6.length c0_6, .slice A0_7 l0_7.length c0_7] 24 (0, 0)) (by (with_reducible repeat (first | refine blk_drewN ?_ _ | refine blk_drew ?_ | refine blk_alloc ?_ _)); exact BK194.out) hb); have n1_ := Aside0.mk (below_step (by repeat (first | (with_reducible first | exact HB.out | apply below_alloc | apply pw_below_drewN | apply below_drew1 | refine below_set ?_ GE194.out) | exact HB.out)) hb); clear BK194; clear HB; have BK194 := n0_; have HB := n1_; clear n0_ n1_; (try clear hb); (try clear hb2); (try clear hk); (try clear hi))); go_upto_region 2 with (first | ((with_reducible refine gate_dst (N := 2) rfl ?_); (try (refine gate_guard (by rfl) ?_; dsimp only)); refine box_event ?hg (N := 2) ?hd (cs := #[.int .i64 a0_0, .int .i64 a0_1, .int .i64 a0_2, .int .i64 a0_3, .int .i64 a0_4, .int .i64 a0_5, .slice A0_6 l0_6.length c0_6, .slice A0_7 l0_7.length c0_7]) (t := 24) ?hr ?_; (case hd => rfl); (case hg => rfl); (case hr => first | (go_simp; done) | (go_simp; rfl)); intro gb194 hg w5 hbox hb; have n0_ := Aside0.mk (below_step (by repeat (first | (with_reducible first | exact HB.out | apply below_alloc | apply pw_below_drewN | apply below_drew1) | exact HB.out)) hb); have n1_ := Aside0.mk (hbox); have n2_ := Aside0.mk ((by rw [hg]; exact (below_size (by repeat (first | (with_reducible first | exact HB.out | apply below_alloc | apply pw_below_drewN | apply below_drew1) | exact HB.out))) : w.heap.size ≤ gb194)); have n3_ := Aside0.mk ((by rw [hg]; exact (below_size (by repeat (first | (with_reducible first | exact HB.out | apply below_alloc | apply pw_below_drewN | apply below_drew1) | exact HB.out))) : w.heap.size ≤ gb194)); clear HB; have HB := n0_; have BK194 := n1_; have GW194 := n2_; have GE194 := n3_; clear n0_ n1_ n2_ n3_; clear hb hbox hg) | (go_at_call 9; (with_reducible refine (breadlinelaw04_head.calls  t195 _ A3.out).mono ?_); rintro e w6 ⟨rfl, hb⟩; have n0_ := Aside0.mk (blk_below (g := gb194) (o := .cells #[.int .i64 a0_0, .int .i64 a0_1, .int .i64 a0_2, .int .i64 a0_3, .int .i64 a0_4, .int .i64 a0_5, .slice A0_6 l0_6.length c0_6, .slice A0_7 l0_7.length c0_7] 24 (0, 0)) (by (with_reducible repeat (first | refine blk_drewN ?_ _ | refine blk_drew ?_ | refine blk_alloc ?_ _)); exact BK194.out) hb); have n1_ := Aside0.mk (below_step (by repeat (first | (with_reducible first | exact HB.out | apply below_alloc | apply pw_below_drewN | apply below_drew1 | refine below_set ?_ GE194.out) | exact HB.out)) hb); clear BK194; clear HB; have BK194 := n0_; have HB := n1_; clear n0_ n1_; (try clear hb); (try clear hb2); (try clear hk); (try clear hi))))
  (try simp only [Act.put, List.setIfInBounds_toArray, List.set_cons_zero, List.set_cons_succ])
  go_cut [16] (fun v16 wc => ∃ (kq : Nat) (x16_3 : Bool), v16 = .bool x16_3 ∧ Aside0 (breadlinelaw04_TreePath.j0 kq a1 t195 x16_3 a0_0 a0_1 a0_2 a0_3 a0_4 a0_5 l0_6 l0_7 = some r) ∧ Aside0 (kq ≤ k) ∧ Aside0 (wc.heap[gb194]? = some (.cells #[.int .i64 a0_0, .int .i64 a0_1, .int .i64 a0_2, .int .i64 a0_3, .int .i64 a0_4, .int .i64 a0_5, (.slice A0_6 l0_6.length c0_6), (.slice A0_7 l0_7.length c0_7)] 24 (0, 0))) ∧ Aside0 (Below w.heap.size w wc))
  case first =>
    have H := HC4.out
    clear HC4
    replace H := Option.bind_eq_some_iff.mp H
    obtain ⟨t196, A70, H⟩ := H
    replace H : (if t196 = true then (breadlinelaw04_TreePath.j0 k a1 t195 true a0_0 a0_1 a0_2 a0_3 a0_4 a0_5 l0_6 l0_7) else ((breadlineref04_Right.f k a0_0 a0_1 a0_2 a0_3 a0_4 a0_5 l0_6 l0_7).bind fun t197 => (breadlinelaw04_TreePath.j0 k a1 t195 (!t197) a0_0 a0_1 a0_2 a0_3 a0_4 a0_5 l0_6 l0_7))) = some r := H
    have A7 := Aside0.mk A70
    clear A70
    by_cases c8 : t196 = true
    · subst c8
      have H1 : (breadlinelaw04_TreePath.j0 k a1 t195 true a0_0 a0_1 a0_2 a0_3 a0_4 a0_5 l0_6 l0_7) = some r := by rw [if_pos rfl] at H; exact H
      clear H
      have H := H1
      clear H1
      have H' := Aside0.mk H
      clear H
      have hcz9_0 : w6.cell? ⟨gb194, 0, none⟩ = some (.int .i64 a0_0) := (blk_cell BK194.out 0).trans rfl
      have hcz9_1 : w6.cell? ⟨gb194, 1, none⟩ = some (.int .i64 a0_1) := (blk_cell BK194.out 1).trans rfl
      have hcz9_2 : w6.cell? ⟨gb194, 2, none⟩ = some (.int .i64 a0_2) := (blk_cell BK194.out 2).trans rfl
      have hcz9_3 : w6.cell? ⟨gb194, 3, none⟩ = some (.int .i64 a0_3) := (blk_cell BK194.out 3).trans rfl
      have hcz9_4 : w6.cell? ⟨gb194, 4, none⟩ = some (.int .i64 a0_4) := (blk_cell BK194.out 4).trans rfl
      have hcz9_5 : w6.cell? ⟨gb194, 5, none⟩ = some (.int .i64 a0_5) := (blk_cell BK194.out 5).trans rfl
      have hcz9_6 : w6.cell? ⟨gb194, 6, none⟩ = some (.slice A0_6 l0_6.length c0_6) := (blk_cell BK194.out 6).trans rfl
      have hcz9_7 : w6.cell? ⟨gb194, 7, none⟩ = some (.slice A0_7 l0_7.length c0_7) := (blk_cell BK194.out 7).trans rfl
      have hfz9_0 := blk_frozen BK194.out 0
      have hfz9_1 := blk_frozen BK194.out 1
      have hfz9_2 := blk_frozen BK194.out 2
      have hfz9_3 := blk_frozen BK194.out 3
      have hfz9_4 := blk_frozen BK194.out 4
      have hfz9_5 := blk_frozen BK194.out 5
      have hfz9_6 := blk_frozen BK194.out 6
      have hfz9_7 := blk_frozen BK194.out 7
      go_wp2_with (first | (go_at_call 10; (with_reducible refine (breadlinelaw04_Great.calls a0_0 a0_1 a0_2 a0_3 a0_4 a0_5 _ _ l0_6 _ _ l0_7 true _ ?side1 ?side2 ?side3 ?side4 A7.out).mono ?_); (case side1 => repeat (first | exact (Kd.C_below HR0_6.out HB.out) | (with_reducible refine Kd.C_alloc ?_ _) | (with_reducible refine Kd.C_drewN ?_ _) | (with_reducible refine Kd.C_drew ?_))); (case side2 => exact HC0_6.out); (case side3 => repeat (first | exact (Kd.C_below HR0_7.out HB.out) | (with_reducible refine Kd.C_alloc ?_ _) | (with_reducible refine Kd.C_drewN ?_ _) | (with_reducible refine Kd.C_drew ?_))); (case side4 => exact HC0_7.out); rintro e w10 ⟨rfl, hb⟩; have n0_ := Aside0.mk (blk_below (g := gb194) (o := .cells #[.int .i64 a0_0, .int .i64 a0_1, .int .i64 a0_2, .int .i64 a0_3, .int .i64 a0_4, .int .i64 a0_5, .slice A0_6 l0_6.length c0_6, .slice A0_7 l0_7.length c0_7] 24 (0, 0)) (by (with_reducible repeat (first | refine blk_drewN ?_ _ | refine blk_drew ?_ | refine blk_alloc ?_ _)); exact BK194.out) hb); have n1_ := Aside0.mk (below_step (by repeat (first | (with_reducible first | exact HB.out | apply below_alloc | apply pw_below_drewN | apply below_drew1 | refine below_set ?_ GE194.out) | exact HB.out)) hb); clear BK194; clear HB; have BK194 := n0_; have HB := n1_; clear n0_ n1_; (try clear hb); (try clear hb2); (try clear hk); (try clear hi)))
      repeat (go_quiet (first | (go_at_call 10; (with_reducible refine (breadlinelaw04_Great.calls a0_0 a0_1 a0_2 a0_3 a0_4 a0_5 _ _ l0_6 _ _ l0_7 true _ ?side1 ?side2 ?side3 ?side4 A7.out).mono ?_); (case side1 => repeat (first | exact (Kd.C_below HR0_6.out HB.out) | (with_reducible refine Kd.C_alloc ?_ _) | (with_reducible refine Kd.C_drewN ?_ _) | (with_reducible refine Kd.C_drew ?_))); (case side2 => exact HC0_6.out); (case side3 => repeat (first | exact (Kd.C_below HR0_7.out HB.out) | (with_reducible refine Kd.C_alloc ?_ _) | (with_reducible refine Kd.C_drewN ?_ _) | (with_reducible refine Kd.C_drew ?_))); (case side4 => exact HC0_7.out); rintro e w10 ⟨rfl, hb⟩; have n0_ := Aside0.mk (blk_below (g := gb194) (o := .cells #[.int .i64 a0_0, .int .i64 a0_1, .int .i64 a0_2, .int .i64 a0_3, .int .i64 a0_4, .int .i64 a0_5, .slice A0_6 l0_6.length c0_6, .slice A0_7 l0_7.length c0_7] 24 (0, 0)) (by (with_reducible repeat (first | refine blk_drewN ?_ _ | refine blk_drew ?_ | refine blk_alloc ?_ _)); exact BK194.out) hb); have n1_ := Aside0.mk (below_step (by repeat (first | (with_reducible first | exact HB.out | apply below_alloc | apply pw_below_drewN | apply below_drew1 | refine below_set ?_ GE194.out) | exact HB.out)) hb); clear BK194; clear HB; have BK194 := n0_; have HB := n1_; clear n0_ n1_; (try clear hb); (try clear hb2); (try clear hk); (try clear hi))); try go_wp2_with (first | (go_at_call 10; (with_reducible refine (breadlinelaw04_Great.calls a0_0 a0_1 a0_2 a0_3 a0_4 a0_5 _ _ l0_6 _ _ l0_7 true _ ?side1 ?side2 ?side3 ?side4 A7.out).mono ?_); (case side1 => repeat (first | exact (Kd.C_below HR0_6.out HB.out) | (with_reducible refine Kd.C_alloc ?_ _) | (with_reducible refine Kd.C_drewN ?_ _) | (with_reducible refine Kd.C_drew ?_))); (case side2 => exact HC0_6.out); (case side3 => repeat (first | exact (Kd.C_below HR0_7.out HB.out) | (with_reducible refine Kd.C_alloc ?_ _) | (with_reducible refine Kd.C_drewN ?_ _) | (with_reducible refine Kd.C_drew ?_))); (case side4 => exact HC0_7.out); rintro e w10 ⟨rfl, hb⟩; have n0_ := Aside0.mk (blk_below (g := gb194) (o := .cells #[.int .i64 a0_0, .int .i64 a0_1, .int .i64 a0_2, .int .i64 a0_3, .int .i64 a0_4, .int .i64 a0_5, .slice A0_6 l0_6.length c0_6, .slice A0_7 l0_7.length c0_7] 24 (0, 0)) (by (with_reducible repeat (first | refine blk_drewN ?_ _ | refine blk_drew ?_ | refine blk_alloc ?_ _)); exact BK194.out) hb); have n1_ := Aside0.mk (below_step (by repeat (first | (with_reducible first | exact HB.out | apply below_alloc | apply pw_below_drewN | apply below_drew1 | refine below_set ?_ GE194.out) | exact HB.out)) hb); clear BK194; clear HB; have BK194 := n0_; have HB := n1_; clear n0_ n1_; (try clear hb); (try clear hb2); (try clear hk); (try clear hi))))
      go_meet
      case rel => exact ⟨_, (true), (by first | rfl | (simp; done) | (simp [*]; done)), H', ⟨by first | omega | exact Nat.le_refl _⟩, ⟨by (with_reducible repeat (first | refine blk_drewN ?_ _ | refine blk_drew ?_ | refine blk_alloc ?_ _)); exact BK194.out⟩, ⟨by repeat (first | (with_reducible first | exact HB.out | apply below_alloc | apply pw_below_drewN | apply below_drew1 | refine below_set ?_ GE194.out) | exact HB.out)⟩⟩
    · replace c8 := Bool.eq_false_iff.mpr c8
      subst c8
      have H1 : ((breadlineref04_Right.f k a0_0 a0_1 a0_2 a0_3 a0_4 a0_5 l0_6 l0_7).bind fun t197 => (breadlinelaw04_TreePath.j0 k a1 t195 (!t197) a0_0 a0_1 a0_2 a0_3 a0_4 a0_5 l0_6 l0_7)) = some r := by rw [if_neg (show ¬ (false = true) by decide)] at H; exact H
      clear H
      have H := H1
      clear H1
      replace H := Option.bind_eq_some_iff.mp H
      obtain ⟨t197, A110, H⟩ := H
      replace H : (breadlinelaw04_TreePath.j0 k a1 t195 (!t197) a0_0 a0_1 a0_2 a0_3 a0_4 a0_5 l0_6 l0_7) = some r := H
      have A11 := Aside0.mk A110
      clear A110
      have H' := Aside0.mk H
      clear H
      have hcz12_0 : w6.cell? ⟨gb194, 0, none⟩ = some (.int .i64 a0_0) := (blk_cell BK194.out 0).trans rfl
      have hcz12_1 : w6.cell? ⟨gb194, 1, none⟩ = some (.int .i64 a0_1) := (blk_cell BK194.out 1).trans rfl
      have hcz12_2 : w6.cell? ⟨gb194, 2, none⟩ = some (.int .i64 a0_2) := (blk_cell BK194.out 2).trans rfl
      have hcz12_3 : w6.cell? ⟨gb194, 3, none⟩ = some (.int .i64 a0_3) := (blk_cell BK194.out 3).trans rfl
      have hcz12_4 : w6.cell? ⟨gb194, 4, none⟩ = some (.int .i64 a0_4) := (blk_cell BK194.out 4).trans rfl
      have hcz12_5 : w6.cell? ⟨gb194, 5, none⟩ = some (.int .i64 a0_5) := (blk_cell BK194.out 5).trans rfl
      have hcz12_6 : w6.cell? ⟨gb194, 6, none⟩ = some (.slice A0_6 l0_6.length c0_6) := (blk_cell BK194.out 6).trans rfl
      have hcz12_7 : w6.cell? ⟨gb194, 7, none⟩ = some (.slice A0_7 l0_7.length c0_7) := (blk_cell BK194.out 7).trans rfl
      have hfz12_0 := blk_frozen BK194.out 0
      have hfz12_1 := blk_frozen BK194.out 1
      have hfz12_2 := blk_frozen BK194.out 2
      have hfz12_3 := blk_frozen BK194.out 3
      have hfz12_4 := blk_frozen BK194.out 4
      have hfz12_5 := blk_frozen BK194.out 5
      have hfz12_6 := blk_frozen BK194.out 6
      have hfz12_7 := blk_frozen BK194.out 7
      go_wp2_with (first | (go_at_call 10; (with_reducible refine (breadlinelaw04_Great.calls a0_0 a0_1 a0_2 a0_3 a0_4 a0_5 _ _ l0_6 _ _ l0_7 false _ ?side1 ?side2 ?side3 ?side4 A7.out).mono ?_); (case side1 => repeat (first | exact (Kd.C_below HR0_6.out HB.out) | (with_reducible refine Kd.C_alloc ?_ _) | (with_reducible refine Kd.C_drewN ?_ _) | (with_reducible refine Kd.C_drew ?_))); (case side2 => exact HC0_6.out); (case side3 => repeat (first | exact (Kd.C_below HR0_7.out HB.out) | (with_reducible refine Kd.C_alloc ?_ _) | (with_reducible refine Kd.C_drewN ?_ _) | (with_reducible refine Kd.C_drew ?_))); (case side4 => exact HC0_7.out); rintro e w13 ⟨rfl, hb⟩; have n0_ := Aside0.mk (blk_below (g := gb194) (o := .cells #[.int .i64 a0_0, .int .i64 a0_1, .int .i64 a0_2, .int .i64 a0_3, .int .i64 a0_4, .int .i64 a0_5, .slice A0_6 l0_6.length c0_6, .slice A0_7 l0_7.length c0_7] 24 (0, 0)) (by (with_reducible repeat (first | refine blk_drewN ?_ _ | refine blk_drew ?_ | refine blk_alloc ?_ _)); exact BK194.out) hb); have n1_ := Aside0.mk (below_step (by repeat (first | (with_reducible first | exact HB.out | apply below_alloc | apply pw_below_drewN | apply below_drew1 | refine below_set ?_ GE194.out) | exact HB.out)) hb); clear BK194; clear HB; have BK194 := n0_; have HB := n1_; clear n0_ n1_; (try clear hb); (try clear hb2); (try clear hk); (try clear hi); have hcz14_0 : w13.cell? ⟨gb194, 0, none⟩ = some (.int .i64 a0_0) := (blk_cell BK194.out 0).trans rfl; have hcz14_1 : w13.cell? ⟨gb194, 1, none⟩ = some (.int .i64 a0_1) := (blk_cell BK194.out 1).trans rfl; have hcz14_2 : w13.cell? ⟨gb194, 2, none⟩ = some (.int .i64 a0_2) := (blk_cell BK194.out 2).trans rfl; have hcz14_3 : w13.cell? ⟨gb194, 3, none⟩ = some (.int .i64 a0_3) := (blk_cell BK194.out 3).trans rfl; have hcz14_4 : w13.cell? ⟨gb194, 4, none⟩ = some (.int .i64 a0_4) := (blk_cell BK194.out 4).trans rfl; have hcz14_5 : w13.cell? ⟨gb194, 5, none⟩ = some (.int .i64 a0_5) := (blk_cell BK194.out 5).trans rfl; have hcz14_6 : w13.cell? ⟨gb194, 6, none⟩ = some (.slice A0_6 l0_6.length c0_6) := (blk_cell BK194.out 6).trans rfl; have hcz14_7 : w13.cell? ⟨gb194, 7, none⟩ = some (.slice A0_7 l0_7.length c0_7) := (blk_cell BK194.out 7).trans rfl; have hfz14_0 := blk_frozen BK194.out 0; have hfz14_1 := blk_frozen BK194.out 1; have hfz14_2 := blk_frozen BK194.out 2; have hfz14_3 := blk_frozen BK194.out 3; have hfz14_4 := blk_frozen BK194.out 4; have hfz14_5 := blk_frozen BK194.out 5; have hfz14_6 := blk_frozen BK194.out 6; have hfz14_7 := blk_frozen BK194.out 7) | (go_at_call 12; (with_reducible refine (breadlineref04_Right.calls k a0_0 a0_1 a0_2 a0_3 a0_4 a0_5 _ _ l0_6 _ _ l0_7 t197 _ ?side1 ?side2 ?side3 ?side4 A11.out).mono ?_); (case side1 => repeat (first | exact (Kd.C_below HR0_6.out HB.out) | (with_reducible refine Kd.C_alloc ?_ _) | (with_reducible refine Kd.C_drewN ?_ _) | (with_reducible refine Kd.C_drew ?_))); (case side2 => exact HC0_6.out); (case side3 => repeat (first | exact (Kd.C_below HR0_7.out HB.out) | (with_reducible refine Kd.C_alloc ?_ _) | (with_reducible refine Kd.C_drewN ?_ _) | (with_reducible refine Kd.C_drew ?_))); (case side4 => exact HC0_7.out); rintro e w15 ⟨rfl, hb⟩; have n0_ := Aside0.mk (blk_below (g := gb194) (o := .cells #[.int .i64 a0_0, .int .i64 a0_1, .int .i64 a0_2, .int .i64 a0_3, .int .i64 a0_4, .int .i64 a0_5, .slice A0_6 l0_6.length c0_6, .slice A0_7 l0_7.length c0_7] 24 (0, 0)) (by (with_reducible repeat (first | refine blk_drewN ?_ _ | refine blk_drew ?_ | refine blk_alloc ?_ _)); exact BK194.out) hb); have n1_ := Aside0.mk (below_step (by repeat (first | (with_reducible first | exact HB.out | apply below_alloc | apply pw_below_drewN | apply below_drew1 | refine below_set ?_ GE194.out) | exact HB.out)) hb); clear BK194; clear HB; have BK194 := n0_; have HB := n1_; clear n0_ n1_; (try clear hb); (try clear hb2); (try clear hk); (try clear hi)))
      repeat (go_quiet (first | (go_at_call 10; (with_reducible refine (breadlinelaw04_Great.calls a0_0 a0_1 a0_2 a0_3 a0_4 a0_5 _ _ l0_6 _ _ l0_7 false _ ?side1 ?side2 ?side3 ?side4 A7.out).mono ?_); (case side1 => repeat (first | exact (Kd.C_below HR0_6.out HB.out) | (with_reducible refine Kd.C_alloc ?_ _) | (with_reducible refine Kd.C_drewN ?_ _) | (with_reducible refine Kd.C_drew ?_))); (case side2 => exact HC0_6.out); (case side3 => repeat (first | exact (Kd.C_below HR0_7.out HB.out) | (with_reducible refine Kd.C_alloc ?_ _) | (with_reducible refine Kd.C_drewN ?_ _) | (with_reducible refine Kd.C_drew ?_))); (case side4 => exact HC0_7.out); rintro e w13 ⟨rfl, hb⟩; have n0_ := Aside0.mk (blk_below (g := gb194) (o := .cells #[.int .i64 a0_0, .int .i64 a0_1, .int .i64 a0_2, .int .i64 a0_3, .int .i64 a0_4, .int .i64 a0_5, .slice A0_6 l0_6.length c0_6, .slice A0_7 l0_7.length c0_7] 24 (0, 0)) (by (with_reducible repeat (first | refine blk_drewN ?_ _ | refine blk_drew ?_ | refine blk_alloc ?_ _)); exact BK194.out) hb); have n1_ := Aside0.mk (below_step (by repeat (first | (with_reducible first | exact HB.out | apply below_alloc | apply pw_below_drewN | apply below_drew1 | refine below_set ?_ GE194.out) | exact HB.out)) hb); clear BK194; clear HB; have BK194 := n0_; have HB := n1_; clear n0_ n1_; (try clear hb); (try clear hb2); (try clear hk); (try clear hi); have hcz14_0 : w13.cell? ⟨gb194, 0, none⟩ = some (.int .i64 a0_0) := (blk_cell BK194.out 0).trans rfl; have hcz14_1 : w13.cell? ⟨gb194, 1, none⟩ = some (.int .i64 a0_1) := (blk_cell BK194.out 1).trans rfl; have hcz14_2 : w13.cell? ⟨gb194, 2, none⟩ = some (.int .i64 a0_2) := (blk_cell BK194.out 2).trans rfl; have hcz14_3 : w13.cell? ⟨gb194, 3, none⟩ = some (.int .i64 a0_3) := (blk_cell BK194.out 3).trans rfl; have hcz14_4 : w13.cell? ⟨gb194, 4, none⟩ = some (.int .i64 a0_4) := (blk_cell BK194.out 4).trans rfl; have hcz14_5 : w13.cell? ⟨gb194, 5, none⟩ = some (.int .i64 a0_5) := (blk_cell BK194.out 5).trans rfl; have hcz14_6 : w13.cell? ⟨gb194, 6, none⟩ = some (.slice A0_6 l0_6.length c0_6) := (blk_cell BK194.out 6).trans rfl; have hcz14_7 : w13.cell? ⟨gb194, 7, none⟩ = some (.slice A0_7 l0_7.length c0_7) := (blk_cell BK194.out 7).trans rfl; have hfz14_0 := blk_frozen BK194.out 0; have hfz14_1 := blk_frozen BK194.out 1; have hfz14_2 := blk_frozen BK194.out 2; have hfz14_3 := blk_frozen BK194.out 3; have hfz14_4 := blk_frozen BK194.out 4; have hfz14_5 := blk_frozen BK194.out 5; have hfz14_6 := blk_frozen BK194.out 6; have hfz14_7 := blk_frozen BK194.out 7) | (go_at_call 12; (with_reducible refine (breadlineref04_Right.calls k a0_0 a0_1 a0_2 a0_3 a0_4 a0_5 _ _ l0_6 _ _ l0_7 t197 _ ?side1 ?side2 ?side3 ?side4 A11.out).mono ?_); (case side1 => repeat (first | exact (Kd.C_below HR0_6.out HB.out) | (with_reducible refine Kd.C_alloc ?_ _) | (with_reducible refine Kd.C_drewN ?_ _) | (with_reducible refine Kd.C_drew ?_))); (case side2 => exact HC0_6.out); (case side3 => repeat (first | exact (Kd.C_below HR0_7.out HB.out) | (with_reducible refine Kd.C_alloc ?_ _) | (with_reducible refine Kd.C_drewN ?_ _) | (with_reducible refine Kd.C_drew ?_))); (case side4 => exact HC0_7.out); rintro e w15 ⟨rfl, hb⟩; have n0_ := Aside0.mk (blk_below (g := gb194) (o := .cells #[.int .i64 a0_0, .int .i64 a0_1, .int .i64 a0_2, .int .i64 a0_3, .int .i64 a0_4, .int .i64 a0_5, .slice A0_6 l0_6.length c0_6, .slice A0_7 l0_7.length c0_7] 24 (0, 0)) (by (with_reducible repeat (first | refine blk_drewN ?_ _ | refine blk_drew ?_ | refine blk_alloc ?_ _)); exact BK194.out) hb); have n1_ := Aside0.mk (below_step (by repeat (first | (with_reducible first | exact HB.out | apply below_alloc | apply pw_below_drewN | apply below_drew1 | refine below_set ?_ GE194.out) | exact HB.out)) hb); clear BK194; clear HB; have BK194 := n0_; have HB := n1_; clear n0_ n1_; (try clear hb); (try clear hb2); (try clear hk); (try clear hi))); try go_wp2_with (first | (go_at_call 10; (with_reducible refine (breadlinelaw04_Great.calls a0_0 a0_1 a0_2 a0_3 a0_4 a0_5 _ _ l0_6 _ _ l0_7 false _ ?side1 ?side2 ?side3 ?side4 A7.out).mono ?_); (case side1 => repeat (first | exact (Kd.C_below HR0_6.out HB.out) | (with_reducible refine Kd.C_alloc ?_ _) | (with_reducible refine Kd.C_drewN ?_ _) | (with_reducible refine Kd.C_drew ?_))); (case side2 => exact HC0_6.out); (case side3 => repeat (first | exact (Kd.C_below HR0_7.out HB.out) | (with_reducible refine Kd.C_alloc ?_ _) | (with_reducible refine Kd.C_drewN ?_ _) | (with_reducible refine Kd.C_drew ?_))); (case side4 => exact HC0_7.out); rintro e w13 ⟨rfl, hb⟩; have n0_ := Aside0.mk (blk_below (g := gb194) (o := .cells #[.int .i64 a0_0, .int .i64 a0_1, .int .i64 a0_2, .int .i64 a0_3, .int .i64 a0_4, .int .i64 a0_5, .slice A0_6 l0_6.length c0_6, .slice A0_7 l0_7.length c0_7] 24 (0, 0)) (by (with_reducible repeat (first | refine blk_drewN ?_ _ | refine blk_drew ?_ | refine blk_alloc ?_ _)); exact BK194.out) hb); have n1_ := Aside0.mk (below_step (by repeat (first | (with_reducible first | exact HB.out | apply below_alloc | apply pw_below_drewN | apply below_drew1 | refine below_set ?_ GE194.out) | exact HB.out)) hb); clear BK194; clear HB; have BK194 := n0_; have HB := n1_; clear n0_ n1_; (try clear hb); (try clear hb2); (try clear hk); (try clear hi); have hcz14_0 : w13.cell? ⟨gb194, 0, none⟩ = some (.int .i64 a0_0) := (blk_cell BK194.out 0).trans rfl; have hcz14_1 : w13.cell? ⟨gb194, 1, none⟩ = some (.int .i64 a0_1) := (blk_cell BK194.out 1).trans rfl; have hcz14_2 : w13.cell? ⟨gb194, 2, none⟩ = some (.int .i64 a0_2) := (blk_cell BK194.out 2).trans rfl; have hcz14_3 : w13.cell? ⟨gb194, 3, none⟩ = some (.int .i64 a0_3) := (blk_cell BK194.out 3).trans rfl; have hcz14_4 : w13.cell? ⟨gb194, 4, none⟩ = some (.int .i64 a0_4) := (blk_cell BK194.out 4).trans rfl; have hcz14_5 : w13.cell? ⟨gb194, 5, none⟩ = some (.int .i64 a0_5) := (blk_cell BK194.out 5).trans rfl; have hcz14_6 : w13.cell? ⟨gb194, 6, none⟩ = some (.slice A0_6 l0_6.length c0_6) := (blk_cell BK194.out 6).trans rfl; have hcz14_7 : w13.cell? ⟨gb194, 7, none⟩ = some (.slice A0_7 l0_7.length c0_7) := (blk_cell BK194.out 7).trans rfl; have hfz14_0 := blk_frozen BK194.out 0; have hfz14_1 := blk_frozen BK194.out 1; have hfz14_2 := blk_frozen BK194.out 2; have hfz14_3 := blk_frozen BK194.out 3; have hfz14_4 := blk_frozen BK194.out 4; have hfz14_5 := blk_frozen BK194.out 5; have hfz14_6 := blk_frozen BK194.out 6; have hfz14_7 := blk_frozen BK194.out 7) | (go_at_call 12; (with_reducible refine (breadlineref04_Right.calls k a0_0 a0_1 a0_2 a0_3 a0_4 a0_5 _ _ l0_6 _ _ l0_7 t197 _ ?side1 ?side2 ?side3 ?side4 A11.out).mono ?_); (case side1 => repeat (first | exact (Kd.C_below HR0_6.out HB.out) | (with_reducible refine Kd.C_alloc ?_ _) | (with_reducible refine Kd.C_drewN ?_ _) | (with_reducible refine Kd.C_drew ?_))); (case side2 => exact HC0_6.out); (case side3 => repeat (first | exact (Kd.C_below HR0_7.out HB.out) | (with_reducible refine Kd.C_alloc ?_ _) | (with_reducible refine Kd.C_drewN ?_ _) | (with_reducible refine Kd.C_drew ?_))); (case side4 => exact HC0_7.out); rintro e w15 ⟨rfl, hb⟩; have n0_ := Aside0.mk (blk_below (g := gb194) (o := .cells #[.int .i64 a0_0, .int .i64 a0_1, .int .i64 a0_2, .int .i64 a0_3, .int .i64 a0_4, .int .i64 a0_5, .slice A0_6 l0_6.length c0_6, .slice A0_7 l0_7.length c0_7] 24 (0, 0)) (by (with_reducible repeat (first | refine blk_drewN ?_ _ | refine blk_drew ?_ | refine blk_alloc ?_ _)); exact BK194.out) hb); have n1_ := Aside0.mk (below_step (by repeat (first | (with_reducible first | exact HB.out | apply below_alloc | apply pw_below_drewN | apply below_drew1 | refine below_set ?_ GE194.out) | exact HB.out)) hb); clear BK194; clear HB; have BK194 := n0_; have HB := n1_; clear n0_ n1_; (try clear hb); (try clear hb2); (try clear hk); (try clear hi))))
      go_meet
      case rel => exact ⟨_, (!t197), (by first | rfl | (simp; done) | (simp [*]; done)), H', ⟨by first | omega | exact Nat.le_refl _⟩, ⟨by (with_reducible repeat (first | refine blk_drewN ?_ _ | refine blk_drew ?_ | refine blk_alloc ?_ _)); exact BK194.out⟩, ⟨by repeat (first | (with_reducible first | exact HB.out | apply below_alloc | apply pw_below_drewN | apply below_drew1 | refine below_set ?_ GE194.out) | exact HB.out)⟩⟩
  case rest =>
    clear HC4
    try clear p2
    try clear c4
    try clear c8
    try clear hcz12_0
    try clear hcz12_1
    try clear hcz12_2
    try clear hcz12_3
    try clear hcz12_4
    try clear hcz12_5
    try clear hcz12_6
    try clear hcz12_7
    try clear hcz14_0
    try clear hcz14_1
    try clear hcz14_2
    try clear hcz14_3
    try clear hcz14_4
    try clear hcz14_5
    try clear hcz14_6
    try clear hcz14_7
    try clear hcz9_0
    try clear hcz9_1
    try clear hcz9_2
    try clear hcz9_3
    try clear hcz9_4
    try clear hcz9_5
    try clear hcz9_6
    try clear hcz9_7
    try clear hfz12_0
    try clear hfz12_1
    try clear hfz12_2
    try clear hfz12_3
    try clear hfz12_4
    try clear hfz12_5
    try clear hfz12_6
    try clear hfz12_7
    try clear hfz14_0
    try clear hfz14_1
    try clear hfz14_2
    try clear hfz14_3
    try clear hfz14_4
    try clear hfz14_5
    try clear hfz14_6
    try clear hfz14_7
    try clear hfz9_0
    try clear hfz9_1
    try clear hfz9_2
    try clear hfz9_3
    try clear hfz9_4
    try clear hfz9_5
    try clear hfz9_6
    try clear hfz9_7
    obtain ⟨kq, x16_3, rfl, HA, HJ3, BK194, HB⟩ := hcut
    cases kq with
    | zero => exact absurd HA.out (by simp [breadlinelaw04_TreePath.j0])
    | succ kj3 =>
      have H := HA.out
      clear HA
      simp only [breadlinelaw04_TreePath.j0] at H
      by_cases c16 : x16_3 = true
      · subst c16
        have H1 : (some t195) = some r := by rw [if_pos rfl] at H; exact H
        clear H
        have H := H1
        clear H1
        obtain rfl := Option.some.inj H
        go_wp2
        repeat (go_quiet (fail); try go_wp2)
        go_ret
        exact ⟨by first | rfl | (simp [errW_none, errW_some] <;> rfl) | (simp [*, errW_none, errW_some] <;> rfl), by repeat (first | (with_reducible first | exact HB.out | apply below_alloc | apply pw_below_drewN | apply below_drew1 | refine below_set ?_ GE194.out) | exact HB.out)⟩
      · replace c16 := Bool.eq_false_iff.mpr c16
        subst c16
        have H1 : (if (l0_6.length : Int) = 0 then (none) else ((tree_Path.f a0_0 a0_1 a0_2 a0_3 a0_4 a0_5 l0_6 l0_7 (Int.tmod (wrap64 (a1)) (l0_6.length : Int))).bind fun t198 => (if (t198.length : Int) = 0 then (breadlinelaw04_TreePath.j1 kj3 t195 t198 true a0_0 a0_1 a0_2 a0_3 a0_4 a0_5 l0_6 l0_7) else (if 0 < (t198.length : Int) then (if (rd t198 0) = (Int.tmod (wrap64 (a1)) (l0_6.length : Int)) then (if 0 ≤ (wrap64 ((t198.length : Int) - 1)) then (if (wrap64 ((t198.length : Int) - 1)) < (t198.length : Int) then (if (rd t198 (wrap64 ((t198.length : Int) - 1))) = 0 then ((tree_Depth.f kj3 a0_0 a0_1 a0_2 a0_3 a0_4 a0_5 l0_6 l0_7).bind fun t203 => (breadlinelaw04_TreePath.j1 kj3 t195 t198 (decide ((t198.length : Int) > t203)) a0_0 a0_1 a0_2 a0_3 a0_4 a0_5 l0_6 l0_7)) else (breadlinelaw04_TreePath.j1 kj3 t195 t198 true a0_0 a0_1 a0_2 a0_3 a0_4 a0_5 l0_6 l0_7)) else (none)) else (none)) else (breadlinelaw04_TreePath.j1 kj3 t195 t198 true a0_0 a0_1 a0_2 a0_3 a0_4 a0_5 l0_6 l0_7)) else (none))))) = some r := by rw [if_neg (show ¬ (false = true) by decide)] at H; exact H
        clear H
        have H := H1
        clear H1
        by_cases c17 : (l0_6.length : Int) = 0
        · rw [if_pos c17] at H
          exact absurd H (by simp)
        · rw [if_neg c17] at H
          have c17b0 : ((l0_6.length : Int) == 0) = false := beq_eq_false_iff_ne.mpr c17
          have c17b1 : ((l0_6.length : Int) != 0) = true := bne_iff_ne.mpr c17
          have c17b2 : ¬ (l0_6 = []) := fun h_ => c17 (by rw [h_]; rfl)
          replace H := Option.bind_eq_some_iff.mp H
          obtain ⟨t198, A180, H⟩ := H
          replace H : (if (t198.length : Int) = 0 then (breadlinelaw04_TreePath.j1 kj3 t195 t198 true a0_0 a0_1 a0_2 a0_3 a0_4 a0_5 l0_6 l0_7) else (if 0 < (t198.length : Int) then (if (rd t198 0) = (Int.tmod (wrap64 (a1)) (l0_6.length : Int)) then (if 0 ≤ (wrap64 ((t198.length : Int) - 1)) then (if (wrap64 ((t198.length : Int) - 1)) < (t198.length : Int) then (if (rd t198 (wrap64 ((t198.length : Int) - 1))) = 0 then ((tree_Depth.f kj3 a0_0 a0_1 a0_2 a0_3 a0_4 a0_5 l0_6 l0_7).bind fun t203 => (breadlinelaw04_TreePath.j1 kj3 t195 t198 (decide ((t198.length : Int) > t203)) a0_0 a0_1 a0_2 a0_3 a0_4 a0_5 l0_6 l0_7)) else (breadlinelaw04_TreePath.j1 kj3 t195 t198 true a0_0 a0_1 a0_2 a0_3 a0_4 a0_5 l0_6 l0_7)) else (none)) else (none)) else (breadlinelaw04_TreePath.j1 kj3 t195 t198 true a0_0 a0_1 a0_2 a0_3 a0_4 a0_5 l0_6 l0_7)) else (none))) = some r := H
          have A18 := Aside0.mk A180
          clear A180
          have HC19 := Aside0.mk H
          clear H
          have hcz20_0 : wc.cell? ⟨gb194, 0, none⟩ = some (.int .i64 a0_0) := (blk_cell BK194.out 0).trans rfl
          have hcz20_1 : wc.cell? ⟨gb194, 1, none⟩ = some (.int .i64 a0_1) := (blk_cell BK194.out 1).trans rfl
          have hcz20_2 : wc.cell? ⟨gb194, 2, none⟩ = some (.int .i64 a0_2) := (blk_cell BK194.out 2).trans rfl
          have hcz20_3 : wc.cell? ⟨gb194, 3, none⟩ = some (.int .i64 a0_3) := (blk_cell BK194.out 3).trans rfl
          have hcz20_4 : wc.cell? ⟨gb194, 4, none⟩ = some (.int .i64 a0_4) := (blk_cell BK194.out 4).trans rfl
          have hcz20_5 : wc.cell? ⟨gb194, 5, none⟩ = some (.int .i64 a0_5) := (blk_cell BK194.out 5).trans rfl
          have hcz20_6 : wc.cell? ⟨gb194, 6, none⟩ = some (.slice A0_6 l0_6.length c0_6) := (blk_cell BK194.out 6).trans rfl
          have hcz20_7 : wc.cell? ⟨gb194, 7, none⟩ = some (.slice A0_7 l0_7.length c0_7) := (blk_cell BK194.out 7).trans rfl
          have hfz20_0 := blk_frozen BK194.out 0
          have hfz20_1 := blk_frozen BK194.out 1
          have hfz20_2 := blk_frozen BK194.out 2
          have hfz20_3 := blk_frozen BK194.out 3
          have hfz20_4 := blk_frozen BK194.out 4
          have hfz20_5 := blk_frozen BK194.out 5
          have hfz20_6 := blk_frozen BK194.out 6
          have hfz20_7 := blk_frozen BK194.out 7
          go_upto_region 6 with (first | (go_at_call 14; (with_reducible refine (tree_Path.calls a0_0 a0_1 a0_2 a0_3 a0_4 a0_5 _ _ l0_6 _ _ l0_7 (Int.tmod (wrap64 (a1)) (l0_6.length : Int)) t198 _ ?side1 ?side2 ?side3 ?side4 A18.out).mono ?_); (case side1 => repeat (first | exact (Kd.C_below HR0_6.out HB.out) | (with_reducible refine Kd.C_alloc ?_ _) | (with_reducible refine Kd.C_drewN ?_ _) | (with_reducible refine Kd.C_drew ?_))); (case side2 => exact HC0_6.out); (case side3 => repeat (first | exact (Kd.C_below HR0_7.out HB.out) | (with_reducible refine Kd.C_alloc ?_ _) | (with_reducible refine Kd.C_drewN ?_ _) | (with_reducible refine Kd.C_drew ?_))); (case side4 => exact HC0_7.out); rintro e w21 ⟨v199, rfl, ho0, hb⟩; have n0_ := Aside0.mk (Kd.R_lower ho0 (below_size (by repeat (first | (with_reducible first | exact HB.out | apply below_alloc | apply pw_below_drewN | apply below_drew1 | refine below_set ?_ GE194.out) | exact HB.out)))); have n1_ := Aside0.mk (blk_below (g := gb194) (o := .cells #[.int .i64 a0_0, .int .i64 a0_1, .int .i64 a0_2, .int .i64 a0_3, .int .i64 a0_4, .int .i64 a0_5, .slice A0_6 l0_6.length c0_6, .slice A0_7 l0_7.length c0_7] 24 (0, 0)) (by (with_reducible repeat (first | refine blk_drewN ?_ _ | refine blk_drew ?_ | refine blk_alloc ?_ _)); exact BK194.out) hb); have n2_ := Aside0.mk (below_step (by repeat (first | (with_reducible first | exact HB.out | apply below_alloc | apply pw_below_drewN | apply below_drew1 | refine below_set ?_ GE194.out) | exact HB.out)) hb); clear BK194; clear HB; have HO200 := n0_; have BK194 := n1_; have HB := n2_; clear n0_ n1_ n2_; (try clear hb); (try clear hb2); (try clear hk); (try clear hi); (try clear ho0)))
          repeat (go_quiet (first | (go_at_call 14; (with_reducible refine (tree_Path.calls a0_0 a0_1 a0_2 a0_3 a0_4 a0_5 _ _ l0_6 _ _ l0_7 (Int.tmod (wrap64 (a1)) (l0_6.length : Int)) t198 _ ?side1 ?side2 ?side3 ?side4 A18.out).mono ?_); (case side1 => repeat (first | exact (Kd.C_below HR0_6.out HB.out) | (with_reducible refine Kd.C_alloc ?_ _) | (with_reducible refine Kd.C_drewN ?_ _) | (with_reducible refine Kd.C_drew ?_))); (case side2 => exact HC0_6.out); (case side3 => repeat (first | exact (Kd.C_below HR0_7.out HB.out) | (with_reducible refine Kd.C_alloc ?_ _) | (with_reducible refine Kd.C_drewN ?_ _) | (with_reducible refine Kd.C_drew ?_))); (case side4 => exact HC0_7.out); rintro e w21 ⟨v199, rfl, ho0, hb⟩; have n0_ := Aside0.mk (Kd.R_lower ho0 (below_size (by repeat (first | (with_reducible first | exact HB.out | apply below_alloc | apply pw_below_drewN | apply below_drew1 | refine below_set ?_ GE194.out) | exact HB.out)))); have n1_ := Aside0.mk (blk_below (g := gb194) (o := .cells #[.int .i64 a0_0, .int .i64 a0_1, .int .i64 a0_2, .int .i64 a0_3, .int .i64 a0_4, .int .i64 a0_5, .slice A0_6 l0_6.length c0_6, .slice A0_7 l0_7.length c0_7] 24 (0, 0)) (by (with_reducible repeat (first | refine blk_drewN ?_ _ | refine blk_drew ?_ | refine blk_alloc ?_ _)); exact BK194.out) hb); have n2_ := Aside0.mk (below_step (by repeat (first | (with_reducible first | exact HB.out | apply below_alloc | apply pw_below_drewN | apply below_drew1 | refine below_set ?_ GE194.out) | exact HB.out)) hb); clear BK194; clear HB; have HO200 := n0_; have BK194 := n1_; have HB := n2_; clear n0_ n1_ n2_; (try clear hb); (try clear hb2); (try clear hk); (try clear hi); (try clear ho0))); go_upto_region 6 with (first | (go_at_call 14; (with_reducible refine (tree_Path.calls a0_0 a0_1 a0_2 a0_3 a0_4 a0_5 _ _ l0_6 _ _ l0_7 (Int.tmod (wrap64 (a1)) (l0_6.length : Int)) t198 _ ?side1 ?side2 ?side3 ?side4 A18.out).mono ?_); (case side1 => repeat (first | exact (Kd.C_below HR0_6.out HB.out) | (with_reducible refine Kd.C_alloc ?_ _) | (with_reducible refine Kd.C_drewN ?_ _) | (with_reducible refine Kd.C_drew ?_))); (case side2 => exact HC0_6.out); (case side3 => repeat (first | exact (Kd.C_below HR0_7.out HB.out) | (with_reducible refine Kd.C_alloc ?_ _) | (with_reducible refine Kd.C_drewN ?_ _) | (with_reducible refine Kd.C_drew ?_))); (case side4 => exact HC0_7.out); rintro e w21 ⟨v199, rfl, ho0, hb⟩; have n0_ := Aside0.mk (Kd.R_lower ho0 (below_size (by repeat (first | (with_reducible first | exact HB.out | apply below_alloc | apply pw_below_drewN | apply below_drew1 | refine below_set ?_ GE194.out) | exact HB.out)))); have n1_ := Aside0.mk (blk_below (g := gb194) (o := .cells #[.int .i64 a0_0, .int .i64 a0_1, .int .i64 a0_2, .int .i64 a0_3, .int .i64 a0_4, .int .i64 a0_5, .slice A0_6 l0_6.length c0_6, .slice A0_7 l0_7.length c0_7] 24 (0, 0)) (by (with_reducible repeat (first | refine blk_drewN ?_ _ | refine blk_drew ?_ | refine blk_alloc ?_ _)); exact BK194.out) hb); have n2_ := Aside0.mk (below_step (by repeat (first | (with_reducible first | exact HB.out | apply below_alloc | apply pw_below_drewN | apply below_drew1 | refine below_set ?_ GE194.out) | exact HB.out)) hb); clear BK194; clear HB; have HO200 := n0_; have BK194 := n1_; have HB := n2_; clear n0_ n1_ n2_; (try clear hb); (try clear hb2); (try clear hk); (try clear hi); (try clear ho0))))
          (try simp only [Act.put, List.setIfInBounds_toArray, List.set_cons_zero, List.set_cons_succ])
          go_cut [52] (fun v52 wc => ∃ (kq : Nat) (x52_18 : Bool), v52 = .bool x52_18 ∧ Aside0 (breadlinelaw04_TreePath.j1 kq t195 t198 x52_18 a0_0 a0_1 a0_2 a0_3 a0_4 a0_5 l0_6 l0_7 = some r) ∧ Aside0 (kq ≤ kj3) ∧ Aside0 (Kd.R (Kd.int .i64) 3 wc w.heap.size (fun _ => True) v199 t198) ∧ Aside0 (wc.heap[gb194]? = some (.cells #[.int .i64 a0_0, .int .i64 a0_1, .int .i64 a0_2, .int .i64 a0_3, .int .i64 a0_4, .int .i64 a0_5, (.slice A0_6 l0_6.length c0_6), (.slice A0_7 l0_7.length c0_7)] 24 (0, 0))) ∧ Aside0 (Below w.heap.size w wc))
          case first =>
            have H := HC19.out
            clear HC19
            by_cases c22 : (t198.length : Int) = 0
            · rw [if_pos c22] at H
              have c22b0 : ((t198.length : Int) == 0) = true := beq_iff_eq.mpr c22
              have c22b1 : ((t198.length : Int) != 0) = false := bne_eq_false_iff_eq.mpr c22
              clear c22
              (first | rw [c22b0] | (simp only [i64_w, i32_w]; rw [c22b0]) | skip)
              have H' := Aside0.mk H
              clear H
              obtain ⟨Ao23, co23, eo23⟩ := Kd.R_slice HO200.out
              subst eo23
              go_wp2
              repeat (go_quiet (fail); try go_wp2)
              go_meet
              case rel => exact ⟨_, (true), (by first | rfl | (simp; done) | (simp [*]; done)), H', ⟨by have := HJ3.out; first | omega | exact Nat.le_refl _⟩, ⟨by (with_reducible repeat (first | apply Kd.R_alloc | apply Kd.R_drewN | apply Kd.R_drew)); exact HO200.out⟩, ⟨by (with_reducible repeat (first | refine blk_drewN ?_ _ | refine blk_drew ?_ | refine blk_alloc ?_ _)); exact BK194.out⟩, ⟨by repeat (first | (with_reducible first | exact HB.out | apply below_alloc | apply pw_below_drewN | apply below_drew1 | refine below_set ?_ GE194.out) | exact HB.out)⟩⟩
            · rw [if_neg c22] at H
              have c22b0 : ((t198.length : Int) == 0) = false := beq_eq_false_iff_ne.mpr c22
              have c22b1 : ((t198.length : Int) != 0) = true := bne_iff_ne.mpr c22
              have c22b2 : ¬ (t198 = []) := fun h_ => c22 (by rw [h_]; rfl)
              (first | rw [c22b0] | (simp only [i64_w, i32_w]; rw [c22b0]) | skip)
              by_cases c24 : 0 < (t198.length : Int)
              · rw [if_pos c24] at H
                have c24b0 : decide (0 < (t198.length : Int)) = true := decide_eq_true c24
                have c24b1 : decide (0 < t198.length) = true := decide_eq_true (by omega)
                clear c24
                by_cases c25 : (rd t198 0) = (Int.tmod (wrap64 (a1)) (l0_6.length : Int))
                · rw [if_pos c25] at H
                  have c25b0 : ((rd t198 0) == (Int.tmod (wrap64 (a1)) (l0_6.length : Int))) = true := beq_iff_eq.mpr c25
                  have c25b1 : ((rd t198 0) != (Int.tmod (wrap64 (a1)) (l0_6.length : Int))) = false := bne_eq_false_iff_eq.mpr c25
                  clear c25
                  obtain ⟨ji26, hji26⟩ : ∃ j_ : Int, (wrap64 ((t198.length : Int) - 1)) = j_ := ⟨_, rfl⟩
                  replace H : (if 0 ≤ (ji26) then (if (ji26) < (t198.length : Int) then (if (rd t198 (ji26)) = 0 then ((tree_Depth.f kj3 a0_0 a0_1 a0_2 a0_3 a0_4 a0_5 l0_6 l0_7).bind fun t203 => (breadlinelaw04_TreePath.j1 kj3 t195 t198 (decide ((t198.length : Int) > t203)) a0_0 a0_1 a0_2 a0_3 a0_4 a0_5 l0_6 l0_7)) else (breadlinelaw04_TreePath.j1 kj3 t195 t198 true a0_0 a0_1 a0_2 a0_3 a0_4 a0_5 l0_6 l0_7)) else (none)) else (none)) = some r := by first | (rw [hji26] at H; exact H) | (simp only [hji26] at H ⊢; exact H)
                  have hji26w : (IntKind.i64.wrap ((t198.length : Int) - 1)) = ji26 := (i64_w _).trans hji26
                  by_cases c27 : 0 ≤ (ji26)
                  · rw [if_pos c27] at H
                    have c27b0 : decide (0 ≤ (ji26)) = true := decide_eq_true c27
                    clear c27
                    by_cases c28 : (ji26) < (t198.length : Int)
                    · rw [if_pos c28] at H
                      have c28b0 : decide ((ji26) < (t198.length : Int)) = true := decide_eq_true c28
                      clear c28
                      by_cases c29 : (rd t198 (ji26)) = 0
                      · rw [if_pos c29] at H
                        have c29b0 : ((rd t198 (ji26)) == 0) = true := beq_iff_eq.mpr c29
                        have c29b1 : ((rd t198 (ji26)) != 0) = false := bne_eq_false_iff_eq.mpr c29
                        clear c29
                        replace H := Option.bind_eq_some_iff.mp H
                        obtain ⟨t203, A300, H⟩ := H
                        replace H : (breadlinelaw04_TreePath.j1 kj3 t195 t198 (decide ((t198.length : Int) > t203)) a0_0 a0_1 a0_2 a0_3 a0_4 a0_5 l0_6 l0_7) = some r := H
                        have A30 := Aside0.mk A300
                        clear A300
                        have H' := Aside0.mk H
                        clear H
                        obtain ⟨Ao31, co31, eo31⟩ := Kd.R_slice HO200.out
                        subst eo31
                        have p201 : 0 ≤ (0 : Int) := (by omega)
                        have q201 : 0 < (t198.length : Int) := of_decide_eq_true (by first | (with_reducible assumption) | assumption)
                        obtain ⟨ad201, e201, hx201_0⟩ := Kd.at_int (Kd.R_reads' HO200.out).2.2 0 p201 q201
                        cases e201
                        have qi201 : (0 < t198.length) = True := eq_true (by omega)
                        (try rw [show ((0 : Int)).toNat = 0 from rfl] at hx201_0)
                        (try rw [Addr.add_zero'] at hx201_0)
                        replace p201 := eq_true p201
                        replace q201 := eq_true q201
                        have p202 : 0 ≤ ((ji26) : Int) := of_decide_eq_true (by first | (with_reducible assumption) | assumption)
                        have q202 : (ji26) < (t198.length : Int) := of_decide_eq_true (by first | (with_reducible assumption) | assumption)
                        obtain ⟨ad202, e202, hx202_0⟩ := Kd.at_int (Kd.R_reads' HO200.out).2.2 (ji26) p202 q202
                        obtain rfl : ad201 = ad202 := (by injection e202)
                        replace p202 := eq_true p202
                        replace q202 := eq_true q202
                        have hcz32_0 : w21.cell? ⟨gb194, 0, none⟩ = some (.int .i64 a0_0) := (blk_cell BK194.out 0).trans rfl
                        have hcz32_1 : w21.cell? ⟨gb194, 1, none⟩ = some (.int .i64 a0_1) := (blk_cell BK194.out 1).trans rfl
                        have hcz32_2 : w21.cell? ⟨gb194, 2, none⟩ = some (.int .i64 a0_2) := (blk_cell BK194.out 2).trans rfl
                        have hcz32_3 : w21.cell? ⟨gb194, 3, none⟩ = some (.int .i64 a0_3) := (blk_cell BK194.out 3).trans rfl
                        have hcz32_4 : w21.cell? ⟨gb194, 4, none⟩ = some (.int .i64 a0_4) := (blk_cell BK194.out 4).trans rfl
                        have hcz32_5 : w21.cell? ⟨gb194, 5, none⟩ = some (.int .i64 a0_5) := (blk_cell BK194.out 5).trans rfl
                        have hcz32_6 : w21.cell? ⟨gb194, 6, none⟩ = some (.slice A0_6 l0_6.length c0_6) := (blk_cell BK194.out 6).trans rfl
                        have hcz32_7 : w21.cell? ⟨gb194, 7, none⟩ = some (.slice A0_7 l0_7.length c0_7) := (blk_cell BK194.out 7).trans rfl
                        have hfz32_0 := blk_frozen BK194.out 0
                        have hfz32_1 := blk_frozen BK194.out 1
                        have hfz32_2 := blk_frozen BK194.out 2
                        have hfz32_3 := blk_frozen BK194.out 3
                        have hfz32_4 := blk_frozen BK194.out 4
                        have hfz32_5 := blk_frozen BK194.out 5
                        have hfz32_6 := blk_frozen BK194.out 6
                        have hfz32_7 := blk_frozen BK194.out 7
                        go_wp2_with (first | (go_at_call 16; (with_reducible refine (tree_Depth.calls kj3 a0_0 a0_1 a0_2 a0_3 a0_4 a0_5 _ _ l0_6 _ _ l0_7 t203 _ ?side1 ?side2 ?side3 ?side4 A30.out).mono ?_); (case side1 => repeat (first | exact (Kd.C_below HR0_6.out HB.out) | (with_reducible refine Kd.C_alloc ?_ _) | (with_reducible refine Kd.C_drewN ?_ _) | (with_reducible refine Kd.C_drew ?_))); (case side2 => exact HC0_6.out); (case side3 => repeat (first | exact (Kd.C_below HR0_7.out HB.out) | (with_reducible refine Kd.C_alloc ?_ _) | (with_reducible refine Kd.C_drewN ?_ _) | (with_reducible refine Kd.C_drew ?_))); (case side4 => exact HC0_7.out); rintro e w33 ⟨rfl, hb⟩; have n0_ := Aside0.mk (Kd.R_below (by (with_reducible repeat (first | apply Kd.R_alloc | apply Kd.R_drewN | apply Kd.R_drew)); exact HO200.out) hb); have n1_ := Aside0.mk (blk_below (g := gb194) (o := .cells #[.int .i64 a0_0, .int .i64 a0_1, .int .i64 a0_2, .int .i64 a0_3, .int .i64 a0_4, .int .i64 a0_5, .slice A0_6 l0_6.length c0_6, .slice A0_7 l0_7.length c0_7] 24 (0, 0)) (by (with_reducible repeat (first | refine blk_drewN ?_ _ | refine blk_drew ?_ | refine blk_alloc ?_ _)); exact BK194.out) hb); have n2_ := Aside0.mk (below_step (by repeat (first | (with_reducible first | exact HB.out | apply below_alloc | apply pw_below_drewN | apply below_drew1 | refine below_set ?_ GE194.out) | exact HB.out)) hb); clear HO200; clear BK194; clear HB; have HO200 := n0_; have BK194 := n1_; have HB := n2_; clear n0_ n1_ n2_; (try clear hb); (try clear hb2); (try clear hk); (try clear hi)))
                        repeat (go_quiet (first | (go_at_call 16; (with_reducible refine (tree_Depth.calls kj3 a0_0 a0_1 a0_2 a0_3 a0_4 a0_5 _ _ l0_6 _ _ l0_7 t203 _ ?side1 ?side2 ?side3 ?side4 A30.out).mono ?_); (case side1 => repeat (first | exact (Kd.C_below HR0_6.out HB.out) | (with_reducible refine Kd.C_alloc ?_ _) | (with_reducible refine Kd.C_drewN ?_ _) | (with_reducible refine Kd.C_drew ?_))); (case side2 => exact HC0_6.out); (case side3 => repeat (first | exact (Kd.C_below HR0_7.out HB.out) | (with_reducible refine Kd.C_alloc ?_ _) | (with_reducible refine Kd.C_drewN ?_ _) | (with_reducible refine Kd.C_drew ?_))); (case side4 => exact HC0_7.out); rintro e w33 ⟨rfl, hb⟩; have n0_ := Aside0.mk (Kd.R_below (by (with_reducible repeat (first | apply Kd.R_alloc | apply Kd.R_drewN | apply Kd.R_drew)); exact HO200.out) hb); have n1_ := Aside0.mk (blk_below (g := gb194) (o := .cells #[.int .i64 a0_0, .int .i64 a0_1, .int .i64 a0_2, .int .i64 a0_3, .int .i64 a0_4, .int .i64 a0_5, .slice A0_6 l0_6.length c0_6, .slice A0_7 l0_7.length c0_7] 24 (0, 0)) (by (with_reducible repeat (first | refine blk_drewN ?_ _ | refine blk_drew ?_ | refine blk_alloc ?_ _)); exact BK194.out) hb); have n2_ := Aside0.mk (below_step (by repeat (first | (with_reducible first | exact HB.out | apply below_alloc | apply pw_below_drewN | apply below_drew1 | refine below_set ?_ GE194.out) | exact HB.out)) hb); clear HO200; clear BK194; clear HB; have HO200 := n0_; have BK194 := n1_; have HB := n2_; clear n0_ n1_ n2_; (try clear hb); (try clear hb2); (try clear hk); (try clear hi))); try go_wp2_with (first | (go_at_call 16; (with_reducible refine (tree_Depth.calls kj3 a0_0 a0_1 a0_2 a0_3 a0_4 a0_5 _ _ l0_6 _ _ l0_7 t203 _ ?side1 ?side2 ?side3 ?side4 A30.out).mono ?_); (case side1 => repeat (first | exact (Kd.C_below HR0_6.out HB.out) | (with_reducible refine Kd.C_alloc ?_ _) | (with_reducible refine Kd.C_drewN ?_ _) | (with_reducible refine Kd.C_drew ?_))); (case side2 => exact HC0_6.out); (case side3 => repeat (first | exact (Kd.C_below HR0_7.out HB.out) | (with_reducible refine Kd.C_alloc ?_ _) | (with_reducible refine Kd.C_drewN ?_ _) | (with_reducible refine Kd.C_drew ?_))); (case side4 => exact HC0_7.out); rintro e w33 ⟨rfl, hb⟩; have n0_ := Aside0.mk (Kd.R_below (by (with_reducible repeat (first | apply Kd.R_alloc | apply Kd.R_drewN | apply Kd.R_drew)); exact HO200.out) hb); have n1_ := Aside0.mk (blk_below (g := gb194) (o := .cells #[.int .i64 a0_0, .int .i64 a0_1, .int .i64 a0_2, .int .i64 a0_3, .int .i64 a0_4, .int .i64 a0_5, .slice A0_6 l0_6.length c0_6, .slice A0_7 l0_7.length c0_7] 24 (0, 0)) (by (with_reducible repeat (first | refine blk_drewN ?_ _ | refine blk_drew ?_ | refine blk_alloc ?_ _)); exact BK194.out) hb); have n2_ := Aside0.mk (below_step (by repeat (first | (with_reducible first | exact HB.out | apply below_alloc | apply pw_below_drewN | apply below_drew1 | refine below_set ?_ GE194.out) | exact HB.out)) hb); clear HO200; clear BK194; clear HB; have HO200 := n0_; have BK194 := n1_; have HB := n2_; clear n0_ n1_ n2_; (try clear hb); (try clear hb2); (try clear hk); (try clear hi))))
                        go_meet
                        case rel => exact ⟨_, (decide ((t198.length : Int) > t203)), (by first | rfl | (simp; done) | (simp [*]; done)), H', ⟨by have := HJ3.out; first | omega | exact Nat.le_refl _⟩, ⟨by (with_reducible repeat (first | apply Kd.R_alloc | apply Kd.R_drewN | apply Kd.R_drew)); exact HO200.out⟩, ⟨by (with_reducible repeat (first | refine blk_drewN ?_ _ | refine blk_drew ?_ | refine blk_alloc ?_ _)); exact BK194.out⟩, ⟨by repeat (first | (with_reducible first | exact HB.out | apply below_alloc | apply pw_below_drewN | apply below_drew1 | refine below_set ?_ GE194.out) | exact HB.out)⟩⟩
                      · rw [if_neg c29] at H
                        have c29b0 : ((rd t198 (ji26)) == 0) = false := beq_eq_false_iff_ne.mpr c29
                        have c29b1 : ((rd t198 (ji26)) != 0) = true := bne_iff_ne.mpr c29
                        have H' := Aside0.mk H
                        clear H
                        obtain ⟨Ao34, co34, eo34⟩ := Kd.R_slice HO200.out
                        subst eo34
                        have p201 : 0 ≤ (0 : Int) := (by omega)
                        have q201 : 0 < (t198.length : Int) := of_decide_eq_true (by first | (with_reducible assumption) | assumption)
                        obtain ⟨ad201, e201, hx201_0⟩ := Kd.at_int (Kd.R_reads' HO200.out).2.2 0 p201 q201
                        cases e201
                        have qi201 : (0 < t198.length) = True := eq_true (by omega)
                        (try rw [show ((0 : Int)).toNat = 0 from rfl] at hx201_0)
                        (try rw [Addr.add_zero'] at hx201_0)
                        replace p201 := eq_true p201
                        replace q201 := eq_true q201
                        have p202 : 0 ≤ ((ji26) : Int) := of_decide_eq_true (by first | (with_reducible assumption) | assumption)
                        have q202 : (ji26) < (t198.length : Int) := of_decide_eq_true (by first | (with_reducible assumption) | assumption)
                        obtain ⟨ad202, e202, hx202_0⟩ := Kd.at_int (Kd.R_reads' HO200.out).2.2 (ji26) p202 q202
                        obtain rfl : ad201 = ad202 := (by injection e202)
                        replace p202 := eq_true p202
                        replace q202 := eq_true q202
                        go_wp2
                        repeat (go_quiet (fail); try go_wp2)
                        go_meet
                        case rel => exact ⟨_, (true), (by first | rfl | (simp; done) | (simp [*]; done)), H', ⟨by have := HJ3.out; first | omega | exact Nat.le_refl _⟩, ⟨by (with_reducible repeat (first | apply Kd.R_alloc | apply Kd.R_drewN | apply Kd.R_drew)); exact HO200.out⟩, ⟨by (with_reducible repeat (first | refine blk_drewN ?_ _ | refine blk_drew ?_ | refine blk_alloc ?_ _)); exact BK194.out⟩, ⟨by repeat (first | (with_reducible first | exact HB.out | apply below_alloc | apply pw_below_drewN | apply below_drew1 | refine below_set ?_ GE194.out) | exact HB.out)⟩⟩
                    · rw [if_neg c28] at H
                      exact absurd H (by simp)
                  · rw [if_neg c27] at H
                    exact absurd H (by simp)
                · rw [if_neg c25] at H
                  have c25b0 : ((rd t198 0) == (Int.tmod (wrap64 (a1)) (l0_6.length : Int))) = false := beq_eq_false_iff_ne.mpr c25
                  have c25b1 : ((rd t198 0) != (Int.tmod (wrap64 (a1)) (l0_6.length : Int))) = true := bne_iff_ne.mpr c25
                  have H' := Aside0.mk H
                  clear H
                  obtain ⟨Ao35, co35, eo35⟩ := Kd.R_slice HO200.out
                  subst eo35
                  have p201 : 0 ≤ (0 : Int) := (by omega)
                  have q201 : 0 < (t198.length : Int) := of_decide_eq_true (by first | (with_reducible assumption) | assumption)
                  obtain ⟨ad201, e201, hx201_0⟩ := Kd.at_int (Kd.R_reads' HO200.out).2.2 0 p201 q201
                  cases e201
                  have qi201 : (0 < t198.length) = True := eq_true (by omega)
                  (try rw [show ((0 : Int)).toNat = 0 from rfl] at hx201_0)
                  (try rw [Addr.add_zero'] at hx201_0)
                  replace p201 := eq_true p201
                  replace q201 := eq_true q201
                  go_wp2
                  repeat (go_quiet (fail); try go_wp2)
                  go_meet
                  case rel => exact ⟨_, (true), (by first | rfl | (simp; done) | (simp [*]; done)), H', ⟨by have := HJ3.out; first | omega | exact Nat.le_refl _⟩, ⟨by (with_reducible repeat (first | apply Kd.R_alloc | apply Kd.R_drewN | apply Kd.R_drew)); exact HO200.out⟩, ⟨by (with_reducible repeat (first | refine blk_drewN ?_ _ | refine blk_drew ?_ | refine blk_alloc ?_ _)); exact BK194.out⟩, ⟨by repeat (first | (with_reducible first | exact HB.out | apply below_alloc | apply pw_below_drewN | apply below_drew1 | refine below_set ?_ GE194.out) | exact HB.out)⟩⟩
              · rw [if_neg c24] at H
                exact absurd H (by simp)
          case rest =>
            clear HC19
            try clear c1
            try clear c2
            try clear p2
            try clear q2
            try clear hx2
            try clear qi2
            try clear c4
            try clear p6
            try clear c8
            try clear c16
            try clear c17
            try clear c17b0
            try clear c17b1
            try clear c17b2
            try clear p20
            try clear q20
            try clear hx20
            try clear qi20
            try clear c22
            try clear c22b0
            try clear c22b1
            try clear c22b2
            try clear c24
            try clear c24b0
            try clear c24b1
            try clear c25
            try clear c25b0
            try clear c25b1
            try clear c27
            try clear c27b0
            try clear c28
            try clear c28b0
            try clear c29
            try clear c29b0
            try clear c29b1
            try clear hcz12_0
            try clear hcz12_1
            try clear hcz12_2
            try clear hcz12_3
            try clear hcz12_4
            try clear hcz12_5
            try clear hcz12_6
            try clear hcz12_7
            try clear hcz14_0
            try clear hcz14_1
            try clear hcz14_2
            try clear hcz14_3
            try clear hcz14_4
            try clear hcz14_5
            try clear hcz14_6
            try clear hcz14_7
            try clear hcz20_0
            try clear hcz20_1
            try clear hcz20_2
            try clear hcz20_3
            try clear hcz20_4
            try clear hcz20_5
            try clear hcz20_6
            try clear hcz20_7
            try clear hcz32_0
            try clear hcz32_1
            try clear hcz32_2
            try clear hcz32_3
            try clear hcz32_4
            try clear hcz32_5
            try clear hcz32_6
            try clear hcz32_7
            try clear hcz9_0
            try clear hcz9_1
            try clear hcz9_2
            try clear hcz9_3
            try clear hcz9_4
            try clear hcz9_5
            try clear hcz9_6
            try clear hcz9_7
            try clear hfz12_0
            try clear hfz12_1
            try clear hfz12_2
            try clear hfz12_3
            try clear hfz12_4
            try clear hfz12_5
            try clear hfz12_6
            try clear hfz12_7
            try clear hfz14_0
            try clear hfz14_1
            try clear hfz14_2
            try clear hfz14_3
            try clear hfz14_4
            try clear hfz14_5
            try clear hfz14_6
            try clear hfz14_7
            try clear hfz20_0
            try clear hfz20_1
            try clear hfz20_2
            try clear hfz20_3
            try clear hfz20_4
            try clear hfz20_5
            try clear hfz20_6
            try clear hfz20_7
            try clear hfz32_0
            try clear hfz32_1
            try clear hfz32_2
            try clear hfz32_3
            try clear hfz32_4
            try clear hfz32_5
            try clear hfz32_6
            try clear hfz32_7
            try clear hfz9_0
            try clear hfz9_1
            try clear hfz9_2
            try clear hfz9_3
            try clear hfz9_4
            try clear hfz9_5
            try clear hfz9_6
            try clear hfz9_7
            try clear hx201_0
            try clear hx202_0
            try clear p2
            try clear p201
            try clear p202
            try clear q201
            try clear q202
            obtain ⟨kq, x52_18, rfl, HA, HJ18, HO_7, BK194, HB⟩ := hcut
            cases kq with
            | zero => exact absurd HA.out (by simp [breadlinelaw04_TreePath.j1])
            | succ kj18 =>
              have H := HA.out
              clear HA
              simp only [breadlinelaw04_TreePath.j1] at H
              by_cases c36 : x52_18 = true
              · subst c36
                have H1 : (some false) = some r := by rw [if_pos rfl] at H; exact H
                clear H
                have H := H1
                clear H1
                obtain rfl := Option.some.inj H
                go_wp2
                repeat (go_quiet (fail); try go_wp2)
                go_ret
                exact ⟨by first | rfl | (simp [errW_none, errW_some] <;> rfl) | (simp [*, errW_none, errW_some] <;> rfl), by repeat (first | (with_reducible first | exact HB.out | apply below_alloc | apply pw_below_drewN | apply below_drew1 | refine below_set ?_ GE194.out) | exact HB.out)⟩
              · replace c36 := Bool.eq_false_iff.mpr c36
                subst c36
                have H1 : (breadlinelaw04_TreePath.l0 kj18 t195 t198 1 a0_0 a0_1 a0_2 a0_3 a0_4 a0_5 l0_6 l0_7) = some r := by rw [if_neg (show ¬ (false = true) by decide)] at H; exact H
                clear H
                have H := H1
                clear H1
                have H' := Aside0.mk H
                clear H
                go_wp2
                repeat (go_quiet (fail); try go_wp2)
                go_loopg [8] kj18 (fun kq v8 w' => ∃ (x8_3 : Int), v8 = .int .i64 x8_3 ∧ Aside0 (breadlinelaw04_TreePath.l0 kq t195 t198 x8_3 a0_0 a0_1 a0_2 a0_3 a0_4 a0_5 l0_6 l0_7 = some r) ∧ Aside0 (kq ≤ kj18) ∧ Aside0 (Kd.R (Kd.int .i64) 3 w' w.heap.size (fun _ => True) v199 t198) ∧ Aside0 (w'.heap[gb194]? = some (.cells #[.int .i64 a0_0, .int .i64 a0_1, .int .i64 a0_2, .int .i64 a0_3, .int .i64 a0_4, .int .i64 a0_5, (.slice A0_6 l0_6.length c0_6), (.slice A0_7 l0_7.length c0_7)] 24 (0, 0))) ∧ Aside0 (Below w.heap.size w w'))
                case atStart => exact ⟨(1), (by first | rfl | (simp; done) | (simp [*]; done)), H', ⟨Nat.le_refl _⟩, ⟨by (with_reducible repeat (first | apply Kd.R_alloc | apply Kd.R_drewN | apply Kd.R_drew)); exact HO_7.out⟩, ⟨by (with_reducible repeat (first | refine blk_drewN ?_ _ | refine blk_drew ?_ | refine blk_alloc ?_ _)); exact BK194.out⟩, ⟨by repeat (first | (with_reducible first | exact HB.out | apply below_alloc | apply pw_below_drewN | apply below_drew1 | refine below_set ?_ GE194.out) | exact HB.out)⟩⟩
                case round =>
                  clear H'
                  try clear c1
                  try clear c2
                  try clear p2
                  try clear q2
                  try clear hx2
                  try clear qi2
                  try clear c3
                  try clear c4
                  try clear p6
                  try clear c8
                  try clear c16
                  try clear c17
                  try clear c17b0
                  try clear c17b1
                  try clear c17b2
                  try clear p20
                  try clear q20
                  try clear hx20
                  try clear qi20
                  try clear c22
                  try clear c22b0
                  try clear c22b1
                  try clear c22b2
                  try clear c24
                  try clear c24b0
                  try clear c24b1
                  try clear c25
                  try clear c25b0
                  try clear c25b1
                  try clear c27
                  try clear c27b0
                  try clear c28
                  try clear c28b0
                  try clear c29
                  try clear c29b0
                  try clear c29b1
                  try clear c36
                  try clear hcz12_0
                  try clear hcz12_1
                  try clear hcz12_2
                  try clear hcz12_3
                  try clear hcz12_4
                  try clear hcz12_5
                  try clear hcz12_6
                  try clear hcz12_7
                  try clear hcz14_0
                  try clear hcz14_1
                  try clear hcz14_2
                  try clear hcz14_3
                  try clear hcz14_4
                  try clear hcz14_5
                  try clear hcz14_6
                  try clear hcz14_7
                  try clear hcz20_0
                  try clear hcz20_1
                  try clear hcz20_2
                  try clear hcz20_3
                  try clear hcz20_4
                  try clear hcz20_5
                  try clear hcz20_6
                  try clear hcz20_7
                  try clear hcz32_0
                  try clear hcz32_1
                  try clear hcz32_2
                  try clear hcz32_3
                  try clear hcz32_4
                  try clear hcz32_5
                  try clear hcz32_6
                  try clear hcz32_7
                  try clear hcz9_0
                  try clear hcz9_1
                  try clear hcz9_2
                  try clear hcz9_3
                  try clear hcz9_4
                  try clear hcz9_5
                  try clear hcz9_6
                  try clear hcz9_7
                  try clear hfz12_0
                  try clear hfz12_1
                  try clear hfz12_2
                  try clear hfz12_3
                  try clear hfz12_4
                  try clear hfz12_5
                  try clear hfz12_6
                  try clear hfz12_7
                  try clear hfz14_0
                  try clear hfz14_1
                  try clear hfz14_2
                  try clear hfz14_3
                  try clear hfz14_4
                  try clear hfz14_5
                  try clear hfz14_6
                  try clear hfz14_7
                  try clear hfz20_0
                  try clear hfz20_1
                  try clear hfz20_2
                  try clear hfz20_3
                  try clear hfz20_4
                  try clear hfz20_5
                  try clear hfz20_6
                  try clear hfz20_7
                  try clear hfz32_0
                  try clear hfz32_1
                  try clear hfz32_2
                  try clear hfz32_3
                  try clear hfz32_4
                  try clear hfz32_5
                  try clear hfz32_6
                  try clear hfz32_7
                  try clear hfz9_0
                  try clear hfz9_1
                  try clear hfz9_2
                  try clear hfz9_3
                  try clear hfz9_4
                  try clear hfz9_5
                  try clear hfz9_6
                  try clear hfz9_7
                  try clear hx201_0
                  try clear hx202_0
                  try clear p2
                  try clear p20
                  try clear p201
                  try clear p202
                  try clear p6
                  try clear q2
                  try clear q20
                  try clear q201
                  try clear q202
                  obtain ⟨x8_3, rfl, HA, HK3, HO_7, BK194, HB⟩ := hrel
                  cases gk with
                  | zero => exact absurd HA.out (by simp [breadlinelaw04_TreePath.l0])
                  | succ k3 =>
                    have H := HA.out
                    clear HA
                    simp only [breadlinelaw04_TreePath.l0] at H
                    by_cases c37 : x8_3 < (t198.length : Int)
                    · rw [if_pos c37] at H
                      have c37b0 : decide (x8_3 < (t198.length : Int)) = true := decide_eq_true c37
                      clear c37
                      by_cases c38 : 0 ≤ x8_3
                      · rw [if_pos c38] at H
                        have c38b0 : decide (0 ≤ x8_3) = true := decide_eq_true c38
                        clear c38
                        obtain ⟨ji39, hji39⟩ : ∃ j_ : Int, (wrap64 (x8_3 - 1)) = j_ := ⟨_, rfl⟩
                        replace H : (if 0 ≤ (ji39) then (if (ji39) < (t198.length : Int) then (if (rd t198 x8_3) ≥ (rd t198 (ji39)) then (some false) else (if (rd t198 x8_3) < 0 then (some false) else (if (rd t198 (ji39)) ≥ (l0_6.length : Int) then (some false) else (if 0 ≤ (rd t198 (ji39)) then (if (rd t198 (ji39)) < (l0_6.length : Int) then (if (rd l0_6 (rd t198 (ji39))) = (rd t198 x8_3) then (breadlinelaw04_TreePath.l0 k3 t195 t198 (wrap64 (x8_3 + 1)) a0_0 a0_1 a0_2 a0_3 a0_4 a0_5 l0_6 l0_7) else (some false)) else (none)) else (none))))) else (none)) else (none)) = some r := by first | (rw [hji39] at H; exact H) | (simp only [hji39] at H ⊢; exact H)
                        have hji39w : (IntKind.i64.wrap (x8_3 - 1)) = ji39 := (i64_w _).trans hji39
                        by_cases c40 : 0 ≤ (ji39)
                        · rw [if_pos c40] at H
                          have c40b0 : decide (0 ≤ (ji39)) = true := decide_eq_true c40
                          clear c40
                          by_cases c41 : (ji39) < (t198.length : Int)
                          · rw [if_pos c41] at H
                            have c41b0 : decide ((ji39) < (t198.length : Int)) = true := decide_eq_true c41
                            clear c41
                            by_cases c42 : (rd t198 x8_3) ≥ (rd t198 (ji39))
                            · rw [if_pos c42] at H
                              have c42b0 : decide ((rd t198 (ji39)) ≤ (rd t198 x8_3)) = true := decide_eq_true c42
                              clear c42
                              obtain rfl := Option.some.inj H
                              obtain ⟨Ao43, co43, eo43⟩ := Kd.R_slice HO_7.out
                              subst eo43
                              have p204 : 0 ≤ (x8_3 : Int) := of_decide_eq_true (by first | (with_reducible assumption) | assumption)
                              have q204 : x8_3 < (t198.length : Int) := of_decide_eq_true (by first | (with_reducible assumption) | assumption)
                              obtain ⟨ad204, e204, hx204_0⟩ := Kd.at_int (Kd.R_reads' HO_7.out).2.2 x8_3 p204 q204
                              cases e204
                              replace p204 := eq_true p204
                              replace q204 := eq_true q204
                              have p205 : 0 ≤ ((ji39) : Int) := of_decide_eq_true (by first | (with_reducible assumption) | assumption)
                              have q205 : (ji39) < (t198.length : Int) := of_decide_eq_true (by first | (with_reducible assumption) | assumption)
                              obtain ⟨ad205, e205, hx205_0⟩ := Kd.at_int (Kd.R_reads' HO_7.out).2.2 (ji39) p205 q205
                              obtain rfl : ad204 = ad205 := (by injection e205)
                              replace p205 := eq_true p205
                              replace q205 := eq_true q205
                              go_wp2
                              repeat (go_quiet (fail); try go_wp2)
                              go_ret
                              exact ⟨by first | rfl | (simp [errW_none, errW_some] <;> rfl) | (simp only [← hji39]; first | rfl | (simp [errW_none, errW_some] <;> rfl)) | (simp [*, errW_none, errW_some] <;> rfl), by repeat (first | (with_reducible first | exact HB.out | apply below_alloc | apply pw_below_drewN | apply below_drew1 | refine below_set ?_ GE194.out) | exact HB.out)⟩
                            · rw [if_neg c42] at H
                              have c42b0 : decide ((rd t198 (ji39)) ≤ (rd t198 x8_3)) = false := decide_eq_false c42
                              clear c42
                              by_cases c44 : (rd t198 x8_3) < 0
                              · rw [if_pos c44] at H
                                have c44b0 : decide ((rd t198 x8_3) < 0) = true := decide_eq_true c44
                                clear c44
                                obtain rfl := Option.some.inj H
                                obtain ⟨Ao45, co45, eo45⟩ := Kd.R_slice HO_7.out
                                subst eo45
                                have p204 : 0 ≤ (x8_3 : Int) := of_decide_eq_true (by first | (with_reducible assumption) | assumption)
                                have q204 : x8_3 < (t198.length : Int) := of_decide_eq_true (by first | (with_reducible assumption) | assumption)
                                obtain ⟨ad204, e204, hx204_0⟩ := Kd.at_int (Kd.R_reads' HO_7.out).2.2 x8_3 p204 q204
                                cases e204
                                replace p204 := eq_true p204
                                replace q204 := eq_true q204
                                have p205 : 0 ≤ ((ji39) : Int) := of_decide_eq_true (by first | (with_reducible assumption) | assumption)
                                have q205 : (ji39) < (t198.length : Int) := of_decide_eq_true (by first | (with_reducible assumption) | assumption)
                                obtain ⟨ad205, e205, hx205_0⟩ := Kd.at_int (Kd.R_reads' HO_7.out).2.2 (ji39) p205 q205
                                obtain rfl : ad204 = ad205 := (by injection e205)
                                replace p205 := eq_true p205
                                replace q205 := eq_true q205
                                have p206 : 0 ≤ (x8_3 : Int) := of_decide_eq_true (by first | (with_reducible assumption) | assumption)
                                have q206 : x8_3 < (t198.length : Int) := of_decide_eq_true (by first | (with_reducible assumption) | assumption)
                                obtain ⟨ad206, e206, hx206_0⟩ := Kd.at_int (Kd.R_reads' HO_7.out).2.2 x8_3 p206 q206
                                obtain rfl : ad204 = ad206 := (by injection e206)
                                replace p206 := eq_true p206
                                replace q206 := eq_true q206
                                go_wp2
                                repeat (go_quiet (fail); try go_wp2)
                                go_ret
                                exact ⟨by first | rfl | (simp [errW_none, errW_some] <;> rfl) | (simp only [← hji39]; first | rfl | (simp [errW_none, errW_some] <;> rfl)) | (simp [*, errW_none, errW_some] <;> rfl), by repeat (first | (with_reducible first | exact HB.out | apply below_alloc | apply pw_below_drewN | apply below_drew1 | refine below_set ?_ GE194.out) | exact HB.out)⟩
                              · rw [if_neg c44] at H
                                have c44b0 : decide ((rd t198 x8_3) < 0) = false := decide_eq_false c44
                                clear c44
                                by_cases c46 : (rd t198 (ji39)) ≥ (l0_6.length : Int)
                                · rw [if_pos c46] at H
                                  have c46b0 : decide ((l0_6.length : Int) ≤ (rd t198 (ji39))) = true := decide_eq_true c46
                                  clear c46
                                  obtain rfl := Option.some.inj H
                                  obtain ⟨Ao47, co47, eo47⟩ := Kd.R_slice HO_7.out
                                  subst eo47
                                  have p204 : 0 ≤ (x8_3 : Int) := of_decide_eq_true (by first | (with_reducible assumption) | assumption)
                                  have q204 : x8_3 < (t198.length : Int) := of_decide_eq_true (by first | (with_reducible assumption) | assumption)
                                  obtain ⟨ad204, e204, hx204_0⟩ := Kd.at_int (Kd.R_reads' HO_7.out).2.2 x8_3 p204 q204
                                  cases e204
                                  replace p204 := eq_true p204
                                  replace q204 := eq_true q204
                                  have p205 : 0 ≤ ((ji39) : Int) := of_decide_eq_true (by first | (with_reducible assumption) | assumption)
                                  have q205 : (ji39) < (t198.length : Int) := of_decide_eq_true (by first | (with_reducible assumption) | assumption)
                                  obtain ⟨ad205, e205, hx205_0⟩ := Kd.at_int (Kd.R_reads' HO_7.out).2.2 (ji39) p205 q205
                                  obtain rfl : ad204 = ad205 := (by injection e205)
                                  replace p205 := eq_true p205
                                  replace q205 := eq_true q205
                                  have p206 : 0 ≤ (x8_3 : Int) := of_decide_eq_true (by first | (with_reducible assumption) | assumption)
                                  have q206 : x8_3 < (t198.length : Int) := of_decide_eq_true (by first | (with_reducible assumption) | assumption)
                                  obtain ⟨ad206, e206, hx206_0⟩ := Kd.at_int (Kd.R_reads' HO_7.out).2.2 x8_3 p206 q206
                                  obtain rfl : ad204 = ad206 := (by injection e206)
                                  replace p206 := eq_true p206
                                  replace q206 := eq_true q206
                                  have p207 : 0 ≤ ((ji39) : Int) := of_decide_eq_true (by first | (with_reducible assumption) | assumption)
                                  have q207 : (ji39) < (t198.length : Int) := of_decide_eq_true (by first | (with_reducible assumption) | assumption)
                                  obtain ⟨ad207, e207, hx207_0⟩ := Kd.at_int (Kd.R_reads' HO_7.out).2.2 (ji39) p207 q207
                                  obtain rfl : ad204 = ad207 := (by injection e207)
                                  replace p207 := eq_true p207
                                  replace q207 := eq_true q207
                                  have hcz48_0 : wr.cell? ⟨gb194, 0, none⟩ = some (.int .i64 a0_0) := (blk_cell BK194.out 0).trans rfl
                                  have hcz48_1 : wr.cell? ⟨gb194, 1, none⟩ = some (.int .i64 a0_1) := (blk_cell BK194.out 1).trans rfl
                                  have hcz48_2 : wr.cell? ⟨gb194, 2, none⟩ = some (.int .i64 a0_2) := (blk_cell BK194.out 2).trans rfl
                                  have hcz48_3 : wr.cell? ⟨gb194, 3, none⟩ = some (.int .i64 a0_3) := (blk_cell BK194.out 3).trans rfl
                                  have hcz48_4 : wr.cell? ⟨gb194, 4, none⟩ = some (.int .i64 a0_4) := (blk_cell BK194.out 4).trans rfl
                                  have hcz48_5 : wr.cell? ⟨gb194, 5, none⟩ = some (.int .i64 a0_5) := (blk_cell BK194.out 5).trans rfl
                                  have hcz48_6 : wr.cell? ⟨gb194, 6, none⟩ = some (.slice A0_6 l0_6.length c0_6) := (blk_cell BK194.out 6).trans rfl
                                  have hcz48_7 : wr.cell? ⟨gb194, 7, none⟩ = some (.slice A0_7 l0_7.length c0_7) := (blk_cell BK194.out 7).trans rfl
                                  have hfz48_0 := blk_frozen BK194.out 0
                                  have hfz48_1 := blk_frozen BK194.out 1
                                  have hfz48_2 := blk_frozen BK194.out 2
                                  have hfz48_3 := blk_frozen BK194.out 3
                                  have hfz48_4 := blk_frozen BK194.out 4
                                  have hfz48_5 := blk_frozen BK194.out 5
                                  have hfz48_6 := blk_frozen BK194.out 6
                                  have hfz48_7 := blk_frozen BK194.out 7
                                  go_wp2
                                  repeat (go_quiet (fail); try go_wp2)
                                  go_ret
                                  exact ⟨by first | rfl | (simp [errW_none, errW_some] <;> rfl) | (simp only [← hji39]; first | rfl | (simp [errW_none, errW_some] <;> rfl)) | (simp [*, errW_none, errW_some] <;> rfl), by repeat (first | (with_reducible first | exact HB.out | apply below_alloc | apply pw_below_drewN | apply below_drew1 | refine below_set ?_ GE194.out) | exact HB.out)⟩
                                · rw [if_neg c46] at H
                                  have c46b0 : decide ((l0_6.length : Int) ≤ (rd t198 (ji39))) = false := decide_eq_false c46
                                  clear c46
                                  by_cases c49 : 0 ≤ (rd t198 (ji39))
                                  · rw [if_pos c49] at H
                                    have c49b0 : decide (0 ≤ (rd t198 (ji39))) = true := decide_eq_true c49
                                    clear c49
                                    by_cases c50 : (rd t198 (ji39)) < (l0_6.length : Int)
                                    · rw [if_pos c50] at H
                                      have c50b0 : decide ((rd t198 (ji39)) < (l0_6.length : Int)) = true := decide_eq_true c50
                                      clear c50
                                      by_cases c51 : (rd l0_6 (rd t198 (ji39))) = (rd t198 x8_3)
                                      · rw [if_pos c51] at H
                                        have c51b0 : ((rd l0_6 (rd t198 (ji39))) == (rd t198 x8_3)) = true := beq_iff_eq.mpr c51
                                        have c51b1 : ((rd l0_6 (rd t198 (ji39))) != (rd t198 x8_3)) = false := bne_eq_false_iff_eq.mpr c51
                                        clear c51
                                        have H' := Aside0.mk H
                                        clear H
                                        obtain ⟨Ao52, co52, eo52⟩ := Kd.R_slice HO_7.out
                                        subst eo52
                                        have p204 : 0 ≤ (x8_3 : Int) := of_decide_eq_true (by first | (with_reducible assumption) | assumption)
                                        have q204 : x8_3 < (t198.length : Int) := of_decide_eq_true (by first | (with_reducible assumption) | assumption)
                                        obtain ⟨ad204, e204, hx204_0⟩ := Kd.at_int (Kd.R_reads' HO_7.out).2.2 x8_3 p204 q204
                                        cases e204
                                        replace p204 := eq_true p204
                                        replace q204 := eq_true q204
                                        have p205 : 0 ≤ ((ji39) : Int) := of_decide_eq_true (by first | (with_reducible assumption) | assumption)
                                        have q205 : (ji39) < (t198.length : Int) := of_decide_eq_true (by first | (with_reducible assumption) | assumption)
                                        obtain ⟨ad205, e205, hx205_0⟩ := Kd.at_int (Kd.R_reads' HO_7.out).2.2 (ji39) p205 q205
                                        obtain rfl : ad204 = ad205 := (by injection e205)
                                        replace p205 := eq_true p205
                                        replace q205 := eq_true q205
                                        have p206 : 0 ≤ (x8_3 : Int) := of_decide_eq_true (by first | (with_reducible assumption) | assumption)
                                        have q206 : x8_3 < (t198.length : Int) := of_decide_eq_true (by first | (with_reducible assumption) | assumption)
                                        obtain ⟨ad206, e206, hx206_0⟩ := Kd.at_int (Kd.R_reads' HO_7.out).2.2 x8_3 p206 q206
                                        obtain rfl : ad204 = ad206 := (by injection e206)
                                        replace p206 := eq_true p206
                                        replace q206 := eq_true q206
                                        have p207 : 0 ≤ ((ji39) : Int) := of_decide_eq_true (by first | (with_reducible assumption) | assumption)
                                        have q207 : (ji39) < (t198.length : Int) := of_decide_eq_true (by first | (with_reducible assumption) | assumption)
                                        obtain ⟨ad207, e207, hx207_0⟩ := Kd.at_int (Kd.R_reads' HO_7.out).2.2 (ji39) p207 q207
                                        obtain rfl : ad204 = ad207 := (by injection e207)
                                        replace p207 := eq_true p207
                                        replace q207 := eq_true q207
                                        have hcz53_0 : wr.cell? ⟨gb194, 0, none⟩ = some (.int .i64 a0_0) := (blk_cell BK194.out 0).trans rfl
                                        have hcz53_1 : wr.cell? ⟨gb194, 1, none⟩ = some (.int .i64 a0_1) := (blk_cell BK194.out 1).trans rfl
                                        have hcz53_2 : wr.cell? ⟨gb194, 2, none⟩ = some (.int .i64 a0_2) := (blk_cell BK194.out 2).trans rfl
                                        have hcz53_3 : wr.cell? ⟨gb194, 3, none⟩ = some (.int .i64 a0_3) := (blk_cell BK194.out 3).trans rfl
                                        have hcz53_4 : wr.cell? ⟨gb194, 4, none⟩ = some (.int .i64 a0_4) := (blk_cell BK194.out 4).trans rfl
                                        have hcz53_5 : wr.cell? ⟨gb194, 5, none⟩ = some (.int .i64 a0_5) := (blk_cell BK194.out 5).trans rfl
                                        have hcz53_6 : wr.cell? ⟨gb194, 6, none⟩ = some (.slice A0_6 l0_6.length c0_6) := (blk_cell BK194.out 6).trans rfl
                                        have hcz53_7 : wr.cell? ⟨gb194, 7, none⟩ = some (.slice A0_7 l0_7.length c0_7) := (blk_cell BK194.out 7).trans rfl
                                        have hfz53_0 := blk_frozen BK194.out 0
                                        have hfz53_1 := blk_frozen BK194.out 1
                                        have hfz53_2 := blk_frozen BK194.out 2
                                        have hfz53_3 := blk_frozen BK194.out 3
                                        have hfz53_4 := blk_frozen BK194.out 4
                                        have hfz53_5 := blk_frozen BK194.out 5
                                        have hfz53_6 := blk_frozen BK194.out 6
                                        have hfz53_7 := blk_frozen BK194.out 7
                                        have p208 : 0 ≤ ((ji39) : Int) := of_decide_eq_true (by first | (with_reducible assumption) | assumption)
                                        have q208 : (ji39) < (t198.length : Int) := of_decide_eq_true (by first | (with_reducible assumption) | assumption)
                                        obtain ⟨ad208, e208, hx208_0⟩ := Kd.at_int (Kd.R_reads' HO_7.out).2.2 (ji39) p208 q208
                                        obtain rfl : ad204 = ad208 := (by injection e208)
                                        replace p208 := eq_true p208
                                        replace q208 := eq_true q208
                                        have p209 : 0 ≤ ((rd t198 (ji39)) : Int) := of_decide_eq_true (by first | (with_reducible assumption) | assumption)
                                        have q209 : (rd t198 (ji39)) < (l0_6.length : Int) := of_decide_eq_true (by first | (with_reducible assumption) | assumption)
                                        obtain ⟨ad209, e209, hx209_0⟩ := Kd.at_int HR0_6.out (rd t198 (ji39)) p209 q209
                                        cases e209
                                        replace hx209_0 := (HB.out.cell (World.block_lt_of_cell? w _ hx209_0)).trans hx209_0
                                        replace p209 := eq_true p209
                                        replace q209 := eq_true q209
                                        have p210 : 0 ≤ (x8_3 : Int) := of_decide_eq_true (by first | (with_reducible assumption) | assumption)
                                        have q210 : x8_3 < (t198.length : Int) := of_decide_eq_true (by first | (with_reducible assumption) | assumption)
                                        obtain ⟨ad210, e210, hx210_0⟩ := Kd.at_int (Kd.R_reads' HO_7.out).2.2 x8_3 p210 q210
                                        obtain rfl : ad204 = ad210 := (by injection e210)
                                        replace p210 := eq_true p210
                                        replace q210 := eq_true q210
                                        go_wp2
                                        repeat (go_quiet (fail); try go_wp2)
                                        go_roundg k3
                                        case measure => have := HJ3.out; have := HJ18.out; have := HK3.out; omega
                                        case rel => exact ⟨(wrap64 (x8_3 + 1)), (by first | rfl | (simp; done) | (simp [*]; done)), H', ⟨by have := HJ3.out; have := HJ18.out; have := HK3.out; omega⟩, ⟨by (with_reducible repeat (first | apply Kd.R_alloc | apply Kd.R_drewN | apply Kd.R_drew)); exact HO_7.out⟩, ⟨by (with_reducible repeat (first | refine blk_drewN ?_ _ | refine blk_drew ?_ | refine blk_alloc ?_ _)); exact BK194.out⟩, ⟨by repeat (first | (with_reducible first | exact HB.out | apply below_alloc | apply pw_below_drewN | apply below_drew1 | refine below_set ?_ GE194.out) | exact HB.out)⟩⟩
                                      · rw [if_neg c51] at H
                                        have c51b0 : ((rd l0_6 (rd t198 (ji39))) == (rd t198 x8_3)) = false := beq_eq_false_iff_ne.mpr c51
                                        have c51b1 : ((rd l0_6 (rd t198 (ji39))) != (rd t198 x8_3)) = true := bne_iff_ne.mpr c51
                                        obtain rfl := Option.some.inj H
                                        obtain ⟨Ao54, co54, eo54⟩ := Kd.R_slice HO_7.out
                                        subst eo54
                                        have p204 : 0 ≤ (x8_3 : Int) := of_decide_eq_true (by first | (with_reducible assumption) | assumption)
                                        have q204 : x8_3 < (t198.length : Int) := of_decide_eq_true (by first | (with_reducible assumption) | assumption)
                                        obtain ⟨ad204, e204, hx204_0⟩ := Kd.at_int (Kd.R_reads' HO_7.out).2.2 x8_3 p204 q204
                                        cases e204
                                        replace p204 := eq_true p204
                                        replace q204 := eq_true q204
                                        have p205 : 0 ≤ ((ji39) : Int) := of_decide_eq_true (by first | (with_reducible assumption) | assumption)
                                        have q205 : (ji39) < (t198.length : Int) := of_decide_eq_true (by first | (with_reducible assumption) | assumption)
                                        obtain ⟨ad205, e205, hx205_0⟩ := Kd.at_int (Kd.R_reads' HO_7.out).2.2 (ji39) p205 q205
                                        obtain rfl : ad204 = ad205 := (by injection e205)
                                        replace p205 := eq_true p205
                                        replace q205 := eq_true q205
                                        have p206 : 0 ≤ (x8_3 : Int) := of_decide_eq_true (by first | (with_reducible assumption) | assumption)
                                        have q206 : x8_3 < (t198.length : Int) := of_decide_eq_true (by first | (with_reducible assumption) | assumption)
                                        obtain ⟨ad206, e206, hx206_0⟩ := Kd.at_int (Kd.R_reads' HO_7.out).2.2 x8_3 p206 q206
                                        obtain rfl : ad204 = ad206 := (by injection e206)
                                        replace p206 := eq_true p206
                                        replace q206 := eq_true q206
                                        have p207 : 0 ≤ ((ji39) : Int) := of_decide_eq_true (by first | (with_reducible assumption) | assumption)
                                        have q207 : (ji39) < (t198.length : Int) := of_decide_eq_true (by first | (with_reducible assumption) | assumption)
                                        obtain ⟨ad207, e207, hx207_0⟩ := Kd.at_int (Kd.R_reads' HO_7.out).2.2 (ji39) p207 q207
                                        obtain rfl : ad204 = ad207 := (by injection e207)
                                        replace p207 := eq_true p207
                                        replace q207 := eq_true q207
                                        have hcz55_0 : wr.cell? ⟨gb194, 0, none⟩ = some (.int .i64 a0_0) := (blk_cell BK194.out 0).trans rfl
                                        have hcz55_1 : wr.cell? ⟨gb194, 1, none⟩ = some (.int .i64 a0_1) := (blk_cell BK194.out 1).trans rfl
                                        have hcz55_2 : wr.cell? ⟨gb194, 2, none⟩ = some (.int .i64 a0_2) := (blk_cell BK194.out 2).trans rfl
                                        have hcz55_3 : wr.cell? ⟨gb194, 3, none⟩ = some (.int .i64 a0_3) := (blk_cell BK194.out 3).trans rfl
                                        have hcz55_4 : wr.cell? ⟨gb194, 4, none⟩ = some (.int .i64 a0_4) := (blk_cell BK194.out 4).trans rfl
                                        have hcz55_5 : wr.cell? ⟨gb194, 5, none⟩ = some (.int .i64 a0_5) := (blk_cell BK194.out 5).trans rfl
                                        have hcz55_6 : wr.cell? ⟨gb194, 6, none⟩ = some (.slice A0_6 l0_6.length c0_6) := (blk_cell BK194.out 6).trans rfl
                                        have hcz55_7 : wr.cell? ⟨gb194, 7, none⟩ = some (.slice A0_7 l0_7.length c0_7) := (blk_cell BK194.out 7).trans rfl
                                        have hfz55_0 := blk_frozen BK194.out 0
                                        have hfz55_1 := blk_frozen BK194.out 1
                                        have hfz55_2 := blk_frozen BK194.out 2
                                        have hfz55_3 := blk_frozen BK194.out 3
                                        have hfz55_4 := blk_frozen BK194.out 4
                                        have hfz55_5 := blk_frozen BK194.out 5
                                        have hfz55_6 := blk_frozen BK194.out 6
                                        have hfz55_7 := blk_frozen BK194.out 7
                                        have p208 : 0 ≤ ((ji39) : Int) := of_decide_eq_true (by first | (with_reducible assumption) | assumption)
                                        have q208 : (ji39) < (t198.length : Int) := of_decide_eq_true (by first | (with_reducible assumption) | assumption)
                                        obtain ⟨ad208, e208, hx208_0⟩ := Kd.at_int (Kd.R_reads' HO_7.out).2.2 (ji39) p208 q208
                                        obtain rfl : ad204 = ad208 := (by injection e208)
                                        replace p208 := eq_true p208
                                        replace q208 := eq_true q208
                                        have p209 : 0 ≤ ((rd t198 (ji39)) : Int) := of_decide_eq_true (by first | (with_reducible assumption) | assumption)
                                        have q209 : (rd t198 (ji39)) < (l0_6.length : Int) := of_decide_eq_true (by first | (with_reducible assumption) | assumption)
                                        obtain ⟨ad209, e209, hx209_0⟩ := Kd.at_int HR0_6.out (rd t198 (ji39)) p209 q209
                                        cases e209
                                        replace hx209_0 := (HB.out.cell (World.block_lt_of_cell? w _ hx209_0)).trans hx209_0
                                        replace p209 := eq_true p209
                                        replace q209 := eq_true q209
                                        have p210 : 0 ≤ (x8_3 : Int) := of_decide_eq_true (by first | (with_reducible assumption) | assumption)
                                        have q210 : x8_3 < (t198.length : Int) := of_decide_eq_true (by first | (with_reducible assumption) | assumption)
                                        obtain ⟨ad210, e210, hx210_0⟩ := Kd.at_int (Kd.R_reads' HO_7.out).2.2 x8_3 p210 q210
                                        obtain rfl : ad204 = ad210 := (by injection e210)
                                        replace p210 := eq_true p210
                                        replace q210 := eq_true q210
                                        go_wp2
                                        repeat (go_quiet (fail); try go_wp2)
                                        go_ret
                                        exact ⟨by first | rfl | (simp [errW_none, errW_some] <;> rfl) | (simp only [← hji39]; first | rfl | (simp [errW_none, errW_some] <;> rfl)) | (simp [*, errW_none, errW_some] <;> rfl), by repeat (first | (with_reducible first | exact HB.out | apply below_alloc | apply pw_below_drewN | apply below_drew1 | refine below_set ?_ GE194.out) | exact HB.out)⟩
                                    · rw [if_neg c50] at H
                                      exact absurd H (by simp)
                                  · rw [if_neg c49] at H
                                    exact absurd H (by simp)
                          · rw [if_neg c41] at H
                            exact absurd H (by simp)
                        · rw [if_neg c40] at H
                          exact absurd H (by simp)
                      · rw [if_neg c38] at H
                        exact absurd H (by simp)
                    · rw [if_neg c37] at H
                      have c37b0 : decide (x8_3 < (t198.length : Int)) = false := decide_eq_false c37
                      clear c37
                      obtain rfl := Option.some.inj H
                      obtain ⟨Ao56, co56, eo56⟩ := Kd.R_slice HO_7.out
                      subst eo56
                      go_wp2
                      repeat (go_quiet (fail); try go_wp2)
                      go_ret
                      exact ⟨by first | rfl | (simp [errW_none, errW_some] <;> rfl) | (simp [*, errW_none, errW_some] <;> rfl), by repeat (first | (with_reducible first | exact HB.out | apply below_alloc | apply pw_below_drewN | apply below_drew1 | refine below_set ?_ GE194.out) | exact HB.out)⟩

end Go.Proofs.Ytmkgaihppohkkaa.PT
