import Derived.Test.YthbaamfdpebocaaGreatAFresh
import Derived.Test.YthbaamfdpebocaaGreatAHead
import Derived.RangeFuncNested
import Derived.RangeFuncBound
import Derived.RangeFuncCalls
import Derived.RangeFuncLeaves
import Derived.RangeFuncBox
import Derived.Shelf.Abstract
import Derived.Shelf.RegionOpen
import Derived.OwnWalkIn
import Derived.TacticsInMore
import Derived.LoopNIn
import Derived.LoopIn
import Derived.Lib.QuietBelow
import Derived.Deep.RegionHeld3
import Derived.Deep.RegionLaw
import Derived.Laws.CopyOwn
import Derived.Laws.EntriesVeiled
import Derived.Deep.DeepCutAuto
import Derived.Deep.MidRow
import Derived.Deep.Heap
import Derived.Lib.SmallJoins
import Derived.ChangeKeysEq
namespace Go.Proofs.YthbaamfdpebocaaGreat.PA
open Go.RowKit Go.Shelf Go.Proofs.YthbaamfdpebocaaGreatW.PrintWords Go.Proofs.YthbaamfdpebocaaGreatW.PrintLast Go.Proofs.YthbaamfdpebocaaGreatW.PrintMore
attribute [local go_sem] max2_int min2_int max_two min_two max_three min_three max_four min_four
set_option linter.unusedVariables false
set_option linter.unusedSimpArgs false
section
set_option maxHeartbeats 8000000 in
set_option maxRecDepth 100000 in
theorem W_AuditOne (c : LConf) (A6 : Option Addr) (n6 d6 : Nat) (A7 : Option Addr) (n7 d7 : Nat) (x1 x2 x3 x4 : Int) (W : World) (h6 : IsInts W (.slice A6 n6 d6) c.ps) (h7 : IsInts W (.slice A7 n7 d7) c.ls) (w1 : (Lit.int .u8 x1).wf = true) (w2 : (Lit.int .u8 x2).wf = true) (w3 : (Lit.int .u16 x3).wf = true) (w4 : (Lit.int .u8 x4).wf = true) :
    Calls Tryz.prog 7 #[.agg #[.int .i64 c.th, .int .i64 c.st, .int .i64 c.ga, .int .i64 c.le, .int .i64 c.re, .int .i64 c.ti, .slice A6 n6 d6, .slice A7 n7 d7], .int .u8 x1, .int .u8 x2, .int .u16 x3, .int .u8 x4] W fun e w' => e = .returned (.bool true) ∧ Below W.heap.size W w' := by
  have hus := Tryz.underlying24
  have hua := Tryz.underlying29
  have H6 := Aside0.mk h6
  have H7 := Aside0.mk h7
  clear h6 h7
  have r1 := Aside0.mk (u8_range w1)
  have r2 := Aside0.mk (u8_range w2)
  have r3 := Aside0.mk (u16_range w3)
  have r4 := Aside0.mk (u8_range w4)
  clear w1 w2 w3 w4
  by_cases hG : c.ps.length > 100 ∨ c.ls.length > 100
  · have hg : Aside0 (decide (c.ps.length > 100 ∨ c.ls.length > 100) = true) := ⟨decide_eq_true hG⟩
    clear hG
    go_enter Tryz.func7, Tryz.ntmps7
    go_wp2_with (first | (go_at_call 10; (with_reducible refine (K_great c _ _ _ ?_ ?_).mono ?_); exact H6.out.below (by with_reducible repeat (first | exact Below.refl _ _ | exact HB.out | apply below_drew1 | apply below_alloc)); exact H7.out.below (by with_reducible repeat (first | exact Below.refl _ _ | exact HB.out | apply below_drew1 | apply below_alloc)); rintro e w2 ⟨rfl, hb⟩; rw [hg.out]; have HB' : Aside0 (Below W.heap.size W w2) := ⟨below_step (by with_reducible repeat (first | exact Below.refl _ _ | exact HB.out | apply below_drew1 | apply below_alloc)) hb⟩; have BX' : Aside0 (w2.heap[W.heap.size]? = some (.cells #[.int .i64 c.th, .int .i64 c.st, .int .i64 c.ga, .int .i64 c.le, .int .i64 c.re, .int .i64 c.ti, .slice A6 n6 d6, .slice A7 n7 d7] 24 (0, 0))) := ⟨blk_below (g := W.heap.size) (by with_reducible repeat (first | exact BX.out | exact blk_new _ _ | refine blk_alloc ?_ _ | refine blk_drew ?_)) hb⟩; clear z0 z1 z2 z3 z4 z5 z6 z7 HB BX; have HB := HB'; have BX := BX'; clear HB' BX' hb; obtain ⟨z0, z1, z2, z3, z4, z5, z6, z7⟩ := box8 BX.out) | (go_at_call 9; (with_reducible refine (K_head19 _).mono ?_); rintro e w1 ⟨rfl, hb⟩; have HB' : Aside0 (Below W.heap.size W w1) := ⟨below_step (by with_reducible repeat (first | exact Below.refl _ _ | exact HB.out | apply below_drew1 | apply below_alloc)) hb⟩; have BX' : Aside0 (w1.heap[W.heap.size]? = some (.cells #[.int .i64 c.th, .int .i64 c.st, .int .i64 c.ga, .int .i64 c.le, .int .i64 c.re, .int .i64 c.ti, .slice A6 n6 d6, .slice A7 n7 d7] 24 (0, 0))) := ⟨blk_below (g := W.heap.size) (by with_reducible repeat (first | exact BX.out | exact blk_new _ _ | refine blk_alloc ?_ _ | refine blk_drew ?_)) hb⟩; have HB := HB'; have BX := BX'; clear HB' BX' hb; obtain ⟨z0, z1, z2, z3, z4, z5, z6, z7⟩ := box8 BX.out))
    go_ret
    exact ⟨rfl, (by with_reducible repeat (first | exact Below.refl _ _ | exact HB.out | apply below_drew1 | apply below_alloc))⟩
  have hg : Aside0 (decide (c.ps.length > 100 ∨ c.ls.length > 100) = false) := ⟨decide_eq_false hG⟩
  clear hG
  by_cases hRc : Right c
  rotate_left
  · have hr : Aside0 (decide (Right c) = false) := ⟨decide_eq_false hRc⟩
    clear hRc
    go_enter Tryz.func7, Tryz.ntmps7
    go_wp2_with (first | (go_at_call 11; (with_reducible refine (K_ref_right c _ _ _ ?_ ?_).mono ?_); exact H6.out.below (by with_reducible repeat (first | exact Below.refl _ _ | exact HB.out | apply below_drew1 | apply below_alloc)); exact H7.out.below (by with_reducible repeat (first | exact Below.refl _ _ | exact HB.out | apply below_drew1 | apply below_alloc)); rintro e w3 ⟨rfl, hb⟩; rw [hr.out]; have HB' : Aside0 (Below W.heap.size W w3) := ⟨below_step (by with_reducible repeat (first | exact Below.refl _ _ | exact HB.out | apply below_drew1 | apply below_alloc)) hb⟩; have BX' : Aside0 (w3.heap[W.heap.size]? = some (.cells #[.int .i64 c.th, .int .i64 c.st, .int .i64 c.ga, .int .i64 c.le, .int .i64 c.re, .int .i64 c.ti, .slice A6 n6 d6, .slice A7 n7 d7] 24 (0, 0))) := ⟨blk_below (g := W.heap.size) (by with_reducible repeat (first | exact BX.out | exact blk_new _ _ | refine blk_alloc ?_ _ | refine blk_drew ?_)) hb⟩; clear z0 z1 z2 z3 z4 z5 z6 z7 HB BX; have HB := HB'; have BX := BX'; clear HB' BX' hb; obtain ⟨z0, z1, z2, z3, z4, z5, z6, z7⟩ := box8 BX.out) | (go_at_call 10; (with_reducible refine (K_great c _ _ _ ?_ ?_).mono ?_); exact H6.out.below (by with_reducible repeat (first | exact Below.refl _ _ | exact HB.out | apply below_drew1 | apply below_alloc)); exact H7.out.below (by with_reducible repeat (first | exact Below.refl _ _ | exact HB.out | apply below_drew1 | apply below_alloc)); rintro e w2 ⟨rfl, hb⟩; rw [hg.out]; have HB' : Aside0 (Below W.heap.size W w2) := ⟨below_step (by with_reducible repeat (first | exact Below.refl _ _ | exact HB.out | apply below_drew1 | apply below_alloc)) hb⟩; have BX' : Aside0 (w2.heap[W.heap.size]? = some (.cells #[.int .i64 c.th, .int .i64 c.st, .int .i64 c.ga, .int .i64 c.le, .int .i64 c.re, .int .i64 c.ti, .slice A6 n6 d6, .slice A7 n7 d7] 24 (0, 0))) := ⟨blk_below (g := W.heap.size) (by with_reducible repeat (first | exact BX.out | exact blk_new _ _ | refine blk_alloc ?_ _ | refine blk_drew ?_)) hb⟩; clear z0 z1 z2 z3 z4 z5 z6 z7 HB BX; have HB := HB'; have BX := BX'; clear HB' BX' hb; obtain ⟨z0, z1, z2, z3, z4, z5, z6, z7⟩ := box8 BX.out) | (go_at_call 9; (with_reducible refine (K_head19 _).mono ?_); rintro e w1 ⟨rfl, hb⟩; have HB' : Aside0 (Below W.heap.size W w1) := ⟨below_step (by with_reducible repeat (first | exact Below.refl _ _ | exact HB.out | apply below_drew1 | apply below_alloc)) hb⟩; have BX' : Aside0 (w1.heap[W.heap.size]? = some (.cells #[.int .i64 c.th, .int .i64 c.st, .int .i64 c.ga, .int .i64 c.le, .int .i64 c.re, .int .i64 c.ti, .slice A6 n6 d6, .slice A7 n7 d7] 24 (0, 0))) := ⟨blk_below (g := W.heap.size) (by with_reducible repeat (first | exact BX.out | exact blk_new _ _ | refine blk_alloc ?_ _ | refine blk_drew ?_)) hb⟩; have HB := HB'; have BX := BX'; clear HB' BX' hb; obtain ⟨z0, z1, z2, z3, z4, z5, z6, z7⟩ := box8 BX.out))
    go_ret
    exact ⟨rfl, (by with_reducible repeat (first | exact Below.refl _ _ | exact HB.out | apply below_drew1 | apply below_alloc))⟩
  have hr : Aside0 (decide (Right c) = true) := ⟨decide_eq_true hRc⟩
  have HR := Aside0.mk hRc
  clear hRc
  obtain ⟨sz, hsz⟩ : ∃ sz : Nat, (aSz c).toNat = sz := ⟨_, rfl⟩
  have HSZ : Aside0 (10 ≤ sz ∧ sz ≤ 100000) := ⟨by have h1 := aSz_bound c HR.out.cb; have h2 := aSz_pos c HR.out.cb; omega⟩
  have hfl : Aside0 ((freshW c).length = sz) := ⟨(freshW_len c).trans hsz⟩
  clear hsz
  have hn6 := Aside0.mk H6.out.len
  obtain ⟨v, hv, ev⟩ := node_of n6 (by have h1 := H6.out.len; have h2 := HR.out.cb.2.1; omega) x1 r1.out.1 r1.out.2
  obtain ⟨s, hs, es⟩ := node_of c.st.toNat (by have h2 := HR.out.cb.1; omega) x4 r4.out.1 r4.out.2
  rw [show ((c.st.toNat : Nat) : Int) = c.st by have h2 := HR.out.cb.1; omega] at es
  obtain ⟨q, hq, eq⟩ := node_of 5 (by decide) x2 r2.out.1 r2.out.2
  rw [w64 (by have := r2.out; omega) (by have := r2.out; omega)] at eq
  obtain ⟨n, en⟩ : ∃ n : Int, wrap64 (wrap64 x3 + 1) = n := ⟨_, rfl⟩
  have HN : Aside0 (1 ≤ n ∧ n ≤ 65536) := ⟨by have := r3.out; rw [← en, w64 (x := x3) (by omega) (by omega), w64 (by omega) (by omega)]; omega⟩
  have HV := Aside0.mk hv
  have HSS := Aside0.mk hs
  have HQ := Aside0.mk hq
  have i6 : (0 : Int) < (n6 : Int) := by have h1 := hn6.out; have h2 := HR.out.cb.2.1; omega
  have is_ : (0 : Int) < c.st := by have h2 := HR.out.cb.1; omega
  clear hv hs hq
  go_enter Tryz.func7, Tryz.ntmps7
  go_upto_region 8 with (first | ((with_reducible refine gate_builtin (b := .append) (xs := #[.tmp 36, .tmp 41]) rfl ?_); at_builtin; refine Kd.R_append_rows (Kd.int .i64) (w0 := w3) w3.heap.size rfl (.tmp 36) (.tmp 41) 22 3 (.int .i64 0) 8 rfl Tryz.underlying22 info3 rfl (by decide) (by decide) v1 [] (freshW c) _ _ _ (fun _ => True) (fun _ => False) rfl rfl HO3.out (ints_C HWi.out) (fun _ _ h => h) (fun _ h => h.elim) (fun _ _ => trivial) L6.out L6.out.size ?apl ?_; (case apl => have e := HWi.out.len; rw [hfl.out] at e; have := HSZ.out; simp; omega); intro v2 w7 ho hb hg hat; clear hg hat; rw [List.nil_append] at ho; obtain ⟨g, cap, e, ho⟩ := OW.of_R ho (by rw [hfl.out]; have := HSZ.out; omega); rw [hfl.out] at e ho; subst e; have HO := Aside0.mk (OW.lower ho (blk_lt BXR.out)); clear ho m0 z0 z1 z2 z3 z4 z5 z6 z7 HB BX; have HB : Aside0 (Below W.heap.size W w7) := ⟨below_step HBR.out hb⟩; have BX : Aside0 (w7.heap[W.heap.size]? = some (.cells #[.int .i64 c.th, .int .i64 c.st, .int .i64 c.ga, .int .i64 c.le, .int .i64 c.re, .int .i64 c.ti, .slice A6 n6 d6, .slice A7 n7 d7] 24 (0, 0))) := ⟨blk_below (g := W.heap.size) BXR.out hb⟩; clear hb; obtain ⟨z0, z1, z2, z3, z4, z5, z6, z7⟩ := box8 BX.out) | (go_at_call 25; (with_reducible refine (K_Fresh _ c HR.out.cb _ _ _ _ _ _ ?_ ?_).mono ?_); exact H6.out.below (by with_reducible repeat (first | exact Below.refl _ _ | exact HB.out | apply below_drew1 | apply below_alloc)); exact H7.out.below (by with_reducible repeat (first | exact Below.refl _ _ | exact HB.out | apply below_drew1 | apply below_alloc)); rintro e w6 ⟨mb, rfl, hmb, hm, hb⟩; have HO3 := Aside0.mk (RI_below HO1.out hb); have L6 : Aside0 (Below w3.heap.size w3 w6) := ⟨below_step L5.out hb⟩; obtain ⟨hB, Am, nm, cm, vL, hh, hw, -⟩ := hm; have HWi := Aside0.mk hw.1; have m0 : w6.cell? ⟨mb, 0, none⟩ = some (.slice Am nm cm) := (blk_cell hh 0).trans rfl; clear hmb hB hh hw; have HB' : Aside0 (Below W.heap.size W w6) := ⟨below_step (by with_reducible repeat (first | exact Below.refl _ _ | exact HB.out | apply below_drew1 | apply below_alloc)) hb⟩; have BX' : Aside0 (w6.heap[W.heap.size]? = some (.cells #[.int .i64 c.th, .int .i64 c.st, .int .i64 c.ga, .int .i64 c.le, .int .i64 c.re, .int .i64 c.ti, .slice A6 n6 d6, .slice A7 n7 d7] 24 (0, 0))) := ⟨blk_below (g := W.heap.size) (by with_reducible repeat (first | exact BX.out | exact blk_new _ _ | refine blk_alloc ?_ _ | refine blk_drew ?_)) hb⟩; clear z0 z1 z2 z3 z4 z5 z6 z7 HB BX; have HB := HB'; have BX := BX'; clear HB' BX' hb; obtain ⟨z0, z1, z2, z3, z4, z5, z6, z7⟩ := box8 BX.out) | ((with_reducible refine gate_dst (N := 36) rfl ?_); refine Kd.R_lit (Kd.int .i64) (w0 := w3) w3.heap.size 3 ?hg (N := 36) ?hd (xs := ([] : List Int)) (inner := []) (ok := fun _ => True) (okp := fun _ => True) ?hr ?hp (fun _ hk => hk) trivial (Below.refl _ _) (Nat.le_refl _) (by simp) ?_; (case hd => rfl); (case hg => rfl); (case hr => first | (go_simp; done) | (go_simp; rfl)); (case hp => exact (Reps.none _ _)); intro v1 w5 ho hb hg_ hnew_; clear hg_ hnew_; have HO1 := Aside0.mk ho; have L5 := Aside0.mk hb; clear ho; have HB' : Aside0 (Below W.heap.size W w5) := ⟨below_step (by with_reducible repeat (first | exact Below.refl _ _ | exact HB.out | apply below_drew1 | apply below_alloc)) hb⟩; have BX' : Aside0 (w5.heap[W.heap.size]? = some (.cells #[.int .i64 c.th, .int .i64 c.st, .int .i64 c.ga, .int .i64 c.le, .int .i64 c.re, .int .i64 c.ti, .slice A6 n6 d6, .slice A7 n7 d7] 24 (0, 0))) := ⟨blk_below (g := W.heap.size) (by with_reducible repeat (first | exact BX.out | exact blk_new _ _ | refine blk_alloc ?_ _ | refine blk_drew ?_)) hb⟩; clear z0 z1 z2 z3 z4 z5 z6 z7 HB BX; have HB := HB'; have BX := BX'; clear HB' BX' hb; obtain ⟨z0, z1, z2, z3, z4, z5, z6, z7⟩ := box8 BX.out) | (go_at_call 11; (with_reducible refine (K_ref_right c _ _ _ ?_ ?_).mono ?_); exact H6.out.below (by with_reducible repeat (first | exact Below.refl _ _ | exact HB.out | apply below_drew1 | apply below_alloc)); exact H7.out.below (by with_reducible repeat (first | exact Below.refl _ _ | exact HB.out | apply below_drew1 | apply below_alloc)); rintro e w3 ⟨rfl, hb⟩; rw [hr.out]; have HB' : Aside0 (Below W.heap.size W w3) := ⟨below_step (by with_reducible repeat (first | exact Below.refl _ _ | exact HB.out | apply below_drew1 | apply below_alloc)) hb⟩; have BX' : Aside0 (w3.heap[W.heap.size]? = some (.cells #[.int .i64 c.th, .int .i64 c.st, .int .i64 c.ga, .int .i64 c.le, .int .i64 c.re, .int .i64 c.ti, .slice A6 n6 d6, .slice A7 n7 d7] 24 (0, 0))) := ⟨blk_below (g := W.heap.size) (by with_reducible repeat (first | exact BX.out | exact blk_new _ _ | refine blk_alloc ?_ _ | refine blk_drew ?_)) hb⟩; clear z0 z1 z2 z3 z4 z5 z6 z7 HB BX; have HB := HB'; have BX := BX'; clear HB' BX' hb; obtain ⟨z0, z1, z2, z3, z4, z5, z6, z7⟩ := box8 BX.out; have HBR := HB; have BXR := BX) | (go_at_call 10; (with_reducible refine (K_great c _ _ _ ?_ ?_).mono ?_); exact H6.out.below (by with_reducible repeat (first | exact Below.refl _ _ | exact HB.out | apply below_drew1 | apply below_alloc)); exact H7.out.below (by with_reducible repeat (first | exact Below.refl _ _ | exact HB.out | apply below_drew1 | apply below_alloc)); rintro e w2 ⟨rfl, hb⟩; rw [hg.out]; have HB' : Aside0 (Below W.heap.size W w2) := ⟨below_step (by with_reducible repeat (first | exact Below.refl _ _ | exact HB.out | apply below_drew1 | apply below_alloc)) hb⟩; have BX' : Aside0 (w2.heap[W.heap.size]? = some (.cells #[.int .i64 c.th, .int .i64 c.st, .int .i64 c.ga, .int .i64 c.le, .int .i64 c.re, .int .i64 c.ti, .slice A6 n6 d6, .slice A7 n7 d7] 24 (0, 0))) := ⟨blk_below (g := W.heap.size) (by with_reducible repeat (first | exact BX.out | exact blk_new _ _ | refine blk_alloc ?_ _ | refine blk_drew ?_)) hb⟩; clear z0 z1 z2 z3 z4 z5 z6 z7 HB BX; have HB := HB'; have BX := BX'; clear HB' BX' hb; obtain ⟨z0, z1, z2, z3, z4, z5, z6, z7⟩ := box8 BX.out) | (go_at_call 9; (with_reducible refine (K_head19 _).mono ?_); rintro e w1 ⟨rfl, hb⟩; have HB' : Aside0 (Below W.heap.size W w1) := ⟨below_step (by with_reducible repeat (first | exact Below.refl _ _ | exact HB.out | apply below_drew1 | apply below_alloc)) hb⟩; have BX' : Aside0 (w1.heap[W.heap.size]? = some (.cells #[.int .i64 c.th, .int .i64 c.st, .int .i64 c.ga, .int .i64 c.le, .int .i64 c.re, .int .i64 c.ti, .slice A6 n6 d6, .slice A7 n7 d7] 24 (0, 0))) := ⟨blk_below (g := W.heap.size) (by with_reducible repeat (first | exact BX.out | exact blk_new _ _ | refine blk_alloc ?_ _ | refine blk_drew ?_)) hb⟩; have HB := HB'; have BX := BX'; clear HB' BX' hb; obtain ⟨z0, z1, z2, z3, z4, z5, z6, z7⟩ := box8 BX.out))
  rw [en]
  clear en ev es L5 L6 HO1 HO3 HWi
  have HWF : Aside0 (WL c (freshW c)) := ⟨fresh_WL c HR.out.cb _⟩
  have HVB : Aside0 (0 ≤ (v : Int) ∧ (v : Int) ≤ 1000) := ⟨by have := HV.out; have := HR.out.cb.2.1; have := hn6.out; omega⟩
  have HIN : Aside0 (0 ≤ aLim c (v : Int) ∧ aLim c (v : Int) + (6 + 2 * c.st) ≤ (sz : Int)) := ⟨by have := node_in c HR.out.cb HWF.out (v : Int) (by have h1 := hn6.out; have := HV.out; omega); rw [hfl.out] at this; exact this⟩
  have HST : Aside0 ((1 ≤ c.st ∧ c.st ≤ 8) ∧ (1 ≤ c.ga ∧ c.ga ≤ 1048576) ∧ (0 ≤ c.le ∧ c.le ≤ 1048576) ∧ (s : Int) < c.st) := ⟨HR.out.cb.1, HR.out.1.2.2.1, HR.out.1.2.2.2.1, by have := HSS.out; have := HR.out.cb.1; omega⟩
  have HLM : Aside0 (0 ≤ rd c.ls (v : Int) ∧ rd c.ls (v : Int) ≤ 1099511627776) := ⟨HR.out.lim v (by have h1 := hn6.out; have h2 := HV.out; omega)⟩
  clear is_ i6
  obtain rfl | rfl | rfl | rfl | rfl : q = 0 ∨ q = 1 ∨ q = 2 ∨ q = 3 ∨ q = 4 := by have := HQ.out; omega
  · have eq0 : Int.tmod x2 5 = 0 := eq
    clear eq
    obtain ⟨j0, hj⟩ : ∃ j0 : Nat, aLim c (v : Int) = (j0 : Int) := ⟨(aLim c (v : Int)).toNat, by have h1 := HIN.out; have h2 := HST.out; omega⟩
    replace hj := Aside0.mk hj
    obtain ⟨j, hj2⟩ : ∃ j : Nat, j0 + (0) = j := ⟨_, rfl⟩
    have hjl : Aside0 (j < (freshW c).length) := ⟨by have h1 := HIN.out; have h2 := HST.out; have h3 := hj.out; have h4 := hfl.out; omega⟩
    have HJ2 := Aside0.mk hj2
    have L7 : Aside0 (Below w7.heap.size w7 w7) := ⟨Below.refl _ _⟩
    have j0i : (0 : Int) ≤ (j : Int) := by omega
    have j1i : (j : Int) < (sz : Int) := by have h1 := hjl.out; have h2 := hfl.out; omega
    have HGW : Aside0 (W.heap.size ≠ g) := ⟨by have := HO.out.ge; omega⟩
    have HSB : Aside0 (0 ≤ (s : Int) ∧ (s : Int) ≤ 1000) := ⟨by have := HST.out; omega⟩
    obtain rfl : j = j0 := hj2.symm
    go_upto_region 19 with (go_at_call 26; (with_reducible refine (K_aLimit c HR.out.cb _ _ _ _ _ _ (v : Int) HVB.out _ ?_ ?_).mono ?_); exact H6.out.below (by with_reducible repeat (first | exact Below.refl _ _ | exact HB.out | apply below_drew1 | apply below_alloc)); exact H7.out.below (by with_reducible repeat (first | exact Below.refl _ _ | exact HB.out | apply below_drew1 | apply below_alloc)); rintro e w8 ⟨rfl, hb⟩; rw [hj.out]; have L' : Aside0 (Below w7.heap.size w7 w8) := ⟨below_step (by with_reducible repeat (first | exact Below.refl _ _ | exact L7.out | apply below_drew1)) hb⟩; clear L7; have L7 := L'; clear L'; have HJ := OW.cell (HO.out.below L7.out) j hjl.out; have c0 := HJ.1; have f0 := HJ.2; clear HJ; have HB' : Aside0 (Below W.heap.size W w8) := ⟨below_step (by with_reducible repeat (first | exact Below.refl _ _ | exact HB.out | apply below_drew1 | apply below_alloc)) hb⟩; have BX' : Aside0 (w8.heap[W.heap.size]? = some (.cells #[.int .i64 c.th, .int .i64 c.st, .int .i64 c.ga, .int .i64 c.le, .int .i64 c.re, .int .i64 c.ti, .slice A6 n6 d6, .slice A7 n7 d7] 24 (0, 0))) := ⟨blk_below (g := W.heap.size) (by with_reducible repeat (first | exact BX.out | exact blk_new _ _ | refine blk_alloc ?_ _ | refine blk_drew ?_)) hb⟩; clear z0 z1 z2 z3 z4 z5 z6 z7 HB BX; have HB := HB'; have BX := BX'; clear HB' BX' hb; obtain ⟨z0, z1, z2, z3, z4, z5, z6, z7⟩ := box8 BX.out)
    have ex : wrap64 (-n) = -n := by have h1 := HN.out; have h2 := HST.out; have h3 := HLM.out; rw [w64 (by omega) (by omega)]
    rw [ex]
    have hpl := one_plain c HR.out v (by have h1 := hn6.out; have h2 := HV.out; omega) (s : Int) n 0 (by have := HST.out; omega) HN.out (by omega)
    have ej : aLim c (v : Int) + oneAt c (v : Int) (s : Int) 0 = (j : Int) := by
      show aLim c (v : Int) + (0) = (j : Int)
      have h3 := hj.out
      have h4 := HJ2.out
      omega
    rw [ej, show oneVal c (v : Int) n 0 = -n from rfl, poke_set _ _ _ hjl.out] at hpl
    obtain ⟨aa, haa⟩ : ∃ aa, (freshW c).set j (-n) = aa := ⟨_, rfl⟩
    obtain ⟨wr, hwr⟩ : ∃ Y, w8.setCell ⟨g, j, none⟩ (.int .i64 (-n)) = Y := ⟨_, rfl⟩
    have BW : Aside0 (Below W.heap.size W wr) := ⟨by rw [← hwr]; exact HB.out.setCell (p := ⟨g, j, none⟩) (by have := HO.out.ge; show W.heap.size ≤ g; omega) _⟩
    have BY : Aside0 (wr.heap[W.heap.size]? = some (.cells #[.int .i64 c.th, .int .i64 c.st, .int .i64 c.ga, .int .i64 c.le, .int .i64 c.re, .int .i64 c.ti, .slice A6 n6 d6, .slice A7 n7 d7] 24 (0, 0))) := ⟨by rw [← hwr]; exact (Below.heap_setCell _ _ _ _ HGW.out).trans BX.out⟩
    have HAw : Aside0 (IsInts wr (.slice (some ⟨g, 0, none⟩) sz cap) aa) := ⟨by rw [← hwr, ← haa]; exact ((HO.out.below L7.out).put j _).ints⟩
    have HWL : Aside0 (WL c aa) := ⟨by rw [← haa, ← poke_set _ _ _ hjl.out]; exact poke_len HWF.out _ _⟩
    rw [haa] at hpl
    rw [hwr]
    clear hwr haa ej ex eq0
    have PS := Aside0.mk hpl.1
    have PQ := Aside0.mk hpl.2
    clear hpl HB BX z0 z1 z2 z3 z4 z5 z6 z7 L7 j0i j1i
    have H6w : Aside0 (IsInts wr (.slice A6 n6 d6) c.ps) := ⟨H6.out.below BW.out⟩
    have H7w : Aside0 (IsInts wr (.slice A7 n7 d7) c.ls) := ⟨H7.out.below BW.out⟩
    have HB : Aside0 (Below wr.heap.size wr wr) := ⟨Below.refl _ _⟩
    have BX := BY
    obtain ⟨z0, z1, z2, z3, z4, z5, z6, z7⟩ := box8 BX.out
    go_wp2_with (first | (go_at_call 15; (with_reducible refine (K_aQuiet _ c HR.out _ _ _ aa HWL.out ?_ ?_ ?_).mono ?_); exact H6w.out.below (by with_reducible repeat (first | exact Below.refl _ _ | exact HB.out | apply below_drew1 | apply below_alloc)); exact H7w.out.below (by with_reducible repeat (first | exact Below.refl _ _ | exact HB.out | apply below_drew1 | apply below_alloc)); exact HAw.out.below (by with_reducible repeat (first | exact Below.refl _ _ | exact HB.out | apply below_drew1 | apply below_alloc)); rintro e wb ⟨rfl, hb⟩; rw [PQ.out]; have HB' : Aside0 (Below wr.heap.size wr wb) := ⟨below_step (by with_reducible repeat (first | exact Below.refl _ _ | exact HB.out | apply below_drew1 | apply below_alloc)) hb⟩; have BX' : Aside0 (wb.heap[W.heap.size]? = some (.cells #[.int .i64 c.th, .int .i64 c.st, .int .i64 c.ga, .int .i64 c.le, .int .i64 c.re, .int .i64 c.ti, .slice A6 n6 d6, .slice A7 n7 d7] 24 (0, 0))) := ⟨blk_below (g := W.heap.size) (by with_reducible repeat (first | exact BX.out | exact blk_new _ _ | refine blk_alloc ?_ _ | refine blk_drew ?_)) hb⟩; clear z0 z1 z2 z3 z4 z5 z6 z7 HB BX; have HB := HB'; have BX := BX'; clear HB' BX' hb; obtain ⟨z0, z1, z2, z3, z4, z5, z6, z7⟩ := box8 BX.out) | (go_at_call 13; (with_reducible refine (K_aSafe _ c HR.out _ _ _ aa HWL.out ?_ ?_ ?_).mono ?_); exact H6w.out.below (by with_reducible repeat (first | exact Below.refl _ _ | exact HB.out | apply below_drew1 | apply below_alloc)); exact H7w.out.below (by with_reducible repeat (first | exact Below.refl _ _ | exact HB.out | apply below_drew1 | apply below_alloc)); exact HAw.out.below (by with_reducible repeat (first | exact Below.refl _ _ | exact HB.out | apply below_drew1 | apply below_alloc)); rintro e wa ⟨rfl, hb⟩; rw [PS.out]; have HB' : Aside0 (Below wr.heap.size wr wa) := ⟨below_step (by with_reducible repeat (first | exact Below.refl _ _ | exact HB.out | apply below_drew1 | apply below_alloc)) hb⟩; have BX' : Aside0 (wa.heap[W.heap.size]? = some (.cells #[.int .i64 c.th, .int .i64 c.st, .int .i64 c.ga, .int .i64 c.le, .int .i64 c.re, .int .i64 c.ti, .slice A6 n6 d6, .slice A7 n7 d7] 24 (0, 0))) := ⟨blk_below (g := W.heap.size) (by with_reducible repeat (first | exact BX.out | exact blk_new _ _ | refine blk_alloc ?_ _ | refine blk_drew ?_)) hb⟩; clear z0 z1 z2 z3 z4 z5 z6 z7 HB BX; have HB := HB'; have BX := BX'; clear HB' BX' hb; obtain ⟨z0, z1, z2, z3, z4, z5, z6, z7⟩ := box8 BX.out))
    go_ret
    exact ⟨rfl, (by with_reducible repeat (first | exact below_step BW.out HB.out | apply below_drew1 | apply below_alloc))⟩
  · have eq0 : Int.tmod x2 5 = 1 := eq
    clear eq
    obtain ⟨j0, hj⟩ : ∃ j0 : Nat, aAv c (v : Int) = (j0 : Int) := ⟨(aAv c (v : Int)).toNat, by have h1 := HIN.out; have h2 := HST.out; unfold aAv; omega⟩
    replace hj := Aside0.mk hj
    obtain ⟨j, hj2⟩ : ∃ j : Nat, j0 + (0) = j := ⟨_, rfl⟩
    have hjl : Aside0 (j < (freshW c).length) := ⟨by have h1 := HIN.out; have h2 := HST.out; have h3 := hj.out; have h4 := hfl.out; unfold aAv at h3; omega⟩
    have HJ2 := Aside0.mk hj2
    have L7 : Aside0 (Below w7.heap.size w7 w7) := ⟨Below.refl _ _⟩
    have j0i : (0 : Int) ≤ (j : Int) := by omega
    have j1i : (j : Int) < (sz : Int) := by have h1 := hjl.out; have h2 := hfl.out; omega
    have HGW : Aside0 (W.heap.size ≠ g) := ⟨by have := HO.out.ge; omega⟩
    have HSB : Aside0 (0 ≤ (s : Int) ∧ (s : Int) ≤ 1000) := ⟨by have := HST.out; omega⟩
    obtain rfl : j = j0 := hj2.symm
    have HAV : Aside0 (rd (freshW c) (j : Int) = rd c.ls (v : Int)) := ⟨by rw [← hj.out]; exact (fresh_is c HR.out.cb v (by have h1 := hn6.out; have h2 := HV.out; omega)).av⟩
    go_upto_region 12 with (fail)
    refine wp_region_held_drew (S := (fun w' => w'.cell? ⟨W.heap.size, 0, none⟩ = some (.int .i64 c.th) ∧ w'.cell? ⟨W.heap.size, 1, none⟩ = some (.int .i64 c.st) ∧ w'.cell? ⟨W.heap.size, 2, none⟩ = some (.int .i64 c.ga) ∧ w'.cell? ⟨W.heap.size, 3, none⟩ = some (.int .i64 c.le) ∧ w'.cell? ⟨W.heap.size, 4, none⟩ = some (.int .i64 c.re) ∧ w'.cell? ⟨W.heap.size, 5, none⟩ = some (.int .i64 c.ti) ∧ w'.cell? ⟨W.heap.size, 6, none⟩ = some (.slice A6 n6 d6) ∧ w'.cell? ⟨W.heap.size, 7, none⟩ = some (.slice A7 n7 d7))) (by kernel_rfl) ?_ (fun hHeld => ?_)
    · (try dsimp only)
      ((go_split_ands; (repeat' apply And.intro); all_goals (first | ((with_reducible refine cell_set_other ?_ HGW.out); assumption) | exact below_cell_of (w := w7) (by with_reducible repeat (first | exact Below.refl _ _ | exact L7.out | apply below_drew1 | apply below_alloc)) (by assumption))))
    refine wpAnyH_take (i := 0) (oi := _) (v := ?_) ((List.getElem?_toArray ..).trans rfl) (by kernel_rfl) (by kernel_rfl) (by kernel_rfl) (fun _ _ _ h => h) (Or.inl ⟨by rfl, ?_⟩) (by assumption) ?_
    rotate_left
    · (intro w hSw; (try dsimp only at hSw); go_simp; (try with_reducible rfl))
    (try simp only [Act.put, List.setIfInBounds_toArray, List.set_cons_zero, List.set_cons_succ])
    refine wpAnyH_take (i := 1) (oi := _) (v := ?_) ((List.getElem?_toArray ..).trans rfl) (by kernel_rfl) (by kernel_rfl) (by kernel_rfl) (fun _ _ _ h => h) (Or.inl ⟨by rfl, ?_⟩) (by assumption) ?_
    rotate_left
    · (intro w hSw; (try dsimp only at hSw); go_simp; (try with_reducible rfl))
    (try simp only [Act.put, List.setIfInBounds_toArray, List.set_cons_zero, List.set_cons_succ])
    refine wpAnyH_take (i := 2) (oi := _) (v := ?_) ((List.getElem?_toArray ..).trans rfl) (by kernel_rfl) (by kernel_rfl) (by kernel_rfl) (fun _ _ _ h => h) (Or.inl ⟨by rfl, ?_⟩) (by assumption) ?_
    rotate_left
    · (intro w hSw; (try dsimp only at hSw); go_simp; (try with_reducible rfl))
    (try simp only [Act.put, List.setIfInBounds_toArray, List.set_cons_zero, List.set_cons_succ])
    refine wpAnyH_take (i := 4) (oi := _) (v := ?_) ((List.getElem?_toArray ..).trans rfl) (by kernel_rfl) (by kernel_rfl) (by kernel_rfl) (fun _ _ _ h => h) (Or.inl ⟨by rfl, ?_⟩) (by assumption) ?_
    rotate_left
    · (intro w hSw; (try dsimp only at hSw); go_simp; (try with_reducible rfl))
    (try simp only [Act.put, List.setIfInBounds_toArray, List.set_cons_zero, List.set_cons_succ])
    refine wpAnyH_take (i := 5) (oi := _) (v := ?_) ((List.getElem?_toArray ..).trans rfl) (by kernel_rfl) (by kernel_rfl) (by kernel_rfl) (fun _ _ _ h => h) (Or.inl ⟨by rfl, ?_⟩) (by assumption) ?_
    rotate_left
    · (intro w hSw; (try dsimp only at hSw); go_simp; (try with_reducible rfl))
    (try simp only [Act.put, List.setIfInBounds_toArray, List.set_cons_zero, List.set_cons_succ])
    refine wpAnyH_take (i := 6) (oi := _) (v := ?_) ((List.getElem?_toArray ..).trans rfl) (by kernel_rfl) (by kernel_rfl) (by kernel_rfl) (fun _ _ _ h => h) (Or.inl ⟨by rfl, ?_⟩) (by assumption) ?_
    rotate_left
    · (intro w hSw; (try dsimp only at hSw); go_simp; (try with_reducible rfl))
    (try simp only [Act.put, List.setIfInBounds_toArray, List.set_cons_zero, List.set_cons_succ])
    refine wpAnyH_take (i := 10) (oi := _) (v := ?_) ((List.getElem?_toArray ..).trans rfl) (by kernel_rfl) (by kernel_rfl) (by kernel_rfl) (fun _ _ _ h => h) (Or.inl ⟨by rfl, ?_⟩) (by assumption) ?_
    rotate_left
    · (intro w hSw; (try dsimp only at hSw); go_simp; (try with_reducible rfl))
    (try simp only [Act.put, List.setIfInBounds_toArray, List.set_cons_zero, List.set_cons_succ])
    refine wpAnyH_ready (rs := [3]) (by kernel_rfl) (by simp) ?_
    refine AllReadyH.cons (i := 3) (o := _) ((List.getElem?_toArray ..).trans rfl) (fun K hK => ?_) ?_
    · go_simp
      (go_at_call 27; (with_reducible refine (K_aAvail c HR.out.cb _ _ _ _ _ _ (v : Int) HVB.out _ ?_ ?_).mono ?_); exact H6.out.below (by with_reducible repeat (first | exact Below.refl _ _ | exact HB.out | apply below_drew1 | apply below_alloc)); exact H7.out.below (by with_reducible repeat (first | exact Below.refl _ _ | exact HB.out | apply below_drew1 | apply below_alloc)); rintro e w8 ⟨rfl, hb⟩; rw [hj.out]; have L' : Aside0 (Below w7.heap.size w7 w8) := ⟨below_step (by with_reducible repeat (first | exact Below.refl _ _ | exact L7.out | apply below_drew1)) hb⟩; clear L7; have L7 := L'; clear L'; have HJ := OW.cell (HO.out.below L7.out) j hjl.out; have c0 := HJ.1; rw [HAV.out] at c0; have f0 := HJ.2; clear HJ; have HB' : Aside0 (Below W.heap.size W w8) := ⟨below_step (by with_reducible repeat (first | exact Below.refl _ _ | exact HB.out | apply below_drew1 | apply below_alloc)) hb⟩; have BX' : Aside0 (w8.heap[W.heap.size]? = some (.cells #[.int .i64 c.th, .int .i64 c.st, .int .i64 c.ga, .int .i64 c.le, .int .i64 c.re, .int .i64 c.ti, .slice A6 n6 d6, .slice A7 n7 d7] 24 (0, 0))) := ⟨blk_below (g := W.heap.size) (by with_reducible repeat (first | exact BX.out | exact blk_new _ _ | refine blk_alloc ?_ _ | refine blk_drew ?_)) hb⟩; clear z0 z1 z2 z3 z4 z5 z6 z7 HB BX; have HB := HB'; have BX := BX'; clear HB' BX' hb; obtain ⟨z0, z1, z2, z3, z4, z5, z6, z7⟩ := box8 BX.out)
      refine hK.out _ _ ?_ (fun hHeld => ?_)
      · (try dsimp only)
        ((go_split_ands; (repeat' apply And.intro); all_goals (first | ((with_reducible refine cell_set_other ?_ HGW.out); assumption) | exact below_cell_of (w := w7) (by with_reducible repeat (first | exact Below.refl _ _ | exact L7.out | apply below_drew1 | apply below_alloc)) (by assumption))))
      clear hK K
      (try simp only [Act.put, List.setIfInBounds_toArray, List.set_cons_zero, List.set_cons_succ])
      refine wpAnyH_ready (rs := [7]) (by kernel_rfl) (by simp) ?_
      refine AllReadyH.cons (i := 7) (o := _) ((List.getElem?_toArray ..).trans rfl) (fun K hK => ?_) ?_
      · go_simp
        (go_at_call 27; (with_reducible refine (K_aAvail c HR.out.cb _ _ _ _ _ _ (v : Int) HVB.out _ ?_ ?_).mono ?_); exact H6.out.below (by with_reducible repeat (first | exact Below.refl _ _ | exact HB.out | apply below_drew1 | apply below_alloc)); exact H7.out.below (by with_reducible repeat (first | exact Below.refl _ _ | exact HB.out | apply below_drew1 | apply below_alloc)); rintro e w9 ⟨rfl, hb⟩; rw [hj.out]; have L' : Aside0 (Below w7.heap.size w7 w9) := ⟨below_step (by with_reducible repeat (first | exact Below.refl _ _ | exact L7.out | apply below_drew1)) hb⟩; clear L7; have L7 := L'; clear L'; have HJ := OW.cell (HO.out.below L7.out) j hjl.out; have c0 := HJ.1; rw [HAV.out] at c0; have f0 := HJ.2; clear HJ; have HB' : Aside0 (Below W.heap.size W w9) := ⟨below_step (by with_reducible repeat (first | exact Below.refl _ _ | exact HB.out | apply below_drew1 | apply below_alloc)) hb⟩; have BX' : Aside0 (w9.heap[W.heap.size]? = some (.cells #[.int .i64 c.th, .int .i64 c.st, .int .i64 c.ga, .int .i64 c.le, .int .i64 c.re, .int .i64 c.ti, .slice A6 n6 d6, .slice A7 n7 d7] 24 (0, 0))) := ⟨blk_below (g := W.heap.size) (by with_reducible repeat (first | exact BX.out | exact blk_new _ _ | refine blk_alloc ?_ _ | refine blk_drew ?_)) hb⟩; clear z0 z1 z2 z3 z4 z5 z6 z7 HB BX; have HB := HB'; have BX := BX'; clear HB' BX' hb; obtain ⟨z0, z1, z2, z3, z4, z5, z6, z7⟩ := box8 BX.out)
        refine hK.out _ _ ?_ (fun hHeld => ?_)
        · (try dsimp only)
          ((go_split_ands; (repeat' apply And.intro); all_goals (first | ((with_reducible refine cell_set_other ?_ HGW.out); assumption) | exact below_cell_of (w := w7) (by with_reducible repeat (first | exact Below.refl _ _ | exact L7.out | apply below_drew1 | apply below_alloc)) (by assumption))))
        clear hK K
        (try simp only [Act.put, List.setIfInBounds_toArray, List.set_cons_zero, List.set_cons_succ])
        refine wpAnyH_take (i := 8) (oi := _) (v := ?_) ((List.getElem?_toArray ..).trans rfl) (by kernel_rfl) (by kernel_rfl) (by kernel_rfl) (fun _ _ _ h => h) (Or.inl ⟨by rfl, ?_⟩) (by assumption) ?_
        rotate_left
        · (intro w hSw; (try dsimp only at hSw); go_simp; (try with_reducible rfl))
        (try simp only [Act.put, List.setIfInBounds_toArray, List.set_cons_zero, List.set_cons_succ])
        refine wpAnyH_ready (rs := [9]) (by kernel_rfl) (by simp) ?_
        refine AllReadyH.cons (i := 9) (o := _) ((List.getElem?_toArray ..).trans rfl) (fun K hK => ?_) ?_
        · go_simp
          refine hK.out _ _ ?_ (fun hHeld => ?_)
          · (try dsimp only)
            ((go_split_ands; (repeat' apply And.intro); all_goals (first | ((with_reducible refine cell_set_other ?_ HGW.out); assumption) | exact below_cell_of (w := w7) (by with_reducible repeat (first | exact Below.refl _ _ | exact L7.out | apply below_drew1 | apply below_alloc)) (by assumption))))
          clear hK K
          (try simp only [Act.put, List.setIfInBounds_toArray, List.set_cons_zero, List.set_cons_succ])
          refine wpAnyH_take (i := 11) (oi := _) (v := ?_) ((List.getElem?_toArray ..).trans rfl) (by kernel_rfl) (by kernel_rfl) (by kernel_rfl) (fun _ _ _ h => h) (Or.inl ⟨by rfl, ?_⟩) (by assumption) ?_
          rotate_left
          · (intro w hSw; (try dsimp only at hSw); go_simp; (try with_reducible rfl))
          (try simp only [Act.put, List.setIfInBounds_toArray, List.set_cons_zero, List.set_cons_succ])
          refine wpAnyH_take (i := 12) (oi := _) (v := ?_) ((List.getElem?_toArray ..).trans rfl) (by kernel_rfl) (by kernel_rfl) (by kernel_rfl) (fun _ _ _ h => h) (Or.inl ⟨by rfl, ?_⟩) (by assumption) ?_
          rotate_left
          · (intro w hSw; (try dsimp only at hSw); go_simp; (try with_reducible rfl))
          (try simp only [Act.put, List.setIfInBounds_toArray, List.set_cons_zero, List.set_cons_succ])
          refine wpAnyH_ready (rs := [13]) (by kernel_rfl) (by simp) ?_
          refine AllReadyH.cons (i := 13) (o := _) ((List.getElem?_toArray ..).trans rfl) (fun K hK => ?_) ?_
          · go_simp
            refine hK.out _ _ ?_ (fun hHeld => ?_)
            · (try dsimp only)
              ((go_split_ands; (repeat' apply And.intro); all_goals (first | ((with_reducible refine cell_set_other ?_ HGW.out); assumption) | exact below_cell_of (w := w7) (by with_reducible repeat (first | exact Below.refl _ _ | exact L7.out | apply below_drew1 | apply below_alloc)) (by assumption))))
            clear hK K
            (try simp only [Act.put, List.setIfInBounds_toArray, List.set_cons_zero, List.set_cons_succ])
            refine wpAnyH_done (by kernel_rfl) ?_ _
            go_upto_region 19 with (fail)
            have ex : IntKind.i64.wrap (rd c.ls (v : Int) + n) = rd c.ls (v : Int) + n := by have h1 := HN.out; have h2 := HST.out; have h3 := HLM.out; rw [IntKind.wrap_i64]; omega
            rw [ex]
            have hpl := one_plain c HR.out v (by have h1 := hn6.out; have h2 := HV.out; omega) (s : Int) n 1 (by have := HST.out; omega) HN.out (by omega)
            have ej : aLim c (v : Int) + oneAt c (v : Int) (s : Int) 1 = (j : Int) := by
              show aLim c (v : Int) + (1) = (j : Int)
              have h3 := hj.out
              have h4 := HJ2.out
              unfold aAv at h3; omega
            rw [ej, show oneVal c (v : Int) n 1 = rd c.ls (v : Int) + n from rfl, poke_set _ _ _ hjl.out] at hpl
            obtain ⟨aa, haa⟩ : ∃ aa, (freshW c).set j (rd c.ls (v : Int) + n) = aa := ⟨_, rfl⟩
            obtain ⟨wr, hwr⟩ : ∃ Y, w9.setCell ⟨g, j, none⟩ (.int .i64 (rd c.ls (v : Int) + n)) = Y := ⟨_, rfl⟩
            have BW : Aside0 (Below W.heap.size W wr) := ⟨by rw [← hwr]; exact HB.out.setCell (p := ⟨g, j, none⟩) (by have := HO.out.ge; show W.heap.size ≤ g; omega) _⟩
            have BY : Aside0 (wr.heap[W.heap.size]? = some (.cells #[.int .i64 c.th, .int .i64 c.st, .int .i64 c.ga, .int .i64 c.le, .int .i64 c.re, .int .i64 c.ti, .slice A6 n6 d6, .slice A7 n7 d7] 24 (0, 0))) := ⟨by rw [← hwr]; exact (Below.heap_setCell _ _ _ _ HGW.out).trans BX.out⟩
            have HAw : Aside0 (IsInts wr (.slice (some ⟨g, 0, none⟩) sz cap) aa) := ⟨by rw [← hwr, ← haa]; exact ((HO.out.below L7.out).put j _).ints⟩
            have HWL : Aside0 (WL c aa) := ⟨by rw [← haa, ← poke_set _ _ _ hjl.out]; exact poke_len HWF.out _ _⟩
            rw [haa] at hpl
            rw [hwr]
            clear hwr haa ej ex eq0
            have PS := Aside0.mk hpl.1
            have PQ := Aside0.mk hpl.2
            clear hpl HB BX z0 z1 z2 z3 z4 z5 z6 z7 L7 j0i j1i
            have H6w : Aside0 (IsInts wr (.slice A6 n6 d6) c.ps) := ⟨H6.out.below BW.out⟩
            have H7w : Aside0 (IsInts wr (.slice A7 n7 d7) c.ls) := ⟨H7.out.below BW.out⟩
            have HB : Aside0 (Below wr.heap.size wr wr) := ⟨Below.refl _ _⟩
            have BX := BY
            obtain ⟨z0, z1, z2, z3, z4, z5, z6, z7⟩ := box8 BX.out
            go_wp2_with (first | (go_at_call 15; (with_reducible refine (K_aQuiet _ c HR.out _ _ _ aa HWL.out ?_ ?_ ?_).mono ?_); exact H6w.out.below (by with_reducible repeat (first | exact Below.refl _ _ | exact HB.out | apply below_drew1 | apply below_alloc)); exact H7w.out.below (by with_reducible repeat (first | exact Below.refl _ _ | exact HB.out | apply below_drew1 | apply below_alloc)); exact HAw.out.below (by with_reducible repeat (first | exact Below.refl _ _ | exact HB.out | apply below_drew1 | apply below_alloc)); rintro e wb ⟨rfl, hb⟩; rw [PQ.out]; have HB' : Aside0 (Below wr.heap.size wr wb) := ⟨below_step (by with_reducible repeat (first | exact Below.refl _ _ | exact HB.out | apply below_drew1 | apply below_alloc)) hb⟩; have BX' : Aside0 (wb.heap[W.heap.size]? = some (.cells #[.int .i64 c.th, .int .i64 c.st, .int .i64 c.ga, .int .i64 c.le, .int .i64 c.re, .int .i64 c.ti, .slice A6 n6 d6, .slice A7 n7 d7] 24 (0, 0))) := ⟨blk_below (g := W.heap.size) (by with_reducible repeat (first | exact BX.out | exact blk_new _ _ | refine blk_alloc ?_ _ | refine blk_drew ?_)) hb⟩; clear z0 z1 z2 z3 z4 z5 z6 z7 HB BX; have HB := HB'; have BX := BX'; clear HB' BX' hb; obtain ⟨z0, z1, z2, z3, z4, z5, z6, z7⟩ := box8 BX.out) | (go_at_call 13; (with_reducible refine (K_aSafe _ c HR.out _ _ _ aa HWL.out ?_ ?_ ?_).mono ?_); exact H6w.out.below (by with_reducible repeat (first | exact Below.refl _ _ | exact HB.out | apply below_drew1 | apply below_alloc)); exact H7w.out.below (by with_reducible repeat (first | exact Below.refl _ _ | exact HB.out | apply below_drew1 | apply below_alloc)); exact HAw.out.below (by with_reducible repeat (first | exact Below.refl _ _ | exact HB.out | apply below_drew1 | apply below_alloc)); rintro e wa ⟨rfl, hb⟩; rw [PS.out]; have HB' : Aside0 (Below wr.heap.size wr wa) := ⟨below_step (by with_reducible repeat (first | exact Below.refl _ _ | exact HB.out | apply below_drew1 | apply below_alloc)) hb⟩; have BX' : Aside0 (wa.heap[W.heap.size]? = some (.cells #[.int .i64 c.th, .int .i64 c.st, .int .i64 c.ga, .int .i64 c.le, .int .i64 c.re, .int .i64 c.ti, .slice A6 n6 d6, .slice A7 n7 d7] 24 (0, 0))) := ⟨blk_below (g := W.heap.size) (by with_reducible repeat (first | exact BX.out | exact blk_new _ _ | refine blk_alloc ?_ _ | refine blk_drew ?_)) hb⟩; clear z0 z1 z2 z3 z4 z5 z6 z7 HB BX; have HB := HB'; have BX := BX'; clear HB' BX' hb; obtain ⟨z0, z1, z2, z3, z4, z5, z6, z7⟩ := box8 BX.out))
            go_ret
            exact ⟨rfl, (by with_reducible repeat (first | exact below_step BW.out HB.out | apply below_drew1 | apply below_alloc))⟩
          exact AllReadyH.nil
        exact AllReadyH.nil
      exact AllReadyH.nil
    exact AllReadyH.nil
  · have eq0 : Int.tmod x2 5 = 2 := eq
    clear eq
    obtain ⟨j0, hj⟩ : ∃ j0 : Nat, aLe c (v : Int) (s : Int) = (j0 : Int) := ⟨(aLe c (v : Int) (s : Int)).toNat, by have h1 := HIN.out; have h2 := HST.out; unfold aLe; omega⟩
    replace hj := Aside0.mk hj
    obtain ⟨j, hj2⟩ : ∃ j : Nat, j0 + (0) = j := ⟨_, rfl⟩
    have hjl : Aside0 (j < (freshW c).length) := ⟨by have h1 := HIN.out; have h2 := HST.out; have h3 := hj.out; have h4 := hfl.out; unfold aLe at h3; omega⟩
    have HJ2 := Aside0.mk hj2
    have L7 : Aside0 (Below w7.heap.size w7 w7) := ⟨Below.refl _ _⟩
    have j0i : (0 : Int) ≤ (j : Int) := by omega
    have j1i : (j : Int) < (sz : Int) := by have h1 := hjl.out; have h2 := hfl.out; omega
    have HGW : Aside0 (W.heap.size ≠ g) := ⟨by have := HO.out.ge; omega⟩
    have HSB : Aside0 (0 ≤ (s : Int) ∧ (s : Int) ≤ 1000) := ⟨by have := HST.out; omega⟩
    obtain rfl : j = j0 := hj2.symm
    go_upto_region 14 with (fail)
    go_region_held3 (fun w' => w'.cell? ⟨W.heap.size, 0, none⟩ = some (.int .i64 c.th) ∧ w'.cell? ⟨W.heap.size, 1, none⟩ = some (.int .i64 c.st) ∧ w'.cell? ⟨W.heap.size, 2, none⟩ = some (.int .i64 c.ga) ∧ w'.cell? ⟨W.heap.size, 3, none⟩ = some (.int .i64 c.le) ∧ w'.cell? ⟨W.heap.size, 4, none⟩ = some (.int .i64 c.re) ∧ w'.cell? ⟨W.heap.size, 5, none⟩ = some (.int .i64 c.ti) ∧ w'.cell? ⟨W.heap.size, 6, none⟩ = some (.slice A6 n6 d6) ∧ w'.cell? ⟨W.heap.size, 7, none⟩ = some (.slice A7 n7 d7)) ((go_split_ands; (repeat' apply And.intro); all_goals (first | ((with_reducible refine cell_set_other ?_ HGW.out); assumption) | exact below_cell_of (w := w7) (by with_reducible repeat (first | exact Below.refl _ _ | exact L7.out | apply below_drew1 | apply below_alloc)) (by assumption)))) (first | (go_at_call 28; (with_reducible refine (K_aLease c HR.out.cb _ _ _ _ _ _ (v : Int) (s : Int) HVB.out HSB.out _ ?_ ?_).mono ?_); exact H6.out.below (by with_reducible repeat (first | exact Below.refl _ _ | exact HB.out | apply below_drew1 | apply below_alloc)); exact H7.out.below (by with_reducible repeat (first | exact Below.refl _ _ | exact HB.out | apply below_drew1 | apply below_alloc)); rintro e w8 ⟨rfl, hb⟩; rw [hj.out]; have L' : Aside0 (Below w7.heap.size w7 w8) := ⟨below_step (by with_reducible repeat (first | exact Below.refl _ _ | exact L7.out | apply below_drew1)) hb⟩; clear L7; have L7 := L'; clear L'; have HJ := OW.cell (HO.out.below L7.out) j hjl.out; have c0 := HJ.1; have f0 := HJ.2; clear HJ; have HB' : Aside0 (Below W.heap.size W w8) := ⟨below_step (by with_reducible repeat (first | exact Below.refl _ _ | exact HB.out | apply below_drew1 | apply below_alloc)) hb⟩; have BX' : Aside0 (w8.heap[W.heap.size]? = some (.cells #[.int .i64 c.th, .int .i64 c.st, .int .i64 c.ga, .int .i64 c.le, .int .i64 c.re, .int .i64 c.ti, .slice A6 n6 d6, .slice A7 n7 d7] 24 (0, 0))) := ⟨blk_below (g := W.heap.size) (by with_reducible repeat (first | exact BX.out | exact blk_new _ _ | refine blk_alloc ?_ _ | refine blk_drew ?_)) hb⟩; clear z0 z1 z2 z3 z4 z5 z6 z7 HB BX; have HB := HB'; have BX := BX'; clear HB' BX' hb; obtain ⟨z0, z1, z2, z3, z4, z5, z6, z7⟩ := box8 BX.out))
    rename_i hHeld
    go_upto_region 19 with (fail)
    have ex : IntKind.i64.wrap (c.le + n) = c.le + n := by have h1 := HN.out; have h2 := HST.out; have h3 := HLM.out; rw [IntKind.wrap_i64]; omega
    rw [ex]
    have hpl := one_plain c HR.out v (by have h1 := hn6.out; have h2 := HV.out; omega) (s : Int) n 2 (by have := HST.out; omega) HN.out (by omega)
    have ej : aLim c (v : Int) + oneAt c (v : Int) (s : Int) 2 = (j : Int) := by
      show aLim c (v : Int) + (2 + (s : Int)) = (j : Int)
      have h3 := hj.out
      have h4 := HJ2.out
      unfold aLe at h3; omega
    rw [ej, show oneVal c (v : Int) n 2 = c.le + n from rfl, poke_set _ _ _ hjl.out] at hpl
    obtain ⟨aa, haa⟩ : ∃ aa, (freshW c).set j (c.le + n) = aa := ⟨_, rfl⟩
    obtain ⟨wr, hwr⟩ : ∃ Y, w8.setCell ⟨g, j, none⟩ (.int .i64 (c.le + n)) = Y := ⟨_, rfl⟩
    have BW : Aside0 (Below W.heap.size W wr) := ⟨by rw [← hwr]; exact HB.out.setCell (p := ⟨g, j, none⟩) (by have := HO.out.ge; show W.heap.size ≤ g; omega) _⟩
    have BY : Aside0 (wr.heap[W.heap.size]? = some (.cells #[.int .i64 c.th, .int .i64 c.st, .int .i64 c.ga, .int .i64 c.le, .int .i64 c.re, .int .i64 c.ti, .slice A6 n6 d6, .slice A7 n7 d7] 24 (0, 0))) := ⟨by rw [← hwr]; exact (Below.heap_setCell _ _ _ _ HGW.out).trans BX.out⟩
    have HAw : Aside0 (IsInts wr (.slice (some ⟨g, 0, none⟩) sz cap) aa) := ⟨by rw [← hwr, ← haa]; exact ((HO.out.below L7.out).put j _).ints⟩
    have HWL : Aside0 (WL c aa) := ⟨by rw [← haa, ← poke_set _ _ _ hjl.out]; exact poke_len HWF.out _ _⟩
    rw [haa] at hpl
    rw [hwr]
    clear hwr haa ej ex eq0
    have PS := Aside0.mk hpl.1
    have PQ := Aside0.mk hpl.2
    clear hpl HB BX z0 z1 z2 z3 z4 z5 z6 z7 L7 j0i j1i
    have H6w : Aside0 (IsInts wr (.slice A6 n6 d6) c.ps) := ⟨H6.out.below BW.out⟩
    have H7w : Aside0 (IsInts wr (.slice A7 n7 d7) c.ls) := ⟨H7.out.below BW.out⟩
    have HB : Aside0 (Below wr.heap.size wr wr) := ⟨Below.refl _ _⟩
    have BX := BY
    obtain ⟨z0, z1, z2, z3, z4, z5, z6, z7⟩ := box8 BX.out
    go_wp2_with (first | (go_at_call 15; (with_reducible refine (K_aQuiet _ c HR.out _ _ _ aa HWL.out ?_ ?_ ?_).mono ?_); exact H6w.out.below (by with_reducible repeat (first | exact Below.refl _ _ | exact HB.out | apply below_drew1 | apply below_alloc)); exact H7w.out.below (by with_reducible repeat (first | exact Below.refl _ _ | exact HB.out | apply below_drew1 | apply below_alloc)); exact HAw.out.below (by with_reducible repeat (first | exact Below.refl _ _ | exact HB.out | apply below_drew1 | apply below_alloc)); rintro e wb ⟨rfl, hb⟩; rw [PQ.out]; have HB' : Aside0 (Below wr.heap.size wr wb) := ⟨below_step (by with_reducible repeat (first | exact Below.refl _ _ | exact HB.out | apply below_drew1 | apply below_alloc)) hb⟩; have BX' : Aside0 (wb.heap[W.heap.size]? = some (.cells #[.int .i64 c.th, .int .i64 c.st, .int .i64 c.ga, .int .i64 c.le, .int .i64 c.re, .int .i64 c.ti, .slice A6 n6 d6, .slice A7 n7 d7] 24 (0, 0))) := ⟨blk_below (g := W.heap.size) (by with_reducible repeat (first | exact BX.out | exact blk_new _ _ | refine blk_alloc ?_ _ | refine blk_drew ?_)) hb⟩; clear z0 z1 z2 z3 z4 z5 z6 z7 HB BX; have HB := HB'; have BX := BX'; clear HB' BX' hb; obtain ⟨z0, z1, z2, z3, z4, z5, z6, z7⟩ := box8 BX.out) | (go_at_call 13; (with_reducible refine (K_aSafe _ c HR.out _ _ _ aa HWL.out ?_ ?_ ?_).mono ?_); exact H6w.out.below (by with_reducible repeat (first | exact Below.refl _ _ | exact HB.out | apply below_drew1 | apply below_alloc)); exact H7w.out.below (by with_reducible repeat (first | exact Below.refl _ _ | exact HB.out | apply below_drew1 | apply below_alloc)); exact HAw.out.below (by with_reducible repeat (first | exact Below.refl _ _ | exact HB.out | apply below_drew1 | apply below_alloc)); rintro e wa ⟨rfl, hb⟩; rw [PS.out]; have HB' : Aside0 (Below wr.heap.size wr wa) := ⟨below_step (by with_reducible repeat (first | exact Below.refl _ _ | exact HB.out | apply below_drew1 | apply below_alloc)) hb⟩; have BX' : Aside0 (wa.heap[W.heap.size]? = some (.cells #[.int .i64 c.th, .int .i64 c.st, .int .i64 c.ga, .int .i64 c.le, .int .i64 c.re, .int .i64 c.ti, .slice A6 n6 d6, .slice A7 n7 d7] 24 (0, 0))) := ⟨blk_below (g := W.heap.size) (by with_reducible repeat (first | exact BX.out | exact blk_new _ _ | refine blk_alloc ?_ _ | refine blk_drew ?_)) hb⟩; clear z0 z1 z2 z3 z4 z5 z6 z7 HB BX; have HB := HB'; have BX := BX'; clear HB' BX' hb; obtain ⟨z0, z1, z2, z3, z4, z5, z6, z7⟩ := box8 BX.out))
    go_ret
    exact ⟨rfl, (by with_reducible repeat (first | exact below_step BW.out HB.out | apply below_drew1 | apply below_alloc))⟩
  · have eq0 : Int.tmod x2 5 = 3 := eq
    clear eq
    obtain ⟨j0, hj⟩ : ∃ j0 : Nat, aCo c (v : Int) = (j0 : Int) := ⟨(aCo c (v : Int)).toNat, by have h1 := HIN.out; have h2 := HST.out; unfold aCo; omega⟩
    replace hj := Aside0.mk hj
    obtain ⟨j, hj2⟩ : ∃ j : Nat, j0 + (3) = j := ⟨_, rfl⟩
    have hjl : Aside0 (j < (freshW c).length) := ⟨by have h1 := HIN.out; have h2 := HST.out; have h3 := hj.out; have h4 := hfl.out; unfold aCo at h3; omega⟩
    have HJ2 := Aside0.mk hj2
    have L7 : Aside0 (Below w7.heap.size w7 w7) := ⟨Below.refl _ _⟩
    have j0i : (0 : Int) ≤ (j : Int) := by omega
    have j1i : (j : Int) < (sz : Int) := by have h1 := hjl.out; have h2 := hfl.out; omega
    have HGW : Aside0 (W.heap.size ≠ g) := ⟨by have := HO.out.ge; omega⟩
    have HSB : Aside0 (0 ≤ (s : Int) ∧ (s : Int) ≤ 1000) := ⟨by have := HST.out; omega⟩
    have e3 : IntKind.i64.wrap ((j0 : Int) + 3) = (j : Int) := by have := HSZ.out; rw [IntKind.wrap_i64]; omega
    clear hj2
    go_upto_region 16 with (fail)
    go_region_held3 (fun w' => w'.cell? ⟨W.heap.size, 0, none⟩ = some (.int .i64 c.th) ∧ w'.cell? ⟨W.heap.size, 1, none⟩ = some (.int .i64 c.st) ∧ w'.cell? ⟨W.heap.size, 2, none⟩ = some (.int .i64 c.ga) ∧ w'.cell? ⟨W.heap.size, 3, none⟩ = some (.int .i64 c.le) ∧ w'.cell? ⟨W.heap.size, 4, none⟩ = some (.int .i64 c.re) ∧ w'.cell? ⟨W.heap.size, 5, none⟩ = some (.int .i64 c.ti) ∧ w'.cell? ⟨W.heap.size, 6, none⟩ = some (.slice A6 n6 d6) ∧ w'.cell? ⟨W.heap.size, 7, none⟩ = some (.slice A7 n7 d7)) ((go_split_ands; (repeat' apply And.intro); all_goals (first | ((with_reducible refine cell_set_other ?_ HGW.out); assumption) | exact below_cell_of (w := w7) (by with_reducible repeat (first | exact Below.refl _ _ | exact L7.out | apply below_drew1 | apply below_alloc)) (by assumption)))) (first | (go_at_call 29; (with_reducible refine (K_aCounter c HR.out.cb _ _ _ _ _ _ (v : Int) HVB.out _ ?_ ?_).mono ?_); exact H6.out.below (by with_reducible repeat (first | exact Below.refl _ _ | exact HB.out | apply below_drew1 | apply below_alloc)); exact H7.out.below (by with_reducible repeat (first | exact Below.refl _ _ | exact HB.out | apply below_drew1 | apply below_alloc)); rintro e w8 ⟨rfl, hb⟩; rw [hj.out]; have L' : Aside0 (Below w7.heap.size w7 w8) := ⟨below_step (by with_reducible repeat (first | exact Below.refl _ _ | exact L7.out | apply below_drew1)) hb⟩; clear L7; have L7 := L'; clear L'; have HJ := OW.cell (HO.out.below L7.out) j hjl.out; have c0 := HJ.1; have f0 := HJ.2; clear HJ; have HB' : Aside0 (Below W.heap.size W w8) := ⟨below_step (by with_reducible repeat (first | exact Below.refl _ _ | exact HB.out | apply below_drew1 | apply below_alloc)) hb⟩; have BX' : Aside0 (w8.heap[W.heap.size]? = some (.cells #[.int .i64 c.th, .int .i64 c.st, .int .i64 c.ga, .int .i64 c.le, .int .i64 c.re, .int .i64 c.ti, .slice A6 n6 d6, .slice A7 n7 d7] 24 (0, 0))) := ⟨blk_below (g := W.heap.size) (by with_reducible repeat (first | exact BX.out | exact blk_new _ _ | refine blk_alloc ?_ _ | refine blk_drew ?_)) hb⟩; clear z0 z1 z2 z3 z4 z5 z6 z7 HB BX; have HB := HB'; have BX := BX'; clear HB' BX' hb; obtain ⟨z0, z1, z2, z3, z4, z5, z6, z7⟩ := box8 BX.out))
    rename_i hHeld
    go_upto_region 19 with (fail)
    have ex : IntKind.i64.wrap (c.st + n) = c.st + n := by have h1 := HN.out; have h2 := HST.out; have h3 := HLM.out; rw [IntKind.wrap_i64]; omega
    rw [ex]
    have hpl := one_plain c HR.out v (by have h1 := hn6.out; have h2 := HV.out; omega) (s : Int) n 3 (by have := HST.out; omega) HN.out (by omega)
    have ej : aLim c (v : Int) + oneAt c (v : Int) (s : Int) 3 = (j : Int) := by
      show aLim c (v : Int) + (2 + c.st + 3) = (j : Int)
      have h3 := hj.out
      have h4 := HJ2.out
      unfold aCo at h3; omega
    rw [ej, show oneVal c (v : Int) n 3 = c.st + n from rfl, poke_set _ _ _ hjl.out] at hpl
    obtain ⟨aa, haa⟩ : ∃ aa, (freshW c).set j (c.st + n) = aa := ⟨_, rfl⟩
    obtain ⟨wr, hwr⟩ : ∃ Y, w8.setCell ⟨g, j, none⟩ (.int .i64 (c.st + n)) = Y := ⟨_, rfl⟩
    have BW : Aside0 (Below W.heap.size W wr) := ⟨by rw [← hwr]; exact HB.out.setCell (p := ⟨g, j, none⟩) (by have := HO.out.ge; show W.heap.size ≤ g; omega) _⟩
    have BY : Aside0 (wr.heap[W.heap.size]? = some (.cells #[.int .i64 c.th, .int .i64 c.st, .int .i64 c.ga, .int .i64 c.le, .int .i64 c.re, .int .i64 c.ti, .slice A6 n6 d6, .slice A7 n7 d7] 24 (0, 0))) := ⟨by rw [← hwr]; exact (Below.heap_setCell _ _ _ _ HGW.out).trans BX.out⟩
    have HAw : Aside0 (IsInts wr (.slice (some ⟨g, 0, none⟩) sz cap) aa) := ⟨by rw [← hwr, ← haa]; exact ((HO.out.below L7.out).put j _).ints⟩
    have HWL : Aside0 (WL c aa) := ⟨by rw [← haa, ← poke_set _ _ _ hjl.out]; exact poke_len HWF.out _ _⟩
    rw [haa] at hpl
    rw [hwr]
    clear hwr haa ej ex eq0
    have PS := Aside0.mk hpl.1
    have PQ := Aside0.mk hpl.2
    clear hpl HB BX z0 z1 z2 z3 z4 z5 z6 z7 L7 j0i j1i
    have H6w : Aside0 (IsInts wr (.slice A6 n6 d6) c.ps) := ⟨H6.out.below BW.out⟩
    have H7w : Aside0 (IsInts wr (.slice A7 n7 d7) c.ls) := ⟨H7.out.below BW.out⟩
    have HB : Aside0 (Below wr.heap.size wr wr) := ⟨Below.refl _ _⟩
    have BX := BY
    obtain ⟨z0, z1, z2, z3, z4, z5, z6, z7⟩ := box8 BX.out
    go_wp2_with (first | (go_at_call 15; (with_reducible refine (K_aQuiet _ c HR.out _ _ _ aa HWL.out ?_ ?_ ?_).mono ?_); exact H6w.out.below (by with_reducible repeat (first | exact Below.refl _ _ | exact HB.out | apply below_drew1 | apply below_alloc)); exact H7w.out.below (by with_reducible repeat (first | exact Below.refl _ _ | exact HB.out | apply below_drew1 | apply below_alloc)); exact HAw.out.below (by with_reducible repeat (first | exact Below.refl _ _ | exact HB.out | apply below_drew1 | apply below_alloc)); rintro e wb ⟨rfl, hb⟩; rw [PQ.out]; have HB' : Aside0 (Below wr.heap.size wr wb) := ⟨below_step (by with_reducible repeat (first | exact Below.refl _ _ | exact HB.out | apply below_drew1 | apply below_alloc)) hb⟩; have BX' : Aside0 (wb.heap[W.heap.size]? = some (.cells #[.int .i64 c.th, .int .i64 c.st, .int .i64 c.ga, .int .i64 c.le, .int .i64 c.re, .int .i64 c.ti, .slice A6 n6 d6, .slice A7 n7 d7] 24 (0, 0))) := ⟨blk_below (g := W.heap.size) (by with_reducible repeat (first | exact BX.out | exact blk_new _ _ | refine blk_alloc ?_ _ | refine blk_drew ?_)) hb⟩; clear z0 z1 z2 z3 z4 z5 z6 z7 HB BX; have HB := HB'; have BX := BX'; clear HB' BX' hb; obtain ⟨z0, z1, z2, z3, z4, z5, z6, z7⟩ := box8 BX.out) | (go_at_call 13; (with_reducible refine (K_aSafe _ c HR.out _ _ _ aa HWL.out ?_ ?_ ?_).mono ?_); exact H6w.out.below (by with_reducible repeat (first | exact Below.refl _ _ | exact HB.out | apply below_drew1 | apply below_alloc)); exact H7w.out.below (by with_reducible repeat (first | exact Below.refl _ _ | exact HB.out | apply below_drew1 | apply below_alloc)); exact HAw.out.below (by with_reducible repeat (first | exact Below.refl _ _ | exact HB.out | apply below_drew1 | apply below_alloc)); rintro e wa ⟨rfl, hb⟩; rw [PS.out]; have HB' : Aside0 (Below wr.heap.size wr wa) := ⟨below_step (by with_reducible repeat (first | exact Below.refl _ _ | exact HB.out | apply below_drew1 | apply below_alloc)) hb⟩; have BX' : Aside0 (wa.heap[W.heap.size]? = some (.cells #[.int .i64 c.th, .int .i64 c.st, .int .i64 c.ga, .int .i64 c.le, .int .i64 c.re, .int .i64 c.ti, .slice A6 n6 d6, .slice A7 n7 d7] 24 (0, 0))) := ⟨blk_below (g := W.heap.size) (by with_reducible repeat (first | exact BX.out | exact blk_new _ _ | refine blk_alloc ?_ _ | refine blk_drew ?_)) hb⟩; clear z0 z1 z2 z3 z4 z5 z6 z7 HB BX; have HB := HB'; have BX := BX'; clear HB' BX' hb; obtain ⟨z0, z1, z2, z3, z4, z5, z6, z7⟩ := box8 BX.out))
    go_ret
    exact ⟨rfl, (by with_reducible repeat (first | exact below_step BW.out HB.out | apply below_drew1 | apply below_alloc))⟩
  · have eq0 : Int.tmod x2 5 = 4 := eq
    clear eq
    obtain ⟨j0, hj⟩ : ∃ j0 : Nat, aCo c (v : Int) = (j0 : Int) := ⟨(aCo c (v : Int)).toNat, by have h1 := HIN.out; have h2 := HST.out; unfold aCo; omega⟩
    replace hj := Aside0.mk hj
    obtain ⟨j, hj2⟩ : ∃ j : Nat, j0 + (4 + s) = j := ⟨_, rfl⟩
    have hjl : Aside0 (j < (freshW c).length) := ⟨by have h1 := HIN.out; have h2 := HST.out; have h3 := hj.out; have h4 := hfl.out; unfold aCo at h3; omega⟩
    have HJ2 := Aside0.mk hj2
    have L7 : Aside0 (Below w7.heap.size w7 w7) := ⟨Below.refl _ _⟩
    have j0i : (0 : Int) ≤ (j : Int) := by omega
    have j1i : (j : Int) < (sz : Int) := by have h1 := hjl.out; have h2 := hfl.out; omega
    have HGW : Aside0 (W.heap.size ≠ g) := ⟨by have := HO.out.ge; omega⟩
    have HSB : Aside0 (0 ≤ (s : Int) ∧ (s : Int) ≤ 1000) := ⟨by have := HST.out; omega⟩
    have e3 : IntKind.i64.wrap ((j0 : Int) + 4) = (j0 : Int) + 4 := by have := HSZ.out; rw [IntKind.wrap_i64]; omega
    have e4 : IntKind.i64.wrap ((j0 : Int) + 4 + (s : Int)) = (j : Int) := by have := HSZ.out; rw [IntKind.wrap_i64]; omega
    clear hj2
    go_upto_region 18 with (fail)
    go_region_held3 (fun w' => w'.cell? ⟨W.heap.size, 0, none⟩ = some (.int .i64 c.th) ∧ w'.cell? ⟨W.heap.size, 1, none⟩ = some (.int .i64 c.st) ∧ w'.cell? ⟨W.heap.size, 2, none⟩ = some (.int .i64 c.ga) ∧ w'.cell? ⟨W.heap.size, 3, none⟩ = some (.int .i64 c.le) ∧ w'.cell? ⟨W.heap.size, 4, none⟩ = some (.int .i64 c.re) ∧ w'.cell? ⟨W.heap.size, 5, none⟩ = some (.int .i64 c.ti) ∧ w'.cell? ⟨W.heap.size, 6, none⟩ = some (.slice A6 n6 d6) ∧ w'.cell? ⟨W.heap.size, 7, none⟩ = some (.slice A7 n7 d7)) ((go_split_ands; (repeat' apply And.intro); all_goals (first | ((with_reducible refine cell_set_other ?_ HGW.out); assumption) | exact below_cell_of (w := w7) (by with_reducible repeat (first | exact Below.refl _ _ | exact L7.out | apply below_drew1 | apply below_alloc)) (by assumption)))) (first | (go_at_call 29; (with_reducible refine (K_aCounter c HR.out.cb _ _ _ _ _ _ (v : Int) HVB.out _ ?_ ?_).mono ?_); exact H6.out.below (by with_reducible repeat (first | exact Below.refl _ _ | exact HB.out | apply below_drew1 | apply below_alloc)); exact H7.out.below (by with_reducible repeat (first | exact Below.refl _ _ | exact HB.out | apply below_drew1 | apply below_alloc)); rintro e w8 ⟨rfl, hb⟩; rw [hj.out]; have L' : Aside0 (Below w7.heap.size w7 w8) := ⟨below_step (by with_reducible repeat (first | exact Below.refl _ _ | exact L7.out | apply below_drew1)) hb⟩; clear L7; have L7 := L'; clear L'; have HJ := OW.cell (HO.out.below L7.out) j hjl.out; have c0 := HJ.1; have f0 := HJ.2; clear HJ; have HB' : Aside0 (Below W.heap.size W w8) := ⟨below_step (by with_reducible repeat (first | exact Below.refl _ _ | exact HB.out | apply below_drew1 | apply below_alloc)) hb⟩; have BX' : Aside0 (w8.heap[W.heap.size]? = some (.cells #[.int .i64 c.th, .int .i64 c.st, .int .i64 c.ga, .int .i64 c.le, .int .i64 c.re, .int .i64 c.ti, .slice A6 n6 d6, .slice A7 n7 d7] 24 (0, 0))) := ⟨blk_below (g := W.heap.size) (by with_reducible repeat (first | exact BX.out | exact blk_new _ _ | refine blk_alloc ?_ _ | refine blk_drew ?_)) hb⟩; clear z0 z1 z2 z3 z4 z5 z6 z7 HB BX; have HB := HB'; have BX := BX'; clear HB' BX' hb; obtain ⟨z0, z1, z2, z3, z4, z5, z6, z7⟩ := box8 BX.out))
    rename_i hHeld
    go_upto_region 19 with (fail)
    have ex : IntKind.i64.wrap (IntKind.i64.wrap (c.ga + n) - 1) = c.ga + n - 1 := by have h1 := HN.out; have h2 := HST.out; have h3 := HLM.out; rw [IntKind.wrap_i64, IntKind.wrap_i64]; omega
    rw [ex]
    have hpl := one_plain c HR.out v (by have h1 := hn6.out; have h2 := HV.out; omega) (s : Int) n 4 (by have := HST.out; omega) HN.out (by omega)
    have ej : aLim c (v : Int) + oneAt c (v : Int) (s : Int) 4 = (j : Int) := by
      show aLim c (v : Int) + (2 + c.st + 4 + (s : Int)) = (j : Int)
      have h3 := hj.out
      have h4 := HJ2.out
      unfold aCo at h3; omega
    rw [ej, show oneVal c (v : Int) n 4 = c.ga + n - 1 from rfl, poke_set _ _ _ hjl.out] at hpl
    obtain ⟨aa, haa⟩ : ∃ aa, (freshW c).set j (c.ga + n - 1) = aa := ⟨_, rfl⟩
    obtain ⟨wr, hwr⟩ : ∃ Y, w8.setCell ⟨g, j, none⟩ (.int .i64 (c.ga + n - 1)) = Y := ⟨_, rfl⟩
    have BW : Aside0 (Below W.heap.size W wr) := ⟨by rw [← hwr]; exact HB.out.setCell (p := ⟨g, j, none⟩) (by have := HO.out.ge; show W.heap.size ≤ g; omega) _⟩
    have BY : Aside0 (wr.heap[W.heap.size]? = some (.cells #[.int .i64 c.th, .int .i64 c.st, .int .i64 c.ga, .int .i64 c.le, .int .i64 c.re, .int .i64 c.ti, .slice A6 n6 d6, .slice A7 n7 d7] 24 (0, 0))) := ⟨by rw [← hwr]; exact (Below.heap_setCell _ _ _ _ HGW.out).trans BX.out⟩
    have HAw : Aside0 (IsInts wr (.slice (some ⟨g, 0, none⟩) sz cap) aa) := ⟨by rw [← hwr, ← haa]; exact ((HO.out.below L7.out).put j _).ints⟩
    have HWL : Aside0 (WL c aa) := ⟨by rw [← haa, ← poke_set _ _ _ hjl.out]; exact poke_len HWF.out _ _⟩
    rw [haa] at hpl
    rw [hwr]
    clear hwr haa ej ex eq0
    have PS := Aside0.mk hpl.1
    have PQ := Aside0.mk hpl.2
    clear hpl HB BX z0 z1 z2 z3 z4 z5 z6 z7 L7 j0i j1i
    have H6w : Aside0 (IsInts wr (.slice A6 n6 d6) c.ps) := ⟨H6.out.below BW.out⟩
    have H7w : Aside0 (IsInts wr (.slice A7 n7 d7) c.ls) := ⟨H7.out.below BW.out⟩
    have HB : Aside0 (Below wr.heap.size wr wr) := ⟨Below.refl _ _⟩
    have BX := BY
    obtain ⟨z0, z1, z2, z3, z4, z5, z6, z7⟩ := box8 BX.out
    go_wp2_with (first | (go_at_call 15; (with_reducible refine (K_aQuiet _ c HR.out _ _ _ aa HWL.out ?_ ?_ ?_).mono ?_); exact H6w.out.below (by with_reducible repeat (first | exact Below.refl _ _ | exact HB.out | apply below_drew1 | apply below_alloc)); exact H7w.out.below (by with_reducible repeat (first | exact Below.refl _ _ | exact HB.out | apply below_drew1 | apply below_alloc)); exact HAw.out.below (by with_reducible repeat (first | exact Below.refl _ _ | exact HB.out | apply below_drew1 | apply below_alloc)); rintro e wb ⟨rfl, hb⟩; rw [PQ.out]; have HB' : Aside0 (Below wr.heap.size wr wb) := ⟨below_step (by with_reducible repeat (first | exact Below.refl _ _ | exact HB.out | apply below_drew1 | apply below_alloc)) hb⟩; have BX' : Aside0 (wb.heap[W.heap.size]? = some (.cells #[.int .i64 c.th, .int .i64 c.st, .int .i64 c.ga, .int .i64 c.le, .int .i64 c.re, .int .i64 c.ti, .slice A6 n6 d6, .slice A7 n7 d7] 24 (0, 0))) := ⟨blk_below (g := W.heap.size) (by with_reducible repeat (first | exact BX.out | exact blk_new _ _ | refine blk_alloc ?_ _ | refine blk_drew ?_)) hb⟩; clear z0 z1 z2 z3 z4 z5 z6 z7 HB BX; have HB := HB'; have BX := BX'; clear HB' BX' hb; obtain ⟨z0, z1, z2, z3, z4, z5, z6, z7⟩ := box8 BX.out) | (go_at_call 13; (with_reducible refine (K_aSafe _ c HR.out _ _ _ aa HWL.out ?_ ?_ ?_).mono ?_); exact H6w.out.below (by with_reducible repeat (first | exact Below.refl _ _ | exact HB.out | apply below_drew1 | apply below_alloc)); exact H7w.out.below (by with_reducible repeat (first | exact Below.refl _ _ | exact HB.out | apply below_drew1 | apply below_alloc)); exact HAw.out.below (by with_reducible repeat (first | exact Below.refl _ _ | exact HB.out | apply below_drew1 | apply below_alloc)); rintro e wa ⟨rfl, hb⟩; rw [PS.out]; have HB' : Aside0 (Below wr.heap.size wr wa) := ⟨below_step (by with_reducible repeat (first | exact Below.refl _ _ | exact HB.out | apply below_drew1 | apply below_alloc)) hb⟩; have BX' : Aside0 (wa.heap[W.heap.size]? = some (.cells #[.int .i64 c.th, .int .i64 c.st, .int .i64 c.ga, .int .i64 c.le, .int .i64 c.re, .int .i64 c.ti, .slice A6 n6 d6, .slice A7 n7 d7] 24 (0, 0))) := ⟨blk_below (g := W.heap.size) (by with_reducible repeat (first | exact BX.out | exact blk_new _ _ | refine blk_alloc ?_ _ | refine blk_drew ?_)) hb⟩; clear z0 z1 z2 z3 z4 z5 z6 z7 HB BX; have HB := HB'; have BX := BX'; clear HB' BX' hb; obtain ⟨z0, z1, z2, z3, z4, z5, z6, z7⟩ := box8 BX.out))
    go_ret
    exact ⟨rfl, (by with_reducible repeat (first | exact below_step BW.out HB.out | apply below_drew1 | apply below_alloc))⟩
end
end Go.Proofs.YthbaamfdpebocaaGreat.PA
