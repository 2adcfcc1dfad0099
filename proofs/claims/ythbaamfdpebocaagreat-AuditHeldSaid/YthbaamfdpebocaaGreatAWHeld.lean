import Derived.Test.YthbaamfdpebocaaGreatAFresh
import Derived.Test.YthbaamfdpebocaaGreatAHead
import Derived.RangeFuncNested
import Derived.RangeFuncBound
import Derived.RangeFuncCalls
import Derived.RangeFuncLeaves
import Derived.RangeFuncBox
import Derived.Shelf.Abstract
import Derived.Shelf.RegionOpen
import Derived.OwnWalkIn
import Derived.TacticsInMore
import Derived.LoopNIn
import Derived.LoopIn
import Derived.Lib.QuietBelow
import Derived.Deep.RegionHeld3
import Derived.Deep.RegionLaw
import Derived.Laws.CopyOwn
import Derived.Laws.EntriesVeiled
import Derived.Deep.DeepCutAuto
import Derived.Deep.MidRow
import Derived.Deep.Heap
import Derived.Lib.SmallJoins
import Derived.ChangeKeysEq
namespace Go.Proofs.YthbaamfdpebocaaGreat.PA
open Go.RowKit Go.Shelf Go.Proofs.YthbaamfdpebocaaGreatW.PrintWords Go.Proofs.YthbaamfdpebocaaGreatW.PrintLast Go.Proofs.YthbaamfdpebocaaGreatW.PrintMore
attribute [local go_sem] max2_int min2_int max_two min_two max_three min_three max_four min_four
set_option linter.unusedVariables false
set_option linter.unusedSimpArgs false
section
set_option maxHeartbeats 8000000 in
set_option maxRecDepth 100000 in
theorem W_AuditHeld (c : LConf) (A6 : Option Addr) (n6 d6 : Nat) (A7 : Option Addr) (n7 d7 : Nat) (x1 x2 : Int) (W : World) (h6 : IsInts W (.slice A6 n6 d6) c.ps) (h7 : IsInts W (.slice A7 n7 d7) c.ls) (w1 : (Lit.int .u8 x1).wf = true) (w2 : (Lit.int .u16 x2).wf = true) :
    Calls Tryz.prog 8 #[.agg #[.int .i64 c.th, .int .i64 c.st, .int .i64 c.ga, .int .i64 c.le, .int .i64 c.re, .int .i64 c.ti, .slice A6 n6 d6, .slice A7 n7 d7], .int .u8 x1, .int .u16 x2] W fun e w' => e = .returned (.bool true) ∧ Below W.heap.size W w' := by
  have hus := Tryz.underlying24
  have hua := Tryz.underlying29
  have H6 := Aside0.mk h6
  have H7 := Aside0.mk h7
  clear h6 h7
  have r1 := Aside0.mk (u8_range w1)
  have r2 := Aside0.mk (u16_range w2)
  clear w1 w2
  by_cases hG : c.ps.length > 100 ∨ c.ls.length > 100
  · have hg : Aside0 (decide (c.ps.length > 100 ∨ c.ls.length > 100) = true) := ⟨decide_eq_true hG⟩
    clear hG
    go_enter Tryz.func8, Tryz.ntmps8
    go_wp2_with (first | (go_at_call 10; (with_reducible refine (K_great c _ _ _ ?_ ?_).mono ?_); exact H6.out.below (by with_reducible repeat (first | exact Below.refl _ _ | exact HB.out | apply below_drew1 | apply below_alloc)); exact H7.out.below (by with_reducible repeat (first | exact Below.refl _ _ | exact HB.out | apply below_drew1 | apply below_alloc)); rintro e w2 ⟨rfl, hb⟩; rw [hg.out]; have HB' : Aside0 (Below W.heap.size W w2) := ⟨below_step (by with_reducible repeat (first | exact Below.refl _ _ | exact HB.out | apply below_drew1 | apply below_alloc)) hb⟩; have BX' : Aside0 (w2.heap[W.heap.size]? = some (.cells #[.int .i64 c.th, .int .i64 c.st, .int .i64 c.ga, .int .i64 c.le, .int .i64 c.re, .int .i64 c.ti, .slice A6 n6 d6, .slice A7 n7 d7] 24 (0, 0))) := ⟨blk_below (g := W.heap.size) (by with_reducible repeat (first | exact BX.out | exact blk_new _ _ | refine blk_alloc ?_ _ | refine blk_drew ?_)) hb⟩; clear z0 z1 z2 z3 z4 z5 z6 z7 HB BX; have HB := HB'; have BX := BX'; clear HB' BX' hb; obtain ⟨z0, z1, z2, z3, z4, z5, z6, z7⟩ := box8 BX.out) | (go_at_call 9; (with_reducible refine (K_head19 _).mono ?_); rintro e w1 ⟨rfl, hb⟩; have HB' : Aside0 (Below W.heap.size W w1) := ⟨below_step (by with_reducible repeat (first | exact Below.refl _ _ | exact HB.out | apply below_drew1 | apply below_alloc)) hb⟩; have BX' : Aside0 (w1.heap[W.heap.size]? = some (.cells #[.int .i64 c.th, .int .i64 c.st, .int .i64 c.ga, .int .i64 c.le, .int .i64 c.re, .int .i64 c.ti, .slice A6 n6 d6, .slice A7 n7 d7] 24 (0, 0))) := ⟨blk_below (g := W.heap.size) (by with_reducible repeat (first | exact BX.out | exact blk_new _ _ | refine blk_alloc ?_ _ | refine blk_drew ?_)) hb⟩; have HB := HB'; have BX := BX'; clear HB' BX' hb; obtain ⟨z0, z1, z2, z3, z4, z5, z6, z7⟩ := box8 BX.out))
    go_ret
    exact ⟨rfl, (by with_reducible repeat (first | exact Below.refl _ _ | exact HB.out | apply below_drew1 | apply below_alloc))⟩
  have hg : Aside0 (decide (c.ps.length > 100 ∨ c.ls.length > 100) = false) := ⟨decide_eq_false hG⟩
  clear hG
  by_cases hRc : Right c
  rotate_left
  · have hr : Aside0 (decide (Right c) = false) := ⟨decide_eq_false hRc⟩
    clear hRc
    go_enter Tryz.func8, Tryz.ntmps8
    go_wp2_with (first | (go_at_call 11; (with_reducible refine (K_ref_right c _ _ _ ?_ ?_).mono ?_); exact H6.out.below (by with_reducible repeat (first | exact Below.refl _ _ | exact HB.out | apply below_drew1 | apply below_alloc)); exact H7.out.below (by with_reducible repeat (first | exact Below.refl _ _ | exact HB.out | apply below_drew1 | apply below_alloc)); rintro e w3 ⟨rfl, hb⟩; rw [hr.out]; have HB' : Aside0 (Below W.heap.size W w3) := ⟨below_step (by with_reducible repeat (first | exact Below.refl _ _ | exact HB.out | apply below_drew1 | apply below_alloc)) hb⟩; have BX' : Aside0 (w3.heap[W.heap.size]? = some (.cells #[.int .i64 c.th, .int .i64 c.st, .int .i64 c.ga, .int .i64 c.le, .int .i64 c.re, .int .i64 c.ti, .slice A6 n6 d6, .slice A7 n7 d7] 24 (0, 0))) := ⟨blk_below (g := W.heap.size) (by with_reducible repeat (first | exact BX.out | exact blk_new _ _ | refine blk_alloc ?_ _ | refine blk_drew ?_)) hb⟩; clear z0 z1 z2 z3 z4 z5 z6 z7 HB BX; have HB := HB'; have BX := BX'; clear HB' BX' hb; obtain ⟨z0, z1, z2, z3, z4, z5, z6, z7⟩ := box8 BX.out) | (go_at_call 10; (with_reducible refine (K_great c _ _ _ ?_ ?_).mono ?_); exact H6.out.below (by with_reducible repeat (first | exact Below.refl _ _ | exact HB.out | apply below_drew1 | apply below_alloc)); exact H7.out.below (by with_reducible repeat (first | exact Below.refl _ _ | exact HB.out | apply below_drew1 | apply below_alloc)); rintro e w2 ⟨rfl, hb⟩; rw [hg.out]; have HB' : Aside0 (Below W.heap.size W w2) := ⟨below_step (by with_reducible repeat (first | exact Below.refl _ _ | exact HB.out | apply below_drew1 | apply below_alloc)) hb⟩; have BX' : Aside0 (w2.heap[W.heap.size]? = some (.cells #[.int .i64 c.th, .int .i64 c.st, .int .i64 c.ga, .int .i64 c.le, .int .i64 c.re, .int .i64 c.ti, .slice A6 n6 d6, .slice A7 n7 d7] 24 (0, 0))) := ⟨blk_below (g := W.heap.size) (by with_reducible repeat (first | exact BX.out | exact blk_new _ _ | refine blk_alloc ?_ _ | refine blk_drew ?_)) hb⟩; clear z0 z1 z2 z3 z4 z5 z6 z7 HB BX; have HB := HB'; have BX := BX'; clear HB' BX' hb; obtain ⟨z0, z1, z2, z3, z4, z5, z6, z7⟩ := box8 BX.out) | (go_at_call 9; (with_reducible refine (K_head19 _).mono ?_); rintro e w1 ⟨rfl, hb⟩; have HB' : Aside0 (Below W.heap.size W w1) := ⟨below_step (by with_reducible repeat (first | exact Below.refl _ _ | exact HB.out | apply below_drew1 | apply below_alloc)) hb⟩; have BX' : Aside0 (w1.heap[W.heap.size]? = some (.cells #[.int .i64 c.th, .int .i64 c.st, .int .i64 c.ga, .int .i64 c.le, .int .i64 c.re, .int .i64 c.ti, .slice A6 n6 d6, .slice A7 n7 d7] 24 (0, 0))) := ⟨blk_below (g := W.heap.size) (by with_reducible repeat (first | exact BX.out | exact blk_new _ _ | refine blk_alloc ?_ _ | refine blk_drew ?_)) hb⟩; have HB := HB'; have BX := BX'; clear HB' BX' hb; obtain ⟨z0, z1, z2, z3, z4, z5, z6, z7⟩ := box8 BX.out))
    go_ret
    exact ⟨rfl, (by with_reducible repeat (first | exact Below.refl _ _ | exact HB.out | apply below_drew1 | apply below_alloc))⟩
  have hr : Aside0 (decide (Right c) = true) := ⟨decide_eq_true hRc⟩
  have HR := Aside0.mk hRc
  clear hRc
  obtain ⟨sz, hsz⟩ : ∃ sz : Nat, (aSz c).toNat = sz := ⟨_, rfl⟩
  have HSZ : Aside0 (10 ≤ sz ∧ sz ≤ 100000) := ⟨by have h1 := aSz_bound c HR.out.cb; have h2 := aSz_pos c HR.out.cb; omega⟩
  have hfl : Aside0 ((freshW c).length = sz) := ⟨(freshW_len c).trans hsz⟩
  clear hsz
  have hn6 := Aside0.mk H6.out.len
  have hn7 := Aside0.mk H7.out.len
  obtain ⟨v, hv, ev⟩ := node_of n6 (by have h1 := H6.out.len; have h2 := HR.out.cb.2.1; omega) x1 r1.out.1 r1.out.2
  have HV := Aside0.mk hv
  have HVL : Aside0 (v < c.ps.length) := ⟨by have h1 := hn6.out; omega⟩
  have HLM : Aside0 (0 ≤ rd c.ls (v : Int) ∧ rd c.ls (v : Int) ≤ 1099511627776) := ⟨HR.out.lim v HVL.out⟩
  obtain ⟨ad7, rfl, y7⟩ := H7.out.get v (by have h1 := HVL.out; have h2 := HR.out.cb.2.2.2; omega)
  have Y7 := Aside0.mk y7
  obtain ⟨L, hL⟩ : ∃ L, rd c.ls (v : Int) = L := ⟨_, rfl⟩
  rw [hL] at HLM Y7
  have HLL := Aside0.mk hL
  have em : IntKind.i64.wrap (L + 1) = L + 1 := by have := HLM.out; rw [IntKind.wrap_i64]; omega
  have em0 : (0 : Int) < L + 1 := by have := HLM.out; omega
  obtain ⟨n, en⟩ : ∃ n : Int, Int.tmod (wrap64 x2) (L + 1) = n := ⟨_, rfl⟩
  have HN : Aside0 (0 ≤ n ∧ n ≤ L) := ⟨by
    have h1 := r2.out
    rw [w64 (x := x2) (by omega) (by omega), Int.tmod_eq_emod_of_nonneg h1.1] at en
    have h2 := Int.emod_nonneg x2 (show L + 1 ≠ 0 by omega)
    have h3 := Int.emod_lt_of_pos x2 em0
    omega⟩
  have i6 : (0 : Int) < (n6 : Int) := by have h1 := HVL.out; have h2 := hn6.out; omega
  have i7 : (v : Int) < (n7 : Int) := by have h1 := HVL.out; have h2 := hn7.out; have h3 := HR.out.cb.2.2.2; omega
  have i70 : (0 : Int) ≤ (v : Int) := by omega
  clear hv hL y7
  go_enter Tryz.func8, Tryz.ntmps8
  go_upto_region 7 with (first | ((with_reducible refine gate_builtin (b := .append) (xs := #[.tmp 37, .tmp 42]) rfl ?_); at_builtin; refine Kd.R_append_rows (Kd.int .i64) (w0 := w3) w3.heap.size rfl (.tmp 37) (.tmp 42) 22 3 (.int .i64 0) 8 rfl Tryz.underlying22 info3 rfl (by decide) (by decide) v1 [] (freshW c) _ _ _ (fun _ => True) (fun _ => False) rfl rfl HO3.out (ints_C HWi.out) (fun _ _ h => h) (fun _ h => h.elim) (fun _ _ => trivial) L6.out L6.out.size ?apl ?_; (case apl => have e := HWi.out.len; rw [hfl.out] at e; have := HSZ.out; simp; omega); intro v2 w7 ho hb hg hat; clear hg hat; rw [List.nil_append] at ho; obtain ⟨g, cap, e, ho⟩ := OW.of_R ho (by rw [hfl.out]; have := HSZ.out; omega); rw [hfl.out] at e ho; subst e; have HO := Aside0.mk (OW.lower ho (blk_lt BXR.out)); clear ho m0 z0 z1 z2 z3 z4 z5 z6 z7 HB BX; have HB : Aside0 (Below W.heap.size W w7) := ⟨below_step HBR.out hb⟩; have BX : Aside0 (w7.heap[W.heap.size]? = some (.cells #[.int .i64 c.th, .int .i64 c.st, .int .i64 c.ga, .int .i64 c.le, .int .i64 c.re, .int .i64 c.ti, .slice A6 n6 d6, .slice (some ad7) n7 d7] 24 (0, 0))) := ⟨blk_below (g := W.heap.size) BXR.out hb⟩; clear hb; obtain ⟨z0, z1, z2, z3, z4, z5, z6, z7⟩ := box8 BX.out) | (go_at_call 25; (with_reducible refine (K_Fresh _ c HR.out.cb _ _ _ _ _ _ ?_ ?_).mono ?_); exact H6.out.below (by with_reducible repeat (first | exact Below.refl _ _ | exact HB.out | apply below_drew1 | apply below_alloc)); exact H7.out.below (by with_reducible repeat (first | exact Below.refl _ _ | exact HB.out | apply below_drew1 | apply below_alloc)); rintro e w6 ⟨mb, rfl, hmb, hm, hb⟩; have HO3 := Aside0.mk (RI_below HO1.out hb); have L6 : Aside0 (Below w3.heap.size w3 w6) := ⟨below_step L5.out hb⟩; obtain ⟨hB, Am, nm, cm, vL, hh, hw, -⟩ := hm; have HWi := Aside0.mk hw.1; have m0 : w6.cell? ⟨mb, 0, none⟩ = some (.slice Am nm cm) := (blk_cell hh 0).trans rfl; clear hmb hB hh hw; have HB' : Aside0 (Below W.heap.size W w6) := ⟨below_step (by with_reducible repeat (first | exact Below.refl _ _ | exact HB.out | apply below_drew1 | apply below_alloc)) hb⟩; have BX' : Aside0 (w6.heap[W.heap.size]? = some (.cells #[.int .i64 c.th, .int .i64 c.st, .int .i64 c.ga, .int .i64 c.le, .int .i64 c.re, .int .i64 c.ti, .slice A6 n6 d6, .slice (some ad7) n7 d7] 24 (0, 0))) := ⟨blk_below (g := W.heap.size) (by with_reducible repeat (first | exact BX.out | exact blk_new _ _ | refine blk_alloc ?_ _ | refine blk_drew ?_)) hb⟩; clear z0 z1 z2 z3 z4 z5 z6 z7 HB BX; have HB := HB'; have BX := BX'; clear HB' BX' hb; obtain ⟨z0, z1, z2, z3, z4, z5, z6, z7⟩ := box8 BX.out) | ((with_reducible refine gate_dst (N := 37) rfl ?_); refine Kd.R_lit (Kd.int .i64) (w0 := w3) w3.heap.size 3 ?hg (N := 37) ?hd (xs := ([] : List Int)) (inner := []) (ok := fun _ => True) (okp := fun _ => True) ?hr ?hp (fun _ hk => hk) trivial (Below.refl _ _) (Nat.le_refl _) (by simp) ?_; (case hd => rfl); (case hg => rfl); (case hr => first | (go_simp; done) | (go_simp; rfl)); (case hp => exact (Reps.none _ _)); intro v1 w5 ho hb hg_ hnew_; clear hg_ hnew_; have HO1 := Aside0.mk ho; have L5 := Aside0.mk hb; clear ho; have HB' : Aside0 (Below W.heap.size W w5) := ⟨below_step (by with_reducible repeat (first | exact Below.refl _ _ | exact HB.out | apply below_drew1 | apply below_alloc)) hb⟩; have BX' : Aside0 (w5.heap[W.heap.size]? = some (.cells #[.int .i64 c.th, .int .i64 c.st, .int .i64 c.ga, .int .i64 c.le, .int .i64 c.re, .int .i64 c.ti, .slice A6 n6 d6, .slice (some ad7) n7 d7] 24 (0, 0))) := ⟨blk_below (g := W.heap.size) (by with_reducible repeat (first | exact BX.out | exact blk_new _ _ | refine blk_alloc ?_ _ | refine blk_drew ?_)) hb⟩; clear z0 z1 z2 z3 z4 z5 z6 z7 HB BX; have HB := HB'; have BX := BX'; clear HB' BX' hb; obtain ⟨z0, z1, z2, z3, z4, z5, z6, z7⟩ := box8 BX.out) | (go_at_call 11; (with_reducible refine (K_ref_right c _ _ _ ?_ ?_).mono ?_); exact H6.out.below (by with_reducible repeat (first | exact Below.refl _ _ | exact HB.out | apply below_drew1 | apply below_alloc)); exact H7.out.below (by with_reducible repeat (first | exact Below.refl _ _ | exact HB.out | apply below_drew1 | apply below_alloc)); rintro e w3 ⟨rfl, hb⟩; rw [hr.out]; have HB' : Aside0 (Below W.heap.size W w3) := ⟨below_step (by with_reducible repeat (first | exact Below.refl _ _ | exact HB.out | apply below_drew1 | apply below_alloc)) hb⟩; have BX' : Aside0 (w3.heap[W.heap.size]? = some (.cells #[.int .i64 c.th, .int .i64 c.st, .int .i64 c.ga, .int .i64 c.le, .int .i64 c.re, .int .i64 c.ti, .slice A6 n6 d6, .slice (some ad7) n7 d7] 24 (0, 0))) := ⟨blk_below (g := W.heap.size) (by with_reducible repeat (first | exact BX.out | exact blk_new _ _ | refine blk_alloc ?_ _ | refine blk_drew ?_)) hb⟩; clear z0 z1 z2 z3 z4 z5 z6 z7 HB BX; have HB := HB'; have BX := BX'; clear HB' BX' hb; obtain ⟨z0, z1, z2, z3, z4, z5, z6, z7⟩ := box8 BX.out; have HBR := HB; have BXR := BX; have y7 := below_cell_of HB.out Y7.out) | (go_at_call 10; (with_reducible refine (K_great c _ _ _ ?_ ?_).mono ?_); exact H6.out.below (by with_reducible repeat (first | exact Below.refl _ _ | exact HB.out | apply below_drew1 | apply below_alloc)); exact H7.out.below (by with_reducible repeat (first | exact Below.refl _ _ | exact HB.out | apply below_drew1 | apply below_alloc)); rintro e w2 ⟨rfl, hb⟩; rw [hg.out]; have HB' : Aside0 (Below W.heap.size W w2) := ⟨below_step (by with_reducible repeat (first | exact Below.refl _ _ | exact HB.out | apply below_drew1 | apply below_alloc)) hb⟩; have BX' : Aside0 (w2.heap[W.heap.size]? = some (.cells #[.int .i64 c.th, .int .i64 c.st, .int .i64 c.ga, .int .i64 c.le, .int .i64 c.re, .int .i64 c.ti, .slice A6 n6 d6, .slice (some ad7) n7 d7] 24 (0, 0))) := ⟨blk_below (g := W.heap.size) (by with_reducible repeat (first | exact BX.out | exact blk_new _ _ | refine blk_alloc ?_ _ | refine blk_drew ?_)) hb⟩; clear z0 z1 z2 z3 z4 z5 z6 z7 HB BX; have HB := HB'; have BX := BX'; clear HB' BX' hb; obtain ⟨z0, z1, z2, z3, z4, z5, z6, z7⟩ := box8 BX.out) | (go_at_call 9; (with_reducible refine (K_head19 _).mono ?_); rintro e w1 ⟨rfl, hb⟩; have HB' : Aside0 (Below W.heap.size W w1) := ⟨below_step (by with_reducible repeat (first | exact Below.refl _ _ | exact HB.out | apply below_drew1 | apply below_alloc)) hb⟩; have BX' : Aside0 (w1.heap[W.heap.size]? = some (.cells #[.int .i64 c.th, .int .i64 c.st, .int .i64 c.ga, .int .i64 c.le, .int .i64 c.re, .int .i64 c.ti, .slice A6 n6 d6, .slice (some ad7) n7 d7] 24 (0, 0))) := ⟨blk_below (g := W.heap.size) (by with_reducible repeat (first | exact BX.out | exact blk_new _ _ | refine blk_alloc ?_ _ | refine blk_drew ?_)) hb⟩; have HB := HB'; have BX := BX'; clear HB' BX' hb; obtain ⟨z0, z1, z2, z3, z4, z5, z6, z7⟩ := box8 BX.out))
  clear ev en em em0 i6 i7 i70 y7 L5 L6 HO1 HO3 HWi
  have HWF : Aside0 (WL c (freshW c)) := ⟨fresh_WL c HR.out.cb _⟩
  have HVB : Aside0 (0 ≤ (v : Int) ∧ (v : Int) ≤ 1000) := ⟨by have := HVL.out; have := HR.out.cb.2.1; omega⟩
  have HIN : Aside0 (0 ≤ aLim c (v : Int) ∧ aLim c (v : Int) + (6 + 2 * c.st) ≤ (sz : Int)) := ⟨by have := node_in c HR.out.cb HWF.out (v : Int) (by have := HVL.out; omega); rw [hfl.out] at this; exact this⟩
  have HST : Aside0 (1 ≤ c.st ∧ c.st ≤ 8) := ⟨HR.out.cb.1⟩
  have HGW : Aside0 (W.heap.size ≠ g) := ⟨by have := HO.out.ge; omega⟩
  have HPL : Aside0 (_ ∧ _ ∧ _ ∧ _) := ⟨held_plain c HR.out v HVL.out n (by rw [HLL.out]; exact HN.out)⟩
  obtain ⟨j, hj⟩ : ∃ j : Nat, aAv c (v : Int) = (j : Int) := ⟨(aAv c (v : Int)).toNat, by have h1 := HIN.out; unfold aAv; omega⟩
  obtain ⟨i, hi⟩ : ∃ i : Nat, aLim c (v : Int) = (i : Int) := ⟨(aLim c (v : Int)).toNat, by have h1 := HIN.out; omega⟩
  replace hj := Aside0.mk hj
  replace hi := Aside0.mk hi
  have hjl : Aside0 (j < (freshW c).length) := ⟨by have h1 := HIN.out; have h2 := HST.out; have h3 := hj.out; have h4 := hfl.out; unfold aAv at h3; omega⟩
  have hil : Aside0 (i < (freshW c).length) := ⟨by have h1 := HIN.out; have h2 := HST.out; have h3 := hi.out; have h4 := hfl.out; omega⟩
  have j0i : (0 : Int) ≤ (j : Int) := by omega
  have j1i : (j : Int) < (sz : Int) := by have h1 := hjl.out; have h2 := hfl.out; omega
  have i0i : (0 : Int) ≤ (i : Int) := by omega
  have i1i : (i : Int) < (sz : Int) := by have h1 := hil.out; have h2 := hfl.out; omega
  have L7 : Aside0 (Below w7.heap.size w7 w7) := ⟨Below.refl _ _⟩
  have HAV : Aside0 (rd (freshW c) (j : Int) = L) := ⟨by rw [← hj.out, ← HLL.out]; exact (fresh_is c HR.out.cb v HVL.out).av⟩
  obtain ⟨aa, haa⟩ : ∃ aa, heldW c (v : Int) n = aa := ⟨_, rfl⟩
  rw [haa] at HPL
  have haj : Aside0 ((freshW c).set j (L - n) = aa) := ⟨by rw [← haa, ← poke_set _ _ _ hjl.out, ← hj.out, ← HLL.out]; rfl⟩
  have hal : Aside0 (aa.length = (freshW c).length) := ⟨by rw [← haj.out, List.length_set]⟩
  have HWL : Aside0 (WL c aa) := ⟨by rw [← haa]; exact poke_len HWF.out _ _⟩
  have HLV : Aside0 (rd aa (i : Int) = L) := ⟨by rw [← haa, ← hi.out, ← HLL.out]; exact ((fresh_is c HR.out.cb v HVL.out).setAv HR.out.cb HWF.out HVL.out _).lim⟩
  clear haa
  refine wp_region_held_drew (S := (fun w' => w'.cell? ⟨W.heap.size, 0, none⟩ = some (.int .i64 c.th) ∧ w'.cell? ⟨W.heap.size, 1, none⟩ = some (.int .i64 c.st) ∧ w'.cell? ⟨W.heap.size, 2, none⟩ = some (.int .i64 c.ga) ∧ w'.cell? ⟨W.heap.size, 3, none⟩ = some (.int .i64 c.le) ∧ w'.cell? ⟨W.heap.size, 4, none⟩ = some (.int .i64 c.re) ∧ w'.cell? ⟨W.heap.size, 5, none⟩ = some (.int .i64 c.ti) ∧ w'.cell? ⟨W.heap.size, 6, none⟩ = some (.slice A6 n6 d6) ∧ w'.cell? ⟨W.heap.size, 7, none⟩ = some (.slice (some ad7) n7 d7))) (by kernel_rfl) ?_ (fun hHeld => ?_)
  · (try dsimp only)
    ((go_split_ands; (repeat' apply And.intro); all_goals (first | ((with_reducible refine cell_set_other ?_ HGW.out); assumption) | exact below_cell_of (w := w7) (by with_reducible repeat (first | exact Below.refl _ _ | exact L7.out | apply below_drew1 | apply below_alloc)) (by assumption))))
  refine wpAnyH_take (i := 0) (oi := _) (v := ?_) ((List.getElem?_toArray ..).trans rfl) (by kernel_rfl) (by kernel_rfl) (by kernel_rfl) (fun _ _ _ h => h) (Or.inl ⟨by rfl, ?_⟩) (by assumption) ?_
  rotate_left
  · (intro w hSw; (try dsimp only at hSw); go_simp; (try with_reducible rfl))
  (try simp only [Act.put, List.setIfInBounds_toArray, List.set_cons_zero, List.set_cons_succ])
  refine wpAnyH_take (i := 1) (oi := _) (v := ?_) ((List.getElem?_toArray ..).trans rfl) (by kernel_rfl) (by kernel_rfl) (by kernel_rfl) (fun _ _ _ h => h) (Or.inl ⟨by rfl, ?_⟩) (by assumption) ?_
  rotate_left
  · (intro w hSw; (try dsimp only at hSw); go_simp; (try with_reducible rfl))
  (try simp only [Act.put, List.setIfInBounds_toArray, List.set_cons_zero, List.set_cons_succ])
  refine wpAnyH_take (i := 2) (oi := _) (v := ?_) ((List.getElem?_toArray ..).trans rfl) (by kernel_rfl) (by kernel_rfl) (by kernel_rfl) (fun _ _ _ h => h) (Or.inl ⟨by rfl, ?_⟩) (by assumption) ?_
  rotate_left
  · (intro w hSw; (try dsimp only at hSw); go_simp; (try with_reducible rfl))
  (try simp only [Act.put, List.setIfInBounds_toArray, List.set_cons_zero, List.set_cons_succ])
  refine wpAnyH_take (i := 4) (oi := _) (v := ?_) ((List.getElem?_toArray ..).trans rfl) (by kernel_rfl) (by kernel_rfl) (by kernel_rfl) (fun _ _ _ h => h) (Or.inl ⟨by rfl, ?_⟩) (by assumption) ?_
  rotate_left
  · (intro w hSw; (try dsimp only at hSw); go_simp; (try with_reducible rfl))
  (try simp only [Act.put, List.setIfInBounds_toArray, List.set_cons_zero, List.set_cons_succ])
  refine wpAnyH_take (i := 5) (oi := _) (v := ?_) ((List.getElem?_toArray ..).trans rfl) (by kernel_rfl) (by kernel_rfl) (by kernel_rfl) (fun _ _ _ h => h) (Or.inl ⟨by rfl, ?_⟩) (by assumption) ?_
  rotate_left
  · (intro w hSw; (try dsimp only at hSw); go_simp; (try with_reducible rfl))
  (try simp only [Act.put, List.setIfInBounds_toArray, List.set_cons_zero, List.set_cons_succ])
  refine wpAnyH_take (i := 6) (oi := _) (v := ?_) ((List.getElem?_toArray ..).trans rfl) (by kernel_rfl) (by kernel_rfl) (by kernel_rfl) (fun _ _ _ h => h) (Or.inl ⟨by rfl, ?_⟩) (by assumption) ?_
  rotate_left
  · (intro w hSw; (try dsimp only at hSw); go_simp; (try with_reducible rfl))
  (try simp only [Act.put, List.setIfInBounds_toArray, List.set_cons_zero, List.set_cons_succ])
  refine wpAnyH_take (i := 10) (oi := _) (v := ?_) ((List.getElem?_toArray ..).trans rfl) (by kernel_rfl) (by kernel_rfl) (by kernel_rfl) (fun _ _ _ h => h) (Or.inl ⟨by rfl, ?_⟩) (by assumption) ?_
  rotate_left
  · (intro w hSw; (try dsimp only at hSw); go_simp; (try with_reducible rfl))
  (try simp only [Act.put, List.setIfInBounds_toArray, List.set_cons_zero, List.set_cons_succ])
  refine wpAnyH_ready (rs := [3]) (by kernel_rfl) (by simp) ?_
  refine AllReadyH.cons (i := 3) (o := _) ((List.getElem?_toArray ..).trans rfl) (fun K hK => ?_) ?_
  · go_simp
    (go_at_call 27; (with_reducible refine (K_aAvail c HR.out.cb _ _ _ _ _ _ (v : Int) HVB.out _ ?_ ?_).mono ?_); exact H6.out.below (by with_reducible repeat (first | exact Below.refl _ _ | exact HB.out | apply below_drew1 | apply below_alloc)); exact H7.out.below (by with_reducible repeat (first | exact Below.refl _ _ | exact HB.out | apply below_drew1 | apply below_alloc)); rintro e w8 ⟨rfl, hb⟩; rw [hj.out]; have L' : Aside0 (Below w7.heap.size w7 w8) := ⟨below_step (by with_reducible repeat (first | exact Below.refl _ _ | exact L7.out | apply below_drew1)) hb⟩; clear L7; have L7 := L'; clear L'; have HJ := OW.cell (HO.out.below L7.out) j hjl.out; have c0 := HJ.1; rw [HAV.out] at c0; have f0 := HJ.2; clear HJ; have HB' : Aside0 (Below W.heap.size W w8) := ⟨below_step (by with_reducible repeat (first | exact Below.refl _ _ | exact HB.out | apply below_drew1 | apply below_alloc)) hb⟩; have BX' : Aside0 (w8.heap[W.heap.size]? = some (.cells #[.int .i64 c.th, .int .i64 c.st, .int .i64 c.ga, .int .i64 c.le, .int .i64 c.re, .int .i64 c.ti, .slice A6 n6 d6, .slice (some ad7) n7 d7] 24 (0, 0))) := ⟨blk_below (g := W.heap.size) (by with_reducible repeat (first | exact BX.out | exact blk_new _ _ | refine blk_alloc ?_ _ | refine blk_drew ?_)) hb⟩; clear z0 z1 z2 z3 z4 z5 z6 z7 HB BX; have HB := HB'; have BX := BX'; clear HB' BX' hb; obtain ⟨z0, z1, z2, z3, z4, z5, z6, z7⟩ := box8 BX.out)
    refine hK.out _ _ ?_ (fun hHeld => ?_)
    · (try dsimp only)
      ((go_split_ands; (repeat' apply And.intro); all_goals (first | ((with_reducible refine cell_set_other ?_ HGW.out); assumption) | exact below_cell_of (w := w7) (by with_reducible repeat (first | exact Below.refl _ _ | exact L7.out | apply below_drew1 | apply below_alloc)) (by assumption))))
    clear hK K
    (try simp only [Act.put, List.setIfInBounds_toArray, List.set_cons_zero, List.set_cons_succ])
    refine wpAnyH_ready (rs := [7]) (by kernel_rfl) (by simp) ?_
    refine AllReadyH.cons (i := 7) (o := _) ((List.getElem?_toArray ..).trans rfl) (fun K hK => ?_) ?_
    · go_simp
      (go_at_call 27; (with_reducible refine (K_aAvail c HR.out.cb _ _ _ _ _ _ (v : Int) HVB.out _ ?_ ?_).mono ?_); exact H6.out.below (by with_reducible repeat (first | exact Below.refl _ _ | exact HB.out | apply below_drew1 | apply below_alloc)); exact H7.out.below (by with_reducible repeat (first | exact Below.refl _ _ | exact HB.out | apply below_drew1 | apply below_alloc)); rintro e w9 ⟨rfl, hb⟩; rw [hj.out]; have L' : Aside0 (Below w7.heap.size w7 w9) := ⟨below_step (by with_reducible repeat (first | exact Below.refl _ _ | exact L7.out | apply below_drew1)) hb⟩; clear L7; have L7 := L'; clear L'; have HJ := OW.cell (HO.out.below L7.out) j hjl.out; have c0 := HJ.1; rw [HAV.out] at c0; have f0 := HJ.2; clear HJ; have HB' : Aside0 (Below W.heap.size W w9) := ⟨below_step (by with_reducible repeat (first | exact Below.refl _ _ | exact HB.out | apply below_drew1 | apply below_alloc)) hb⟩; have BX' : Aside0 (w9.heap[W.heap.size]? = some (.cells #[.int .i64 c.th, .int .i64 c.st, .int .i64 c.ga, .int .i64 c.le, .int .i64 c.re, .int .i64 c.ti, .slice A6 n6 d6, .slice (some ad7) n7 d7] 24 (0, 0))) := ⟨blk_below (g := W.heap.size) (by with_reducible repeat (first | exact BX.out | exact blk_new _ _ | refine blk_alloc ?_ _ | refine blk_drew ?_)) hb⟩; clear z0 z1 z2 z3 z4 z5 z6 z7 HB BX; have HB := HB'; have BX := BX'; clear HB' BX' hb; obtain ⟨z0, z1, z2, z3, z4, z5, z6, z7⟩ := box8 BX.out)
      refine hK.out _ _ ?_ (fun hHeld => ?_)
      · (try dsimp only)
        ((go_split_ands; (repeat' apply And.intro); all_goals (first | ((with_reducible refine cell_set_other ?_ HGW.out); assumption) | exact below_cell_of (w := w7) (by with_reducible repeat (first | exact Below.refl _ _ | exact L7.out | apply below_drew1 | apply below_alloc)) (by assumption))))
      clear hK K
      (try simp only [Act.put, List.setIfInBounds_toArray, List.set_cons_zero, List.set_cons_succ])
      refine wpAnyH_take (i := 8) (oi := _) (v := ?_) ((List.getElem?_toArray ..).trans rfl) (by kernel_rfl) (by kernel_rfl) (by kernel_rfl) (fun _ _ _ h => h) (Or.inl ⟨by rfl, ?_⟩) (by assumption) ?_
      rotate_left
      · (intro w hSw; (try dsimp only at hSw); go_simp; (try with_reducible rfl))
      (try simp only [Act.put, List.setIfInBounds_toArray, List.set_cons_zero, List.set_cons_succ])
      refine wpAnyH_ready (rs := [9]) (by kernel_rfl) (by simp) ?_
      refine AllReadyH.cons (i := 9) (o := _) ((List.getElem?_toArray ..).trans rfl) (fun K hK => ?_) ?_
      · go_simp
        refine hK.out _ _ ?_ (fun hHeld => ?_)
        · (try dsimp only)
          ((go_split_ands; (repeat' apply And.intro); all_goals (first | ((with_reducible refine cell_set_other ?_ HGW.out); assumption) | exact below_cell_of (w := w7) (by with_reducible repeat (first | exact Below.refl _ _ | exact L7.out | apply below_drew1 | apply below_alloc)) (by assumption))))
        clear hK K
        (try simp only [Act.put, List.setIfInBounds_toArray, List.set_cons_zero, List.set_cons_succ])
        refine wpAnyH_take (i := 11) (oi := _) (v := ?_) ((List.getElem?_toArray ..).trans rfl) (by kernel_rfl) (by kernel_rfl) (by kernel_rfl) (fun _ _ _ h => h) (Or.inl ⟨by rfl, ?_⟩) (by assumption) ?_
        rotate_left
        · (intro w hSw; (try dsimp only at hSw); go_simp; (try with_reducible rfl))
        (try simp only [Act.put, List.setIfInBounds_toArray, List.set_cons_zero, List.set_cons_succ])
        refine wpAnyH_take (i := 12) (oi := _) (v := ?_) ((List.getElem?_toArray ..).trans rfl) (by kernel_rfl) (by kernel_rfl) (by kernel_rfl) (fun _ _ _ h => h) (Or.inl ⟨by rfl, ?_⟩) (by assumption) ?_
        rotate_left
        · (intro w hSw; (try dsimp only at hSw); go_simp; (try with_reducible rfl))
        (try simp only [Act.put, List.setIfInBounds_toArray, List.set_cons_zero, List.set_cons_succ])
        refine wpAnyH_ready (rs := [13]) (by kernel_rfl) (by simp) ?_
        refine AllReadyH.cons (i := 13) (o := _) ((List.getElem?_toArray ..).trans rfl) (fun K hK => ?_) ?_
        · go_simp
          refine hK.out _ _ ?_ (fun hHeld => ?_)
          · (try dsimp only)
            ((go_split_ands; (repeat' apply And.intro); all_goals (first | ((with_reducible refine cell_set_other ?_ HGW.out); assumption) | exact below_cell_of (w := w7) (by with_reducible repeat (first | exact Below.refl _ _ | exact L7.out | apply below_drew1 | apply below_alloc)) (by assumption))))
          clear hK K
          (try simp only [Act.put, List.setIfInBounds_toArray, List.set_cons_zero, List.set_cons_succ])
          refine wpAnyH_done (by kernel_rfl) ?_ _
          have ex : IntKind.i64.wrap (L - n) = L - n := by have h1 := HN.out; have h2 := HLM.out; rw [IntKind.wrap_i64]; omega
          rw [ex]
          obtain ⟨wr, hwr⟩ : ∃ Y, w9.setCell ⟨g, j, none⟩ (.int .i64 (L - n)) = Y := ⟨_, rfl⟩
          have BWwr : Aside0 (Below W.heap.size W wr) := ⟨by rw [← hwr]; exact HB.out.setCell (p := ⟨g, j, none⟩) (by have := HO.out.ge; show W.heap.size ≤ g; omega) _⟩
          have BY : Aside0 (wr.heap[W.heap.size]? = some (.cells #[.int .i64 c.th, .int .i64 c.st, .int .i64 c.ga, .int .i64 c.le, .int .i64 c.re, .int .i64 c.ti, .slice A6 n6 d6, .slice (some ad7) n7 d7] 24 (0, 0))) := ⟨by rw [← hwr]; exact (Below.heap_setCell _ _ _ _ HGW.out).trans BX.out⟩
          have HOwr : Aside0 (OW (W.heap.size + 1) wr g sz cap aa) := ⟨by rw [← hwr, ← haj.out]; exact (HO.out.below L7.out).put j _⟩
          rw [hwr]
          clear hwr ex HB BX z0 z1 z2 z3 z4 z5 z6 z7 L7
          have H6wr : Aside0 (IsInts wr (.slice A6 n6 d6) c.ps) := ⟨H6.out.below BWwr.out⟩
          have H7wr : Aside0 (IsInts wr (.slice (some ad7) n7 d7) c.ls) := ⟨H7.out.below BWwr.out⟩
          have HAwr : Aside0 (IsInts wr (.slice (some ⟨g, 0, none⟩) sz cap) aa) := ⟨HOwr.out.ints⟩
          have HB : Aside0 (Below wr.heap.size wr wr) := ⟨Below.refl _ _⟩
          have BX := BY
          clear BY
          obtain ⟨z0, z1, z2, z3, z4, z5, z6, z7⟩ := box8 BX.out
          obtain ⟨qb, hqb⟩ : ∃ qb, quietP c aa = qb := ⟨_, rfl⟩
          have HQB : Aside0 (qb = if n = 0 then -1 else (v : Int)) := ⟨by rw [← hqb]; exact HPL.out.2.1⟩
          replace hqb := Aside0.mk hqb
          go_upto_region 10 with (first | (go_at_call 15; (with_reducible refine (K_aQuiet _ c HR.out _ _ _ aa HWL.out ?_ ?_ ?_).mono ?_); exact H6wr.out.below (by with_reducible repeat (first | exact Below.refl _ _ | exact HB.out | apply below_drew1 | apply below_alloc)); exact H7wr.out.below (by with_reducible repeat (first | exact Below.refl _ _ | exact HB.out | apply below_drew1 | apply below_alloc)); exact HAwr.out.below (by with_reducible repeat (first | exact Below.refl _ _ | exact HB.out | apply below_drew1 | apply below_alloc)); rintro e wb ⟨rfl, hb⟩; rw [hqb.out]; have HB' : Aside0 (Below wr.heap.size wr wb) := ⟨below_step (by with_reducible repeat (first | exact Below.refl _ _ | exact HB.out | apply below_drew1 | apply below_alloc)) hb⟩; have BX' : Aside0 (wb.heap[W.heap.size]? = some (.cells #[.int .i64 c.th, .int .i64 c.st, .int .i64 c.ga, .int .i64 c.le, .int .i64 c.re, .int .i64 c.ti, .slice A6 n6 d6, .slice (some ad7) n7 d7] 24 (0, 0))) := ⟨blk_below (g := W.heap.size) (by with_reducible repeat (first | exact BX.out | exact blk_new _ _ | refine blk_alloc ?_ _ | refine blk_drew ?_)) hb⟩; clear z0 z1 z2 z3 z4 z5 z6 z7 HB BX; have HB := HB'; have BX := BX'; clear HB' BX' hb; obtain ⟨z0, z1, z2, z3, z4, z5, z6, z7⟩ := box8 BX.out) | (go_at_call 13; (with_reducible refine (K_aSafe _ c HR.out _ _ _ aa HWL.out ?_ ?_ ?_).mono ?_); exact H6wr.out.below (by with_reducible repeat (first | exact Below.refl _ _ | exact HB.out | apply below_drew1 | apply below_alloc)); exact H7wr.out.below (by with_reducible repeat (first | exact Below.refl _ _ | exact HB.out | apply below_drew1 | apply below_alloc)); exact HAwr.out.below (by with_reducible repeat (first | exact Below.refl _ _ | exact HB.out | apply below_drew1 | apply below_alloc)); rintro e wa ⟨rfl, hb⟩; rw [HPL.out.1]; have HB' : Aside0 (Below wr.heap.size wr wa) := ⟨below_step (by with_reducible repeat (first | exact Below.refl _ _ | exact HB.out | apply below_drew1 | apply below_alloc)) hb⟩; have BX' : Aside0 (wa.heap[W.heap.size]? = some (.cells #[.int .i64 c.th, .int .i64 c.st, .int .i64 c.ga, .int .i64 c.le, .int .i64 c.re, .int .i64 c.ti, .slice A6 n6 d6, .slice (some ad7) n7 d7] 24 (0, 0))) := ⟨blk_below (g := W.heap.size) (by with_reducible repeat (first | exact BX.out | exact blk_new _ _ | refine blk_alloc ?_ _ | refine blk_drew ?_)) hb⟩; clear z0 z1 z2 z3 z4 z5 z6 z7 HB BX; have HB := HB'; have BX := BX'; clear HB' BX' hb; obtain ⟨z0, z1, z2, z3, z4, z5, z6, z7⟩ := box8 BX.out))
          have HOb : Aside0 (OW (W.heap.size + 1) wb g sz cap aa) := ⟨HOwr.out.below HB.out⟩
          have HB' : Aside0 (Below W.heap.size W wb) := ⟨below_step BWwr.out HB.out⟩
          clear HB
          have HB := HB'
          clear HB'
          have L7 : Aside0 (Below wb.heap.size wb wb) := ⟨Below.refl _ _⟩
          obtain ⟨bb, hbb⟩ : ∃ bb, aa.set i (L - n) = bb := ⟨_, rfl⟩
          have hpp : Aside0 (pokeL aa (aLim c (v : Int)) (rd c.ls (v : Int) - n) = bb) := ⟨by rw [hi.out, poke_set _ _ _ (by rw [hal.out]; exact hil.out), HLL.out]; exact hbb⟩
          have HWL2 : Aside0 (WL c bb) := ⟨by rw [← hpp.out]; exact poke_len HWL.out _ _⟩
          rw [hpp.out] at HPL
          replace hbb := Aside0.mk hbb
          refine wp_region_held_drew (S := (fun w' => w'.cell? ⟨W.heap.size, 0, none⟩ = some (.int .i64 c.th) ∧ w'.cell? ⟨W.heap.size, 1, none⟩ = some (.int .i64 c.st) ∧ w'.cell? ⟨W.heap.size, 2, none⟩ = some (.int .i64 c.ga) ∧ w'.cell? ⟨W.heap.size, 3, none⟩ = some (.int .i64 c.le) ∧ w'.cell? ⟨W.heap.size, 4, none⟩ = some (.int .i64 c.re) ∧ w'.cell? ⟨W.heap.size, 5, none⟩ = some (.int .i64 c.ti) ∧ w'.cell? ⟨W.heap.size, 6, none⟩ = some (.slice A6 n6 d6) ∧ w'.cell? ⟨W.heap.size, 7, none⟩ = some (.slice (some ad7) n7 d7))) (by kernel_rfl) ?_ (fun hHeld => ?_)
          · (try dsimp only)
            ((go_split_ands; (repeat' apply And.intro); all_goals (first | ((with_reducible refine cell_set_other ?_ HGW.out); assumption) | exact below_cell_of (w := wb) (by with_reducible repeat (first | exact Below.refl _ _ | exact L7.out | apply below_drew1 | apply below_alloc)) (by assumption))))
          refine wpAnyH_take (i := 0) (oi := _) (v := ?_) ((List.getElem?_toArray ..).trans rfl) (by kernel_rfl) (by kernel_rfl) (by kernel_rfl) (fun _ _ _ h => h) (Or.inl ⟨by rfl, ?_⟩) (by assumption) ?_
          rotate_left
          · (intro w hSw; (try dsimp only at hSw); go_simp; (try with_reducible rfl))
          (try simp only [Act.put, List.setIfInBounds_toArray, List.set_cons_zero, List.set_cons_succ])
          refine wpAnyH_take (i := 1) (oi := _) (v := ?_) ((List.getElem?_toArray ..).trans rfl) (by kernel_rfl) (by kernel_rfl) (by kernel_rfl) (fun _ _ _ h => h) (Or.inl ⟨by rfl, ?_⟩) (by assumption) ?_
          rotate_left
          · (intro w hSw; (try dsimp only at hSw); go_simp; (try with_reducible rfl))
          (try simp only [Act.put, List.setIfInBounds_toArray, List.set_cons_zero, List.set_cons_succ])
          refine wpAnyH_take (i := 2) (oi := _) (v := ?_) ((List.getElem?_toArray ..).trans rfl) (by kernel_rfl) (by kernel_rfl) (by kernel_rfl) (fun _ _ _ h => h) (Or.inl ⟨by rfl, ?_⟩) (by assumption) ?_
          rotate_left
          · (intro w hSw; (try dsimp only at hSw); go_simp; (try with_reducible rfl))
          (try simp only [Act.put, List.setIfInBounds_toArray, List.set_cons_zero, List.set_cons_succ])
          refine wpAnyH_take (i := 4) (oi := _) (v := ?_) ((List.getElem?_toArray ..).trans rfl) (by kernel_rfl) (by kernel_rfl) (by kernel_rfl) (fun _ _ _ h => h) (Or.inl ⟨by rfl, ?_⟩) (by assumption) ?_
          rotate_left
          · (intro w hSw; (try dsimp only at hSw); go_simp; (try with_reducible rfl))
          (try simp only [Act.put, List.setIfInBounds_toArray, List.set_cons_zero, List.set_cons_succ])
          refine wpAnyH_take (i := 5) (oi := _) (v := ?_) ((List.getElem?_toArray ..).trans rfl) (by kernel_rfl) (by kernel_rfl) (by kernel_rfl) (fun _ _ _ h => h) (Or.inl ⟨by rfl, ?_⟩) (by assumption) ?_
          rotate_left
          · (intro w hSw; (try dsimp only at hSw); go_simp; (try with_reducible rfl))
          (try simp only [Act.put, List.setIfInBounds_toArray, List.set_cons_zero, List.set_cons_succ])
          refine wpAnyH_take (i := 6) (oi := _) (v := ?_) ((List.getElem?_toArray ..).trans rfl) (by kernel_rfl) (by kernel_rfl) (by kernel_rfl) (fun _ _ _ h => h) (Or.inl ⟨by rfl, ?_⟩) (by assumption) ?_
          rotate_left
          · (intro w hSw; (try dsimp only at hSw); go_simp; (try with_reducible rfl))
          (try simp only [Act.put, List.setIfInBounds_toArray, List.set_cons_zero, List.set_cons_succ])
          refine wpAnyH_take (i := 10) (oi := _) (v := ?_) ((List.getElem?_toArray ..).trans rfl) (by kernel_rfl) (by kernel_rfl) (by kernel_rfl) (fun _ _ _ h => h) (Or.inl ⟨by rfl, ?_⟩) (by assumption) ?_
          rotate_left
          · (intro w hSw; (try dsimp only at hSw); go_simp; (try with_reducible rfl))
          (try simp only [Act.put, List.setIfInBounds_toArray, List.set_cons_zero, List.set_cons_succ])
          refine wpAnyH_ready (rs := [3]) (by kernel_rfl) (by simp) ?_
          refine AllReadyH.cons (i := 3) (o := _) ((List.getElem?_toArray ..).trans rfl) (fun K hK => ?_) ?_
          · go_simp
            (go_at_call 26; (with_reducible refine (K_aLimit c HR.out.cb _ _ _ _ _ _ (v : Int) HVB.out _ ?_ ?_).mono ?_); exact H6.out.below (by with_reducible repeat (first | exact Below.refl _ _ | exact HB.out | apply below_drew1 | apply below_alloc)); exact H7.out.below (by with_reducible repeat (first | exact Below.refl _ _ | exact HB.out | apply below_drew1 | apply below_alloc)); rintro e we ⟨rfl, hb⟩; rw [hi.out]; have L' : Aside0 (Below wb.heap.size wb we) := ⟨below_step (by with_reducible repeat (first | exact Below.refl _ _ | exact L7.out | apply below_drew1)) hb⟩; clear L7; have L7 := L'; clear L'; have HJ := OW.cell (HOb.out.below L7.out) i (by rw [hal.out]; exact hil.out); have c0 := HJ.1; rw [HLV.out] at c0; have f0 := HJ.2; clear HJ; have HB' : Aside0 (Below W.heap.size W we) := ⟨below_step (by with_reducible repeat (first | exact Below.refl _ _ | exact HB.out | apply below_drew1 | apply below_alloc)) hb⟩; have BX' : Aside0 (we.heap[W.heap.size]? = some (.cells #[.int .i64 c.th, .int .i64 c.st, .int .i64 c.ga, .int .i64 c.le, .int .i64 c.re, .int .i64 c.ti, .slice A6 n6 d6, .slice (some ad7) n7 d7] 24 (0, 0))) := ⟨blk_below (g := W.heap.size) (by with_reducible repeat (first | exact BX.out | exact blk_new _ _ | refine blk_alloc ?_ _ | refine blk_drew ?_)) hb⟩; clear z0 z1 z2 z3 z4 z5 z6 z7 HB BX; have HB := HB'; have BX := BX'; clear HB' BX' hb; obtain ⟨z0, z1, z2, z3, z4, z5, z6, z7⟩ := box8 BX.out)
            refine hK.out _ _ ?_ (fun hHeld => ?_)
            · (try dsimp only)
              ((go_split_ands; (repeat' apply And.intro); all_goals (first | ((with_reducible refine cell_set_other ?_ HGW.out); assumption) | exact below_cell_of (w := wb) (by with_reducible repeat (first | exact Below.refl _ _ | exact L7.out | apply below_drew1 | apply below_alloc)) (by assumption))))
            clear hK K
            (try simp only [Act.put, List.setIfInBounds_toArray, List.set_cons_zero, List.set_cons_succ])
            refine wpAnyH_ready (rs := [7]) (by kernel_rfl) (by simp) ?_
            refine AllReadyH.cons (i := 7) (o := _) ((List.getElem?_toArray ..).trans rfl) (fun K hK => ?_) ?_
            · go_simp
              (go_at_call 26; (with_reducible refine (K_aLimit c HR.out.cb _ _ _ _ _ _ (v : Int) HVB.out _ ?_ ?_).mono ?_); exact H6.out.below (by with_reducible repeat (first | exact Below.refl _ _ | exact HB.out | apply below_drew1 | apply below_alloc)); exact H7.out.below (by with_reducible repeat (first | exact Below.refl _ _ | exact HB.out | apply below_drew1 | apply below_alloc)); rintro e wf ⟨rfl, hb⟩; rw [hi.out]; have L' : Aside0 (Below wb.heap.size wb wf) := ⟨below_step (by with_reducible repeat (first | exact Below.refl _ _ | exact L7.out | apply below_drew1)) hb⟩; clear L7; have L7 := L'; clear L'; have HJ := OW.cell (HOb.out.below L7.out) i (by rw [hal.out]; exact hil.out); have c0 := HJ.1; rw [HLV.out] at c0; have f0 := HJ.2; clear HJ; have HB' : Aside0 (Below W.heap.size W wf) := ⟨below_step (by with_reducible repeat (first | exact Below.refl _ _ | exact HB.out | apply below_drew1 | apply below_alloc)) hb⟩; have BX' : Aside0 (wf.heap[W.heap.size]? = some (.cells #[.int .i64 c.th, .int .i64 c.st, .int .i64 c.ga, .int .i64 c.le, .int .i64 c.re, .int .i64 c.ti, .slice A6 n6 d6, .slice (some ad7) n7 d7] 24 (0, 0))) := ⟨blk_below (g := W.heap.size) (by with_reducible repeat (first | exact BX.out | exact blk_new _ _ | refine blk_alloc ?_ _ | refine blk_drew ?_)) hb⟩; clear z0 z1 z2 z3 z4 z5 z6 z7 HB BX; have HB := HB'; have BX := BX'; clear HB' BX' hb; obtain ⟨z0, z1, z2, z3, z4, z5, z6, z7⟩ := box8 BX.out)
              refine hK.out _ _ ?_ (fun hHeld => ?_)
              · (try dsimp only)
                ((go_split_ands; (repeat' apply And.intro); all_goals (first | ((with_reducible refine cell_set_other ?_ HGW.out); assumption) | exact below_cell_of (w := wb) (by with_reducible repeat (first | exact Below.refl _ _ | exact L7.out | apply below_drew1 | apply below_alloc)) (by assumption))))
              clear hK K
              (try simp only [Act.put, List.setIfInBounds_toArray, List.set_cons_zero, List.set_cons_succ])
              refine wpAnyH_take (i := 8) (oi := _) (v := ?_) ((List.getElem?_toArray ..).trans rfl) (by kernel_rfl) (by kernel_rfl) (by kernel_rfl) (fun _ _ _ h => h) (Or.inl ⟨by rfl, ?_⟩) (by assumption) ?_
              rotate_left
              · (intro w hSw; (try dsimp only at hSw); go_simp; (try with_reducible rfl))
              (try simp only [Act.put, List.setIfInBounds_toArray, List.set_cons_zero, List.set_cons_succ])
              refine wpAnyH_ready (rs := [9]) (by kernel_rfl) (by simp) ?_
              refine AllReadyH.cons (i := 9) (o := _) ((List.getElem?_toArray ..).trans rfl) (fun K hK => ?_) ?_
              · go_simp
                refine hK.out _ _ ?_ (fun hHeld => ?_)
                · (try dsimp only)
                  ((go_split_ands; (repeat' apply And.intro); all_goals (first | ((with_reducible refine cell_set_other ?_ HGW.out); assumption) | exact below_cell_of (w := wb) (by with_reducible repeat (first | exact Below.refl _ _ | exact L7.out | apply below_drew1 | apply below_alloc)) (by assumption))))
                clear hK K
                (try simp only [Act.put, List.setIfInBounds_toArray, List.set_cons_zero, List.set_cons_succ])
                refine wpAnyH_take (i := 11) (oi := _) (v := ?_) ((List.getElem?_toArray ..).trans rfl) (by kernel_rfl) (by kernel_rfl) (by kernel_rfl) (fun _ _ _ h => h) (Or.inl ⟨by rfl, ?_⟩) (by assumption) ?_
                rotate_left
                · (intro w hSw; (try dsimp only at hSw); go_simp; (try with_reducible rfl))
                (try simp only [Act.put, List.setIfInBounds_toArray, List.set_cons_zero, List.set_cons_succ])
                refine wpAnyH_take (i := 12) (oi := _) (v := ?_) ((List.getElem?_toArray ..).trans rfl) (by kernel_rfl) (by kernel_rfl) (by kernel_rfl) (fun _ _ _ h => h) (Or.inl ⟨by rfl, ?_⟩) (by assumption) ?_
                rotate_left
                · (intro w hSw; (try dsimp only at hSw); go_simp; (try with_reducible rfl))
                (try simp only [Act.put, List.setIfInBounds_toArray, List.set_cons_zero, List.set_cons_succ])
                refine wpAnyH_ready (rs := [13]) (by kernel_rfl) (by simp) ?_
                refine AllReadyH.cons (i := 13) (o := _) ((List.getElem?_toArray ..).trans rfl) (fun K hK => ?_) ?_
                · go_simp
                  refine hK.out _ _ ?_ (fun hHeld => ?_)
                  · (try dsimp only)
                    ((go_split_ands; (repeat' apply And.intro); all_goals (first | ((with_reducible refine cell_set_other ?_ HGW.out); assumption) | exact below_cell_of (w := wb) (by with_reducible repeat (first | exact Below.refl _ _ | exact L7.out | apply below_drew1 | apply below_alloc)) (by assumption))))
                  clear hK K
                  (try simp only [Act.put, List.setIfInBounds_toArray, List.set_cons_zero, List.set_cons_succ])
                  refine wpAnyH_done (by kernel_rfl) ?_ _
                  have ex : IntKind.i64.wrap (L - n) = L - n := by have h1 := HN.out; have h2 := HLM.out; rw [IntKind.wrap_i64]; omega
                  rw [ex]
                  obtain ⟨ws, hwr⟩ : ∃ Y, wf.setCell ⟨g, i, none⟩ (.int .i64 (L - n)) = Y := ⟨_, rfl⟩
                  have BWws : Aside0 (Below W.heap.size W ws) := ⟨by rw [← hwr]; exact HB.out.setCell (p := ⟨g, i, none⟩) (by have := HO.out.ge; show W.heap.size ≤ g; omega) _⟩
                  have BY : Aside0 (ws.heap[W.heap.size]? = some (.cells #[.int .i64 c.th, .int .i64 c.st, .int .i64 c.ga, .int .i64 c.le, .int .i64 c.re, .int .i64 c.ti, .slice A6 n6 d6, .slice (some ad7) n7 d7] 24 (0, 0))) := ⟨by rw [← hwr]; exact (Below.heap_setCell _ _ _ _ HGW.out).trans BX.out⟩
                  have HOws : Aside0 (OW (W.heap.size + 1) ws g sz cap bb) := ⟨by rw [← hwr, ← hbb.out]; exact (HOb.out.below L7.out).put i _⟩
                  rw [hwr]
                  clear hwr ex HB BX z0 z1 z2 z3 z4 z5 z6 z7 L7
                  have H6ws : Aside0 (IsInts ws (.slice A6 n6 d6) c.ps) := ⟨H6.out.below BWws.out⟩
                  have H7ws : Aside0 (IsInts ws (.slice (some ad7) n7 d7) c.ls) := ⟨H7.out.below BWws.out⟩
                  have HAws : Aside0 (IsInts ws (.slice (some ⟨g, 0, none⟩) sz cap) bb) := ⟨HOws.out.ints⟩
                  have HB : Aside0 (Below ws.heap.size ws ws) := ⟨Below.refl _ _⟩
                  have BX := BY
                  clear BY
                  obtain ⟨z0, z1, z2, z3, z4, z5, z6, z7⟩ := box8 BX.out
                  go_upto_region 11 with (fail)
                  by_cases hn0 : n = 0
                  · have q0 : qb = -1 := by rw [HQB.out, if_pos hn0]
                    subst hn0
                    subst q0
                    have nv : ((-1 : Int) == (v : Int)) = false := by simp
                    go_wp2_with (first | (go_at_call 15; (with_reducible refine (K_aQuiet _ c HR.out _ _ _ bb HWL2.out ?_ ?_ ?_).mono ?_); exact H6ws.out.below (by with_reducible repeat (first | exact Below.refl _ _ | exact HB.out | apply below_drew1 | apply below_alloc)); exact H7ws.out.below (by with_reducible repeat (first | exact Below.refl _ _ | exact HB.out | apply below_drew1 | apply below_alloc)); exact HAws.out.below (by with_reducible repeat (first | exact Below.refl _ _ | exact HB.out | apply below_drew1 | apply below_alloc)); rintro e wh ⟨rfl, hb⟩; rw [HPL.out.2.2.2]; have HB' : Aside0 (Below ws.heap.size ws wh) := ⟨below_step (by with_reducible repeat (first | exact Below.refl _ _ | exact HB.out | apply below_drew1 | apply below_alloc)) hb⟩; have BX' : Aside0 (wh.heap[W.heap.size]? = some (.cells #[.int .i64 c.th, .int .i64 c.st, .int .i64 c.ga, .int .i64 c.le, .int .i64 c.re, .int .i64 c.ti, .slice A6 n6 d6, .slice (some ad7) n7 d7] 24 (0, 0))) := ⟨blk_below (g := W.heap.size) (by with_reducible repeat (first | exact BX.out | exact blk_new _ _ | refine blk_alloc ?_ _ | refine blk_drew ?_)) hb⟩; clear z0 z1 z2 z3 z4 z5 z6 z7 HB BX; have HB := HB'; have BX := BX'; clear HB' BX' hb; obtain ⟨z0, z1, z2, z3, z4, z5, z6, z7⟩ := box8 BX.out) | (go_at_call 13; (with_reducible refine (K_aSafe _ c HR.out _ _ _ bb HWL2.out ?_ ?_ ?_).mono ?_); exact H6ws.out.below (by with_reducible repeat (first | exact Below.refl _ _ | exact HB.out | apply below_drew1 | apply below_alloc)); exact H7ws.out.below (by with_reducible repeat (first | exact Below.refl _ _ | exact HB.out | apply below_drew1 | apply below_alloc)); exact HAws.out.below (by with_reducible repeat (first | exact Below.refl _ _ | exact HB.out | apply below_drew1 | apply below_alloc)); rintro e wg ⟨rfl, hb⟩; rw [HPL.out.2.2.1]; have HB' : Aside0 (Below ws.heap.size ws wg) := ⟨below_step (by with_reducible repeat (first | exact Below.refl _ _ | exact HB.out | apply below_drew1 | apply below_alloc)) hb⟩; have BX' : Aside0 (wg.heap[W.heap.size]? = some (.cells #[.int .i64 c.th, .int .i64 c.st, .int .i64 c.ga, .int .i64 c.le, .int .i64 c.re, .int .i64 c.ti, .slice A6 n6 d6, .slice (some ad7) n7 d7] 24 (0, 0))) := ⟨blk_below (g := W.heap.size) (by with_reducible repeat (first | exact BX.out | exact blk_new _ _ | refine blk_alloc ?_ _ | refine blk_drew ?_)) hb⟩; clear z0 z1 z2 z3 z4 z5 z6 z7 HB BX; have HB := HB'; have BX := BX'; clear HB' BX' hb; obtain ⟨z0, z1, z2, z3, z4, z5, z6, z7⟩ := box8 BX.out))
                    go_ret
                    exact ⟨rfl, (by with_reducible repeat (first | exact below_step BWws.out HB.out | apply below_drew1 | apply below_alloc))⟩
                  · have q0 : qb = (v : Int) := by rw [HQB.out, if_neg hn0]
                    subst q0
                    go_wp2_with (first | (go_at_call 15; (with_reducible refine (K_aQuiet _ c HR.out _ _ _ bb HWL2.out ?_ ?_ ?_).mono ?_); exact H6ws.out.below (by with_reducible repeat (first | exact Below.refl _ _ | exact HB.out | apply below_drew1 | apply below_alloc)); exact H7ws.out.below (by with_reducible repeat (first | exact Below.refl _ _ | exact HB.out | apply below_drew1 | apply below_alloc)); exact HAws.out.below (by with_reducible repeat (first | exact Below.refl _ _ | exact HB.out | apply below_drew1 | apply below_alloc)); rintro e wh ⟨rfl, hb⟩; rw [HPL.out.2.2.2]; have HB' : Aside0 (Below ws.heap.size ws wh) := ⟨below_step (by with_reducible repeat (first | exact Below.refl _ _ | exact HB.out | apply below_drew1 | apply below_alloc)) hb⟩; have BX' : Aside0 (wh.heap[W.heap.size]? = some (.cells #[.int .i64 c.th, .int .i64 c.st, .int .i64 c.ga, .int .i64 c.le, .int .i64 c.re, .int .i64 c.ti, .slice A6 n6 d6, .slice (some ad7) n7 d7] 24 (0, 0))) := ⟨blk_below (g := W.heap.size) (by with_reducible repeat (first | exact BX.out | exact blk_new _ _ | refine blk_alloc ?_ _ | refine blk_drew ?_)) hb⟩; clear z0 z1 z2 z3 z4 z5 z6 z7 HB BX; have HB := HB'; have BX := BX'; clear HB' BX' hb; obtain ⟨z0, z1, z2, z3, z4, z5, z6, z7⟩ := box8 BX.out) | (go_at_call 13; (with_reducible refine (K_aSafe _ c HR.out _ _ _ bb HWL2.out ?_ ?_ ?_).mono ?_); exact H6ws.out.below (by with_reducible repeat (first | exact Below.refl _ _ | exact HB.out | apply below_drew1 | apply below_alloc)); exact H7ws.out.below (by with_reducible repeat (first | exact Below.refl _ _ | exact HB.out | apply below_drew1 | apply below_alloc)); exact HAws.out.below (by with_reducible repeat (first | exact Below.refl _ _ | exact HB.out | apply below_drew1 | apply below_alloc)); rintro e wg ⟨rfl, hb⟩; rw [HPL.out.2.2.1]; have HB' : Aside0 (Below ws.heap.size ws wg) := ⟨below_step (by with_reducible repeat (first | exact Below.refl _ _ | exact HB.out | apply below_drew1 | apply below_alloc)) hb⟩; have BX' : Aside0 (wg.heap[W.heap.size]? = some (.cells #[.int .i64 c.th, .int .i64 c.st, .int .i64 c.ga, .int .i64 c.le, .int .i64 c.re, .int .i64 c.ti, .slice A6 n6 d6, .slice (some ad7) n7 d7] 24 (0, 0))) := ⟨blk_below (g := W.heap.size) (by with_reducible repeat (first | exact BX.out | exact blk_new _ _ | refine blk_alloc ?_ _ | refine blk_drew ?_)) hb⟩; clear z0 z1 z2 z3 z4 z5 z6 z7 HB BX; have HB := HB'; have BX := BX'; clear HB' BX' hb; obtain ⟨z0, z1, z2, z3, z4, z5, z6, z7⟩ := box8 BX.out))
                    go_ret
                    exact ⟨rfl, (by with_reducible repeat (first | exact below_step BWws.out HB.out | apply below_drew1 | apply below_alloc))⟩
                exact AllReadyH.nil
              exact AllReadyH.nil
            exact AllReadyH.nil
          exact AllReadyH.nil
        exact AllReadyH.nil
      exact AllReadyH.nil
    exact AllReadyH.nil
  exact AllReadyH.nil
end
end Go.Proofs.YthbaamfdpebocaaGreat.PA
