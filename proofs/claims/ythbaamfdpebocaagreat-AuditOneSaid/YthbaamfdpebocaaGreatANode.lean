import Derived.Test.YthbaamfdpebocaaGreatAP
import Derived.Test.YthbaamfdpebocaaGreatPAx5
import Derived.RangeFuncNested
import Derived.RangeFuncBound
import Derived.RangeFuncCalls
import Derived.RangeFuncLeaves
import Derived.RangeFuncBox
import Derived.Shelf.Abstract
import Derived.Shelf.RegionOpen
import Derived.OwnWalkIn
import Derived.TacticsInMore
import Derived.LoopNIn
import Derived.LoopIn
import Derived.Lib.QuietBelow
import Derived.Deep.RegionHeld3
import Derived.Deep.RegionLaw
import Derived.Laws.CopyOwn
import Derived.Laws.EntriesVeiled
import Derived.Deep.DeepCutAuto
import Derived.Deep.MidRow
import Derived.Deep.Heap
import Derived.Lib.SmallJoins
import Derived.ChangeKeysEq
namespace Go.Proofs.YthbaamfdpebocaaGreat.PA
open Go.RowKit Go.Shelf Go.Proofs.YthbaamfdpebocaaGreatW.PrintWords Go.Proofs.YthbaamfdpebocaaGreatW.PrintLast Go.Proofs.YthbaamfdpebocaaGreatW.PrintMore
attribute [local go_sem] max2_int min2_int max_two min_two max_three min_three max_four min_four
set_option linter.unusedVariables false
set_option linter.unusedSimpArgs false
section
set_option maxRecDepth 100000 in
theorem K_pLease (c : LConf) (hR : Right c) (A6 : Option Addr) (n6 d6 : Nat) (A7 : Option Addr) (n7 d7 : Nat) (v : Int) (s : Int) (hv : 0 ≤ v ∧ v ≤ 1000) (hs : 0 ≤ s ∧ s ≤ 1000) (W : World) (h6 : IsInts W (.slice A6 n6 d6) c.ps) (h7 : IsInts W (.slice A7 n7 d7) c.ls) : Calls Tryz.prog 64 #[.agg #[.int .i64 c.th, .int .i64 c.st, .int .i64 c.ga, .int .i64 c.le, .int .i64 c.re, .int .i64 c.ti, .slice A6 n6 d6, .slice A7 n7 d7], .int .i64 v, .int .i64 s] W fun e w' => e = .returned (.int .i64 (aLe c v s)) ∧ Below W.heap.size W w' := by
  obtain ⟨A6', c6, e6, hc6, hr6⟩ := h6
  obtain ⟨A7', c7, e7, hc7, hr7⟩ := h7
  cases e6
  cases e7
  exact plan_Lease.calls _ _ _ _ _ _ A6 d6 c.ps A7 d7 c.ls v s _ W hr6 hc6 hr7 hc7 (plan_Lease_a c hR.cb v s hv hs)
theorem drawn_below {w w' : World} (h : Drawn0 w w') : Below w.heap.size w w' := by
  obtain ⟨m, rfl⟩ := h
  exact pw_below_drewN (Below.refl _ _) m
set_option maxRecDepth 100000 in
theorem K_within (x l h : Int) (W : World) : Calls Tryz.prog 58 #[.int .i64 x, .int .i64 l, .int .i64 h] W fun e w' => e = .returned (.bool (decide (l ≤ x ∧ x ≤ h))) ∧ Below W.heap.size W w' :=
  (audit_within.calls x l h _ W (within_f x l h)).mono fun _ _ ⟨he, hd⟩ => ⟨he, drawn_below hd⟩
set_option maxRecDepth 100000 in
theorem K_val (x : Int) (W : World) : Calls Tryz.prog 65 #[.int .i64 x] W fun e w' => e = .returned (.int .i64 (valP x)) ∧ Below W.heap.size W w' :=
  (pack_Value.calls x _ W (val_f x)).mono fun _ _ ⟨he, hd⟩ => ⟨he, drawn_below hd⟩
set_option maxRecDepth 100000 in
theorem K_word (c : LConf) (hR : Right c) (A6 : Option Addr) (n6 d6 : Nat) (A7 : Option Addr) (n7 d7 : Nat) (A : Option Addr) (n d : Nat) (a : List Int) (hl : WL c a) (v : Int) (hv : 0 ≤ v ∧ v < (c.ps.length : Int)) (q : Int) (hq : 0 ≤ q ∧ q < 4 + c.st) (W : World) (h6 : IsInts W (.slice A6 n6 d6) c.ps) (h7 : IsInts W (.slice A7 n7 d7) c.ls) (h1 : IsInts W (.slice A n d) a) : Calls Tryz.prog 62 #[.agg #[.int .i64 c.th, .int .i64 c.st, .int .i64 c.ga, .int .i64 c.le, .int .i64 c.re, .int .i64 c.ti, .slice A6 n6 d6, .slice A7 n7 d7, .slice A n d, .int .i64 v, .int .i64 (aCo c v)], .int .i64 q] W fun e w' => e = .returned (.int .i64 (rd a (aCo c v + q))) ∧ Below W.heap.size W w' := by
  obtain ⟨A6', c6, e6, hc6, hr6⟩ := h6
  obtain ⟨A7', c7, e7, hc7, hr7⟩ := h7
  cases e6
  cases e7
  obtain ⟨A1', c1, e1, hc1, hr1⟩ := h1
  cases e1
  exact audit_node_word.calls _ _ _ _ _ _ A6 d6 c.ps A7 d7 c.ls A d a v _ q _ W hr6 hc6 hr7 hc7 hr1 hc1 (word_f c hR.cb hl v hv q hq)
theorem box11 {W : World} {g t : Nat} {x0 x1 x2 x3 x4 x5 x6 x7 x8 x9 x10 : Value} (h : W.heap[g]? = some (.cells #[x0, x1, x2, x3, x4, x5, x6, x7, x8, x9, x10] t (0, 0))) :
    W.cell? ⟨g, 0, none⟩ = some x0 ∧ W.cell? ⟨g, 1, none⟩ = some x1 ∧ W.cell? ⟨g, 2, none⟩ = some x2 ∧ W.cell? ⟨g, 3, none⟩ = some x3 ∧ W.cell? ⟨g, 4, none⟩ = some x4 ∧ W.cell? ⟨g, 5, none⟩ = some x5 ∧ W.cell? ⟨g, 6, none⟩ = some x6 ∧ W.cell? ⟨g, 7, none⟩ = some x7 ∧ W.cell? ⟨g, 8, none⟩ = some x8 ∧ W.cell? ⟨g, 9, none⟩ = some x9 ∧ W.cell? ⟨g, 10, none⟩ = some x10 :=
  ⟨(blk_cell h 0).trans rfl, (blk_cell h 1).trans rfl, (blk_cell h 2).trans rfl, (blk_cell h 3).trans rfl, (blk_cell h 4).trans rfl, (blk_cell h 5).trans rfl, (blk_cell h 6).trans rfl, (blk_cell h 7).trans rfl, (blk_cell h 8).trans rfl, (blk_cell h 9).trans rfl, (blk_cell h 10).trans rfl⟩
set_option maxHeartbeats 8000000 in
set_option maxRecDepth 100000 in
theorem K_lives (c : LConf) (hR : Right c) (A6 : Option Addr) (n6 d6 : Nat) (A7 : Option Addr) (n7 d7 : Nat) (A : Option Addr) (n d : Nat) (a : List Int) (hl : WL c a) (v : Nat) (hv : v < c.ps.length) (W : World) (h6 : IsInts W (.slice A6 n6 d6) c.ps) (h7 : IsInts W (.slice A7 n7 d7) c.ls) (h1 : IsInts W (.slice A n d) a) :
    Calls Tryz.prog 34 #[.agg #[.int .i64 c.th, .int .i64 c.st, .int .i64 c.ga, .int .i64 c.le, .int .i64 c.re, .int .i64 c.ti, .slice A6 n6 d6, .slice A7 n7 d7, .slice A n d, .int .i64 (v : Int), .int .i64 (aCo c (v : Int))]] W fun e w' => e = .returned (.bool (livB c a (v : Int))) ∧ Below W.heap.size W w' := by
  have hun := Tryz.underlying86
  have huc := Tryz.underlying24
  have HR := Aside0.mk hR
  have HWL := Aside0.mk hl
  have hnn := Aside0.mk h1.len
  have HV := Aside0.mk hv
  have HVI : Aside0 (0 ≤ (v : Int) ∧ (v : Int) < (c.ps.length : Int)) := ⟨by omega⟩
  have HVB : Aside0 (0 ≤ (v : Int) ∧ (v : Int) ≤ 1000) := ⟨by have := hR.cb.2.1; omega⟩
  have hin := node_in c hR.cb hl (v : Int) (by omega)
  have HIN := Aside0.mk hin
  have HST : Aside0 ((1 ≤ c.st ∧ c.st ≤ 8) ∧ (1 ≤ c.ga ∧ c.ga ≤ 1048576) ∧ (0 ≤ c.le ∧ c.le ≤ 1048576)) := ⟨hR.cb.1, hR.1.2.2.1, hR.1.2.2.2.1⟩
  obtain ⟨w1, hX⟩ : ∃ X, W.alloc (.cells #[.int .i64 c.th, .int .i64 c.st, .int .i64 c.ga, .int .i64 c.le, .int .i64 c.re, .int .i64 c.ti, .slice A6 n6 d6, .slice A7 n7 d7, .slice A n d, .int .i64 (v : Int), .int .i64 (aCo c (v : Int))] 86) = X := ⟨_, rfl⟩
  have B1 : Aside0 (Below W.heap.size W w1) := ⟨by rw [← hX]; exact below_alloc (Below.refl _ _) _⟩
  have X1 : Aside0 (w1.heap[W.heap.size]? = some (.cells #[.int .i64 c.th, .int .i64 c.st, .int .i64 c.ga, .int .i64 c.le, .int .i64 c.re, .int .i64 c.ti, .slice A6 n6 d6, .slice A7 n7 d7, .slice A n d, .int .i64 (v : Int), .int .i64 (aCo c (v : Int))] 86 (0, 0))) := ⟨by rw [← hX]; exact blk_new _ _⟩
  have HX := Aside0.mk hX
  have H6 := Aside0.mk (h6.below B1.out)
  have H7 := Aside0.mk (h7.below B1.out)
  have HA := Aside0.mk (h1.below B1.out)
  have HB : Aside0 (Below w1.heap.size w1 w1) := ⟨Below.refl _ _⟩
  clear hR hl hv h6 h7 h1 hin hX
  obtain ⟨x, hx⟩ : ∃ x, rd a (aCo c (v : Int) + 3) = x := ⟨_, rfl⟩
  have HXX := Aside0.mk hx
  obtain ⟨wb, hwb⟩ : ∃ wb, decide (1 ≤ x ∧ x ≤ c.st) = wb := ⟨_, rfl⟩
  have QW := Aside0.mk hwb
  have hm : ∃ m, (wb = false ∨ bits_OnesCount.f (IntKind.u64.wrap x) = some m) ∧ (wb = false ∧ livB c a (v : Int) = false ∨ wb = true ∧ (m == 1) = livB c a (v : Int)) := by
    unfold livB
    rw [hx]
    by_cases g : 1 ≤ x ∧ x ≤ c.st
    · obtain ⟨m, hm, hi⟩ := ones_of x g.1 (by have := HST.out; omega)
      refine ⟨m, .inr hm, .inr ⟨by rw [← hwb]; exact decide_eq_true g, ?_⟩⟩
      rw [show (m == 1) = decide (m = 1) from rfl]
      exact decide_eq_decide.2 ⟨fun h => ⟨g, hi.1 h⟩, fun h => hi.2 h.2⟩
    · exact ⟨0, .inl (by rw [← hwb]; exact decide_eq_false g), .inl ⟨by rw [← hwb]; exact decide_eq_false g, decide_eq_false (fun h => g h.1)⟩⟩
  obtain ⟨m, hm1, hm2⟩ := hm
  obtain ⟨res, hres⟩ : ∃ res, livB c a (v : Int) = res := ⟨_, rfl⟩
  have HRES := Aside0.mk hres
  rw [hres] at hm2
  have Kw3 : Aside0 (∀ W', Below w1.heap.size w1 W' → Calls Tryz.prog 62 #[.agg #[.int .i64 c.th, .int .i64 c.st, .int .i64 c.ga, .int .i64 c.le, .int .i64 c.re, .int .i64 c.ti, .slice A6 n6 d6, .slice A7 n7 d7, .slice A n d, .int .i64 (v : Int), .int .i64 (aCo c (v : Int))], .int .i64 3] W' fun e w' => e = .returned (.int .i64 x) ∧ Below W'.heap.size W' w') := ⟨fun W' hq => by rw [← HXX.out]; exact K_word c HR.out _ _ _ _ _ _ _ _ _ a HWL.out (v : Int) HVI.out 3 (by have := HST.out; omega) _ (H6.out.below hq) (H7.out.below hq) (HA.out.below hq)⟩
  have Kwi3 : Aside0 (∀ W', Below w1.heap.size w1 W' → Calls Tryz.prog 58 #[.int .i64 x, .int .i64 1, .int .i64 c.st] W' fun e w' => e = .returned (.bool wb) ∧ Below W'.heap.size W' w') := ⟨fun W' hq => by rw [← QW.out]; exact K_within _ _ _ _⟩
  clear hx hwb hres QW HXX
  rcases hm2 with ⟨rfl, rfl⟩ | ⟨rfl, hm2⟩
  · go_enter Tryz.func34, Tryz.ntmps34
    go_upto_region 1 with (fail)
    rw [HX.out]
    obtain ⟨z0, z1, z2, z3, z4, z5, z6, z7, z8, z9, z10⟩ := box11 X1.out
    go_wp2_with (first | (go_at_call 58; (with_reducible refine (Kwi3.out _ ?_).mono ?_); exact (by with_reducible repeat (first | exact Below.refl _ _ | exact HB.out | apply below_drew1 | apply below_alloc)); rintro e w3 ⟨rfl, hb⟩; have HB' : Aside0 (Below w1.heap.size w1 w3) := ⟨below_step (by with_reducible repeat (first | exact Below.refl _ _ | exact HB.out | apply below_drew1 | apply below_alloc)) hb⟩; clear hb HB z0 z1 z2 z3 z4 z5 z6 z7 z8 z9 z10; have HB := HB'; clear HB'; obtain ⟨z0, z1, z2, z3, z4, z5, z6, z7, z8, z9, z10⟩ := box11 (blk_below X1.out HB.out)) | (go_at_call 62; (with_reducible refine (Kw3.out _ ?_).mono ?_); exact (by with_reducible repeat (first | exact Below.refl _ _ | exact HB.out | apply below_drew1 | apply below_alloc)); rintro e w2 ⟨rfl, hb⟩; have HB' : Aside0 (Below w1.heap.size w1 w2) := ⟨below_step (by with_reducible repeat (first | exact Below.refl _ _ | exact HB.out | apply below_drew1 | apply below_alloc)) hb⟩; clear hb HB z0 z1 z2 z3 z4 z5 z6 z7 z8 z9 z10; have HB := HB'; clear HB'; obtain ⟨z0, z1, z2, z3, z4, z5, z6, z7, z8, z9, z10⟩ := box11 (blk_below X1.out HB.out)))
    go_ret
    exact ⟨by first | (rw [HRES.out]; done) | (rw [HRES.out]; rfl), B1.out.trans (Below.mono (by with_reducible repeat (first | exact Below.refl _ _ | exact HB.out | apply below_drew1 | apply below_alloc)) B1.out.size)⟩
  · have HM : Aside0 (bits_OnesCount.f (IntKind.u64.wrap x) = some m) := ⟨hm1.resolve_left (by simp)⟩
    have Kones : Aside0 (∀ W', Below w1.heap.size w1 W' → Calls Tryz.prog 63 #[.int .u64 (IntKind.u64.wrap x)] W' fun e w' => e = .returned (.int .i64 m) ∧ Below W'.heap.size W' w') := ⟨fun W' hq => by exact (bits_OnesCount.calls _ _ _ HM.out).mono fun _ _ ⟨he, hd⟩ => ⟨he, drawn_below hd⟩⟩
    clear hm1
    go_enter Tryz.func34, Tryz.ntmps34
    go_upto_region 1 with (fail)
    rw [HX.out]
    obtain ⟨z0, z1, z2, z3, z4, z5, z6, z7, z8, z9, z10⟩ := box11 X1.out
    go_wp2_with (first | (go_at_call 63; (with_reducible refine (Kones.out _ ?_).mono ?_); exact (by with_reducible repeat (first | exact Below.refl _ _ | exact HB.out | apply below_drew1 | apply below_alloc)); rintro e w4 ⟨rfl, hb⟩; have HB' : Aside0 (Below w1.heap.size w1 w4) := ⟨below_step (by with_reducible repeat (first | exact Below.refl _ _ | exact HB.out | apply below_drew1 | apply below_alloc)) hb⟩; clear hb HB z0 z1 z2 z3 z4 z5 z6 z7 z8 z9 z10; have HB := HB'; clear HB'; obtain ⟨z0, z1, z2, z3, z4, z5, z6, z7, z8, z9, z10⟩ := box11 (blk_below X1.out HB.out)) | (go_at_call 58; (with_reducible refine (Kwi3.out _ ?_).mono ?_); exact (by with_reducible repeat (first | exact Below.refl _ _ | exact HB.out | apply below_drew1 | apply below_alloc)); rintro e w3 ⟨rfl, hb⟩; have HB' : Aside0 (Below w1.heap.size w1 w3) := ⟨below_step (by with_reducible repeat (first | exact Below.refl _ _ | exact HB.out | apply below_drew1 | apply below_alloc)) hb⟩; clear hb HB z0 z1 z2 z3 z4 z5 z6 z7 z8 z9 z10; have HB := HB'; clear HB'; obtain ⟨z0, z1, z2, z3, z4, z5, z6, z7, z8, z9, z10⟩ := box11 (blk_below X1.out HB.out)) | (go_at_call 62; (with_reducible refine (Kw3.out _ ?_).mono ?_); exact (by with_reducible repeat (first | exact Below.refl _ _ | exact HB.out | apply below_drew1 | apply below_alloc)); rintro e w2 ⟨rfl, hb⟩; have HB' : Aside0 (Below w1.heap.size w1 w2) := ⟨below_step (by with_reducible repeat (first | exact Below.refl _ _ | exact HB.out | apply below_drew1 | apply below_alloc)) hb⟩; clear hb HB z0 z1 z2 z3 z4 z5 z6 z7 z8 z9 z10; have HB := HB'; clear HB'; obtain ⟨z0, z1, z2, z3, z4, z5, z6, z7, z8, z9, z10⟩ := box11 (blk_below X1.out HB.out)))
    go_ret
    exact ⟨by first | (rw [HRES.out]; done) | (rw [HRES.out]; rfl), B1.out.trans (Below.mono (by with_reducible repeat (first | exact Below.refl _ _ | exact HB.out | apply below_drew1 | apply below_alloc)) B1.out.size)⟩
theorem str_cases (p q r : Bool) (t : Bool) (h : t = ((p && q) && r)) : (p = false ∧ t = false) ∨ (p = true ∧ q = false ∧ t = false) ∨ (p = true ∧ q = true ∧ t = r) := by
  subst h
  cases p <;> cases q <;> simp
theorem strB_step (c : LConf) (a : List Int) (v : Int) (n : Nat) (s : Int) : strB c a v (n + 1) s = ((decide (0 ≤ rd a (aLe c v s) ∧ rd a (aLe c v s) ≤ c.le) && decide (1 - c.ga ≤ valP (rd a (aCo c v + (4 + s))) ∧ valP (rd a (aCo c v + (4 + s))) ≤ c.ga - 1)) && strB c a v n (s + 1)) := by
  rw [strB, show aCo c v + (4 + s) = aCo c v + 4 + s by omega]
  congr 1
  rw [← Bool.decide_and]
set_option maxHeartbeats 8000000 in
set_option maxRecDepth 100000 in
theorem K_stripes (c : LConf) (hR : Right c) (A6 : Option Addr) (n6 d6 : Nat) (A7 : Option Addr) (n7 d7 : Nat) (A : Option Addr) (n d : Nat) (a : List Int) (hl : WL c a) (v : Nat) (hv : v < c.ps.length) (W : World) (h6 : IsInts W (.slice A6 n6 d6) c.ps) (h7 : IsInts W (.slice A7 n7 d7) c.ls) (h1 : IsInts W (.slice A n d) a) :
    Calls Tryz.prog 35 #[.agg #[.int .i64 c.th, .int .i64 c.st, .int .i64 c.ga, .int .i64 c.le, .int .i64 c.re, .int .i64 c.ti, .slice A6 n6 d6, .slice A7 n7 d7, .slice A n d, .int .i64 (v : Int), .int .i64 (aCo c (v : Int))]] W fun e w' => e = .returned (.bool (strB c a (v : Int) c.st.toNat 0)) ∧ Below W.heap.size W w' := by
  have hun := Tryz.underlying86
  have huc := Tryz.underlying24
  have HR := Aside0.mk hR
  have HWL := Aside0.mk hl
  have hnn := Aside0.mk h1.len
  have HV := Aside0.mk hv
  have HVI : Aside0 (0 ≤ (v : Int) ∧ (v : Int) < (c.ps.length : Int)) := ⟨by omega⟩
  have HVB : Aside0 (0 ≤ (v : Int) ∧ (v : Int) ≤ 1000) := ⟨by have := hR.cb.2.1; omega⟩
  have hin := node_in c hR.cb hl (v : Int) (by omega)
  have HIN := Aside0.mk hin
  have HST : Aside0 ((1 ≤ c.st ∧ c.st ≤ 8) ∧ (1 ≤ c.ga ∧ c.ga ≤ 1048576) ∧ (0 ≤ c.le ∧ c.le ≤ 1048576)) := ⟨hR.cb.1, hR.1.2.2.1, hR.1.2.2.2.1⟩
  obtain ⟨w1, hX⟩ : ∃ X, W.alloc (.cells #[.int .i64 c.th, .int .i64 c.st, .int .i64 c.ga, .int .i64 c.le, .int .i64 c.re, .int .i64 c.ti, .slice A6 n6 d6, .slice A7 n7 d7, .slice A n d, .int .i64 (v : Int), .int .i64 (aCo c (v : Int))] 86) = X := ⟨_, rfl⟩
  have B1 : Aside0 (Below W.heap.size W w1) := ⟨by rw [← hX]; exact below_alloc (Below.refl _ _) _⟩
  have X1 : Aside0 (w1.heap[W.heap.size]? = some (.cells #[.int .i64 c.th, .int .i64 c.st, .int .i64 c.ga, .int .i64 c.le, .int .i64 c.re, .int .i64 c.ti, .slice A6 n6 d6, .slice A7 n7 d7, .slice A n d, .int .i64 (v : Int), .int .i64 (aCo c (v : Int))] 86 (0, 0))) := ⟨by rw [← hX]; exact blk_new _ _⟩
  have HX := Aside0.mk hX
  have H6 := Aside0.mk (h6.below B1.out)
  have H7 := Aside0.mk (h7.below B1.out)
  have HA := Aside0.mk (h1.below B1.out)
  have HB : Aside0 (Below w1.heap.size w1 w1) := ⟨Below.refl _ _⟩
  clear hR hl hv h6 h7 h1 hin hX
  obtain ⟨ns, hns⟩ : ∃ ns : Nat, c.st = (ns : Int) := ⟨c.st.toNat, by have := HST.out; omega⟩
  have HNS := Aside0.mk hns
  have hns2 : c.st.toNat = ns := by omega
  rw [hns2]
  have ega1 : IntKind.i64.wrap (1 - c.ga) = 1 - c.ga := by have := HST.out; rw [IntKind.wrap_i64]; omega
  have ega2 : IntKind.i64.wrap (c.ga - 1) = c.ga - 1 := by have := HST.out; rw [IntKind.wrap_i64]; omega
  obtain ⟨res, hres⟩ : ∃ res, strB c a (v : Int) ns 0 = res := ⟨_, rfl⟩
  have HRES := Aside0.mk hres
  clear hns hns2 hres
  go_enter Tryz.func35, Tryz.ntmps35
  go_upto_region 1 with (fail)
  rw [HX.out]
  obtain ⟨z0, z1, z2, z3, z4, z5, z6, z7, z8, z9, z10⟩ := box11 X1.out
  go_wp2_with (fail)
  go_loopg [9] ns (fun gg s9 wr => ∃ kk : Nat, kk ≤ ns ∧ ns - kk ≤ gg ∧ s9 = .int .i64 kk ∧ Aside0 (Below w1.heap.size w1 wr) ∧ Aside0 (strB c a (v : Int) (ns - kk) (kk : Int) = res))
  case atStart => exact ⟨0, Nat.zero_le _, by omega, rfl, HB, ⟨HRES.out⟩⟩
  case round =>
    obtain ⟨kk, hkk, hgg, rfl, BW, HRS⟩ := hrel
    clear HB z0 z1 z2 z3 z4 z5 z6 z7 z8 z9 z10
    have HB := BW
    clear BW
    by_cases hlt : kk < ns
    · have t1 : decide ((kk : Int) < c.st) = true := decide_eq_true (by have := HNS.out; omega)
      have e4 : IntKind.i64.wrap (4 + (kk : Int)) = 4 + (kk : Int) := by have := HST.out; have := HNS.out; rw [IntKind.wrap_i64]; omega
      have HKB : Aside0 (0 ≤ (kk : Int) ∧ (kk : Int) ≤ 1000) := ⟨by have := HST.out; have := HNS.out; omega⟩
      have HKQ : Aside0 (0 ≤ 4 + (kk : Int) ∧ 4 + (kk : Int) < 4 + c.st) := ⟨by have := HNS.out; omega⟩
      obtain ⟨j, hj⟩ : ∃ j : Nat, aLe c (v : Int) (kk : Int) = (j : Int) := ⟨(aLe c (v : Int) (kk : Int)).toNat, by have h1 := HIN.out; have h2 := HST.out; have h5 := HNS.out; unfold aLe; omega⟩
      have HJj := Aside0.mk hj
      have j0 : (0 : Int) ≤ (j : Int) := by omega
      have j1 : (j : Int) < (n : Int) := by have h1 := HIN.out; have h2 := HST.out; have h5 := HNS.out; have h3 := hnn.out; unfold aLe at hj; omega
      obtain ⟨adj, hAj, yj⟩ := HA.out.get j (by have h3 := hnn.out; omega)
      clear hj
      obtain ⟨l, hl⟩ : ∃ l, rd a (j : Int) = l := ⟨_, rfl⟩
      obtain ⟨y, hy⟩ : ∃ y, rd a (aCo c (v : Int) + (4 + (kk : Int))) = y := ⟨_, rfl⟩
      obtain ⟨z, hz⟩ : ∃ z, valP y = z := ⟨_, rfl⟩
      obtain ⟨b1, hb1⟩ : ∃ b1, decide (0 ≤ l ∧ l ≤ c.le) = b1 := ⟨_, rfl⟩
      obtain ⟨b2, hb2⟩ : ∃ b2, decide (1 - c.ga ≤ z ∧ z ≤ c.ga - 1) = b2 := ⟨_, rfl⟩
      have hcs := str_cases b1 b2 (strB c a (v : Int) (ns - kk - 1) ((kk : Int) + 1)) res (by
        rw [← HRS.out, show ns - kk = (ns - kk - 1) + 1 by omega, strB_step, HJj.out, hl, hy, hz, hb1, hb2]
        rfl)
      rw [hl] at yj
      have HYY := Aside0.mk hy
      have HZZ := Aside0.mk hz
      have HQ1 := Aside0.mk hb1
      have HQ2 := Aside0.mk hb2
      subst hAj
      have Klease : Aside0 (∀ W', Below w1.heap.size w1 W' → Calls Tryz.prog 64 #[.agg #[.int .i64 c.th, .int .i64 c.st, .int .i64 c.ga, .int .i64 c.le, .int .i64 c.re, .int .i64 c.ti, .slice A6 n6 d6, .slice A7 n7 d7], .int .i64 (v : Int), .int .i64 (kk : Int)] W' fun e w' => e = .returned (.int .i64 (j : Int)) ∧ Below W'.heap.size W' w') := ⟨fun W' hq => by rw [← HJj.out]; exact K_pLease c HR.out _ _ _ _ _ _ (v : Int) (kk : Int) HVB.out HKB.out _ (H6.out.below hq) (H7.out.below hq)⟩
      have Kwq : Aside0 (∀ W', Below w1.heap.size w1 W' → Calls Tryz.prog 62 #[.agg #[.int .i64 c.th, .int .i64 c.st, .int .i64 c.ga, .int .i64 c.le, .int .i64 c.re, .int .i64 c.ti, .slice A6 n6 d6, .slice A7 n7 d7, .slice (some adj) n d, .int .i64 (v : Int), .int .i64 (aCo c (v : Int))], .int .i64 (4 + (kk : Int))] W' fun e w' => e = .returned (.int .i64 y) ∧ Below W'.heap.size W' w') := ⟨fun W' hq => by rw [← HYY.out]; exact K_word c HR.out _ _ _ _ _ _ _ _ _ a HWL.out (v : Int) HVI.out (4 + (kk : Int)) HKQ.out _ (H6.out.below hq) (H7.out.below hq) (HA.out.below hq)⟩
      have Kvaly : Aside0 (∀ W', Below w1.heap.size w1 W' → Calls Tryz.prog 65 #[.int .i64 y] W' fun e w' => e = .returned (.int .i64 z) ∧ Below W'.heap.size W' w') := ⟨fun W' hq => by rw [← HZZ.out]; exact K_val _ _⟩
      have Kwil : Aside0 (∀ W', Below w1.heap.size w1 W' → Calls Tryz.prog 58 #[.int .i64 l, .int .i64 0, .int .i64 c.le] W' fun e w' => e = .returned (.bool b1) ∧ Below W'.heap.size W' w') := ⟨fun W' hq => by rw [← HQ1.out]; exact K_within _ _ _ _⟩
      have Kwiv : Aside0 (∀ W', Below w1.heap.size w1 W' → Calls Tryz.prog 58 #[.int .i64 z, .int .i64 (1 - c.ga), .int .i64 (c.ga - 1)] W' fun e w' => e = .returned (.bool b2) ∧ Below W'.heap.size W' w') := ⟨fun W' hq => by rw [← HQ2.out]; exact K_within _ _ _ _⟩
      have HRS2 : Aside0 (ns - (kk + 1) = ns - kk - 1) := ⟨by omega⟩
      have hgk := Aside0.mk hgg
      clear hl hy hz hb1 hb2 HYY HZZ HQ1 HQ2 HRS hgg
      rcases hcs with ⟨rfl, hr⟩ | ⟨rfl, rfl, hr⟩ | ⟨rfl, rfl, hr⟩
      all_goals
        replace hr := Aside0.mk hr
        go_upto_region 4 with (fail)
        obtain ⟨z0, z1, z2, z3, z4, z5, z6, z7, z8, z9, z10⟩ := box11 (blk_below X1.out HB.out)
        have q0 := cell_regrown z0
        have q1 := cell_regrown z1
        have q2 := cell_regrown z2
        have q3 := cell_regrown z3
        have q4 := cell_regrown z4
        have q5 := cell_regrown z5
        have q6 := cell_regrown z6
        have q7 := cell_regrown z7
        have q8 := cell_regrown z8
        have q9 := cell_regrown z9
        have q10 := cell_regrown z10
        clear z0 z1 z2 z3 z4 z5 z6 z7 z8 z9 z10
        have qyj := cell_regrown (below_cell_of HB.out yj)
        have hq := fun (d : Nat) (os : Array Obj) => HB.out.trans ((below_regrown wr d os).mono HB.out.size)
        have klease := fun (d : Nat) (os : Array Obj) => Calls.regrown_of (Klease.out _ (hq d os))
        replace hq := Aside0.mk hq
        refine wp_region_quiet_below (by kernel_rfl) (by kernel_rfl) ?_
        repeat (quiet_step (first | exact klease _ _))
        refine wpQuiet_nil ?_
        intro w2 hw'
        obtain ⟨⟨dq, osq⟩, hw''⟩ := hw'
        have HB' : Aside0 (Below w1.heap.size w1 w2) := ⟨by rw [hw'']; exact hq.out dq osq⟩
        clear hw'' hq HB q0 q1 q2 q3 q4 q5 q6 q7 q8 q9 q10 qyj klease
        have HB := HB'
        clear HB'
        obtain ⟨z0, z1, z2, z3, z4, z5, z6, z7, z8, z9, z10⟩ := box11 (blk_below X1.out HB.out)
        go_wp2_with (first | (go_at_call 58; (with_reducible refine (Kwiv.out _ ?_).mono ?_); exact (by with_reducible repeat (first | exact Below.refl _ _ | exact HB.out | apply below_drew1 | apply below_alloc)); rintro e w6 ⟨rfl, hb⟩; have HB' : Aside0 (Below w1.heap.size w1 w6) := ⟨below_step (by with_reducible repeat (first | exact Below.refl _ _ | exact HB.out | apply below_drew1 | apply below_alloc)) hb⟩; clear hb HB z0 z1 z2 z3 z4 z5 z6 z7 z8 z9 z10; have HB := HB'; clear HB'; obtain ⟨z0, z1, z2, z3, z4, z5, z6, z7, z8, z9, z10⟩ := box11 (blk_below X1.out HB.out)) | (go_at_call 58; (with_reducible refine (Kwil.out _ ?_).mono ?_); exact (by with_reducible repeat (first | exact Below.refl _ _ | exact HB.out | apply below_drew1 | apply below_alloc)); rintro e w5 ⟨rfl, hb⟩; have HB' : Aside0 (Below w1.heap.size w1 w5) := ⟨below_step (by with_reducible repeat (first | exact Below.refl _ _ | exact HB.out | apply below_drew1 | apply below_alloc)) hb⟩; clear hb HB z0 z1 z2 z3 z4 z5 z6 z7 z8 z9 z10; have HB := HB'; clear HB'; obtain ⟨z0, z1, z2, z3, z4, z5, z6, z7, z8, z9, z10⟩ := box11 (blk_below X1.out HB.out)) | (go_at_call 65; (with_reducible refine (Kvaly.out _ ?_).mono ?_); exact (by with_reducible repeat (first | exact Below.refl _ _ | exact HB.out | apply below_drew1 | apply below_alloc)); rintro e w4 ⟨rfl, hb⟩; have HB' : Aside0 (Below w1.heap.size w1 w4) := ⟨below_step (by with_reducible repeat (first | exact Below.refl _ _ | exact HB.out | apply below_drew1 | apply below_alloc)) hb⟩; clear hb HB z0 z1 z2 z3 z4 z5 z6 z7 z8 z9 z10; have HB := HB'; clear HB'; obtain ⟨z0, z1, z2, z3, z4, z5, z6, z7, z8, z9, z10⟩ := box11 (blk_below X1.out HB.out)) | (go_at_call 62; (with_reducible refine (Kwq.out _ ?_).mono ?_); exact (by with_reducible repeat (first | exact Below.refl _ _ | exact HB.out | apply below_drew1 | apply below_alloc)); rintro e w3 ⟨rfl, hb⟩; have HB' : Aside0 (Below w1.heap.size w1 w3) := ⟨below_step (by with_reducible repeat (first | exact Below.refl _ _ | exact HB.out | apply below_drew1 | apply below_alloc)) hb⟩; clear hb HB z0 z1 z2 z3 z4 z5 z6 z7 z8 z9 z10; have HB := HB'; clear HB'; obtain ⟨z0, z1, z2, z3, z4, z5, z6, z7, z8, z9, z10⟩ := box11 (blk_below X1.out HB.out)))
      · go_ret
        exact ⟨by first | (rw [HRES.out, hr.out]; done) | (rw [HRES.out, hr.out]; rfl), B1.out.trans (Below.mono (by with_reducible repeat (first | exact Below.refl _ _ | exact HB.out | apply below_drew1 | apply below_alloc)) B1.out.size)⟩
      · go_ret
        exact ⟨by first | (rw [HRES.out, hr.out]; done) | (rw [HRES.out, hr.out]; rfl), B1.out.trans (Below.mono (by with_reducible repeat (first | exact Below.refl _ _ | exact HB.out | apply below_drew1 | apply below_alloc)) B1.out.size)⟩
      · go_roundg (ns - (kk + 1))
        case measure => have := hgk.out; omega
        case rel => exact ⟨kk + 1, by omega, by omega, congrArg (Value.int .i64) (by have := HST.out; have := HNS.out; rw [w64 (by omega) (by omega)]; omega), ⟨(by with_reducible repeat (first | exact Below.refl _ _ | exact HB.out | apply below_drew1 | apply below_alloc))⟩, ⟨by rw [HRS2.out]; exact hr.out.symm⟩⟩
    · have t1 : decide ((kk : Int) < c.st) = false := decide_eq_false (by have := HNS.out; omega)
      have hr : Aside0 (res = true) := ⟨by rw [← HRS.out, show ns - kk = 0 by omega]; rfl⟩
      go_wp2_with (fail)
      go_ret
      exact ⟨by first | (rw [HRES.out, hr.out]; done) | (rw [HRES.out, hr.out]; rfl), B1.out.trans (Below.mono (by with_reducible repeat (first | exact Below.refl _ _ | exact HB.out | apply below_drew1 | apply below_alloc)) B1.out.size)⟩
end
section
set_option maxRecDepth 100000 in
theorem K_limits (c : LConf) (hR : Right c) (A6 : Option Addr) (n6 d6 : Nat) (A7 : Option Addr) (n7 d7 : Nat) (A : Option Addr) (n d : Nat) (a : List Int) (hl : WL c a) (v : Nat) (hv : v < c.ps.length) (W : World) (h6 : IsInts W (.slice A6 n6 d6) c.ps) (h7 : IsInts W (.slice A7 n7 d7) c.ls) (h1 : IsInts W (.slice A n d) a) :
    Calls Tryz.prog 33 #[.agg #[.int .i64 c.th, .int .i64 c.st, .int .i64 c.ga, .int .i64 c.le, .int .i64 c.re, .int .i64 c.ti, .slice A6 n6 d6, .slice A7 n7 d7, .slice A n d, .int .i64 (v : Int), .int .i64 (aCo c (v : Int))]] W fun e w' => e = .returned (.bool (limB c a (v : Int))) ∧ Below W.heap.size W w' := by
  obtain ⟨A6', c6, e6, hc6, hr6⟩ := h6
  obtain ⟨A7', c7, e7, hc7, hr7⟩ := h7
  obtain ⟨A1', c1, e1, hc1, hr1⟩ := h1
  cases e6
  cases e7
  cases e1
  exact audit_limits.calls _ _ _ _ _ _ A6 d6 c.ps A7 d7 c.ls A d a _ _ _ W hr6 hc6 hr7 hc7 hr1 hc1 (lim_f c hR hl (v : Int) (by omega) _)
set_option maxRecDepth 100000 in
theorem K_rests (c : LConf) (hR : Right c) (A6 : Option Addr) (n6 d6 : Nat) (A7 : Option Addr) (n7 d7 : Nat) (A : Option Addr) (n d : Nat) (a : List Int) (hl : WL c a) (v : Nat) (hv : v < c.ps.length) (W : World) (h6 : IsInts W (.slice A6 n6 d6) c.ps) (h7 : IsInts W (.slice A7 n7 d7) c.ls) (h1 : IsInts W (.slice A n d) a) :
    Calls Tryz.prog 37 #[.agg #[.int .i64 c.th, .int .i64 c.st, .int .i64 c.ga, .int .i64 c.le, .int .i64 c.re, .int .i64 c.ti, .slice A6 n6 d6, .slice A7 n7 d7, .slice A n d, .int .i64 (v : Int), .int .i64 (aCo c (v : Int))]] W fun e w' => e = .returned (.bool (rstB c a (v : Int))) ∧ Below W.heap.size W w' := by
  obtain ⟨A6', c6, e6, hc6, hr6⟩ := h6
  obtain ⟨A7', c7, e7, hc7, hr7⟩ := h7
  obtain ⟨A1', c1, e1, hc1, hr1⟩ := h1
  cases e6
  cases e7
  cases e1
  exact audit_rests.calls 100 _ _ _ _ _ _ A6 d6 c.ps A7 d7 c.ls A d a _ _ _ W hr6 hc6 hr7 hc7 hr1 hc1 (rst_f c hR hl (v : Int) (by omega) (by decide))
end
section
/-- what is asked of a node. -/
def gAsk (c : LConf) (a : List Int) (f : Nat) (v at_ : Int) : Option Bool :=
  if 0 ≤ v ∧ v < (c.ps.length : Int) ∧ at_ = aCo c v then some (if f = 33 then limB c a v else if f = 34 then livB c a v else if f = 35 then strB c a v c.st.toNat 0 else rstB c a v) else none
theorem gAsk_in {c : LConf} {a : List Int} {f : Nat} {v : Int} (h0 : 0 ≤ v) (h1 : v < (c.ps.length : Int)) : gAsk c a f v (aCo c v) = some (if f = 33 then limB c a v else if f = 34 then livB c a v else if f = 35 then strB c a v c.st.toNat 0 else rstB c a v) := if_pos ⟨h0, h1, rfl⟩
theorem gAsk_calls (c : LConf) (hR : Right c) (a : List Int) (hl : WL c a) (A6 : Option Addr) (d6 : Nat) (A7 : Option Addr) (d7 : Nat) (A1 : Option Addr) (d1 : Nat) (w : World) (h6 : IsInts w (.slice A6 c.ps.length d6) c.ps) (h7 : IsInts w (.slice A7 c.ls.length d7) c.ls) (h1 : IsInts w (.slice A1 a.length d1) a)
    (f : Nat) (hf : f = 33 ∨ f = 34 ∨ f = 35 ∨ f = 37) (v at_ : Int) (b : Bool) (W : World) (hB : Below w.heap.size w W) (hg : gAsk c a f v at_ = some b) :
    Calls Tryz.prog f #[.agg #[.int .i64 c.th, .int .i64 c.st, .int .i64 c.ga, .int .i64 c.le, .int .i64 c.re, .int .i64 c.ti, .slice A6 c.ps.length d6, .slice A7 c.ls.length d7, .slice A1 a.length d1, .int .i64 v, .int .i64 at_]] W fun e w' => e = .returned (.bool b) ∧ Below W.heap.size W w' := by
  unfold gAsk at hg
  split at hg
  case isFalse => cases hg
  rename_i hv
  obtain ⟨h0, h2, rfl⟩ := hv
  obtain ⟨v, rfl⟩ := Int.eq_ofNat_of_zero_le h0
  have hv : v < c.ps.length := by omega
  rcases hf with rfl | rfl | rfl | rfl
  · obtain rfl : limB c a (v : Int) = b := Option.some.inj hg
    exact K_limits c hR A6 _ d6 A7 _ d7 A1 _ d1 a hl v hv W (h6.below hB) (h7.below hB) (h1.below hB)
  · obtain rfl : livB c a (v : Int) = b := Option.some.inj hg
    exact K_lives c hR A6 _ d6 A7 _ d7 A1 _ d1 a hl v hv W (h6.below hB) (h7.below hB) (h1.below hB)
  · obtain rfl : strB c a (v : Int) c.st.toNat 0 = b := Option.some.inj hg
    exact K_stripes c hR A6 _ d6 A7 _ d7 A1 _ d1 a hl v hv W (h6.below hB) (h7.below hB) (h1.below hB)
  · obtain rfl : rstB c a (v : Int) = b := Option.some.inj hg
    exact K_rests c hR A6 _ d6 A7 _ d7 A1 _ d1 a hl v hv W (h6.below hB) (h7.below hB) (h1.below hB)
theorem first_safe (c : LConf) (hR : Right c) (a : List Int) : firstL (plan_Counter.f c.th c.st c.ga c.le c.re c.ti c.ps c.ls) (gAsk c a) [33, 34, 35] c.ps.length 0 = some (safeP c a) := by
  have h2 := hR.cb.2.1
  refine firstL_f (cn := aCo c) _ _ fun u hu hv => ⟨plan_Counter_a c hR.cb u (by omega), ?_⟩
  have g1 : gAsk c a 33 u (aCo c u) = some (limB c a u) := gAsk_in hu (by omega)
  have g2 : gAsk c a 34 u (aCo c u) = some (livB c a u) := gAsk_in hu (by omega)
  have g3 : gAsk c a 35 u (aCo c u) = some (strB c a u c.st.toNat 0) := gAsk_in hu (by omega)
  simp only [allG, g1, g2, g3, Option.bind_some, safB]
  cases limB c a u <;> cases livB c a u <;> cases strB c a u c.st.toNat 0 <;> rfl
theorem first_quiet (c : LConf) (hR : Right c) (a : List Int) : firstL (plan_Counter.f c.th c.st c.ga c.le c.re c.ti c.ps c.ls) (gAsk c a) [37] c.ps.length 0 = some (fstP (rstB c a) c.ps.length 0) := by
  have h2 := hR.cb.2.1
  refine firstL_f (cn := aCo c) _ _ fun u hu hv => ⟨plan_Counter_a c hR.cb u (by omega), ?_⟩
  have g1 : gAsk c a 37 u (aCo c u) = some (rstB c a u) := gAsk_in hu (by omega)
  simp only [allG, g1, Option.bind_some]
  cases rstB c a u <;> rfl
end
section
set_option maxRecDepth 100000 in
set_option maxHeartbeats 4000000 in
theorem K_Safe' (c : LConf) (hR : Right c) (a : List Int) (hl : WL c a) (A0_6 : Option Addr) (c0_6 : Nat) (A0_7 : Option Addr) (c0_7 : Nat) (A1 : Option Addr) (c1 : Nat) (w : World) (hr0_6 : Kd.C (Kd.int .i64) w A0_6 c.ps.length c.ps) (hc0_6 : c.ps.length ≤ c0_6) (hr0_7 : Kd.C (Kd.int .i64) w A0_7 c.ls.length c.ls) (hc0_7 : c.ls.length ≤ c0_7) (hr1 : Kd.C (Kd.int .i64) w A1 a.length a) (hc1 : a.length ≤ c1) :
    Calls Tryz.prog 13 #[.agg #[.int .i64 c.th, .int .i64 c.st, .int .i64 c.ga, .int .i64 c.le, .int .i64 c.re, .int .i64 c.ti, .slice A0_6 c.ps.length c0_6, .slice A0_7 c.ls.length c0_7], .slice A1 a.length c1] w fun e w' => e = .returned (.int .i64 (safeP c a)) ∧ Below w.heap.size w w' := by
  have hu := Tryz.underlying24
  have hlen : c.ps.length < 1000000 := by have := hR.cb.2.1; omega
  have h := first_safe c hR a
  obtain ⟨r, hr⟩ : ∃ r, safeP c a = r := ⟨_, rfl⟩
  rw [hr] at h ⊢
  have hG : ∀ f ∈ ([33, 34, 35] : List Nat), ∀ (v at_ : Int) (b : Bool) (W : World), Below w.heap.size w W → gAsk c a f v at_ = some b → Calls Tryz.prog f #[.agg #[.int .i64 c.th, .int .i64 c.st, .int .i64 c.ga, .int .i64 c.le, .int .i64 c.re, .int .i64 c.ti, .slice A0_6 c.ps.length c0_6, .slice A0_7 c.ls.length c0_7, .slice A1 a.length c1, .int .i64 v, .int .i64 at_]] W fun e w' => e = .returned (.bool b) ∧ Below W.heap.size W w' := by
    intro f hf v at_ b W hB hg
    exact gAsk_calls c hR a hl A0_6 c0_6 A0_7 c0_7 A1 c1 w ⟨A0_6, c0_6, rfl, hc0_6, hr0_6⟩ ⟨A0_7, c0_7, rfl, hc0_7, hr0_7⟩ ⟨A1, c1, rfl, hc1, hr1⟩ f (by simp only [List.mem_cons, List.not_mem_nil, or_false] at hf; omega) v at_ b W hB hg
  have HH := Aside0.mk h
  have HG := Aside0.mk hG
  have H6 := Aside0.mk hr0_6
  have H7 := Aside0.mk hr0_7
  have HL := Aside0.mk hlen
  clear h hG hr0_6 hr0_7 hr1 hlen
  go_enter Tryz.func13, Tryz.ntmps13
  go_wp2_with (fail)
  have hB2 : Below w.heap.size w ((w.alloc (.cells #[.int .i64 c.th, .int .i64 c.st, .int .i64 c.ga, .int .i64 c.le, .int .i64 c.re, .int .i64 c.ti, .slice A0_6 c.ps.length c0_6, .slice A0_7 c.ls.length c0_7] 24)).alloc (.cells #[.func (.func 33) #[] #[], .func (.func 34) #[] #[], .func (.func 35) #[] #[]] 64)) := ((Below.refl _ w).alloc (Nat.le_refl _) _).alloc (by simp) _
  have hbk : ((w.alloc (.cells #[.int .i64 c.th, .int .i64 c.st, .int .i64 c.ga, .int .i64 c.le, .int .i64 c.re, .int .i64 c.ti, .slice A0_6 c.ps.length c0_6, .slice A0_7 c.ls.length c0_7] 24)).alloc (.cells #[.func (.func 33) #[] #[], .func (.func 34) #[] #[], .func (.func 35) #[] #[]] 64)).heap[w.heap.size + 1]? = some (.cells #[.func (.func 33) #[] #[], .func (.func 34) #[] #[], .func (.func 35) #[] #[]] 64 (0, 0)) := by simpa using blk_new (w.alloc _) (.cells #[.func (.func 33) #[] #[], .func (.func 34) #[] #[], .func (.func 35) #[] #[]] 64)
  generalize ((w.alloc (.cells #[.int .i64 c.th, .int .i64 c.st, .int .i64 c.ga, .int .i64 c.le, .int .i64 c.re, .int .i64 c.ti, .slice A0_6 c.ps.length c0_6, .slice A0_7 c.ls.length c0_7] 24)).alloc (.cells #[.func (.func 33) #[] #[], .func (.func 34) #[] #[], .func (.func 35) #[] #[]] 64)) = W2 at hB2 hbk ⊢
  refine (first3_calls (gAsk c a) c.th c.st c.ga c.le c.re c.ti A0_6 c0_6 c.ps A0_7 c0_7 c.ls A1 c1 a ⟨w.heap.size + 1, 0, none⟩ 3 r W2 (Kd.C_below H6.out hB2) hc0_6 (Kd.C_below H7.out hB2) hc0_7 HL.out (fun i f hf => ?_) (fun f hf v at_ b W hB hg => HG.out f hf v at_ b W (hB2.trans (hB.mono hB2.size)) hg) HH.out).mono ?_
  · have hc := blk_cell hbk i
    rw [Addr.add_mid, Nat.zero_add, hc]
    match i, hf with
    | 0, hf => cases hf; rfl
    | 1, hf => cases hf; rfl
    | 2, hf => cases hf; rfl
  · rintro e w3 ⟨rfl, hb⟩
    go_wp2
    go_ret
    exact ⟨rfl, hB2.trans (hb.mono hB2.size)⟩
set_option maxRecDepth 100000 in
set_option maxHeartbeats 4000000 in
theorem K_Quiet' (c : LConf) (hR : Right c) (a : List Int) (hl : WL c a) (A0_6 : Option Addr) (c0_6 : Nat) (A0_7 : Option Addr) (c0_7 : Nat) (A1 : Option Addr) (c1 : Nat) (w : World) (hr0_6 : Kd.C (Kd.int .i64) w A0_6 c.ps.length c.ps) (hc0_6 : c.ps.length ≤ c0_6) (hr0_7 : Kd.C (Kd.int .i64) w A0_7 c.ls.length c.ls) (hc0_7 : c.ls.length ≤ c0_7) (hr1 : Kd.C (Kd.int .i64) w A1 a.length a) (hc1 : a.length ≤ c1) :
    Calls Tryz.prog 15 #[.agg #[.int .i64 c.th, .int .i64 c.st, .int .i64 c.ga, .int .i64 c.le, .int .i64 c.re, .int .i64 c.ti, .slice A0_6 c.ps.length c0_6, .slice A0_7 c.ls.length c0_7], .slice A1 a.length c1] w fun e w' => e = .returned (.int .i64 (quietP c a)) ∧ Below w.heap.size w w' := by
  have hu := Tryz.underlying24
  have hlen : c.ps.length < 1000000 := by have := hR.cb.2.1; omega
  obtain ⟨s, hs⟩ : ∃ s, safeP c a = s := ⟨_, rfl⟩
  obtain ⟨r, hr⟩ : ∃ r, quietP c a = r := ⟨_, rfl⟩
  have h : (if s ≥ 0 then some s else some (fstP (rstB c a) c.ps.length 0)) = some r := by
    rw [← hr, ← hs]
    unfold quietP
    split <;> rfl
  rw [hr]
  have hB0 : Below w.heap.size w (w.alloc (.cells #[.int .i64 c.th, .int .i64 c.st, .int .i64 c.ga, .int .i64 c.le, .int .i64 c.re, .int .i64 c.ti, .slice A0_6 c.ps.length c0_6, .slice A0_7 c.ls.length c0_7] 24)) := (Below.refl _ w).alloc (Nat.le_refl _) _
  have hbc : (w.alloc (.cells #[.int .i64 c.th, .int .i64 c.st, .int .i64 c.ga, .int .i64 c.le, .int .i64 c.re, .int .i64 c.ti, .slice A0_6 c.ps.length c0_6, .slice A0_7 c.ls.length c0_7] 24)).heap[w.heap.size]? = some (.cells #[.int .i64 c.th, .int .i64 c.st, .int .i64 c.ga, .int .i64 c.le, .int .i64 c.re, .int .i64 c.ti, .slice A0_6 c.ps.length c0_6, .slice A0_7 c.ls.length c0_7] 24 (0, 0)) := blk_new w _
  have KS := Aside0.mk (K_Safe' c hR a hl A0_6 c0_6 A0_7 c0_7 A1 c1 (w.alloc (.cells #[.int .i64 c.th, .int .i64 c.st, .int .i64 c.ga, .int .i64 c.le, .int .i64 c.re, .int .i64 c.ti, .slice A0_6 c.ps.length c0_6, .slice A0_7 c.ls.length c0_7] 24)) (Kd.C_below hr0_6 hB0) hc0_6 (Kd.C_below hr0_7 hB0) hc0_7 (Kd.C_below hr1 hB0) hc1)
  rw [hs] at KS
  have hG : ∀ f ∈ ([37] : List Nat), ∀ (v at_ : Int) (b : Bool) (W : World), Below w.heap.size w W → gAsk c a f v at_ = some b → Calls Tryz.prog f #[.agg #[.int .i64 c.th, .int .i64 c.st, .int .i64 c.ga, .int .i64 c.le, .int .i64 c.re, .int .i64 c.ti, .slice A0_6 c.ps.length c0_6, .slice A0_7 c.ls.length c0_7, .slice A1 a.length c1, .int .i64 v, .int .i64 at_]] W fun e w' => e = .returned (.bool b) ∧ Below W.heap.size W w' := by
    intro f hf v at_ b W hB hg
    exact gAsk_calls c hR a hl A0_6 c0_6 A0_7 c0_7 A1 c1 w ⟨A0_6, c0_6, rfl, hc0_6, hr0_6⟩ ⟨A0_7, c0_7, rfl, hc0_7, hr0_7⟩ ⟨A1, c1, rfl, hc1, hr1⟩ f (by simp only [List.mem_cons, List.not_mem_nil, or_false] at hf; omega) v at_ b W hB hg
  have HH := Aside0.mk h
  have HG := Aside0.mk hG
  have H6 := Aside0.mk hr0_6
  have H7 := Aside0.mk hr0_7
  have HB0 := Aside0.mk hB0
  have HBC := Aside0.mk hbc
  clear h hG hr0_6 hr0_7 hr1 hB0 hbc hs hr
  by_cases hs0 : s ≥ 0
  · have hsb : decide (0 ≤ s) = true := decide_eq_true hs0
    have e := HH.out
    rw [if_pos hs0] at e
    cases e
    go_enter Tryz.func15, Tryz.ntmps15
    go_wp2_with (go_at_call 13; (with_reducible refine KS.out.mono ?_); rintro e w1 ⟨rfl, hb⟩)
    go_ret
    exact ⟨rfl, HB0.out.trans (hb.mono HB0.out.size)⟩
  · have hsb : decide (0 ≤ s) = false := decide_eq_false hs0
    have e := HH.out
    rw [if_neg hs0] at e
    have HE := Aside0.mk ((first_quiet c hR a).trans e)
    have HL := Aside0.mk hlen
    clear e
    go_enter Tryz.func15, Tryz.ntmps15
    go_wp2_with (go_at_call 13; (with_reducible refine KS.out.mono ?_); rintro e w1 ⟨rfl, hb⟩; have hbc1 := (hb.block _ (blk_lt HBC.out)).trans HBC.out; have f0 : w1.cell? ⟨w.heap.size, 0, none⟩ = some (.int .i64 c.th) := (blk_cell hbc1 0).trans rfl; have f1 : w1.cell? ⟨w.heap.size, 1, none⟩ = some (.int .i64 c.st) := (blk_cell hbc1 1).trans rfl; have f2 : w1.cell? ⟨w.heap.size, 2, none⟩ = some (.int .i64 c.ga) := (blk_cell hbc1 2).trans rfl; have f3 : w1.cell? ⟨w.heap.size, 3, none⟩ = some (.int .i64 c.le) := (blk_cell hbc1 3).trans rfl; have f4 : w1.cell? ⟨w.heap.size, 4, none⟩ = some (.int .i64 c.re) := (blk_cell hbc1 4).trans rfl; have f5 : w1.cell? ⟨w.heap.size, 5, none⟩ = some (.int .i64 c.ti) := (blk_cell hbc1 5).trans rfl; have f6 : w1.cell? ⟨w.heap.size, 6, none⟩ = some (.slice A0_6 c.ps.length c0_6) := (blk_cell hbc1 6).trans rfl; have f7 : w1.cell? ⟨w.heap.size, 7, none⟩ = some (.slice A0_7 c.ls.length c0_7) := (blk_cell hbc1 7).trans rfl)
    have hB1 : Below w.heap.size w w1 := HB0.out.trans (hb.mono HB0.out.size)
    have hB2 : Below w.heap.size w (w1.alloc (.cells #[.func (.func 37) #[] #[]] 64)) := hB1.alloc hB1.size _
    have hbk : (w1.alloc (.cells #[.func (.func 37) #[] #[]] 64)).heap[w1.heap.size]? = some (.cells #[.func (.func 37) #[] #[]] 64 (0, 0)) := blk_new w1 _
    generalize (w1.alloc (.cells #[.func (.func 37) #[] #[]] 64)) = W2 at hB2 hbk ⊢
    generalize w1.heap.size = nb at hbk ⊢
    refine (first1_calls (gAsk c a) c.th c.st c.ga c.le c.re c.ti A0_6 c0_6 c.ps A0_7 c0_7 c.ls A1 c1 a ⟨nb, 0, none⟩ 1 r W2 (Kd.C_below H6.out hB2) hc0_6 (Kd.C_below H7.out hB2) hc0_7 HL.out (fun i f hf => ?_) (fun f hf v at_ b W hB hg => HG.out f hf v at_ b W (hB2.trans (hB.mono hB2.size)) hg) HE.out).mono ?_
    · have hc := blk_cell hbk i
      rw [Addr.add_mid, Nat.zero_add, hc]
      match i, hf with
      | 0, hf => cases hf; rfl
    · rintro e w3 ⟨rfl, hb3⟩
      go_wp2
      go_ret
      exact ⟨rfl, hB2.trans (hb3.mono hB2.size)⟩
theorem K_aSafe (W : World) (c : LConf) (hR : Right c) (v6 v7 v1 : Value) (a : List Int) (hl : WL c a) (h6 : IsInts W v6 c.ps) (h7 : IsInts W v7 c.ls) (h1 : IsInts W v1 a) :
    Calls Tryz.prog 13 #[.agg #[.int .i64 c.th, .int .i64 c.st, .int .i64 c.ga, .int .i64 c.le, .int .i64 c.re, .int .i64 c.ti, v6, v7], v1] W fun e w' => e = .returned (.int .i64 (safeP c a)) ∧ Below W.heap.size W w' := by
  obtain ⟨A6, c6, rfl, hc6, hr6⟩ := h6
  obtain ⟨A7, c7, rfl, hc7, hr7⟩ := h7
  obtain ⟨A1, c1, rfl, hc1, hr1⟩ := h1
  exact K_Safe' c hR a hl A6 c6 A7 c7 A1 c1 W hr6 hc6 hr7 hc7 hr1 hc1
theorem K_aQuiet (W : World) (c : LConf) (hR : Right c) (v6 v7 v1 : Value) (a : List Int) (hl : WL c a) (h6 : IsInts W v6 c.ps) (h7 : IsInts W v7 c.ls) (h1 : IsInts W v1 a) :
    Calls Tryz.prog 15 #[.agg #[.int .i64 c.th, .int .i64 c.st, .int .i64 c.ga, .int .i64 c.le, .int .i64 c.re, .int .i64 c.ti, v6, v7], v1] W fun e w' => e = .returned (.int .i64 (quietP c a)) ∧ Below W.heap.size W w' := by
  obtain ⟨A6, c6, rfl, hc6, hr6⟩ := h6
  obtain ⟨A7, c7, rfl, hc7, hr7⟩ := h7
  obtain ⟨A1, c1, rfl, hc1, hr1⟩ := h1
  exact K_Quiet' c hR a hl A6 c6 A7 c7 A1 c1 W hr6 hc6 hr7 hc7 hr1 hc1
end
end Go.Proofs.YthbaamfdpebocaaGreat.PA
