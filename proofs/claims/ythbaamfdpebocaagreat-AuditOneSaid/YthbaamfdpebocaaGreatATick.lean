import Derived.Test.YthbaamfdpebocaaGreatPAx2
import Derived.Test.YthbaamfdpebocaaGreatPAx1
import Derived.Test.YthbaamfdpebocaaGreatPAx7
import Derived.Test.YthbaamfdpebocaaGreatPAx9
import Derived.RangeFuncNested
import Derived.RangeFuncBound
import Derived.RangeFuncCalls
import Derived.RangeFuncLeaves
import Derived.RangeFuncBox
import Derived.Shelf.Abstract
import Derived.Shelf.RegionOpen
import Derived.OwnWalkIn
import Derived.TacticsInMore
import Derived.LoopNIn
import Derived.LoopIn
import Derived.Lib.QuietBelow
import Derived.Deep.RegionHeld3
import Derived.Deep.RegionLaw
import Derived.Laws.CopyOwn
import Derived.Laws.EntriesVeiled
import Derived.Deep.DeepCutAuto
import Derived.Deep.MidRow
import Derived.Deep.Heap
import Derived.Lib.SmallJoins
namespace Go.Proofs.YthbaamfdpebocaaGreat.PA
open Go.RowKit Go.Shelf Go.Proofs.YthbaamfdpebocaaGreatW.PrintWords Go.Proofs.YthbaamfdpebocaaGreatW.PrintLast Go.Proofs.YthbaamfdpebocaaGreatW.PrintMore
attribute [local go_sem] max2_int min2_int max_two min_two max_three min_three max_four min_four
set_option linter.unusedVariables false
set_option linter.unusedSimpArgs false
section
def bump (o : List Int) (s : Int) : List Int := if s < 0 then o else o.set s.toNat (wrap64 (o.getD s.toNat 0 + 1))
def tickW (w : World) (b : Nat) (o : List Int) (s : Int) : World := if s < 0 then w else w.setCell ⟨b, s.toNat, none⟩ (.int .i64 (wrap64 (o.getD s.toNat 0 + 1)))
set_option maxRecDepth 100000 in
set_option maxHeartbeats 2000000 in
theorem tick1_calls (s : Int) (b : Nat) (o0 o1 o2 o3 : Int) (w : World) (hs : s < 4) (hb : w.heap[b]? = some (.cells #[.int .i64 o0, .int .i64 o1, .int .i64 o2, .int .i64 o3] 29 (0, 0))) :
    Calls Tryz.prog 41 #[.int .i64 s, .pointer (some ⟨b, 0, none⟩)] w fun e w' => (∃ v, e = .returned v) ∧ w' = tickW w b [o0, o1, o2, o3] s := by
  have c0 : w.cell? ⟨b, 0, none⟩ = some (.int .i64 o0) := (blk_cell hb 0).trans rfl
  have c1 : w.cell? ⟨b, 1, none⟩ = some (.int .i64 o1) := (blk_cell hb 1).trans rfl
  have c2 : w.cell? ⟨b, 2, none⟩ = some (.int .i64 o2) := (blk_cell hb 2).trans rfl
  have c3 : w.cell? ⟨b, 3, none⟩ = some (.int .i64 o3) := (blk_cell hb 3).trans rfl
  have z0 := blk_frozen hb 0
  have z1 := blk_frozen hb 1
  have z2 := blk_frozen hb 2
  have z3 := blk_frozen hb 3
  by_cases h0 : s < 0
  · have hd : decide (0 ≤ s) = false := decide_eq_false (by omega)
    go_enter Tryz.func41, Tryz.ntmps41
    go_wp2
    go_end0
    exact ⟨⟨_, rfl⟩, by unfold tickW; rw [if_pos h0]⟩
  · obtain rfl | rfl | rfl | rfl : s = 0 ∨ s = 1 ∨ s = 2 ∨ s = 3 := by omega
    all_goals
      go_enter Tryz.func41, Tryz.ntmps41
      go_wp2
      go_end0
      exact ⟨⟨_, rfl⟩, rfl⟩
end
section
def ticks (pt st : Int → Option Int) (l : List Int) : Nat → Int → List Int → Option (List Int)
  | 0, _, o => some o
  | n + 1, k, o => (pt k).bind fun i => if 0 ≤ i then (if i < (l.length : Int) then (st (rd l i)).bind fun s => if s < 4 then ticks pt st l n (k + 1) (bump o s) else none else none) else none
theorem tickW_blk {w : World} {b : Nat} {o0 o1 o2 o3 s : Int} (hs : s < 4) (hb : w.heap[b]? = some (.cells #[.int .i64 o0, .int .i64 o1, .int .i64 o2, .int .i64 o3] 29 (0, 0))) : ∃ q0 q1 q2 q3, bump [o0, o1, o2, o3] s = [q0, q1, q2, q3] ∧ (tickW w b [o0, o1, o2, o3] s).heap[b]? = some (.cells #[.int .i64 q0, .int .i64 q1, .int .i64 q2, .int .i64 q3] 29 (0, 0)) := by
  by_cases h0 : s < 0
  · exact ⟨o0, o1, o2, o3, if_pos h0, by unfold tickW; rw [if_pos h0]; exact hb⟩
  · have h := fun i v => Joins.block_setCell (i := i) hb v
    obtain rfl | rfl | rfl | rfl : s = 0 ∨ s = 1 ∨ s = 2 ∨ s = 3 := by omega
    · exact ⟨_, o1, o2, o3, rfl, h 0 _⟩
    · exact ⟨o0, _, o2, o3, rfl, h 1 _⟩
    · exact ⟨o0, o1, _, o3, rfl, h 2 _⟩
    · exact ⟨o0, o1, o2, _, rfl, h 3 _⟩
theorem tickW_other {w : World} {b : Nat} {o : List Int} {s : Int} {k : Nat} (h : k ≠ b) : (tickW w b o s).heap[k]? = w.heap[k]? := by
  unfold tickW; split
  · rfl
  · exact Below.heap_setCell w _ _ k h
theorem tickW_below {B : Nat} {a w : World} {b : Nat} {o : List Int} {s : Int} (h : Below B a w) (hb : B ≤ b) : Below B a (tickW w b o s) := by
  unfold tickW; split
  · exact h
  · exact h.setCell hb _
theorem tickW_size {w : World} {b : Nat} {o : List Int} {s : Int} : (tickW w b o s).heap.size = w.heap.size := by
  unfold tickW; split
  · rfl
  · simp
theorem get_cons4 {α : Type} {a b c d a' b' c' d' : α} (h : [a, b, c, d] = [a', b', c', d']) : a = a' ∧ b = b' ∧ c = c' ∧ d = d' := by simpa using h
theorem cells4 {w : World} {b : Nat} {a0 a1 a2 a3 : Value} {t : TypeId} (h : w.heap[b]? = some (.cells #[a0, a1, a2, a3] t (0, 0))) (u0 u1 u2 u3 : Value) : ((((w.setCell ⟨b, 0, none⟩ u0).setCell ⟨b, 1, none⟩ u1).setCell ⟨b, 2, none⟩ u2).setCell ⟨b, 3, none⟩ u3).heap[b]? = some (.cells #[u0, u1, u2, u3] t (0, 0)) :=
  (Joins.block_setCell (i := 3) ((Joins.block_setCell (i := 2) ((Joins.block_setCell (i := 1) ((Joins.block_setCell (i := 0) h u0)) u1)) u2)) u3).trans rfl
theorem meas_tick {v : Nat} {x : Int} {k : Int} (h : x = ((v + 1 : Nat) : Int)) (hv : ((v + 1 : Nat) : Int) ≤ k) : (k - intOf (Value.int .i64 x)).toNat < (k - intOf (Value.int .i64 (v : Int))).toNat := by subst h; simp only [intOf]; omega
def audit_Tickets.f (a0_0 : Int) (a0_1 : Int) (a0_2 : Int) (a0_3 : Int) (a0_4 : Int) (a0_5 : Int) (l0_6 l0_7 l1 : List Int) : Option (List Int) := if a0_5 < 1000000 then ticks (plan_Ticket.f a0_0 a0_1 a0_2 a0_3 a0_4 a0_5 l0_6 l0_7) slot_State.f l1 a0_5.toNat 0 [0, 0, 0, 0] else none
set_option maxRecDepth 100000 in
set_option maxHeartbeats 8000000 in
theorem audit_Tickets.calls (a0_0 : Int) (a0_1 : Int) (a0_2 : Int) (a0_3 : Int) (a0_4 : Int) (a0_5 : Int) (A0_6 : Option Addr) (c0_6 : Nat) (l0_6 : List Int) (A0_7 : Option Addr) (c0_7 : Nat) (l0_7 : List Int) (A1 : Option Addr) (c1 : Nat) (l1 : List Int) (p0 p1 p2 p3 : Int) (w : World) (hr0_6 : Kd.C (Kd.int .i64) w A0_6 l0_6.length l0_6) (hc0_6 : l0_6.length ≤ c0_6) (hr0_7 : Kd.C (Kd.int .i64) w A0_7 l0_7.length l0_7) (hc0_7 : l0_7.length ≤ c0_7) (hr1 : Kd.C (Kd.int .i64) w A1 l1.length l1) (hc1 : l1.length ≤ c1) (h : audit_Tickets.f a0_0 a0_1 a0_2 a0_3 a0_4 a0_5 l0_6 l0_7 l1 = some [p0, p1, p2, p3]) :
    Calls Tryz.prog 17 #[.agg #[.int .i64 a0_0, .int .i64 a0_1, .int .i64 a0_2, .int .i64 a0_3, .int .i64 a0_4, .int .i64 a0_5, .slice A0_6 l0_6.length c0_6, .slice A0_7 l0_7.length c0_7], .slice A1 l1.length c1] w fun e w' => e = .returned (.agg #[.int .i64 p0, .int .i64 p1, .int .i64 p2, .int .i64 p3]) ∧ Below w.heap.size w w' := by
  have hu := Tryz.underlying24
  have hua := Tryz.underlying29
  unfold audit_Tickets.f at h
  split at h
  case isFalse => cases h
  rename_i hlim
  have H6 := Aside0.mk hr0_6
  have H7 := Aside0.mk hr0_7
  have H1 := Aside0.mk hr1
  have H := Aside0.mk h
  have HL := Aside0.mk hlim
  clear hr0_6 hr0_7 hr1 h hlim
  go_enter Tryz.func17, Tryz.ntmps17
  go_wp2
  go_loopw [11] (fun p wr => ∃ v : Nat, p = .int .i64 (v : Int) ∧ v ≤ a0_5.toNat ∧ ∃ o0 o1 o2 o3 : Int, ticks (plan_Ticket.f a0_0 a0_1 a0_2 a0_3 a0_4 a0_5 l0_6 l0_7) slot_State.f l1 (a0_5.toNat - v) (v : Int) [o0, o1, o2, o3] = some [p0, p1, p2, p3] ∧ Below w.heap.size w wr ∧ w.heap.size + 2 < wr.heap.size ∧ wr.heap[w.heap.size]? = some (.cells #[.int .i64 a0_0, .int .i64 a0_1, .int .i64 a0_2, .int .i64 a0_3, .int .i64 a0_4, .int .i64 a0_5, .slice A0_6 l0_6.length c0_6, .slice A0_7 l0_7.length c0_7] 24 (0, 0)) ∧ wr.heap[w.heap.size + 1]? = some (.cells #[.int .i64 0, .int .i64 0, .int .i64 0, .int .i64 0] 29 (0, 0)) ∧ wr.heap[w.heap.size + 2]? = some (.cells #[.int .i64 o0, .int .i64 o1, .int .i64 o2, .int .i64 o3] 29 (0, 0)))
    (fun p _ => (a0_5 - intOf p).toNat)
  case atStart =>
    refine ⟨0, rfl, Nat.zero_le _, 0, 0, 0, 0, H.out, ?_, ?_, ?_, ?_, ?_⟩
    · exact (((Below.refl _ w).alloc (Nat.le_refl _) _).alloc (by simp) _).alloc (by simp; try omega) _
    · simp <;> omega
    · exact ((Deep.blk_alloc_lt _ _ _ (by simp; try omega)).trans ((Deep.blk_alloc_lt _ _ _ (by simp; try omega)).trans (blk_new w _)))
    · exact (Deep.blk_alloc_lt _ _ _ (by simp; try omega)).trans ((congrArg (fun n => (World.alloc _ _).heap[n]?) (by simp; try omega)).trans (Deep.blk_alloc_new _ _))
    · exact (congrArg (fun n => (World.alloc _ _).heap[n]?) (by simp; try omega)).trans (Deep.blk_alloc_new _ _)
  case round =>
    obtain ⟨v, rfl, hv, o0, o1, o2, o3, hfirst, hB, hsz, hbc, hbz, hbo⟩ := hrel
    obtain ⟨wo, rfl⟩ : ∃ X, X = wr := ⟨wr, rfl⟩
    have f0 : wo.cell? ⟨w.heap.size, 0, none⟩ = some (.int .i64 a0_0) := (blk_cell hbc 0).trans rfl
    have f1 : wo.cell? ⟨w.heap.size, 1, none⟩ = some (.int .i64 a0_1) := (blk_cell hbc 1).trans rfl
    have f2 : wo.cell? ⟨w.heap.size, 2, none⟩ = some (.int .i64 a0_2) := (blk_cell hbc 2).trans rfl
    have f3 : wo.cell? ⟨w.heap.size, 3, none⟩ = some (.int .i64 a0_3) := (blk_cell hbc 3).trans rfl
    have f4 : wo.cell? ⟨w.heap.size, 4, none⟩ = some (.int .i64 a0_4) := (blk_cell hbc 4).trans rfl
    have f5 : wo.cell? ⟨w.heap.size, 5, none⟩ = some (.int .i64 a0_5) := (blk_cell hbc 5).trans rfl
    have f6 : wo.cell? ⟨w.heap.size, 6, none⟩ = some (.slice A0_6 l0_6.length c0_6) := (blk_cell hbc 6).trans rfl
    have f7 : wo.cell? ⟨w.heap.size, 7, none⟩ = some (.slice A0_7 l0_7.length c0_7) := (blk_cell hbc 7).trans rfl
    have HB := Aside0.mk hB
    have HBC := Aside0.mk hbc
    have HBZ := Aside0.mk hbz
    have HBO := Aside0.mk hbo
    have HSZ := Aside0.mk hsz
    have HV := Aside0.mk hv
    clear hB hbc hbz hbo hsz hv
    by_cases hlt : (v : Int) < a0_5
    · have hlb : decide ((v : Int) < a0_5) = true := decide_eq_true hlt
      obtain ⟨m, hm⟩ : ∃ m, a0_5.toNat - v = m + 1 := ⟨a0_5.toNat - v - 1, by omega⟩
      rw [hm] at hfirst
      simp only [ticks] at hfirst
      obtain ⟨i, hi, hfirst⟩ := Option.bind_eq_some_iff.1 hfirst
      split at hfirst
      case isFalse => cases hfirst
      rename_i hi0
      split at hfirst
      case isFalse => cases hfirst
      rename_i hi1
      obtain ⟨s, hs, hfirst⟩ := Option.bind_eq_some_iff.1 hfirst
      split at hfirst
      case isFalse => cases hfirst
      rename_i hs4
      have HM := Aside0.mk hm
      have HF := Aside0.mk hfirst
      have KP := Aside0.mk (plan_Ticket.calls a0_0 a0_1 a0_2 a0_3 a0_4 a0_5 A0_6 c0_6 l0_6 A0_7 c0_7 l0_7 (v : Int) i)
      have HI := Aside0.mk hi
      have HS := Aside0.mk hs
      have S4 := Aside0.mk hs4
      have HLT := Aside0.mk hlt
      obtain ⟨ad, ead, hx⟩ := Kd.at_int (Kd.C_below H1.out HB.out) i hi0 hi1
      cases ead
      have HX := Aside0.mk hx
      have p9 : (0 ≤ (i : Int)) = True := eq_true hi0
      have q9 : ((i : Int) < (l1.length : Int)) = True := eq_true hi1
      have p9b : decide (0 ≤ (i : Int)) = true := decide_eq_true hi0
      have q9b : decide ((i : Int) < (l1.length : Int)) = true := decide_eq_true hi1
      clear hfirst hi hs hs4 hm hlt hx hi0 hi1
      have KT1 := Aside0.mk (fun W hb => tick1_calls s (w.heap.size + 2) o0 o1 o2 o3 W S4.out hb)
      go_wp2_with (first
        | (go_at_call 43; (with_reducible refine (KP.out wo (Kd.C_below H6.out HB.out) hc0_6 (Kd.C_below H7.out HB.out) hc0_7 HI.out).mono ?_); rintro e w1 ⟨rfl, hb1⟩; have HB1 := Aside0.mk hb1; have hx1 := (hb1.cell (World.block_lt_of_cell? wo _ HX.out)).trans HX.out; clear hb1)
        | (go_at_call 42; (with_reducible refine (slot_State.calls (rd l1 i) s _ HS.out).mono ?_); rintro e w2 ⟨rfl, ⟨nd, rfl⟩⟩)
        | (go_at_call 41; (with_reducible refine (KT1.out _ ?_).mono ?_); (exact (HB1.out.block _ HSZ.out).trans HBO.out); rintro e w3 ⟨⟨u, rfl⟩, rfl⟩))
      have hb3 : Below wo.heap.size wo (w1.drewN nd) := pw_below_drewN HB1.out nd
      obtain ⟨q0, q1, q2, q3, hq, hq2⟩ := tickW_blk S4.out ((hb3.block _ HSZ.out).trans HBO.out)
      have hsz := HSZ.out
      have hlt := HLT.out
      have hm := HM.out
      have hL := HL.out
      have hv1 : ((v + 1 : Nat) : Int) ≤ a0_5 := by omega
      have hv2 : v + 1 ≤ a0_5.toNat := by omega
      have hm2 : a0_5.toNat - (v + 1) = m := by omega
      have hwv : wrap64 ((v : Int) + 1) = ((v + 1 : Nat) : Int) := by rw [wu64 (by omega) (by omega)]; omega
      go_roundw
      case rel => exact ⟨v + 1, congrArg (Value.int .i64) hwv, hv2, q0, q1, q2, q3, by rw [hm2, ← hq]; exact HF.out, tickW_below (HB.out.trans (hb3.mono HB.out.size)) (Nat.le_add_right _ _), by rw [tickW_size]; exact Nat.lt_of_lt_of_le hsz hb3.size, (tickW_other (by omega)).trans ((hb3.block _ (by omega)).trans HBC.out), (tickW_other (by omega)).trans ((hb3.block _ (by omega)).trans HBZ.out), hq2⟩
      case measure => exact meas_tick hwv hv1
    · have hlb : decide ((v : Int) < a0_5) = false := decide_eq_false hlt
      have e0 : a0_5.toNat - v = 0 := by omega
      rw [e0] at hfirst
      simp only [ticks, Option.some.injEq] at hfirst
      obtain ⟨rfl, rfl, rfl, rfl⟩ := get_cons4 hfirst
      have z0 : wo.cell? ⟨w.heap.size + 2, 0, none⟩ = some (.int .i64 o0) := (blk_cell HBO.out 0).trans rfl
      have z1 : wo.cell? ⟨w.heap.size + 2, 1, none⟩ = some (.int .i64 o1) := (blk_cell HBO.out 1).trans rfl
      have z2 : wo.cell? ⟨w.heap.size + 2, 2, none⟩ = some (.int .i64 o2) := (blk_cell HBO.out 2).trans rfl
      have z3 : wo.cell? ⟨w.heap.size + 2, 3, none⟩ = some (.int .i64 o3) := (blk_cell HBO.out 3).trans rfl
      have y0 : wo.cell? ⟨w.heap.size + 1, 0, none⟩ = some (.int .i64 0) := (blk_cell HBZ.out 0).trans rfl
      have y1 : wo.cell? ⟨w.heap.size + 1, 1, none⟩ = some (.int .i64 0) := (blk_cell HBZ.out 1).trans rfl
      have y2 : wo.cell? ⟨w.heap.size + 1, 2, none⟩ = some (.int .i64 0) := (blk_cell HBZ.out 2).trans rfl
      have y3 : wo.cell? ⟨w.heap.size + 1, 3, none⟩ = some (.int .i64 0) := (blk_cell HBZ.out 3).trans rfl
      have x0 := blk_frozen HBZ.out 0
      have x1 := blk_frozen HBZ.out 1
      have x2 := blk_frozen HBZ.out 2
      have x3 := blk_frozen HBZ.out 3
      go_wp2
      refine bodyPost_ret (results_cell_row rfl _ _ (w.heap.size + 1) 29 #[.int .i64 o0, .int .i64 o1, .int .i64 o2, .int .i64 o3] (0, 0) _ rfl ?_ hua rfl (by kernel_rfl)) rfl ?_
      · exact cells4 HBZ.out _ _ _ _
      · first | exact ⟨rfl, below_cells HB.out (by omega) _⟩ | exact ⟨rfl, (((HB.out.setCell (by simp) _).setCell (by simp) _).setCell (by simp) _).setCell (by simp) _⟩

end
end Go.Proofs.YthbaamfdpebocaaGreat.PA
