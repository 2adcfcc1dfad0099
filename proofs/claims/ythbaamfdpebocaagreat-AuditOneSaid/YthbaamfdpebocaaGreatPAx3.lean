-- Printed by the session's own driver (wip/tools/drive.py) on the kit's print.py, with hand-proved functions put in. Not trusted: Lean checks it.
import Derived.Test.YthbaamfdpebocaaGreatPAx0
import Derived.Test.YthbaamfdpebocaaGreatPAx1
import Derived.Test.YthbaamfdpebocaaGreatPAx2
namespace Go.Proofs.YthbaamfdpebocaaGreat.PA
open Go.RowKit Go.Proofs.YthbaamfdpebocaaGreatW.PrintWords Go.Proofs.YthbaamfdpebocaaGreatW.PrintLast Go.Proofs.YthbaamfdpebocaaGreatW.PrintMore
attribute [local go_sem] max2_int min2_int max_two min_two max_three min_three max_four min_four
set_option linter.unusedVariables false
set_option linter.unusedSimpArgs false

/-! ### usage_Held: function 61 -/
section
set_option maxRecDepth 100000 in
set_option maxHeartbeats 2000000 in
theorem held1_calls (x0 : Int) (B : Addr) (c : Nat) (l : List Int) (w : World) (hl : l.length < 1000000) (hcell : ∀ i : Nat, i < l.length → w.cell? (B.add i) = some (.int .i64 (rd l (i : Int)))) :
    Calls Tryz.prog 89 #[.int .i64 x0, .slice (some B) l.length c] w fun e w' => e = .returned (.int .i64 (l.foldl (fun s x => wrap64 (s - x)) x0)) ∧ w' = w := by
  have hu := Tryz.underlying22
  refine calls_of_wp Tryz.func89 rfl ?_
  simp only [Tryz.ntmps89, List.size_toArray, List.length_cons, List.length_nil, Nat.reduceAdd, Nat.reduceSub, Array.replicate_succ, Array.replicate_zero, List.push_toArray, List.append_toArray, List.nil_append, List.cons_append]
  go_wp2
  go_loopw [0, 9] (fun p q wr => ∃ i : Nat, i ≤ l.length ∧ p = .int .i64 ((l.take i).foldl (fun s x => wrap64 (s - x)) x0) ∧ q = .int .i64 (i : Int) ∧ wr = w) (fun _ q _ => (l.length - intOf q).toNat)
  case atStart => exact ⟨0, Nat.zero_le _, rfl, rfl, rfl⟩
  case round =>
    obtain ⟨i, hi, rfl, rfl, rfl⟩ := hrel
    by_cases h : i < l.length
    · have h1 : decide ((i : Int) < (l.length : Int)) = true := decide_eq_true (by omega)
      have hc := hcell i h
      have hw1 : wrap64 ((i : Int) + 1) = ((i + 1 : Nat) : Int) := by rw [wu64 (by omega) (by omega)]; omega
      go_wp2
      go_roundw
      case rel =>
        refine ⟨i + 1, h, ?_, by first | rfl | rw [hw1] | trivial, by first | rfl | trivial⟩
        have e : l.take (i + 1) = l.take i ++ [rd l (i : Int)] := by
          rw [List.take_add_one, List.getElem?_eq_getElem h]
          congr 1
          simp [rd, List.getD_eq_getElem?_getD, List.getElem?_eq_getElem h]
        rw [e, List.foldl_append]
        rfl
      case measure => simp [intOf]; omega
    · have h1 : decide ((i : Int) < (l.length : Int)) = false := decide_eq_false (by omega)
      have e : l.take i = l := List.take_of_length_le (by omega)
      go_wp2
      go_ret
      rw [e]
      exact ⟨rfl, rfl⟩
def usage_Held.f (a0_0 : Int) (a0_1 : Int) (a0_2 : Int) (a0_3 : Int) (a0_4 : Int) (a0_5 : Int) (l0_6 : List Int) (l0_7 : List Int) (l1 : List Int) (a2 : Int) : Option Int := (plan_Avail.f a0_0 a0_1 a0_2 a0_3 a0_4 a0_5 l0_6 l0_7 a2).bind fun fst => (plan_Limit.f a0_0 a0_1 a0_2 a0_3 a0_4 a0_5 l0_6 l0_7 a2).bind fun lim =>
  if 0 ≤ lim ∧ lim < (l1.length : Int) ∧ 0 ≤ fst ∧ 0 ≤ a0_1 ∧ a0_1 < 1000 ∧ fst + 1 + a0_1 ≤ (l1.length : Int) ∧ (l1.length : Int) < 1000000 then (usage_Used.f a0_0 a0_1 a0_2 a0_3 a0_4 a0_5 l0_6 l0_7 l1 a2).map fun u => wrap64 (((l1.drop fst.toNat).take (1 + a0_1).toNat).foldl (fun s x => wrap64 (s - x)) (rd l1 lim) - u) else none
set_option maxRecDepth 100000 in
set_option maxHeartbeats 4000000 in
theorem usage_Held.calls (a0_0 : Int) (a0_1 : Int) (a0_2 : Int) (a0_3 : Int) (a0_4 : Int) (a0_5 : Int) (A0_6 : Option Addr) (c0_6 : Nat) (l0_6 : List Int) (A0_7 : Option Addr) (c0_7 : Nat) (l0_7 : List Int) (A1 : Option Addr) (c1 : Nat) (l1 : List Int) (a2 : Int) (r : Int) (w : World) (hr0_6 : Kd.C (Kd.int .i64) w A0_6 l0_6.length l0_6) (hc0_6 : l0_6.length ≤ c0_6) (hr0_7 : Kd.C (Kd.int .i64) w A0_7 l0_7.length l0_7) (hc0_7 : l0_7.length ≤ c0_7) (hr1 : Kd.C (Kd.int .i64) w A1 l1.length l1) (hc1 : l1.length ≤ c1) (h : usage_Held.f a0_0 a0_1 a0_2 a0_3 a0_4 a0_5 l0_6 l0_7 l1 a2 = some r) :
    Calls Tryz.prog 61 #[.agg #[.int .i64 a0_0, .int .i64 a0_1, .int .i64 a0_2, .int .i64 a0_3, .int .i64 a0_4, .int .i64 a0_5, .slice A0_6 l0_6.length c0_6, .slice A0_7 l0_7.length c0_7], .slice A1 l1.length c1, .int .i64 a2] w fun e w' => e = .returned (.int .i64 r) ∧ Below w.heap.size w w' := by
  have hu := Tryz.underlying24
  have hus := Tryz.underlying22
  unfold usage_Held.f at h
  obtain ⟨fst, hf, h⟩ := Option.bind_eq_some_iff.1 h
  obtain ⟨lim, hlm, h⟩ := Option.bind_eq_some_iff.1 h
  split at h
  case isFalse => cases h
  rename_i hc
  obtain ⟨g1, g2, g3, g4, g5, g6, g7⟩ := hc
  obtain ⟨u, huse, rfl⟩ := Option.map_eq_some_iff.1 h
  clear h
  have hB0 : Below w.heap.size w (w.alloc (.cells #[.int .i64 a0_0, .int .i64 a0_1, .int .i64 a0_2, .int .i64 a0_3, .int .i64 a0_4, .int .i64 a0_5, .slice A0_6 l0_6.length c0_6, .slice A0_7 l0_7.length c0_7] 24)) := (Below.refl _ w).alloc (Nat.le_refl _) _
  obtain ⟨W0, hW0⟩ : ∃ W0, (w.alloc (.cells #[.int .i64 a0_0, .int .i64 a0_1, .int .i64 a0_2, .int .i64 a0_3, .int .i64 a0_4, .int .i64 a0_5, .slice A0_6 l0_6.length c0_6, .slice A0_7 l0_7.length c0_7] 24)) = W0 := ⟨_, rfl⟩
  rw [hW0] at hB0
  have hbc : W0.heap[w.heap.size]? = some (.cells #[.int .i64 a0_0, .int .i64 a0_1, .int .i64 a0_2, .int .i64 a0_3, .int .i64 a0_4, .int .i64 a0_5, .slice A0_6 l0_6.length c0_6, .slice A0_7 l0_7.length c0_7] 24 (0, 0)) := by rw [← hW0]; exact blk_new w _
  obtain ⟨ad, hA, hlcell⟩ := Kd.at_int hr1 lim g1 g2
  subst hA
  have kA := plan_Avail.calls a0_0 a0_1 a0_2 a0_3 a0_4 a0_5 A0_6 c0_6 l0_6 A0_7 c0_7 l0_7 a2 fst W0 (Kd.C_below hr0_6 hB0) hc0_6 (Kd.C_below hr0_7 hB0) hc0_7 hf
  go_enter Tryz.func61, Tryz.ntmps61
  rw [← hW0] at kA
  have KA := Aside0.mk kA
  have HW0 := Aside0.mk hW0
  have HBC := Aside0.mk hbc
  have HB0 := Aside0.mk hB0
  have G := Aside0.mk (And.intro g1 (And.intro g2 (And.intro g3 (And.intro g4 (And.intro g5 (And.intro g6 g7))))))
  have HL := Aside0.mk hlcell
  have HR1 := Aside0.mk hr1
  have HR6 := Aside0.mk hr0_6
  have HR7 := Aside0.mk hr0_7
  have F := Aside0.mk (And.intro hf (And.intro hlm huse))
  clear kA hW0 hbc hB0 g1 g2 g3 g4 g5 g6 g7 hlcell hr1 hr0_6 hr0_7 hf hlm huse
  go_wp2_with (go_at_call 59; (with_reducible refine KA.out.mono ?_); rintro e W1 ⟨rfl, hb1⟩)
  have kA := KA.out
  have hW0 := HW0.out
  have hbc := HBC.out
  have hB0 := HB0.out
  obtain ⟨g1, g2, g3, g4, g5, g6, g7⟩ := G.out
  have hlcell := HL.out
  have hr1 := HR1.out
  have hr0_6 := HR6.out
  have hr0_7 := HR7.out
  obtain ⟨hf, hlm, huse⟩ := F.out
  rw [hW0] at hb1
  have hbc1 := (hb1.block _ (blk_lt hbc)).trans hbc
  have hB1 : Below w.heap.size w W1 := hB0.trans (hb1.mono hB0.size)
  have f0 : W1.cell? ⟨w.heap.size, 0, none⟩ = some (.int .i64 a0_0) := (blk_cell hbc1 0).trans rfl
  have f1 : W1.cell? ⟨w.heap.size, 1, none⟩ = some (.int .i64 a0_1) := (blk_cell hbc1 1).trans rfl
  have f2 : W1.cell? ⟨w.heap.size, 2, none⟩ = some (.int .i64 a0_2) := (blk_cell hbc1 2).trans rfl
  have f3 : W1.cell? ⟨w.heap.size, 3, none⟩ = some (.int .i64 a0_3) := (blk_cell hbc1 3).trans rfl
  have f4 : W1.cell? ⟨w.heap.size, 4, none⟩ = some (.int .i64 a0_4) := (blk_cell hbc1 4).trans rfl
  have f5 : W1.cell? ⟨w.heap.size, 5, none⟩ = some (.int .i64 a0_5) := (blk_cell hbc1 5).trans rfl
  have f6 : W1.cell? ⟨w.heap.size, 6, none⟩ = some (.slice A0_6 l0_6.length c0_6) := (blk_cell hbc1 6).trans rfl
  have f7 : W1.cell? ⟨w.heap.size, 7, none⟩ = some (.slice A0_7 l0_7.length c0_7) := (blk_cell hbc1 7).trans rfl
  have kL : ∀ d os, Calls Tryz.prog 57 #[.agg #[.int .i64 a0_0, .int .i64 a0_1, .int .i64 a0_2, .int .i64 a0_3, .int .i64 a0_4, .int .i64 a0_5, .slice A0_6 l0_6.length c0_6, .slice A0_7 l0_7.length c0_7], .int .i64 a2] (Go.Sort.grow (redrawn W1 d) os) fun e w'' => e = .returned (.int .i64 lim) ∧ ∃ p : Regrown, w'' = Go.Sort.grow (redrawn W1 p.d) p.os := fun d os => by
    have hB2 := hB1.trans ((below_regrown W1 d os).mono hB1.size)
    exact Calls.regrown_of (plan_Limit.calls a0_0 a0_1 a0_2 a0_3 a0_4 a0_5 A0_6 c0_6 l0_6 A0_7 c0_7 l0_7 a2 lim _ (Kd.C_below hr0_6 hB2) hc0_6 (Kd.C_below hr0_7 hB2) hc0_7 hlm)
  have kU : ∀ d os, Calls Tryz.prog 60 #[.agg #[.int .i64 a0_0, .int .i64 a0_1, .int .i64 a0_2, .int .i64 a0_3, .int .i64 a0_4, .int .i64 a0_5, .slice A0_6 l0_6.length c0_6, .slice A0_7 l0_7.length c0_7], .slice (some ad) l1.length c1, .int .i64 a2] (Go.Sort.grow (redrawn W1 d) os) fun e w'' => e = .returned (.int .i64 u) ∧ ∃ p : Regrown, w'' = Go.Sort.grow (redrawn W1 p.d) p.os := fun d os => by
    have hB2 := hB1.trans ((below_regrown W1 d os).mono hB1.size)
    exact Calls.regrown_of (usage_Used.calls a0_0 a0_1 a0_2 a0_3 a0_4 a0_5 A0_6 c0_6 l0_6 A0_7 c0_7 l0_7 (some ad) c1 l1 a2 u _ (Kd.C_below hr0_6 hB2) hc0_6 (Kd.C_below hr0_7 hB2) hc0_7 (Kd.C_below hr1 hB2) hc1 huse)
  have hsub : ((l1.drop fst.toNat).take (1 + a0_1).toNat).length = (1 + a0_1).toNat := by rw [List.length_take, List.length_drop]; omega
  have kS : ∀ d os, Calls Tryz.prog 89 #[.int .i64 (rd l1 lim), .slice (some (ad.add fst.toNat)) (1 + a0_1).toNat (c1 - fst.toNat)] (Go.Sort.grow (redrawn W1 d) os) fun e w'' => e = .returned (.int .i64 (((l1.drop fst.toNat).take (1 + a0_1).toNat).foldl (fun s x => wrap64 (s - x)) (rd l1 lim))) ∧ ∃ p : Regrown, w'' = Go.Sort.grow (redrawn W1 p.d) p.os := fun d os => by
    have hB2 := hB1.trans ((below_regrown W1 d os).mono hB1.size)
    have := held1_calls (rd l1 lim) (ad.add fst.toNat) (c1 - fst.toNat) ((l1.drop fst.toNat).take (1 + a0_1).toNat) (Go.Sort.grow (redrawn W1 d) os) (by rw [hsub]; omega) (fun i hi => by
      rw [hsub] at hi
      obtain ⟨ad', hA', hcell⟩ := Kd.at_int (Kd.C_below hr1 hB2) (fst + i) (by omega) (by omega)
      cases hA'
      have e1 : (fst + (i : Int)).toNat = fst.toNat + i := by omega
      have e2 : rd ((l1.drop fst.toNat).take (1 + a0_1).toNat) (i : Int) = rd l1 (fst + i) := by
        simp only [rd, e1, Int.toNat_natCast, List.getD_eq_getElem?_getD, List.getElem?_take_of_lt hi, List.getElem?_drop]
      rw [e2, ← hcell, e1, Addr.add_add])
    rw [hsub] at this
    refine this.mono ?_
    rintro e w'' ⟨rfl, rfl⟩
    exact ⟨rfl, ⟨d, os⟩, rfl⟩
  have hlim : decide (0 ≤ lim) = true := decide_eq_true g1
  have hlim2 : decide (lim < (l1.length : Int)) = true := decide_eq_true g2
  have w1 : wrap64 (fst + 1) = fst + 1 := wu64 (by omega) (by omega)
  have w2 : wrap64 (fst + 1 + a0_1) = fst + 1 + a0_1 := wu64 (by omega) (by omega)
  have hlc := hB1.cell (World.block_lt_of_cell? w _ hlcell)
  have hlc1 : W1.cell? (ad.add lim.toNat) = some (.int .i64 (rd l1 lim)) := hlc.trans hlcell
  have q0 := cell_regrown f0
  have q1 := cell_regrown f1
  have q2 := cell_regrown f2
  have q3 := cell_regrown f3
  have q4 := cell_regrown f4
  have q5 := cell_regrown f5
  have q6 := cell_regrown f6
  have q7 := cell_regrown f7
  have q8 := cell_regrown hlc1
  have z1 : fst ≤ fst + 1 + a0_1 := by omega
  have z2 : fst + 1 + a0_1 ≤ (c1 : Int) := by omega
  have z3 : ¬ c1 = fst.toNat := by omega
  have z4 : (fst + 1 + a0_1).toNat - fst.toNat = (1 + a0_1).toNat := by omega
  have kSl : ∀ w : World, (Instr.sliceAt 22 (.slice (some ad) l1.length c1) (some (.int .i64 fst)) (some (.int .i64 (fst + 1 + a0_1))) none).run Tryz.prog w = .ok (.slice (some (ad.add fst.toNat)) (1 + a0_1).toNat (c1 - fst.toNat)) w := fun w => by
    rw [run_sliceAt_slice _ _ _ _ _ _ hus, run_slice_lh _ _ _ _ _ hus _ _ _ _ g3 z1 z2]
    simp [go_sem, z3, z4]
  refine wp_region_quiet_below (by kernel_rfl) (by kernel_rfl) ?_
  repeat (quiet_step (first | exact kL _ _ | exact kU _ _ | exact kS _ _))
  have v1 : IntKind.i64.wrap (fst + 1) = fst + 1 := (i64_w _).trans w1
  rw [v1]
  have v2 : IntKind.i64.wrap (fst + 1 + a0_1) = fst + 1 + a0_1 := (i64_w _).trans w2
  rw [v2]
  clear v1 v2 w1 w2
  refine wpQuiet_step (fun K hK => ?_)
  go_simp
  refine hK _ ?_
  clear hK K
  repeat (quiet_step (first | exact kL _ _ | exact kU _ _ | exact kS _ _))
  refine wpQuiet_nil ?_
  intro _ hw'
  obtain ⟨⟨dq, osq⟩, hw''⟩ := hw'
  subst hw''
  go_wp2
  go_ret
  refine ⟨by first | rfl | (simp [i64_w]; done) | (simp [go_sem, i64_w]; done), hB1.trans ((below_regrown W1 dq osq).mono hB1.size)⟩
end

end Go.Proofs.YthbaamfdpebocaaGreat.PA
