import Derived.Test.YteaidhoimaphlaaGreatMRel
import Derived.RangeFuncNested
import Derived.RangeFuncBound
import Derived.RangeFuncCalls
import Derived.RangeFuncLeaves
import Derived.RangeFuncBox
import Derived.Shelf.Abstract
import Derived.Shelf.RegionOpen
import Derived.OwnWalkIn
import Derived.TacticsInMore
import Derived.LoopNIn
import Derived.LoopIn
import Derived.Deep.RegionHeld3
import Derived.Deep.RegionLaw
import Derived.Laws.CopyOwn
import Derived.Laws.EntriesVeiled
namespace Go.Proofs.YteaidhoimaphlaaGreat.PM
open Go.RowKit Go.Shelf Go.Proofs.YteaidhoimaphlaaGreatW.PrintWords Go.Proofs.YteaidhoimaphlaaGreatW.PrintLast Go.Proofs.YteaidhoimaphlaaGreatW.PrintMore
attribute [local go_sem] max2_int min2_int max_two min_two max_three min_three max_four min_four
set_option linter.unusedVariables false
set_option linter.unusedSimpArgs false
def newM (c : LConf) : ML := ⟨c, c.ls ++ List.replicate (12 - c.ls.length) 0, List.replicate 12 0, List.replicate 16 ⟨0, 0, 0⟩⟩
theorem splice_mc (cv : List Value) (ls u : List Int) (t : List TK) (hc : cv.length = 8) (hl : ls.length ≤ 12) : splice (mcells cv (List.replicate 12 0) u t) 8 (ls.map (Value.int .i64)) = mcells cv (ls ++ List.replicate (12 - ls.length) 0) u t := by
  unfold splice mcells
  rw [List.take_left' hc, List.length_map]
  congr 1
  rw [show 8 + ls.length = cv.length + ls.length by omega, List.drop_length_add_append, List.map_append, List.append_assoc]
  congr 1
  rw [List.drop_append_of_le_length (by simpa using hl), ← List.map_drop, List.drop_replicate]
set_option maxHeartbeats 4000000 in
set_option maxRecDepth 100000 in
theorem K_New (W : World) (c : LConf) (A6 : Option Addr) (n6 d6 : Nat) (A7 : Option Addr) (n7 d7 : Nat) (h6 : IsInts W (.slice A6 n6 d6) c.ps) (h7 : IsInts W (.slice A7 n7 d7) c.ls) (hl : c.ls.length ≤ 12) :
    Calls Tryz.prog 11 #[.agg #[.int .i64 c.th, .int .i64 c.st, .int .i64 c.ga, .int .i64 c.le, .int .i64 c.re, .int .i64 c.ti, .slice A6 n6 d6, .slice A7 n7 d7]] W fun e w' => ∃ b, e = .returned (.pointer (some ⟨b, 0, none⟩)) ∧ W.heap.size ≤ b ∧ MAt W w' b (newM c) ∧ Below W.heap.size W w' := by
  have hus := Tryz.underlying24
  have hum := Tryz.underlying57
  have hub := Tryz.underlying49
  have H6 := Aside0.mk h6
  have H7 := Aside0.mk h7
  have hlen7 := h7.len
  have hsz3 : (Tryz.prog.info? 3).map (·.size) = some 1 := by
    obtain ⟨i0, hi, hz0, hz1, hz2⟩ := info_parts info3
    rw [hi, Option.map_some]; exact congrArg some hz1
  have hcl : Aside0 ((c.ls.map (Value.int .i64)).length = Nat.min n7 12) := ⟨by rw [List.length_map, hlen7]; exact (Nat.min_eq_left hl).symm⟩
  have hfit : Aside0 (8 + (c.ls.map (Value.int .i64)).length ≤ (mcells (confV c (.slice A6 n6 d6) (.slice A7 n7 d7)) (List.replicate 12 0) (List.replicate 12 0) (List.replicate 16 ⟨0, 0, 0⟩)).length) := ⟨by rw [List.length_map]; simp only [mcells, confV, List.length_append, List.length_cons, List.length_nil, List.length_map, List.length_replicate, tk_len]; omega⟩
  have h1c : Aside0 (∀ v ∈ c.ls.map (Value.int .i64), v.oneCell' = true) := ⟨fun v hv => by obtain ⟨x, _, rfl⟩ := List.mem_map.1 hv; rfl⟩
  have hsrc : Aside0 (∀ w, Below W.heap.size W w → 0 < (c.ls.map (Value.int .i64)).length → ∃ ad, A7 = some ad ∧ ∀ j v, (c.ls.map (Value.int .i64))[j]? = some v → w.cell? (ad.add j) = some v) := ⟨fun w hw h0 => by
    obtain ⟨A', c', e', hc', hC⟩ := h7.below hw
    cases e'
    have hpos : 0 < c.ls.length := by simpa using h0
    obtain ⟨ad, hA, _⟩ := Kd.at_int hC 0 (by omega) (by omega)
    refine ⟨ad, hA, fun j v hj => ?_⟩
    have hjl : j < c.ls.length := by
      by_cases hjl : j < c.ls.length
      · exact hjl
      · rw [List.getElem?_eq_none (by simpa using hjl)] at hj; cases hj
    obtain ⟨ad', hA', hcell⟩ := Kd.at_int hC (j : Int) (by omega) (by omega)
    rw [hA] at hA'
    cases hA'
    rw [Int.toNat_natCast, rd_lt hjl] at hcell
    rw [List.getElem?_map, List.getElem?_eq_getElem hjl] at hj
    cases hj
    exact hcell⟩
  clear h6 h7 hlen7
  go_enter Tryz.func11, Tryz.ntmps11
  go_wp2_with (fail)
  obtain ⟨W1, hW1⟩ : ∃ W1, (W.alloc (.cells #[.int .i64 c.th, .int .i64 c.st, .int .i64 c.ga, .int .i64 c.le, .int .i64 c.re, .int .i64 c.ti, .slice A6 n6 d6, .slice A7 n7 d7] 24)).alloc (.cells (mcells (confV c (.slice A6 n6 d6) (.slice A7 n7 d7)) (List.replicate 12 0) (List.replicate 12 0) (List.replicate 16 ⟨0, 0, 0⟩)).toArray 57) = W1 := ⟨_, rfl⟩
  have hB1 : Aside0 (Below W.heap.size W W1) := ⟨by rw [← hW1]; exact below_alloc (below_alloc (Below.refl _ _) _) _⟩
  have HB1 := Aside0.mk (two_box (w' := W1) (by rw [← hW1]; exact Below.refl _ _))
  have hq7 : W1.cell? ⟨W.heap.size, 7, none⟩ = some (.slice A7 n7 d7) := (blk_cell HB1.out.1 7).trans rfl
  have hms : ((((((((Tryz.zeroCells57.setIfInBounds 0 (.int .i64 c.th)).setIfInBounds 1 (.int .i64 c.st)).setIfInBounds 2 (.int .i64 c.ga)).setIfInBounds 3 (.int .i64 c.le)).setIfInBounds 4 (.int .i64 c.re)).setIfInBounds 5 (.int .i64 c.ti)).setIfInBounds 6 (.slice A6 n6 d6)).setIfInBounds 7 (.slice A7 n7 d7)) = (mcells (confV c (.slice A6 n6 d6) (.slice A7 n7 d7)) (List.replicate 12 0) (List.replicate 12 0) (List.replicate 16 ⟨0, 0, 0⟩)).toArray := by kernel_rfl
  rw [hms, hW1]
  clear hW1 hms
  obtain ⟨cur, hcur⟩ : ∃ cur, mcells (confV c (.slice A6 n6 d6) (.slice A7 n7 d7)) (List.replicate 12 0) (List.replicate 12 0) (List.replicate 16 ⟨0, 0, 0⟩) = cur := ⟨_, rfl⟩
  rw [hcur] at HB1 hfit
  have hcur' := Aside0.mk hcur
  clear hcur
  obtain ⟨cs, hcs⟩ : ∃ cs, c.ls.map (Value.int .i64) = cs := ⟨_, rfl⟩
  rw [hcs] at hcl hfit h1c hsrc
  have hcs' := Aside0.mk hcs
  clear hcs
  go_region_law (refine step_copy_splice rfl (.tmp 10) (.tmp 12) 22 22 rfl 3 Tryz.underlying22 hsz3 _ _ _ _ _ _ rfl rfl (W.heap.size + 1) 8 _ 57 (by (with_reducible repeat (first | refine blk_drewN ?_ _ | refine blk_drew ?_)); exact HB1.out.2.1) cs hcl.out (by intro h0; refine ⟨rfl, hsrc.out _ ?_ h0⟩; repeat (first | apply below_drew1 | apply pw_below_drewN | exact hB1.out)) hfit.out h1c.out W.heap.size W (by repeat (first | apply below_drew1 | apply pw_below_drewN | exact hB1.out)) (by omega) ?_; intro w4 hg4 hb4)
  go_wp2_with (fail)
  go_ret
  have hs := hg4.out
  rw [← hcur'.out, ← hcs'.out, splice_mc _ _ _ _ rfl hl] at hs
  exact ⟨W.heap.size + 1, rfl, by omega, ⟨A6, n6, d6, A7, n7, d7, hs, H6.out, H7.out, by simp [newM]; omega, by simp [newM], by simp [newM], by omega⟩, hb4⟩
end Go.Proofs.YteaidhoimaphlaaGreat.PM
