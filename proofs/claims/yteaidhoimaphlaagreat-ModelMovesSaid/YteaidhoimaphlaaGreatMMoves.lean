import Derived.Test.YteaidhoimaphlaaGreatMBack
import Derived.Test.YteaidhoimaphlaaGreatMWrong
import Derived.RangeFuncNested
import Derived.RangeFuncBound
import Derived.RangeFuncCalls
import Derived.RangeFuncLeaves
import Derived.RangeFuncBox
import Derived.Shelf.Abstract
import Derived.Shelf.RegionOpen
import Derived.OwnWalkIn
import Derived.TacticsInMore
import Derived.LoopNIn
import Derived.LoopIn
import Derived.Deep.RegionHeld3
import Derived.Deep.RegionLaw
import Derived.Laws.CopyOwn
import Derived.Laws.EntriesVeiled
namespace Go.Proofs.YteaidhoimaphlaaGreat.PM
open Go.RowKit Go.Shelf Go.Proofs.YteaidhoimaphlaaGreatW.PrintWords Go.Proofs.YteaidhoimaphlaaGreatW.PrintLast Go.Proofs.YteaidhoimaphlaaGreatW.PrintMore
attribute [local go_sem] max2_int min2_int max_two min_two max_three min_three max_four min_four
set_option linter.unusedVariables false
set_option linter.unusedSimpArgs false
theorem checkE_moved {c : LConf} {v n : Int} (k : Int) (hk : k = 3 ∨ k = 4) : checkE c k v n = movedE c.ps v n := by
  unfold checkE
  rcases hk with rfl | rfl
  · rw [if_neg (by decide), if_neg (by decide), if_pos (.inl rfl)]
  · rw [if_neg (by decide), if_neg (by decide), if_pos (.inr rfl)]
/-- a raise, a lowering that is OK. -/
theorem raise_ok {M : ML} (h : Inv M) (v n : Int) (he : (doM M 3 v n).2.err = 0) : ∃ a : Nat, v = (a : Int) ∧ a < M.c.ps.length ∧ (doM M 3 v n).1.lim = M.lim.set a (wrap64 (rd M.lim (a : Int) + n)) := by
  unfold doM at he ⊢
  by_cases hc : checkE M.c 3 v n = 0
  · rw [if_neg (by simpa using hc), if_neg (by decide), if_neg (by decide), if_pos rfl] at he ⊢
    rw [checkE_moved 3 (.inl rfl)] at hc
    have hr := moved_range hc
    refine ⟨v.toNat, by omega, by omega, ?_⟩
    rw [show ((v.toNat : Nat) : Int) = v by omega]
    split at he
    · exact absurd he (by simp)
    · rename_i h0; rw [if_neg h0]
  · rw [if_pos hc] at he
    exact absurd he hc
theorem lower_ok {M : ML} (h : Inv M) (v n : Int) (he : (doM M 4 v n).2.err = 0) : ∃ a : Nat, v = (a : Int) ∧ a < M.c.ps.length ∧ (doM M 4 v n).1.lim = M.lim.set a (wrap64 (rd M.lim (a : Int) - n)) := by
  unfold doM at he ⊢
  by_cases hc : checkE M.c 4 v n = 0
  · rw [if_neg (by simpa using hc), if_neg (by decide), if_neg (by decide), if_neg (by decide), if_pos rfl] at he ⊢
    rw [checkE_moved 4 (.inr rfl)] at hc
    have hr := moved_range hc
    refine ⟨v.toNat, by omega, by omega, ?_⟩
    rw [show ((v.toNat : Nat) : Int) = v by omega]
    split at he
    · exact absurd he (by simp)
    · rename_i h0; rw [if_neg h0]
  · rw [if_pos hc] at he
    exact absurd he hc
theorem lim_same {M : ML} (k v n : Int) (h : (doM M k v n).2.err ≠ 0 ∨ (k ≠ 3 ∧ k ≠ 4)) : (doM M k v n).1.lim = M.lim := by
  by_cases he : (doM M k v n).2.err = 0
  · obtain ⟨h3, h4⟩ : k ≠ 3 ∧ k ≠ 4 := by rcases h with h | h; exact absurd he h; exact h
    unfold doM
    split
    · rfl
    split
    · unfold admitM
      split
      · rfl
      · split <;> rfl
    split
    · unfold releaseM
      split <;> rfl
    first | rfl | (rw [if_neg h3, if_neg h4])
  · exact (doM_err k v n he).1
theorem take_set (l : List Int) (n a : Nat) (x : Int) : (l.set a x).take n = (l.take n).set a x := List.take_set
/-- a lowering of a node of which so much is not used. -/
theorem lower_more {M : ML} (h : Inv M) (v : Nat) (hv : v < M.c.ps.length) (hr : rd M.lim (v : Int) - rd M.use (v : Int) < 1048576) :
    (doM M 4 v (rd M.lim (v : Int) - rd M.use (v : Int) + 1)) = (M, ⟨4, 0, false, v⟩) := by
  have hl := h.lims v hv
  have hb := h.bound v (by have := h.ok.nodes; omega)
  have hc : checkE M.c 4 (v : Int) (rd M.lim (v : Int) - rd M.use (v : Int) + 1) = 0 := by
    rw [checkE_moved 4 (.inr rfl)]
    have hn : nodeE M.c.ps (v : Int) = 0 := by unfold nodeE; rw [if_neg (by omega), if_neg (by omega)]
    unfold movedE amountE
    rw [hn, if_pos rfl, if_neg (by omega), if_neg (by omega)]
  unfold doM
  rw [if_neg (by simpa using hc), if_neg (by decide), if_neg (by decide), if_neg (by decide), if_pos rfl, if_pos]
  rw [w64 (by omega) (by omega)]; omega
theorem lower_all {M : ML} (h : Inv M) (v : Nat) (hv : v < M.c.ps.length) (hr : rd M.lim (v : Int) - rd M.use (v : Int) < 1048576) (h0 : rd M.lim (v : Int) - rd M.use (v : Int) ≠ 0) :
    (doM M 4 v (rd M.lim (v : Int) - rd M.use (v : Int))).2 = ⟨0, 0, false, 0⟩ ∧ rd (doM M 4 v (rd M.lim (v : Int) - rd M.use (v : Int))).1.lim (v : Int) = rd M.use (v : Int) ∧ rd (doM M 4 v (rd M.lim (v : Int) - rd M.use (v : Int))).1.use (v : Int) = rd M.use (v : Int) := by
  have hl := h.lims v hv
  have hb := h.bound v (by have := h.ok.nodes; omega)
  have hc : checkE M.c 4 (v : Int) (rd M.lim (v : Int) - rd M.use (v : Int)) = 0 := by
    rw [checkE_moved 4 (.inr rfl)]
    have hn : nodeE M.c.ps (v : Int) = 0 := by unfold nodeE; rw [if_neg (by omega), if_neg (by omega)]
    unfold movedE amountE
    rw [hn, if_pos rfl, if_neg (by omega), if_neg (by omega)]
  unfold doM
  rw [if_neg (by simpa using hc), if_neg (by decide), if_neg (by decide), if_neg (by decide), if_pos rfl, if_neg (by rw [w64 (by omega) (by omega)]; omega)]
  refine ⟨rfl, ?_, rfl⟩
  show rd (M.lim.set (v : Int).toNat (wrap64 (rd M.lim (v : Int) - (rd M.lim (v : Int) - rd M.use (v : Int))))) (v : Int) = _
  rw [Int.toNat_natCast, rd_set _ _ _ _ (by have := h.l1; have := h.ok.nodes; omega), if_pos rfl, w64 (by omega) (by omega)]
  omega
theorem new_take {c : LConf} (h : c.ls.length = c.ps.length) : (newM c).lim.take c.ps.length = c.ls := by
  show (c.ls ++ List.replicate (12 - c.ls.length) 0).take c.ps.length = c.ls
  rw [← h, List.take_left' rfl]
/-- a row of ints of the call's own, in block g. -/
def Own (w : World) (base g n cp : Nat) (xs : List Int) : Prop := Kd.R (Kd.int .i64) 3 w base (fun _ => True) (.slice (some ⟨g, 0, none⟩) n cp) xs
theorem Own.below {w w' : World} {base g n cp : Nat} {xs : List Int} (h : Own w base g n cp xs) (hb : Below w.heap.size w w') : Own w' base g n cp xs := Kd.R_below h hb
theorem Own.kb {w w' : World} {base g n cp b : Nat} {xs : List Int} (h : Own w base g n cp xs) (hk : KB w w' b) (hb : b < base) : Own w' base g n cp xs :=
  Kd.R_mono (Kd.R_move (Kd.R_bound h) fun k hk' => hk.same k hk'.2.2.1 (by have := hk'.2.1; omega)) (fun _ hk => hk.1)
theorem Own.len {w : World} {base g n cp : Nat} {xs : List Int} (h : Own w base g n cp xs) : n = xs.length := (Kd.R_reads' h).1
theorem Own.get {w : World} {base g n cp : Nat} {xs : List Int} (h : Own w base g n cp xs) (k : Nat) (hk : k < xs.length) : w.cell? ⟨g, k, none⟩ = some (.int .i64 (rd xs (k : Int))) ∧ w.frozen? ⟨g, k, none⟩ = false := by
  have hl := h.len
  have := Kd.R_celln 0 h (k : Int) (by omega) (by omega)
  rw [Int.toNat_natCast] at this
  exact this
theorem Own.put {w : World} {base g n cp : Nat} {xs : List Int} (h : Own w base g n cp xs) (k : Nat) (x : Int) : Own (w.setCell ⟨g, k, none⟩ (.int .i64 x)) base g n cp (xs.set k x) := by
  have := Kd.R_putn h (k : Int) x
  rw [Int.toNat_natCast] at this
  exact this
theorem Own.form {w : World} {base : Nat} {v : Value} {xs : List Int} (h : Kd.R (Kd.int .i64) 3 w base (fun _ => True) v xs) (hp : 0 < xs.length) : ∃ g cp, v = .slice (some ⟨g, 0, none⟩) xs.length cp ∧ base ≤ g ∧ Own w base g xs.length cp xs := by
  obtain ⟨g, cp, e, hb, _⟩ := Kd.R_form h hp
  exact ⟨g, cp, e, hb, by unfold Own; rw [← e]; exact h⟩
theorem MS.set {W w : World} {b : Nat} {M : ML} (h : MS W w b M) (g i : Nat) (hg : b < g) (u : Value) : MS W (w.setCell ⟨g, i, none⟩ u) b M := by
  obtain ⟨⟨W0, hm, hw⟩, h2, h3⟩ := h
  have hb := hm.b_ge
  refine ⟨⟨W0, hm.keep (Below.heap_setCell w _ u b (by simp; omega)), ?_⟩, ?_, h3⟩
  · exact hw.setCell (show W0.heap.size ≤ g by omega) _
  · exact h2.setCell (show W.heap.size ≤ g by omega) _
theorem ints_C {W : World} {A : Option Addr} {n c : Nat} {xs : List Int} (h : IsInts W (.slice A n c) xs) : Kd.C (Kd.int .i64) W A n xs := by
  obtain ⟨A', c', e, hc, hC⟩ := h
  cases e
  exact hC
theorem Own.lt {w : World} {base g n cp : Nat} {xs : List Int} (h : Own w base g n cp xs) : g < w.heap.size := Kd.R_lt h g (by simp [Value.ownBlock])
theorem blk_far {X : World} {p g : Nat} {o : Obj} (h : X.heap[p]? = some o) (hne : p ≠ g) (j : Nat) (u : Value) : (X.setCell ⟨g, j, none⟩ u).heap[p]? = some o := (Below.heap_setCell X ⟨g, j, none⟩ u p hne).trans h
set_option maxHeartbeats 4000000 in
set_option maxRecDepth 100000 in
theorem W_ModelMoves (c : LConf) (A6 : Option Addr) (n6 d6 : Nat) (A7 : Option Addr) (n7 d7 : Nat) (A : Option Addr) (n d : Nat) (l : List S38) (x : Int) (W : World) (h6 : IsInts W (.slice A6 n6 d6) c.ps) (h7 : IsInts W (.slice A7 n7 d7) c.ls) (hl : IsCalls W (.slice A n d) l) (hx : (Lit.int .u8 x).wf = true) :
    Calls Tryz.prog 7 #[.agg #[.int .i64 c.th, .int .i64 c.st, .int .i64 c.ga, .int .i64 c.le, .int .i64 c.re, .int .i64 c.ti, .slice A6 n6 d6, .slice A7 n7 d7], .slice A n d, .int .u8 x] W fun e w' => e = .returned (.bool true) ∧ Below W.heap.size W w' := by
  have hus := Tryz.underlying24
  have hua := Tryz.underlying35
  have huc := Tryz.underlying38
  have H6 := Aside0.mk h6
  have H7 := Aside0.mk h7
  have HL := Aside0.mk hl
  have hn := Aside0.mk hl.len
  clear h6 h7 hl
  have hgr : Aside0 (∀ w, Below W.heap.size W w → Calls Tryz.prog 9 #[.agg #[.int .i64 c.th, .int .i64 c.st, .int .i64 c.ga, .int .i64 c.le, .int .i64 c.re, .int .i64 c.ti, .slice A6 n6 d6, .slice A7 n7 d7], .slice A n d] w fun e w' => e = .returned (.bool (great15 c l)) ∧ Below w.heap.size w w') := ⟨fun w hw => K_great15 c A6 n6 d6 A7 n7 d7 A n d l w (H6.out.below hw) (H7.out.below hw) (HL.out.below hw)⟩
  have hri : Aside0 (∀ w, Below W.heap.size W w → Calls Tryz.prog 10 #[.agg #[.int .i64 c.th, .int .i64 c.st, .int .i64 c.ga, .int .i64 c.le, .int .i64 c.re, .int .i64 c.ti, .slice A6 n6 d6, .slice A7 n7 d7]] w fun e w' => e = .returned (.bool (decide (Right c))) ∧ Below w.heap.size w w') := ⟨fun w hw => K_ref_right c _ _ w (H6.out.below hw) (H7.out.below hw)⟩
  obtain rfl : n7 = c.ls.length := H7.out.len
  cases hg : great15 c l with
  | true =>
    go_enter Tryz.func7, Tryz.ntmps7
    go_wp2_with (first | (go_at_call 8; (with_reducible refine (K_head20 _).mono ?_); rintro e w1 ⟨rfl, hb1⟩; have HB' : Aside0 (Below W.heap.size W w1) := ⟨below_step (by with_reducible repeat (first | exact Below.refl _ _ | exact HB.out | apply below_drew1 | apply below_alloc)) hb1⟩; have BX' : Aside0 (w1.heap[W.heap.size]? = some (.cells #[.int .i64 c.th, .int .i64 c.st, .int .i64 c.ga, .int .i64 c.le, .int .i64 c.re, .int .i64 c.ti, .slice A6 n6 d6, .slice A7 c.ls.length d7] 24 (0, 0))) := ⟨blk_below (g := W.heap.size) (by with_reducible repeat (first | exact BX.out | exact blk_new _ _ | refine blk_alloc ?_ _ | refine blk_drew ?_)) hb1⟩; have HB := HB'; have BX := BX'; clear HB' BX' hb1; obtain ⟨q0, q1, q2, q3, q4, q5, q6, q7⟩ := box8 BX.out) | (go_at_call 9; (with_reducible refine (hgr.out _ ?_).mono ?_); exact (by with_reducible repeat (first | exact Below.refl _ _ | exact HB.out | apply below_drew1 | apply below_alloc)); rintro e w2 ⟨rfl, hb2⟩; rw [hg]; have HB' : Aside0 (Below W.heap.size W w2) := ⟨below_step (by with_reducible repeat (first | exact Below.refl _ _ | exact HB.out | apply below_drew1 | apply below_alloc)) hb2⟩; have BX' : Aside0 (w2.heap[W.heap.size]? = some (.cells #[.int .i64 c.th, .int .i64 c.st, .int .i64 c.ga, .int .i64 c.le, .int .i64 c.re, .int .i64 c.ti, .slice A6 n6 d6, .slice A7 c.ls.length d7] 24 (0, 0))) := ⟨blk_below (g := W.heap.size) (by with_reducible repeat (first | exact BX.out | exact blk_new _ _ | refine blk_alloc ?_ _ | refine blk_drew ?_)) hb2⟩; clear q0 q1 q2 q3 q4 q5 q6 q7 HB BX; have HB := HB'; have BX := BX'; clear HB' BX' hb2; obtain ⟨q0, q1, q2, q3, q4, q5, q6, q7⟩ := box8 BX.out))
    go_ret
    exact ⟨rfl, (by with_reducible repeat (first | exact Below.refl _ _ | exact HB.out | apply below_drew1 | apply below_alloc))⟩
  | false =>
  by_cases hR : Right c
  rotate_left
  · have hr : decide (Right c) = false := decide_eq_false hR
    clear hR
    go_enter Tryz.func7, Tryz.ntmps7
    go_wp2_with (first | (go_at_call 8; (with_reducible refine (K_head20 _).mono ?_); rintro e w1 ⟨rfl, hb1⟩; have HB' : Aside0 (Below W.heap.size W w1) := ⟨below_step (by with_reducible repeat (first | exact Below.refl _ _ | exact HB.out | apply below_drew1 | apply below_alloc)) hb1⟩; have BX' : Aside0 (w1.heap[W.heap.size]? = some (.cells #[.int .i64 c.th, .int .i64 c.st, .int .i64 c.ga, .int .i64 c.le, .int .i64 c.re, .int .i64 c.ti, .slice A6 n6 d6, .slice A7 c.ls.length d7] 24 (0, 0))) := ⟨blk_below (g := W.heap.size) (by with_reducible repeat (first | exact BX.out | exact blk_new _ _ | refine blk_alloc ?_ _ | refine blk_drew ?_)) hb1⟩; have HB := HB'; have BX := BX'; clear HB' BX' hb1; obtain ⟨q0, q1, q2, q3, q4, q5, q6, q7⟩ := box8 BX.out) | (go_at_call 9; (with_reducible refine (hgr.out _ ?_).mono ?_); exact (by with_reducible repeat (first | exact Below.refl _ _ | exact HB.out | apply below_drew1 | apply below_alloc)); rintro e w2 ⟨rfl, hb2⟩; rw [hg]; have HB' : Aside0 (Below W.heap.size W w2) := ⟨below_step (by with_reducible repeat (first | exact Below.refl _ _ | exact HB.out | apply below_drew1 | apply below_alloc)) hb2⟩; have BX' : Aside0 (w2.heap[W.heap.size]? = some (.cells #[.int .i64 c.th, .int .i64 c.st, .int .i64 c.ga, .int .i64 c.le, .int .i64 c.re, .int .i64 c.ti, .slice A6 n6 d6, .slice A7 c.ls.length d7] 24 (0, 0))) := ⟨blk_below (g := W.heap.size) (by with_reducible repeat (first | exact BX.out | exact blk_new _ _ | refine blk_alloc ?_ _ | refine blk_drew ?_)) hb2⟩; clear q0 q1 q2 q3 q4 q5 q6 q7 HB BX; have HB := HB'; have BX := BX'; clear HB' BX' hb2; obtain ⟨q0, q1, q2, q3, q4, q5, q6, q7⟩ := box8 BX.out) | (go_at_call 10; (with_reducible refine (hri.out _ ?_).mono ?_); exact (by with_reducible repeat (first | exact Below.refl _ _ | exact HB.out | apply below_drew1 | apply below_alloc)); rintro e w3 ⟨rfl, hb3⟩; rw [hr]; have HB' : Aside0 (Below W.heap.size W w3) := ⟨below_step (by with_reducible repeat (first | exact Below.refl _ _ | exact HB.out | apply below_drew1 | apply below_alloc)) hb3⟩; have BX' : Aside0 (w3.heap[W.heap.size]? = some (.cells #[.int .i64 c.th, .int .i64 c.st, .int .i64 c.ga, .int .i64 c.le, .int .i64 c.re, .int .i64 c.ti, .slice A6 n6 d6, .slice A7 c.ls.length d7] 24 (0, 0))) := ⟨blk_below (g := W.heap.size) (by with_reducible repeat (first | exact BX.out | exact blk_new _ _ | refine blk_alloc ?_ _ | refine blk_drew ?_)) hb3⟩; clear q0 q1 q2 q3 q4 q5 q6 q7 HB BX; have HB := HB'; have BX := BX'; clear HB' BX' hb3; obtain ⟨q0, q1, q2, q3, q4, q5, q6, q7⟩ := box8 BX.out))
    go_ret
    exact ⟨rfl, (by with_reducible repeat (first | exact Below.refl _ _ | exact HB.out | apply below_drew1 | apply below_alloc))⟩
  have hr : decide (Right c) = true := decide_eq_true hR
  have HR := Aside0.mk hR
  have hl7b : Aside0 ((([] : List Int).length + c.ls.length) * 8 ≤ 140737488355328) := ⟨by have h1 := hR.1.2.2.2.2.2.2.1.2; have h2 : c.ls.length = c.ps.length := hR.1.2.2.2.2.2.2.2; simp only [List.length_nil]; omega⟩
  clear hR
  go_enter Tryz.func7, Tryz.ntmps7
  go_wp2_with (first | ((with_reducible refine gate_builtin (b := .append) (xs := #[.tmp 28, .tmp 30]) rfl ?_); at_builtin; refine Kd.R_append_rows (Kd.int .i64) (w0 := w4) w4.heap.size rfl (.tmp 28) (.tmp 30) 22 3 (.int .i64 0) 8 rfl Tryz.underlying22 info3 rfl (by decide) (by decide) v5 [] c.ls _ _ _ (fun _ => True) (fun _ => False) rfl rfl ?aO ?aR (fun _ _ h => h) (fun _ h => h.elim) ?aF ?aB ?aS ?aL ?_; (case aR => exact ints_C (H7.out.below hw5.out)); (case aB => exact HB5.out); (case aF => exact (fun _ _ => trivial)); (case aO => exact HO5.out); (case aS => exact HB5.out.size); (case aL => exact hl7b.out); intro v6 w6 ho6 hb6 hg6 hat6; clear hg6 hat6; have HO6 := Aside0.mk ho6; have HB6 := Aside0.mk hb6; clear ho6 hb6; clear q0 q1 q2 q3 q4 q5 q6 q7 BX5 HS5 hw5 HB5 HO5) | ((with_reducible refine gate_dst (N := 28) rfl ?_); refine Kd.R_lit (Kd.int .i64) w4.heap.size 3 ?hg (N := 28) ?hd (xs := ([] : List Int)) (inner := []) (ok := fun _ => True) (okp := fun _ => True) ?hr ?hp (fun _ hk => hk) trivial (Below.refl _ _) (Nat.le_refl _) (by simp) ?_; (case hd => rfl); (case hg => rfl); (case hr => first | (go_simp; done) | (go_simp; rfl)); (case hp => exact (Reps.none _ _)); intro v5 w5 ho5 hb5 hg5 hn5; clear hg5 hn5; have HO5 := Aside0.mk ho5; have HB5 := Aside0.mk hb5; clear ho5 hb5; have BX5 := Aside0.mk (blk_below BX.out HB5.out); have HS5 := Aside0.mk (HS.out.below HB5.out); have hw5 : Aside0 (Below W.heap.size W w5) := ⟨HS5.out.2.1⟩; clear BX HS HB; obtain ⟨q0, q1, q2, q3, q4, q5, q6, q7⟩ := box8 BX5.out) | (go_at_call 8; (with_reducible refine (K_head20 _).mono ?_); rintro e w1 ⟨rfl, hb1⟩; have HB' : Aside0 (Below W.heap.size W w1) := ⟨below_step (by with_reducible repeat (first | exact Below.refl _ _ | exact HB.out | apply below_drew1 | apply below_alloc)) hb1⟩; have BX' : Aside0 (w1.heap[W.heap.size]? = some (.cells #[.int .i64 c.th, .int .i64 c.st, .int .i64 c.ga, .int .i64 c.le, .int .i64 c.re, .int .i64 c.ti, .slice A6 n6 d6, .slice A7 c.ls.length d7] 24 (0, 0))) := ⟨blk_below (g := W.heap.size) (by with_reducible repeat (first | exact BX.out | exact blk_new _ _ | refine blk_alloc ?_ _ | refine blk_drew ?_)) hb1⟩; have HB := HB'; have BX := BX'; clear HB' BX' hb1; obtain ⟨q0, q1, q2, q3, q4, q5, q6, q7⟩ := box8 BX.out) | (go_at_call 9; (with_reducible refine (hgr.out _ ?_).mono ?_); exact (by with_reducible repeat (first | exact Below.refl _ _ | exact HB.out | apply below_drew1 | apply below_alloc)); rintro e w2 ⟨rfl, hb2⟩; rw [hg]; have HB' : Aside0 (Below W.heap.size W w2) := ⟨below_step (by with_reducible repeat (first | exact Below.refl _ _ | exact HB.out | apply below_drew1 | apply below_alloc)) hb2⟩; have BX' : Aside0 (w2.heap[W.heap.size]? = some (.cells #[.int .i64 c.th, .int .i64 c.st, .int .i64 c.ga, .int .i64 c.le, .int .i64 c.re, .int .i64 c.ti, .slice A6 n6 d6, .slice A7 c.ls.length d7] 24 (0, 0))) := ⟨blk_below (g := W.heap.size) (by with_reducible repeat (first | exact BX.out | exact blk_new _ _ | refine blk_alloc ?_ _ | refine blk_drew ?_)) hb2⟩; clear q0 q1 q2 q3 q4 q5 q6 q7 HB BX; have HB := HB'; have BX := BX'; clear HB' BX' hb2; obtain ⟨q0, q1, q2, q3, q4, q5, q6, q7⟩ := box8 BX.out) | (go_at_call 10; (with_reducible refine (hri.out _ ?_).mono ?_); exact (by with_reducible repeat (first | exact Below.refl _ _ | exact HB.out | apply below_drew1 | apply below_alloc)); rintro e w3 ⟨rfl, hb3⟩; rw [hr]; have HB' : Aside0 (Below W.heap.size W w3) := ⟨below_step (by with_reducible repeat (first | exact Below.refl _ _ | exact HB.out | apply below_drew1 | apply below_alloc)) hb3⟩; have BX' : Aside0 (w3.heap[W.heap.size]? = some (.cells #[.int .i64 c.th, .int .i64 c.st, .int .i64 c.ga, .int .i64 c.le, .int .i64 c.re, .int .i64 c.ti, .slice A6 n6 d6, .slice A7 c.ls.length d7] 24 (0, 0))) := ⟨blk_below (g := W.heap.size) (by with_reducible repeat (first | exact BX.out | exact blk_new _ _ | refine blk_alloc ?_ _ | refine blk_drew ?_)) hb3⟩; clear q0 q1 q2 q3 q4 q5 q6 q7 HB BX; have HB := HB'; have BX := BX'; clear HB' BX' hb3; obtain ⟨q0, q1, q2, q3, q4, q5, q6, q7⟩ := box8 BX.out) | (go_at_call 11; (with_reducible refine (K_New _ c A6 n6 d6 A7 c.ls.length d7 (H6.out.below ?_) (H7.out.below ?_) ?_).mono ?_); exact (by with_reducible repeat (first | exact Below.refl _ _ | exact HB.out | apply below_drew1 | apply below_alloc)); exact (by with_reducible repeat (first | exact Below.refl _ _ | exact HB.out | apply below_drew1 | apply below_alloc)); (have h1 := HR.out.1.2.2.2.2.2.2.1.2; have h2 : c.ls.length = c.ps.length := HR.out.1.2.2.2.2.2.2.2; omega); rintro e w4 ⟨b, rfl, hbs, hm, hb4⟩; have HS : Aside0 (MS W w4 b (runC c l 0)) := ⟨MS.new (by with_reducible repeat (first | exact Below.refl _ _ | exact HB.out | apply below_drew1 | apply below_alloc)) hbs hm hb4⟩; clear hm; have hbn : Aside0 (b ≠ W.heap.size) := ⟨by have := hbs; have := blk_lt BX.out; omega⟩; have HB' : Aside0 (Below W.heap.size W w4) := ⟨below_step (by with_reducible repeat (first | exact Below.refl _ _ | exact HB.out | apply below_drew1 | apply below_alloc)) hb4⟩; have BX' : Aside0 (w4.heap[W.heap.size]? = some (.cells #[.int .i64 c.th, .int .i64 c.st, .int .i64 c.ga, .int .i64 c.le, .int .i64 c.re, .int .i64 c.ti, .slice A6 n6 d6, .slice A7 c.ls.length d7] 24 (0, 0))) := ⟨blk_below (g := W.heap.size) (by with_reducible repeat (first | exact BX.out | exact blk_new _ _ | refine blk_alloc ?_ _ | refine blk_drew ?_)) hb4⟩; clear q0 q1 q2 q3 q4 q5 q6 q7 HB BX; have HB := HB'; have BX := BX'; clear HB' BX' hb4; obtain ⟨q0, q1, q2, q3, q4, q5, q6, q7⟩ := box8 BX.out; have BX4 := BX; have HS4 := HS; clear q0 q1 q2 q3 q4 q5 q6 q7))
  have h7n : c.ls.length = c.ps.length := HR.out.1.2.2.2.2.2.2.2
  obtain ⟨g, cp, eg, hgb, HO7⟩ := Own.form HO6.out (by rw [List.nil_append, h7n]; exact HR.out.1.2.2.2.2.2.2.1.1)
  subst eg
  rw [List.nil_append] at HO7
  have hbb : Aside0 (b < w4.heap.size) := ⟨HS4.out.blt⟩
  have hgb' : Aside0 (w4.heap.size ≤ g) := ⟨hgb⟩
  have hl12 : Aside0 (c.ls.length ≤ 12 ∧ c.ls.length = c.ps.length) := ⟨by have := HR.out.1.2.2.2.2.2.2.1.2; omega, h7n⟩
  have HB0 : Aside0 (Below W.heap.size W w6) := ⟨(HS4.out.below HB6.out).2.1⟩
  have BX0 : Aside0 (w6.heap[W.heap.size]? = some (.cells #[.int .i64 c.th, .int .i64 c.st, .int .i64 c.ga, .int .i64 c.le, .int .i64 c.re, .int .i64 c.ti, .slice A6 n6 d6, .slice A7 c.ls.length d7] 24 (0, 0))) := ⟨blk_below BX4.out HB6.out⟩
  have HM0 : Aside0 (MS W w6 b (runC c l 0)) := ⟨HS4.out.below HB6.out⟩
  have HO0 : Aside0 (Own w6 w4.heap.size g c.ls.length cp ((runC c l 0).lim.take c.ls.length)) := ⟨by rw [show (runC c l 0).lim.take c.ls.length = c.ls by rw [h7n]; exact new_take h7n]; exact HO7⟩
  have hgW : Aside0 (W.heap.size < g) := ⟨by have h1 := blk_lt BX4.out; have h2 := hgb'.out; omega⟩
  clear h7n hgb HO7 HS4 BX4
  go_loopg [10] l.length (fun gg s7 wr => ∃ kk : Nat, kk ≤ l.length ∧ l.length - kk ≤ gg ∧ s7 = .int .i64 kk ∧ Aside0 (Below W.heap.size W wr) ∧ Aside0 (wr.heap[W.heap.size]? = some (.cells #[.int .i64 c.th, .int .i64 c.st, .int .i64 c.ga, .int .i64 c.le, .int .i64 c.re, .int .i64 c.ti, .slice A6 n6 d6, .slice A7 c.ls.length d7] 24 (0, 0))) ∧ Aside0 (MS W wr b (runC c l kk)) ∧ Aside0 (Own wr w4.heap.size g c.ls.length cp ((runC c l kk).lim.take c.ls.length)))
  case atStart => exact ⟨0, Nat.zero_le _, by omega, rfl, HB0, BX0, HM0, HO0⟩
  case round =>
    obtain ⟨kk, hkk, hg', rfl, BW, BY, HM, HO⟩ := hrel
    clear HB0 BX0 HM0 HO0
    have hin := Aside0.mk (runC_inv HR.out l kk hkk)
    by_cases hlt : kk < l.length
    · have hltb : decide ((kk : Int) < (n : Int)) = true := decide_eq_true (by have := hn.out; omega)
      have hk0 : (0 : Int) ≤ (kk : Int) := by omega
      have hkn : (kk : Int) < (n : Int) := by have := hn.out; omega
      obtain ⟨ad, rfl, y0, y1, y2, hy⟩ := (HL.out.below BW.out).at kk hlt
      have HY := Aside0.mk hy
      have hst := Aside0.mk (runC_succ c l kk hlt)
      have hlen : (n : Int) ≤ 40 := by have := hn.out; unfold great15 at hg; simp at hg; omega
      clear hy
      obtain ⟨R, hR⟩ : ∃ R, doM (runC c l kk) (rd_T38 l (kk : Int)).f0 (rd_T38 l (kk : Int)).f1 (rd_T38 l (kk : Int)).f2 = R := ⟨_, rfl⟩
      have hstR : runC c l (kk + 1) = R.1 := by rw [hst.out, ← hR]; rfl
      obtain ⟨t0, ht0⟩ : ∃ t, (rd_T38 l (kk : Int)).f0 = t := ⟨_, rfl⟩
      obtain ⟨t1, ht1⟩ : ∃ t, (rd_T38 l (kk : Int)).f1 = t := ⟨_, rfl⟩
      obtain ⟨t2, ht2⟩ : ∃ t, (rd_T38 l (kk : Int)).f2 = t := ⟨_, rfl⟩
      have HRR := Aside0.mk hR
      rw [ht0, ht1, ht2] at hR
      rw [ht0] at y0
      rw [ht1] at y1
      rw [ht2] at y2
      rw [ht2] at HY
      rw [ht0, ht1, ht2] at HRR
      have hst' : Aside0 (stepC (runC c l kk) (rd_T38 l (kk : Int)) = (doM (runC c l kk) t0 t1 t2).1) := ⟨by unfold stepC; rw [ht0, ht1, ht2]⟩
      rw [hst'.out] at hst
      clear hst'
      have hf0 := Aside0.mk ht0
      have hf1 := Aside0.mk ht1
      have hf2 := Aside0.mk ht2
      clear ht0 ht1 ht2
      by_cases hrr : R.2.err = 0
      · have her : R.2.err = 0 := hrr
        by_cases h3 : t0 = 3
        · subst h3
          obtain ⟨a, rfl, hal0, hli⟩ := raise_ok hin.out.1 t1 t2 (by rw [hR]; exact hrr)
          have hal : Aside0 (a < c.ls.length) := ⟨by have := hin.out.2; rw [this] at hal0; have := hl12.out.2; omega⟩
          rw [hR, ← hstR] at hli
          have hlim := Aside0.mk hli
          clear hal0 hli hstR hR hrr
          have hA1 : Aside0 (ansV R.2 = .agg #[.int .i64 (0), .int .i64 R.2.n, .bool R.2.ex, .int .i64 R.2.node]) := ⟨by unfold ansV; rw [her]⟩
          go_wp2_with (go_at_call 13; (with_reducible refine (K_DoS W _ b (runC c l kk) ?_ ?_ _ _ _ ?_).mono ?_); exact HM.out.below (by with_reducible repeat (first | exact Below.refl _ _ | apply below_drew1 | apply below_alloc)); exact hin.out.1.ok; exact HY.out; rintro e w9 ⟨he, hk9, hs9⟩; rw [HRR.out] at he hs9; rw [hA1.out] at he; subst he; have HS9 : Aside0 (MS W w9 b (runC c l (kk + 1))) := ⟨by rw [hst.out, HRR.out]; exact hs9⟩; have BX9 : Aside0 (w9.heap[W.heap.size]? = some (.cells #[.int .i64 c.th, .int .i64 c.st, .int .i64 c.ga, .int .i64 c.le, .int .i64 c.re, .int .i64 c.ti, .slice A6 n6 d6, .slice A7 c.ls.length d7] 24 (0, 0))) := ⟨hk9.blk (by with_reducible repeat (first | exact BY.out | refine blk_alloc ?_ _ | refine blk_drew ?_)) (Ne.symm hbn.out)⟩; have HO9 := Aside0.mk ((HO.out.below (by with_reducible repeat (first | exact Below.refl _ _ | apply below_drew1 | apply below_alloc))).kb hk9 hbb.out); clear hk9 hs9 y0 y1 y2 HM BY HO; obtain ⟨ad', e', z0, z1, z2, _⟩ := (HL.out.below (below_alloc HS9.out.2.1 (.cells #[.int .i64 (0), .int .i64 R.2.n, .bool R.2.ex, .int .i64 R.2.node] 35))).at kk hlt; cases e'; rw [hf0.out] at z0; rw [hf1.out] at z1; rw [hf2.out] at z2)
          generalize hwA : (w9.alloc (.cells #[.int .i64 (0), .int .i64 R.2.n, .bool R.2.ex, .int .i64 R.2.node] 35)) = wA at z0 z1 z2 ⊢
          have BXA : Aside0 (wA.heap[W.heap.size]? = some (.cells #[.int .i64 c.th, .int .i64 c.st, .int .i64 c.ga, .int .i64 c.le, .int .i64 c.re, .int .i64 c.ti, .slice A6 n6 d6, .slice A7 c.ls.length d7] 24 (0, 0))) := ⟨by rw [← hwA]; exact blk_alloc BX9.out _⟩
          have HSA : Aside0 (MS W wA b (runC c l (kk + 1))) := ⟨by rw [← hwA]; exact HS9.out.below (below_alloc (Below.refl _ _) _)⟩
          have HOA : Aside0 (Own wA w4.heap.size g c.ls.length cp ((runC c l kk).lim.take c.ls.length)) := ⟨by rw [← hwA]; exact HO9.out.below (below_alloc (Below.refl _ _) _)⟩
          have BAA : Aside0 (wA.heap[w9.heap.size]? = some (.cells #[.int .i64 (0), .int .i64 R.2.n, .bool R.2.ex, .int .i64 R.2.node] 35 (0, 0))) := ⟨by rw [← hwA]; exact blk_new _ _⟩
          have hg9 : Aside0 (g < w9.heap.size) := ⟨HO9.out.lt⟩
          clear hwA BX9 HO9 HS9
          obtain ⟨u0, f0⟩ := HOA.out.get a (by rw [List.length_take]; have := hal.out; have := hl12.out; have := hin.out.1.l1; omega)
          rw [rd_take _ _ _ (by have := hal.out; omega) (by have := hal.out; have := hl12.out; have := hin.out.1.l1; omega)] at u0
          have ha0 : (0 : Int) ≤ (a : Int) := by omega
          have ha1 : (a : Int) < (c.ls.length : Int) := by have := hal.out; omega
          go_region
          generalize hwB : (wA.setCell ⟨g, a, none⟩ (.int .i64 (wrap64 (rd (runC c l kk).lim (a : Int) + t2)))).drew = wB
          have hgl : g < wA.heap.size := HOA.out.lt
          have HOZ : Aside0 (Own wB w4.heap.size g c.ls.length cp ((runC c l (kk + 1)).lim.take c.ls.length)) := ⟨by rw [← hwB, hlim.out, take_set]; exact (HOA.out.put a _).below (by with_reducible repeat (first | exact Below.refl _ _ | apply below_drew1))⟩
          have BXZ : Aside0 (wB.heap[W.heap.size]? = some (.cells #[.int .i64 c.th, .int .i64 c.st, .int .i64 c.ga, .int .i64 c.le, .int .i64 c.re, .int .i64 c.ti, .slice A6 n6 d6, .slice A7 c.ls.length d7] 24 (0, 0))) := ⟨by rw [← hwB]; exact blk_drew (blk_far BXA.out (by have := hgW.out; omega) _ _)⟩
          have BAZ : Aside0 (wB.heap[w9.heap.size]? = some (.cells #[.int .i64 (0), .int .i64 R.2.n, .bool R.2.ex, .int .i64 R.2.node] 35 (0, 0))) := ⟨by rw [← hwB]; exact blk_drew (blk_far BAA.out (Nat.ne_of_gt hg9.out) _ _)⟩
          have HSZ : Aside0 (MS W wB b (runC c l (kk + 1))) := ⟨by rw [← hwB]; exact (HSA.out.set g a (Nat.lt_of_lt_of_le hbb.out hgb'.out) _).below (by with_reducible repeat (first | exact Below.refl _ _ | apply below_drew1))⟩
          clear hwB hgl HOA BXA BAA HSA u0 f0 z0 z1 z2 ha0 ha1
          obtain ⟨ad2, e2, z0, z1, z2, _⟩ := (HL.out.below HSZ.out.2.1).at kk hlt
          cases e2
          rw [hf0.out] at z0
          rw [hf1.out] at z1
          rw [hf2.out] at z2
          obtain ⟨r0, r1, r2, r3, -⟩ := box4 BAZ.out
          go_wp2_with (fail)
          go_roundg (l.length - (kk + 1))
          case measure => omega
          case rel => exact ⟨kk + 1, by omega, by omega, by go_num, ⟨(HSZ.out).2.1⟩, ⟨BXZ.out⟩, ⟨HSZ.out⟩, ⟨HOZ.out⟩⟩
        · by_cases h4 : t0 = 4
          · subst h4
            obtain ⟨a, rfl, hal0, hli⟩ := lower_ok hin.out.1 t1 t2 (by rw [hR]; exact hrr)
            have hal : Aside0 (a < c.ls.length) := ⟨by have := hin.out.2; rw [this] at hal0; have := hl12.out.2; omega⟩
            rw [hR, ← hstR] at hli
            have hlim := Aside0.mk hli
            have h3b : (4 : Int) ≠ 3 := by decide
            clear hal0 hli hstR hR hrr h3
            have hA1 : Aside0 (ansV R.2 = .agg #[.int .i64 (0), .int .i64 R.2.n, .bool R.2.ex, .int .i64 R.2.node]) := ⟨by unfold ansV; rw [her]⟩
            go_wp2_with (go_at_call 13; (with_reducible refine (K_DoS W _ b (runC c l kk) ?_ ?_ _ _ _ ?_).mono ?_); exact HM.out.below (by with_reducible repeat (first | exact Below.refl _ _ | apply below_drew1 | apply below_alloc)); exact hin.out.1.ok; exact HY.out; rintro e w9 ⟨he, hk9, hs9⟩; rw [HRR.out] at he hs9; rw [hA1.out] at he; subst he; have HS9 : Aside0 (MS W w9 b (runC c l (kk + 1))) := ⟨by rw [hst.out, HRR.out]; exact hs9⟩; have BX9 : Aside0 (w9.heap[W.heap.size]? = some (.cells #[.int .i64 c.th, .int .i64 c.st, .int .i64 c.ga, .int .i64 c.le, .int .i64 c.re, .int .i64 c.ti, .slice A6 n6 d6, .slice A7 c.ls.length d7] 24 (0, 0))) := ⟨hk9.blk (by with_reducible repeat (first | exact BY.out | refine blk_alloc ?_ _ | refine blk_drew ?_)) (Ne.symm hbn.out)⟩; have HO9 := Aside0.mk ((HO.out.below (by with_reducible repeat (first | exact Below.refl _ _ | apply below_drew1 | apply below_alloc))).kb hk9 hbb.out); clear hk9 hs9 y0 y1 y2 HM BY HO; obtain ⟨ad', e', z0, z1, z2, _⟩ := (HL.out.below (below_alloc HS9.out.2.1 (.cells #[.int .i64 (0), .int .i64 R.2.n, .bool R.2.ex, .int .i64 R.2.node] 35))).at kk hlt; cases e'; rw [hf0.out] at z0; rw [hf1.out] at z1; rw [hf2.out] at z2)
            generalize hwA : (w9.alloc (.cells #[.int .i64 (0), .int .i64 R.2.n, .bool R.2.ex, .int .i64 R.2.node] 35)) = wA at z0 z1 z2 ⊢
            have BXA : Aside0 (wA.heap[W.heap.size]? = some (.cells #[.int .i64 c.th, .int .i64 c.st, .int .i64 c.ga, .int .i64 c.le, .int .i64 c.re, .int .i64 c.ti, .slice A6 n6 d6, .slice A7 c.ls.length d7] 24 (0, 0))) := ⟨by rw [← hwA]; exact blk_alloc BX9.out _⟩
            have HSA : Aside0 (MS W wA b (runC c l (kk + 1))) := ⟨by rw [← hwA]; exact HS9.out.below (below_alloc (Below.refl _ _) _)⟩
            have HOA : Aside0 (Own wA w4.heap.size g c.ls.length cp ((runC c l kk).lim.take c.ls.length)) := ⟨by rw [← hwA]; exact HO9.out.below (below_alloc (Below.refl _ _) _)⟩
            have BAA : Aside0 (wA.heap[w9.heap.size]? = some (.cells #[.int .i64 (0), .int .i64 R.2.n, .bool R.2.ex, .int .i64 R.2.node] 35 (0, 0))) := ⟨by rw [← hwA]; exact blk_new _ _⟩
            have hg9 : Aside0 (g < w9.heap.size) := ⟨HO9.out.lt⟩
            clear hwA BX9 HO9 HS9
            obtain ⟨u0, f0⟩ := HOA.out.get a (by rw [List.length_take]; have := hal.out; have := hl12.out; have := hin.out.1.l1; omega)
            rw [rd_take _ _ _ (by have := hal.out; omega) (by have := hal.out; have := hl12.out; have := hin.out.1.l1; omega)] at u0
            have ha0 : (0 : Int) ≤ (a : Int) := by omega
            have ha1 : (a : Int) < (c.ls.length : Int) := by have := hal.out; omega
            go_region
            generalize hwB : (wA.setCell ⟨g, a, none⟩ (.int .i64 (wrap64 (rd (runC c l kk).lim (a : Int) - t2)))).drew = wB
            have hgl : g < wA.heap.size := HOA.out.lt
            have HOZ : Aside0 (Own wB w4.heap.size g c.ls.length cp ((runC c l (kk + 1)).lim.take c.ls.length)) := ⟨by rw [← hwB, hlim.out, take_set]; exact (HOA.out.put a _).below (by with_reducible repeat (first | exact Below.refl _ _ | apply below_drew1))⟩
            have BXZ : Aside0 (wB.heap[W.heap.size]? = some (.cells #[.int .i64 c.th, .int .i64 c.st, .int .i64 c.ga, .int .i64 c.le, .int .i64 c.re, .int .i64 c.ti, .slice A6 n6 d6, .slice A7 c.ls.length d7] 24 (0, 0))) := ⟨by rw [← hwB]; exact blk_drew (blk_far BXA.out (by have := hgW.out; omega) _ _)⟩
            have BAZ : Aside0 (wB.heap[w9.heap.size]? = some (.cells #[.int .i64 (0), .int .i64 R.2.n, .bool R.2.ex, .int .i64 R.2.node] 35 (0, 0))) := ⟨by rw [← hwB]; exact blk_drew (blk_far BAA.out (Nat.ne_of_gt hg9.out) _ _)⟩
            have HSZ : Aside0 (MS W wB b (runC c l (kk + 1))) := ⟨by rw [← hwB]; exact (HSA.out.set g a (Nat.lt_of_lt_of_le hbb.out hgb'.out) _).below (by with_reducible repeat (first | exact Below.refl _ _ | apply below_drew1))⟩
            clear hwB hgl HOA BXA BAA HSA u0 f0 z0 z1 z2 ha0 ha1
            obtain ⟨ad2, e2, z0, z1, z2, _⟩ := (HL.out.below HSZ.out.2.1).at kk hlt
            cases e2
            rw [hf0.out] at z0
            rw [hf1.out] at z1
            rw [hf2.out] at z2
            obtain ⟨r0, r1, r2, r3, -⟩ := box4 BAZ.out
            go_wp2_with (fail)
            go_roundg (l.length - (kk + 1))
            case measure => omega
            case rel => exact ⟨kk + 1, by omega, by omega, by go_num, ⟨(HSZ.out).2.1⟩, ⟨BXZ.out⟩, ⟨HSZ.out⟩, ⟨HOZ.out⟩⟩
          · have hli := lim_same (M := runC c l kk) t0 t1 t2 (.inr ⟨h3, h4⟩)
            rw [hR, ← hstR] at hli
            have hlim := Aside0.mk hli
            have h3b : (t0 == 3) = false := by simpa using h3
            have h4b : (t0 == 4) = false := by simpa using h4
            clear hli hstR hR hrr h3 h4
            have hA1 : Aside0 (ansV R.2 = .agg #[.int .i64 (0), .int .i64 R.2.n, .bool R.2.ex, .int .i64 R.2.node]) := ⟨by unfold ansV; rw [her]⟩
            go_wp2_with (go_at_call 13; (with_reducible refine (K_DoS W _ b (runC c l kk) ?_ ?_ _ _ _ ?_).mono ?_); exact HM.out.below (by with_reducible repeat (first | exact Below.refl _ _ | apply below_drew1 | apply below_alloc)); exact hin.out.1.ok; exact HY.out; rintro e w9 ⟨he, hk9, hs9⟩; rw [HRR.out] at he hs9; rw [hA1.out] at he; subst he; have HS9 : Aside0 (MS W w9 b (runC c l (kk + 1))) := ⟨by rw [hst.out, HRR.out]; exact hs9⟩; have BX9 : Aside0 (w9.heap[W.heap.size]? = some (.cells #[.int .i64 c.th, .int .i64 c.st, .int .i64 c.ga, .int .i64 c.le, .int .i64 c.re, .int .i64 c.ti, .slice A6 n6 d6, .slice A7 c.ls.length d7] 24 (0, 0))) := ⟨hk9.blk (by with_reducible repeat (first | exact BY.out | refine blk_alloc ?_ _ | refine blk_drew ?_)) (Ne.symm hbn.out)⟩; have HO9 := Aside0.mk ((HO.out.below (by with_reducible repeat (first | exact Below.refl _ _ | apply below_drew1 | apply below_alloc))).kb hk9 hbb.out); clear hk9 hs9 y0 y1 y2 HM BY HO; obtain ⟨ad', e', z0, z1, z2, _⟩ := (HL.out.below (below_alloc HS9.out.2.1 (.cells #[.int .i64 (0), .int .i64 R.2.n, .bool R.2.ex, .int .i64 R.2.node] 35))).at kk hlt; cases e'; rw [hf0.out] at z0; rw [hf1.out] at z1; rw [hf2.out] at z2)
            have BXZ := Aside0.mk (blk_alloc BX9.out (.cells #[.int .i64 (0), .int .i64 R.2.n, .bool R.2.ex, .int .i64 R.2.node] 35))
            have HSZ := Aside0.mk (HS9.out.below (below_alloc (Below.refl _ _) (.cells #[.int .i64 (0), .int .i64 R.2.n, .bool R.2.ex, .int .i64 R.2.node] 35)))
            have HOZ := Aside0.mk (HO9.out.below (below_alloc (Below.refl _ _) (.cells #[.int .i64 (0), .int .i64 R.2.n, .bool R.2.ex, .int .i64 R.2.node] 35)))
            rw [← hlim.out] at HOZ
            go_roundg (l.length - (kk + 1))
            case measure => omega
            case rel => exact ⟨kk + 1, by omega, by omega, by go_num, ⟨(HSZ.out).2.1⟩, ⟨BXZ.out⟩, ⟨HSZ.out⟩, ⟨HOZ.out⟩⟩
      · have hli := lim_same (M := runC c l kk) t0 t1 t2 (.inl (by rw [hR]; exact hrr))
        rw [hR, ← hstR] at hli
        have hlim := Aside0.mk hli
        obtain ⟨er, her⟩ : ∃ er, R.2.err = er := ⟨_, rfl⟩
        rw [her] at hrr
        have hrb : (er == 0) = false := by simpa using hrr
        clear hli hstR hR hrr
        have hA1 : Aside0 (ansV R.2 = .agg #[.int .i64 (er), .int .i64 R.2.n, .bool R.2.ex, .int .i64 R.2.node]) := ⟨by unfold ansV; rw [her]⟩
        go_wp2_with (go_at_call 13; (with_reducible refine (K_DoS W _ b (runC c l kk) ?_ ?_ _ _ _ ?_).mono ?_); exact HM.out.below (by with_reducible repeat (first | exact Below.refl _ _ | apply below_drew1 | apply below_alloc)); exact hin.out.1.ok; exact HY.out; rintro e w9 ⟨he, hk9, hs9⟩; rw [HRR.out] at he hs9; rw [hA1.out] at he; subst he; have HS9 : Aside0 (MS W w9 b (runC c l (kk + 1))) := ⟨by rw [hst.out, HRR.out]; exact hs9⟩; have BX9 : Aside0 (w9.heap[W.heap.size]? = some (.cells #[.int .i64 c.th, .int .i64 c.st, .int .i64 c.ga, .int .i64 c.le, .int .i64 c.re, .int .i64 c.ti, .slice A6 n6 d6, .slice A7 c.ls.length d7] 24 (0, 0))) := ⟨hk9.blk (by with_reducible repeat (first | exact BY.out | refine blk_alloc ?_ _ | refine blk_drew ?_)) (Ne.symm hbn.out)⟩; have HO9 := Aside0.mk ((HO.out.below (by with_reducible repeat (first | exact Below.refl _ _ | apply below_drew1 | apply below_alloc))).kb hk9 hbb.out); clear hk9 hs9 y0 y1 y2 HM BY HO; obtain ⟨ad', e', z0, z1, z2, _⟩ := (HL.out.below (below_alloc HS9.out.2.1 (.cells #[.int .i64 (er), .int .i64 R.2.n, .bool R.2.ex, .int .i64 R.2.node] 35))).at kk hlt; cases e'; rw [hf0.out] at z0; rw [hf1.out] at z1; rw [hf2.out] at z2)
        have BXZ := Aside0.mk (blk_alloc BX9.out (.cells #[.int .i64 (er), .int .i64 R.2.n, .bool R.2.ex, .int .i64 R.2.node] 35))
        have HSZ := Aside0.mk (HS9.out.below (below_alloc (Below.refl _ _) (.cells #[.int .i64 (er), .int .i64 R.2.n, .bool R.2.ex, .int .i64 R.2.node] 35)))
        have HOZ := Aside0.mk (HO9.out.below (below_alloc (Below.refl _ _) (.cells #[.int .i64 (er), .int .i64 R.2.n, .bool R.2.ex, .int .i64 R.2.node] 35)))
        rw [← hlim.out] at HOZ
        go_roundg (l.length - (kk + 1))
        case measure => omega
        case rel => exact ⟨kk + 1, by omega, by omega, by go_num, ⟨(HSZ.out).2.1⟩, ⟨BXZ.out⟩, ⟨HSZ.out⟩, ⟨HOZ.out⟩⟩
    · have hltb : (n : Int) ≤ (kk : Int) := by have := hn.out; omega
      have hkl : kk = l.length := by omega
      subst hkl
      have hlnb : decide (l.length < n) = false := decide_eq_false (by omega)
      obtain ⟨M, hMe⟩ : ∃ M, runC c l l.length = M := ⟨_, rfl⟩
      rw [hMe] at HM hin HO
      clear hMe
      obtain ⟨q0, q1, q2, q3, q4, q5, q6, q7⟩ := box8 BY.out
      clear q0 q1 q2 q3 q4 q5 q7
      have h6l := H6.out.len
      have hpos : 1 ≤ c.ps.length := HR.out.1.2.2.2.2.2.2.1.1
      have hps : c.ps.length ≤ 12 := HR.out.1.2.2.2.2.2.2.1.2
      have hx' := u8_range hx
      have hn0 : (0 : Int) < (n6 : Int) := by omega
      have h6n : (n6 : Int) = (c.ps.length : Int) := by omega
      obtain ⟨v, hv, hvl'⟩ := back_mod (x := x) hn0
      have hvl : v < c.ps.length := by clear hv; omega
      have hl12' := hl12.out
      have hvL : (v : Int) < (c.ls.length : Int) := by clear hv; omega
      have hv12 : v < 12 := by clear hv; omega
      have hvl2 : v < c.ls.length := by clear hv; omega
      have hcl := HO.out.get v (by rw [List.length_take]; have := hin.out.1.l1; clear hv; omega)
      rw [rd_take _ _ _ hvl2 (by have := hin.out.1.l1; clear hv; omega)] at hcl
      have hbd := hin.out.1.bound v hv12
      have hlm := hin.out.1.lims v (by rw [hin.out.2]; exact hvl)
      obtain ⟨Lv, hLv⟩ : ∃ z, rd M.lim (v : Int) = z := ⟨_, rfl⟩
      obtain ⟨Uv, hUv⟩ : ∃ z, rd M.use (v : Int) = z := ⟨_, rfl⟩
      have hmo := lower_more hin.out.1 v (by rw [hin.out.2]; exact hvl)
      have hal := lower_all hin.out.1 v (by rw [hin.out.2]; exact hvl)
      rw [hLv] at hcl hlm hmo hal
      rw [hUv] at hbd hlm hmo hal
      have hL : Aside0 (∀ (w : World), MS W w b M → Calls Tryz.prog 15 #[.pointer (some ⟨b, 0, none⟩), .int .i64 v] w fun e w' => e = .returned (.int .i64 Lv) ∧ w' = w) := ⟨fun w hw => by have := K_LimitS W w b M hw v hv12; rw [hLv] at this; exact this⟩
      have hU : Aside0 (∀ (w : World), MS W w b M → Calls Tryz.prog 17 #[.pointer (some ⟨b, 0, none⟩), .int .i64 v] w fun e w' => e = .returned (.int .i64 Uv) ∧ w' = w) := ⟨fun w hw => by have := K_UsedS W w b M hw v hv12; rw [hUv] at this; exact this⟩
      have u0 := hcl.1
      have hx0 : 0 ≤ x := hx'.1
      have hx1 : x ≤ 255 := hx'.2
      have hv0 : (0 : Int) ≤ (v : Int) := by clear hv; omega
      have hU0 : 0 ≤ Uv := hbd.1
      have hUL : Uv ≤ Lv := hlm.1
      have hL1 : Lv ≤ 1099511627776 := hlm.2
      have HV12 := Aside0.mk hv12
      have hok0 := Aside0.mk hin.out.1.ok
      have hn1 : (n6 : Int) ≤ 12 := by clear hv; omega
      clear hx hx' h6l hvl' hvl hl12' hvl2 hcl hbd hlm hLv hUv h6n hpos hps
      obtain ⟨r, hr⟩ : ∃ r, Lv - Uv = r := ⟨_, rfl⟩
      rw [hr] at hmo hal
      have hr0 : 0 ≤ r := by clear hv; omega
      have hr0b : decide (0 ≤ r) = true := decide_eq_true hr0
      have hr0c : decide (r < 0) = false := decide_eq_false (by clear hv; omega)
      by_cases hbig : 1048576 ≤ r
      · have hbb : decide (1048576 ≤ r) = true := decide_eq_true hbig
        clear hmo hal
        go_wp2_with (fail)
        go_quiet ((go_at_call 15; exact Calls.quiet_of_same (hL.out _ (HM.out.below (pw_below_drewN (Below.refl _ _) _)))))
        go_wp2_with (first | (go_at_call 15; (with_reducible refine (hL.out _ ?_).mono ?_); exact HM.out.below (by with_reducible repeat (first | exact Below.refl _ _ | apply pw_below_drewN | apply below_drew1 | apply below_alloc)); rintro e w' ⟨rfl, rfl⟩) | (go_at_call 17; (with_reducible refine (hU.out _ ?_).mono ?_); exact HM.out.below (by with_reducible repeat (first | exact Below.refl _ _ | apply pw_below_drewN | apply below_drew1 | apply below_alloc)); rintro e w' ⟨rfl, rfl⟩))
        go_ret
        exact ⟨rfl, (HM.out.below (by with_reducible repeat (first | exact Below.refl _ _ | apply pw_below_drewN | apply below_drew1 | apply below_alloc))).2.1⟩
      · have hbb' : decide (1048576 ≤ r) = false := decide_eq_false hbig
        replace hmo := Aside0.mk (hmo (by clear hv; omega))
        have hrb : Aside0 (r + 1 ≤ 9223372036854775807) := ⟨by clear hv; omega⟩
        have hrb2 : Aside0 (r ≤ 9223372036854775807) := ⟨by clear hv; omega⟩
        have hr1 : r < 1048576 := by clear hv; omega
        by_cases hz : r = 0
        · have hzb : (r == 0) = true := by simpa using hz
          clear hal hbig hz
          go_wp2_with (fail)
          go_quiet ((go_at_call 15; exact Calls.quiet_of_same (hL.out _ (HM.out.below (pw_below_drewN (Below.refl _ _) _)))))
          go_wp2_with (first | (go_at_call 13; (with_reducible refine (K_DoS W _ b M ?_ hok0.out 4 v (r + 1) hrb.out).mono ?_); exact HM.out.below (by with_reducible repeat (first | exact Below.refl _ _ | apply pw_below_drewN | apply below_drew1 | apply below_alloc)); rintro e w5 ⟨he, hk5, hs5⟩; rw [hmo.out] at he hs5; obtain rfl : e = .returned (.agg #[.int .i64 4, .int .i64 0, .bool false, .int .i64 v]) := he; have HS5 := Aside0.mk hs5; clear hk5 hs5 HM; obtain ⟨g0, g1, g2, g3, -⟩ := box4 (blk_new w5 (.cells #[.int .i64 4, .int .i64 0, .bool false, .int .i64 v] 35))) | (go_at_call 15; (with_reducible refine (hL.out _ ?_).mono ?_); exact HM.out.below (by with_reducible repeat (first | exact Below.refl _ _ | apply pw_below_drewN | apply below_drew1 | apply below_alloc)); rintro e w' ⟨rfl, rfl⟩) | (go_at_call 17; (with_reducible refine (hU.out _ ?_).mono ?_); exact HM.out.below (by with_reducible repeat (first | exact Below.refl _ _ | apply pw_below_drewN | apply below_drew1 | apply below_alloc)); rintro e w' ⟨rfl, rfl⟩))
          go_ret
          exact ⟨rfl, (HS5.out.below (by with_reducible repeat (first | exact Below.refl _ _ | apply below_drew1 | apply below_alloc))).2.1⟩
        · have hzb : (r == 0) = false := by simpa using hz
          replace hal := hal hr1 hz
          obtain ⟨R2, hR2⟩ : ∃ R2, doM M 4 v r = R2 := ⟨_, rfl⟩
          rw [hR2] at hal
          have hal2 : Aside0 (ansV (doM M 4 v r).2 = .agg #[.int .i64 0, .int .i64 0, .bool false, .int .i64 0]) := ⟨by rw [hR2, hal.1]; rfl⟩
          have hL2 : Aside0 (∀ (w : World), MS W w b (doM M 4 v r).1 → Calls Tryz.prog 15 #[.pointer (some ⟨b, 0, none⟩), .int .i64 v] w fun e w' => e = .returned (.int .i64 Uv) ∧ w' = w) := ⟨fun w hw => by have := K_LimitS W w b _ hw v HV12.out; rw [hR2, hal.2.1] at this; exact this⟩
          have hU2 : Aside0 (∀ (w : World), MS W w b (doM M 4 v r).1 → Calls Tryz.prog 17 #[.pointer (some ⟨b, 0, none⟩), .int .i64 v] w fun e w' => e = .returned (.int .i64 Uv) ∧ w' = w) := ⟨fun w hw => by have := K_UsedS W w b _ hw v HV12.out; rw [hR2, hal.2.2] at this; exact this⟩
          clear hal hbig hz hR2
          go_wp2_with (fail)
          go_quiet ((go_at_call 15; exact Calls.quiet_of_same (hL.out _ (HM.out.below (pw_below_drewN (Below.refl _ _) _)))))
          go_wp2_with (first | (go_at_call 15; (with_reducible refine (hL2.out _ ?_).mono ?_); exact HS6.out.below (by with_reducible repeat (first | exact Below.refl _ _ | apply below_drew1 | apply below_alloc)); rintro e w' ⟨rfl, rfl⟩) | (go_at_call 17; (with_reducible refine (hU2.out _ ?_).mono ?_); exact HS6.out.below (by with_reducible repeat (first | exact Below.refl _ _ | apply below_drew1 | apply below_alloc)); rintro e w' ⟨rfl, rfl⟩) | (go_at_call 13; (with_reducible refine (K_DoS W _ b M ?_ hok0.out 4 v r hrb2.out).mono ?_); exact HS5.out.below (by with_reducible repeat (first | exact Below.refl _ _ | apply below_drew1 | apply below_alloc)); rintro e w6 ⟨he, hk6, hs6⟩; rw [hal2.out] at he; obtain rfl : e = .returned (.agg #[.int .i64 0, .int .i64 0, .bool false, .int .i64 0]) := he; have HS6 := Aside0.mk hs6; clear hk6 hs6 HS5 g0 g1 g2 g3; obtain ⟨g0, g1, g2, g3, -⟩ := box4 (blk_new w6 (.cells #[.int .i64 0, .int .i64 0, .bool false, .int .i64 0] 35))) | (go_at_call 13; (with_reducible refine (K_DoS W _ b M ?_ hok0.out 4 v (r + 1) hrb.out).mono ?_); exact HM.out.below (by with_reducible repeat (first | exact Below.refl _ _ | apply pw_below_drewN | apply below_drew1 | apply below_alloc)); rintro e w5 ⟨he, hk5, hs5⟩; rw [hmo.out] at he hs5; obtain rfl : e = .returned (.agg #[.int .i64 4, .int .i64 0, .bool false, .int .i64 v]) := he; have HS5 := Aside0.mk hs5; clear hk5 hs5 HM; obtain ⟨g0, g1, g2, g3, -⟩ := box4 (blk_new w5 (.cells #[.int .i64 4, .int .i64 0, .bool false, .int .i64 v] 35))) | (go_at_call 15; (with_reducible refine (hL.out _ ?_).mono ?_); exact HM.out.below (by with_reducible repeat (first | exact Below.refl _ _ | apply pw_below_drewN | apply below_drew1 | apply below_alloc)); rintro e w' ⟨rfl, rfl⟩) | (go_at_call 17; (with_reducible refine (hU.out _ ?_).mono ?_); exact HM.out.below (by with_reducible repeat (first | exact Below.refl _ _ | apply pw_below_drewN | apply below_drew1 | apply below_alloc)); rintro e w' ⟨rfl, rfl⟩))
          go_ret
          exact ⟨rfl, (HS6.out.below (by with_reducible repeat (first | exact Below.refl _ _ | apply below_drew1 | apply below_alloc))).2.1⟩
end Go.Proofs.YteaidhoimaphlaaGreat.PM
