import Derived.Test.YteaidhoimaphlaaGreatMInv
import Derived.Test.YteaidhoimaphlaaGreatMHead
import Derived.RangeFuncNested
import Derived.RangeFuncBound
import Derived.RangeFuncCalls
import Derived.RangeFuncLeaves
import Derived.RangeFuncBox
import Derived.Shelf.Abstract
import Derived.Shelf.RegionOpen
import Derived.OwnWalkIn
import Derived.TacticsInMore
import Derived.LoopNIn
import Derived.LoopIn
import Derived.Deep.RegionHeld3
import Derived.Deep.RegionLaw
import Derived.Laws.CopyOwn
import Derived.Laws.EntriesVeiled
namespace Go.Proofs.YteaidhoimaphlaaGreat.PM
open Go.RowKit Go.Shelf Go.Proofs.YteaidhoimaphlaaGreatW.PrintWords Go.Proofs.YteaidhoimaphlaaGreatW.PrintLast Go.Proofs.YteaidhoimaphlaaGreatW.PrintMore
attribute [local go_sem] max2_int min2_int max_two min_two max_three min_three max_four min_four
set_option linter.unusedVariables false
set_option linter.unusedSimpArgs false
theorem overV_ext (lim : List Int) (n : Int) (u u' : List Int) : ∀ (P : List Int), (∀ x ∈ P, rd u' x = rd u x) → overV lim u' n P = overV lim u n P
  | [], _ => rfl
  | y :: P, h => by
    unfold overV
    rw [h y List.mem_cons_self, overV_ext lim n u u' P (fun x hx => h x (List.mem_cons_of_mem _ hx))]
theorem freeK_first (tk : List TK) : ∀ (n i k : Nat), freeK tk n i = some k → ∀ j, i ≤ j → j < k → isFree (tkAt tk j) = false
  | 0, i, k, h => by simp [freeK] at h
  | n + 1, i, k, h => by
    unfold freeK at h
    split at h
    · cases h; intro j h1 h2; omega
    · rename_i hf
      intro j h1 h2
      by_cases e : j = i
      · subst e; simpa using hf
      · exact freeK_first tk n (i + 1) k h j (by omega) h2
theorem freeK_mk (tk : List TK) : ∀ (n i k : Nat), i ≤ k → k < i + n → (∀ j, i ≤ j → j < k → isFree (tkAt tk j) = false) → isFree (tkAt tk k) = true → freeK tk n i = some k
  | 0, i, k, h1, h2, _, _ => by omega
  | n + 1, i, k, h1, h2, h3, h4 => by
    unfold freeK
    by_cases e : k = i
    · subst e; rw [if_pos h4]
    · rw [if_neg (by rw [h3 i (Nat.le_refl _) (by omega)]; simp)]
      exact freeK_mk tk n (i + 1) k (by omega) (by omega) (fun j hj1 hj2 => h3 j (by omega) hj2) h4
theorem check_admit {c : LConf} {v n : Int} : checkE c 1 v n = leafE c.ps v n := by unfold checkE; rw [if_pos rfl]
/-- what ModelBack asks of three calls. -/
structure BackOk (M : ML) (v k : Int) : Prop where
  named : namedOk (doM M 1 v k).2.n M.c.ti = true
  on : k ≤ rd (doM M 1 v k).1.use v
  b : (doM (doM M 1 v k).1 2 0 (doM M 1 v k).2.n).2 = ⟨0, k, false, v⟩
  d : (doM (doM (doM M 1 v k).1 2 0 (doM M 1 v k).2.n).1 1 v k).2.err = 0
  n : (doM (doM (doM M 1 v k).1 2 0 (doM M 1 v k).2.n).1 1 v k).2.n ≠ (doM M 1 v k).2.n
  use : rd (doM (doM (doM M 1 v k).1 2 0 (doM M 1 v k).2.n).1 1 v k).1.use 0 = rd M.use 0 + k
theorem back_err {M : ML} (v k : Int) (h : (doM M 1 v k).2.err ≠ 0) : (doM M 1 v k).1.use = M.use := by
  revert h
  unfold doM
  split
  · intro _; rfl
  · rw [if_pos rfl]
    unfold admitM
    split
    · intro _; rfl
    · split
      · intro _; rfl
      · intro h; exact absurd rfl h
theorem admit_yes {M : ML} (h : Inv M) (v : Nat) (k : Int) (hv : v < M.c.ps.length) (hk : 1 ≤ k ∧ k ≤ 1048576) (he : (doM M 1 v k).2.err = 0) :
    leafE M.c.ps v k = 0 ∧ ∃ t, freeK M.tk M.c.ti.toNat 0 = some t ∧ overV M.lim M.use k (pathL M.c.ps v) = none ∧
      doM M 1 v k = ({ M with use := addUses M.use (pathL M.c.ps v) k, tk := M.tk.set t (turnT (tkAt M.tk t) v k) }, ⟨0, (turnT (tkAt M.tk t) v k).ver * 16 + t, false, 0⟩) := by
  by_cases hc : leafE M.c.ps v k = 0
  · have hd : doM M 1 v k = admitM M v k := by unfold doM; rw [check_admit, if_neg (by simpa using hc), if_pos rfl]
    rw [hd] at he ⊢
    unfold admitM at he ⊢
    cases hf : freeK M.tk M.c.ti.toNat 0 with
    | none => rw [hf] at he; simp at he
    | some t =>
      rw [hf] at he
      simp only at he ⊢
      cases ho : overV M.lim M.use k (pathL M.c.ps v) with
      | some u => rw [ho] at he; simp at he
      | none => exact ⟨hc, t, rfl, rfl, rfl⟩
  · exfalso
    unfold doM at he
    rw [check_admit, if_pos hc] at he
    exact hc he
theorem admit_mk {M : ML} (v k : Int) (t : Nat) (hc : leafE M.c.ps v k = 0) (hf : freeK M.tk M.c.ti.toNat 0 = some t) (ho : overV M.lim M.use k (pathL M.c.ps v) = none) :
    doM M 1 v k = ({ M with use := addUses M.use (pathL M.c.ps v) k, tk := M.tk.set t (turnT (tkAt M.tk t) v k) }, ⟨0, (turnT (tkAt M.tk t) v k).ver * 16 + t, false, 0⟩) := by
  unfold doM
  rw [check_admit, if_neg (by simpa using hc), if_pos rfl]
  unfold admitM
  rw [hf]
  simp only [ho]
theorem release_mk {M : ML} (k : Nat) (ver : Int) (x : Int) (ti : 0 ≤ M.c.ti ∧ M.c.ti ≤ 16) (hk : (k : Int) < M.c.ti) (hv : 0 ≤ ver ∧ ver < 4294967296) (he : (tkAt M.tk k).ver = ver) (hf : isFree (tkAt M.tk k) = false) :
    namedOk (ver * 16 + k) M.c.ti = true ∧ doM M 2 x (ver * 16 + k) = ({ M with use := addUses M.use (pathL M.c.ps (tkAt M.tk k).node) (wrap64 (-(tkAt M.tk k).n)), tk := M.tk.set k (turnT (tkAt M.tk k) 0 0) }, ⟨0, (tkAt M.tk k).n, false, (tkAt M.tk k).node⟩) := by
  have e1 : (ver * 16 + k) % 16 = (k : Int) := by omega
  have e2 : (ver * 16 + k) / 16 = ver := by omega
  have hn : namedOk (ver * 16 + k) M.c.ti = true := by unfold namedOk; rw [e1, e2]; exact decide_eq_true (by omega)
  have h1 : tkOf (ver * 16 + k) M.c.ti = (k : Int) := by unfold tkOf; rw [if_pos hn, e1]
  have h2 : verOf (ver * 16 + k) M.c.ti = ver := by unfold verOf; rw [if_pos hn, e2]
  refine ⟨hn, ?_⟩
  have hc : checkE M.c 2 x (ver * 16 + k) = 0 := by
    unfold checkE nameE
    rw [if_neg (by decide), if_pos rfl, if_pos hn]
  unfold doM
  rw [if_neg (by simpa using hc), if_neg (by decide), if_pos rfl]
  unfold releaseM
  rw [h1, h2, Int.toNat_natCast, he, hf, if_neg (by simp)]
theorem back_ok {M : ML} (h : Inv M) (v : Nat) (k : Int) (hv : v < M.c.ps.length) (hk : 1 ≤ k ∧ k ≤ 1048576) (he : (doM M 1 v k).2.err = 0) : BackOk M v k := by
  obtain ⟨hc, t, hf, ho, e1⟩ := admit_yes h v k hv hk he
  have hps := h.ok.nodes
  have hti := h.ok.ti
  have ht := freeK_lt _ _ _ _ hf
  have ht16 : t < 16 := by omega
  have htl : t < M.tk.length := by rw [h.l3]; exact ht16
  have hvr := h.ok.vers t ht16
  have hT := h.right.tree
  have hsv := hT.self hv
  have hs0 := hT.zero hv
  have hnd := pathL_nodup h.ok.falls (v : Int)
  have hrg := pathL_range h.ok.falls (v : Int)
  have hI1 := h.doM 1 v k
  have hrd1 : ∀ u : Nat, rd (addUses M.use (pathL M.c.ps v) k) (u : Int) = if (u : Int) ∈ pathL M.c.ps v then wrap64 (rd M.use (u : Int) + k) else rd M.use (u : Int) :=
    fun u => addUses_rd k _ _ u hnd (fun x hx => by have := hrg x hx; have := h.l2; omega)
  obtain ⟨T, hT1⟩ : ∃ T, turnT (tkAt M.tk t) v k = T := ⟨_, rfl⟩
  have hTv : T.ver = ((tkAt M.tk t).ver + 2) % 4294967296 := by rw [← hT1]; rfl
  have hTn : T.n = k := by rw [← hT1]; rfl
  have hTd : T.node = (v : Int) := by rw [← hT1]; rfl
  rw [hT1] at e1
  have hTf : isFree T = false := by unfold isFree; rw [hTn]; simp; omega
  have hg1 : tkAt (M.tk.set t T) t = T := tkAt_set _ _ _ htl
  obtain ⟨hnm, e2⟩ := release_mk (M := (doM M 1 v k).1) t T.ver 0 (by rw [e1]; exact hti) (by rw [e1]; show (t : Int) < M.c.ti; omega) (by omega) (by rw [e1]; show (tkAt (M.tk.set t T) t).ver = _; rw [hg1]) (by rw [e1]; show isFree (tkAt (M.tk.set t T) t) = false; rw [hg1]; exact hTf)
  have ea : (doM M 1 v k).2.n = T.ver * 16 + t := by rw [e1]
  have ec : (doM M 1 v k).1.c = M.c := by rw [e1]
  have eu1 : (doM M 1 v k).1.use = addUses M.use (pathL M.c.ps v) k := by rw [e1]
  have et1 : (doM M 1 v k).1.tk = M.tk.set t T := by rw [e1]
  have el1 : (doM M 1 v k).1.lim = M.lim := by rw [e1]
  rw [← ea] at e2 hnm
  rw [ec] at hnm
  obtain ⟨R1, hR1⟩ : ∃ R, doM M 1 v k = R := ⟨_, rfl⟩
  rw [hR1] at e2 ec eu1 et1 el1 ea hnm hI1
  rw [et1, hg1, hTn, hTd, ec, eu1] at e2
  obtain ⟨R2, hR2⟩ : ∃ R, doM R1.1 2 0 R1.2.n = R := ⟨_, rfl⟩
  rw [hR2] at e2
  have hI2 := hI1.doM 2 0 R1.2.n
  rw [hR2] at hI2
  have hw : wrap64 (-k) = -k := w64 (by omega) (by omega)
  have ec2 : R2.1.c = M.c := by rw [e2]
  have el2 : R2.1.lim = M.lim := by rw [e2]; exact el1
  have et2 : R2.1.tk = (M.tk.set t T).set t (turnT T 0 0) := by rw [e2]
  have eu2 : R2.1.use = addUses (addUses M.use (pathL M.c.ps v) k) (pathL M.c.ps v) (-k) := by rw [e2, hw]
  have hrd2 : ∀ u : Nat, u < 12 → rd R2.1.use (u : Int) = rd M.use (u : Int) := fun u hu => by
    have hb := h.bound u hu
    rw [eu2, addUses_rd (-k) _ _ u hnd (fun x hx => by have := hrg x hx; have := h.l2; rw [addUses_len]; omega), hrd1 u]
    split
    · rw [w64 (x := rd M.use (u : Int) + k) (by omega) (by omega), w64 (by omega) (by omega)]; omega
    · rfl
  have hf2 : freeK R2.1.tk R2.1.c.ti.toNat 0 = some t := by
    rw [ec2]
    refine freeK_mk _ _ _ _ (Nat.zero_le _) (by omega) (fun j _ hj => ?_) ?_
    · rw [et2, tkAt_set_ne _ _ _ _ (by omega), tkAt_set_ne _ _ _ _ (by omega)]
      exact freeK_first _ _ _ _ hf j (Nat.zero_le _) hj
    · rw [et2, tkAt_set _ _ _ (by simpa using htl)]; rfl
  have ho2 : overV R2.1.lim R2.1.use k (pathL R2.1.c.ps v) = none := by
    rw [el2, ec2, overV_ext M.lim k M.use R2.1.use _ (fun x hx => by
      have hx' := hrg x hx
      obtain ⟨u, rfl⟩ : ∃ u : Nat, x = (u : Int) := ⟨x.toNat, by omega⟩
      exact hrd2 u (by omega))]
    exact ho
  have e3 := admit_mk (M := R2.1) (v : Int) k t (by rw [ec2]; exact hc) hf2 ho2
  have hv3 : (tkAt R2.1.tk t).ver = (T.ver + 2) % 4294967296 := by rw [et2, tkAt_set _ _ _ (by simpa using htl)]; rfl
  have hb0 := h.bound 0 (by omega)
  have hbv := h.bound v (by omega)
  refine ⟨?_, ?_, ?_, ?_, ?_, ?_⟩
  · rw [hR1]; exact hnm
  · rw [hR1, eu1, hrd1 v, if_pos hsv, w64 (by omega) (by omega)]; omega
  · rw [hR1, hR2, e2]
  · rw [hR1, hR2, e3]
  · rw [hR1, hR2, e3, ea]
    show (turnT (tkAt R2.1.tk t) v k).ver * 16 + (t : Int) ≠ T.ver * 16 + t
    unfold turnT
    simp only
    rw [hv3]
    omega
  · rw [hR1, hR2, e3]
    show rd (addUses R2.1.use (pathL R2.1.c.ps v) k) ((0 : Nat) : Int) = _
    have hl2 := hI2.l2
    rw [ec2, addUses_rd k _ _ 0 hnd (fun x hx => by have := hrg x hx; omega), if_pos (by exact hs0), hrd2 0 (by omega)]
    show wrap64 (rd M.use ((0 : Nat) : Int) + k) = rd M.use ((0 : Nat) : Int) + k
    exact w64 (by omega) (by omega)
theorem back_k {k : Nat} (h : (k : Int) < 50) : 1 ≤ (k : Int) + 1 ∧ (k : Int) + 1 ≤ 1048576 ∧ (k : Int) + 1 ≤ 9223372036854775807 := by omega
theorem back_k1 {k : Nat} (h : (k : Int) < 50) : wrap64 ((k : Int) + 1) = (k : Int) + 1 := w64 (by omega) (by omega)
theorem back_k3 {k : Nat} {u : Int} (h0 : 0 ≤ u) (h1 : u ≤ 16777216) (h : (k : Int) < 50) : wrap64 (u + ((k : Int) + 1)) = u + ((k : Int) + 1) := w64 (by omega) (by omega)
theorem back_w {x : Int} (h0 : 0 ≤ x) (h1 : x ≤ 65535) : wrap64 x = x := w64 (by omega) (by omega)
theorem back_n {n ti : Int} (h : namedOk n ti = true) : n ≤ 9223372036854775807 := by
  unfold namedOk at h
  have := of_decide_eq_true h
  omega
theorem back_mod {x n : Int} (h : 0 < n) : ∃ v : Nat, x % n = (v : Int) ∧ (v : Int) < n := by
  have h1 := Int.emod_nonneg x (show n ≠ 0 by omega)
  have h2 := Int.emod_lt_of_pos x h
  exact ⟨(x % n).toNat, by omega, by omega⟩
theorem u16_range {x : Int} (h : (Lit.int .u16 x).wf = true) : 0 ≤ x ∧ x ≤ 65535 := by
  have e1 : IntKind.u16.min = 0 := by kernel_rfl
  have e2 : IntKind.u16.max = 65535 := by kernel_rfl
  simp only [Lit.wf, Bool.and_eq_true, decide_eq_true_eq, e1, e2] at h
  exact h
set_option maxHeartbeats 4000000 in
set_option maxRecDepth 100000 in
theorem W_ModelBack (c : LConf) (A6 : Option Addr) (n6 d6 : Nat) (A7 : Option Addr) (n7 d7 : Nat) (A : Option Addr) (n d : Nat) (l : List S38) (x y : Int) (W : World) (h6 : IsInts W (.slice A6 n6 d6) c.ps) (h7 : IsInts W (.slice A7 n7 d7) c.ls) (hl : IsCalls W (.slice A n d) l) (hx : (Lit.int .u8 x).wf = true) (hy : (Lit.int .u16 y).wf = true) :
    Calls Tryz.prog 6 #[.agg #[.int .i64 c.th, .int .i64 c.st, .int .i64 c.ga, .int .i64 c.le, .int .i64 c.re, .int .i64 c.ti, .slice A6 n6 d6, .slice A7 n7 d7], .slice A n d, .int .u8 x, .int .u16 y] W fun e w' => e = .returned (.bool true) ∧ Below W.heap.size W w' := by
  have hus := Tryz.underlying24
  have hua := Tryz.underlying35
  have huc := Tryz.underlying38
  have H6 := Aside0.mk h6
  have H7 := Aside0.mk h7
  have HL := Aside0.mk hl
  have hn := Aside0.mk hl.len
  clear h6 h7 hl
  have hgr : Aside0 (∀ w, Below W.heap.size W w → Calls Tryz.prog 9 #[.agg #[.int .i64 c.th, .int .i64 c.st, .int .i64 c.ga, .int .i64 c.le, .int .i64 c.re, .int .i64 c.ti, .slice A6 n6 d6, .slice A7 n7 d7], .slice A n d] w fun e w' => e = .returned (.bool (great15 c l)) ∧ Below w.heap.size w w') := ⟨fun w hw => K_great15 c A6 n6 d6 A7 n7 d7 A n d l w (H6.out.below hw) (H7.out.below hw) (HL.out.below hw)⟩
  have hri : Aside0 (∀ w, Below W.heap.size W w → Calls Tryz.prog 10 #[.agg #[.int .i64 c.th, .int .i64 c.st, .int .i64 c.ga, .int .i64 c.le, .int .i64 c.re, .int .i64 c.ti, .slice A6 n6 d6, .slice A7 n7 d7]] w fun e w' => e = .returned (.bool (decide (Right c))) ∧ Below w.heap.size w w') := ⟨fun w hw => K_ref_right c _ _ w (H6.out.below hw) (H7.out.below hw)⟩
  cases hg : great15 c l with
  | true =>
    go_enter Tryz.func6, Tryz.ntmps6
    go_wp2_with (first | (go_at_call 8; (with_reducible refine (K_head20 _).mono ?_); rintro e w1 ⟨rfl, hb1⟩; have HB' : Aside0 (Below W.heap.size W w1) := ⟨below_step (by with_reducible repeat (first | exact Below.refl _ _ | exact HB.out | apply below_drew1 | apply below_alloc)) hb1⟩; have BX' : Aside0 (w1.heap[W.heap.size]? = some (.cells #[.int .i64 c.th, .int .i64 c.st, .int .i64 c.ga, .int .i64 c.le, .int .i64 c.re, .int .i64 c.ti, .slice A6 n6 d6, .slice A7 n7 d7] 24 (0, 0))) := ⟨blk_below (g := W.heap.size) (by with_reducible repeat (first | exact BX.out | exact blk_new _ _ | refine blk_alloc ?_ _ | refine blk_drew ?_)) hb1⟩; have HB := HB'; have BX := BX'; clear HB' BX' hb1; obtain ⟨q0, q1, q2, q3, q4, q5, q6, q7⟩ := box8 BX.out) | (go_at_call 9; (with_reducible refine (hgr.out _ ?_).mono ?_); exact (by with_reducible repeat (first | exact Below.refl _ _ | exact HB.out | apply below_drew1 | apply below_alloc)); rintro e w2 ⟨rfl, hb2⟩; rw [hg]; have HB' : Aside0 (Below W.heap.size W w2) := ⟨below_step (by with_reducible repeat (first | exact Below.refl _ _ | exact HB.out | apply below_drew1 | apply below_alloc)) hb2⟩; have BX' : Aside0 (w2.heap[W.heap.size]? = some (.cells #[.int .i64 c.th, .int .i64 c.st, .int .i64 c.ga, .int .i64 c.le, .int .i64 c.re, .int .i64 c.ti, .slice A6 n6 d6, .slice A7 n7 d7] 24 (0, 0))) := ⟨blk_below (g := W.heap.size) (by with_reducible repeat (first | exact BX.out | exact blk_new _ _ | refine blk_alloc ?_ _ | refine blk_drew ?_)) hb2⟩; clear q0 q1 q2 q3 q4 q5 q6 q7 HB BX; have HB := HB'; have BX := BX'; clear HB' BX' hb2; obtain ⟨q0, q1, q2, q3, q4, q5, q6, q7⟩ := box8 BX.out))
    go_ret
    exact ⟨rfl, (by with_reducible repeat (first | exact Below.refl _ _ | exact HB.out | apply below_drew1 | apply below_alloc))⟩
  | false =>
  by_cases hR : Right c
  rotate_left
  · have hr : decide (Right c) = false := decide_eq_false hR
    clear hR
    go_enter Tryz.func6, Tryz.ntmps6
    go_wp2_with (first | (go_at_call 8; (with_reducible refine (K_head20 _).mono ?_); rintro e w1 ⟨rfl, hb1⟩; have HB' : Aside0 (Below W.heap.size W w1) := ⟨below_step (by with_reducible repeat (first | exact Below.refl _ _ | exact HB.out | apply below_drew1 | apply below_alloc)) hb1⟩; have BX' : Aside0 (w1.heap[W.heap.size]? = some (.cells #[.int .i64 c.th, .int .i64 c.st, .int .i64 c.ga, .int .i64 c.le, .int .i64 c.re, .int .i64 c.ti, .slice A6 n6 d6, .slice A7 n7 d7] 24 (0, 0))) := ⟨blk_below (g := W.heap.size) (by with_reducible repeat (first | exact BX.out | exact blk_new _ _ | refine blk_alloc ?_ _ | refine blk_drew ?_)) hb1⟩; have HB := HB'; have BX := BX'; clear HB' BX' hb1; obtain ⟨q0, q1, q2, q3, q4, q5, q6, q7⟩ := box8 BX.out) | (go_at_call 9; (with_reducible refine (hgr.out _ ?_).mono ?_); exact (by with_reducible repeat (first | exact Below.refl _ _ | exact HB.out | apply below_drew1 | apply below_alloc)); rintro e w2 ⟨rfl, hb2⟩; rw [hg]; have HB' : Aside0 (Below W.heap.size W w2) := ⟨below_step (by with_reducible repeat (first | exact Below.refl _ _ | exact HB.out | apply below_drew1 | apply below_alloc)) hb2⟩; have BX' : Aside0 (w2.heap[W.heap.size]? = some (.cells #[.int .i64 c.th, .int .i64 c.st, .int .i64 c.ga, .int .i64 c.le, .int .i64 c.re, .int .i64 c.ti, .slice A6 n6 d6, .slice A7 n7 d7] 24 (0, 0))) := ⟨blk_below (g := W.heap.size) (by with_reducible repeat (first | exact BX.out | exact blk_new _ _ | refine blk_alloc ?_ _ | refine blk_drew ?_)) hb2⟩; clear q0 q1 q2 q3 q4 q5 q6 q7 HB BX; have HB := HB'; have BX := BX'; clear HB' BX' hb2; obtain ⟨q0, q1, q2, q3, q4, q5, q6, q7⟩ := box8 BX.out) | (go_at_call 10; (with_reducible refine (hri.out _ ?_).mono ?_); exact (by with_reducible repeat (first | exact Below.refl _ _ | exact HB.out | apply below_drew1 | apply below_alloc)); rintro e w3 ⟨rfl, hb3⟩; rw [hr]; have HB' : Aside0 (Below W.heap.size W w3) := ⟨below_step (by with_reducible repeat (first | exact Below.refl _ _ | exact HB.out | apply below_drew1 | apply below_alloc)) hb3⟩; have BX' : Aside0 (w3.heap[W.heap.size]? = some (.cells #[.int .i64 c.th, .int .i64 c.st, .int .i64 c.ga, .int .i64 c.le, .int .i64 c.re, .int .i64 c.ti, .slice A6 n6 d6, .slice A7 n7 d7] 24 (0, 0))) := ⟨blk_below (g := W.heap.size) (by with_reducible repeat (first | exact BX.out | exact blk_new _ _ | refine blk_alloc ?_ _ | refine blk_drew ?_)) hb3⟩; clear q0 q1 q2 q3 q4 q5 q6 q7 HB BX; have HB := HB'; have BX := BX'; clear HB' BX' hb3; obtain ⟨q0, q1, q2, q3, q4, q5, q6, q7⟩ := box8 BX.out))
    go_ret
    exact ⟨rfl, (by with_reducible repeat (first | exact Below.refl _ _ | exact HB.out | apply below_drew1 | apply below_alloc))⟩
  have hr : decide (Right c) = true := decide_eq_true hR
  have HR := Aside0.mk hR
  clear hR
  go_enter Tryz.func6, Tryz.ntmps6
  go_wp2_with (first | (go_at_call 8; (with_reducible refine (K_head20 _).mono ?_); rintro e w1 ⟨rfl, hb1⟩; have HB' : Aside0 (Below W.heap.size W w1) := ⟨below_step (by with_reducible repeat (first | exact Below.refl _ _ | exact HB.out | apply below_drew1 | apply below_alloc)) hb1⟩; have BX' : Aside0 (w1.heap[W.heap.size]? = some (.cells #[.int .i64 c.th, .int .i64 c.st, .int .i64 c.ga, .int .i64 c.le, .int .i64 c.re, .int .i64 c.ti, .slice A6 n6 d6, .slice A7 n7 d7] 24 (0, 0))) := ⟨blk_below (g := W.heap.size) (by with_reducible repeat (first | exact BX.out | exact blk_new _ _ | refine blk_alloc ?_ _ | refine blk_drew ?_)) hb1⟩; have HB := HB'; have BX := BX'; clear HB' BX' hb1; obtain ⟨q0, q1, q2, q3, q4, q5, q6, q7⟩ := box8 BX.out) | (go_at_call 9; (with_reducible refine (hgr.out _ ?_).mono ?_); exact (by with_reducible repeat (first | exact Below.refl _ _ | exact HB.out | apply below_drew1 | apply below_alloc)); rintro e w2 ⟨rfl, hb2⟩; rw [hg]; have HB' : Aside0 (Below W.heap.size W w2) := ⟨below_step (by with_reducible repeat (first | exact Below.refl _ _ | exact HB.out | apply below_drew1 | apply below_alloc)) hb2⟩; have BX' : Aside0 (w2.heap[W.heap.size]? = some (.cells #[.int .i64 c.th, .int .i64 c.st, .int .i64 c.ga, .int .i64 c.le, .int .i64 c.re, .int .i64 c.ti, .slice A6 n6 d6, .slice A7 n7 d7] 24 (0, 0))) := ⟨blk_below (g := W.heap.size) (by with_reducible repeat (first | exact BX.out | exact blk_new _ _ | refine blk_alloc ?_ _ | refine blk_drew ?_)) hb2⟩; clear q0 q1 q2 q3 q4 q5 q6 q7 HB BX; have HB := HB'; have BX := BX'; clear HB' BX' hb2; obtain ⟨q0, q1, q2, q3, q4, q5, q6, q7⟩ := box8 BX.out) | (go_at_call 10; (with_reducible refine (hri.out _ ?_).mono ?_); exact (by with_reducible repeat (first | exact Below.refl _ _ | exact HB.out | apply below_drew1 | apply below_alloc)); rintro e w3 ⟨rfl, hb3⟩; rw [hr]; have HB' : Aside0 (Below W.heap.size W w3) := ⟨below_step (by with_reducible repeat (first | exact Below.refl _ _ | exact HB.out | apply below_drew1 | apply below_alloc)) hb3⟩; have BX' : Aside0 (w3.heap[W.heap.size]? = some (.cells #[.int .i64 c.th, .int .i64 c.st, .int .i64 c.ga, .int .i64 c.le, .int .i64 c.re, .int .i64 c.ti, .slice A6 n6 d6, .slice A7 n7 d7] 24 (0, 0))) := ⟨blk_below (g := W.heap.size) (by with_reducible repeat (first | exact BX.out | exact blk_new _ _ | refine blk_alloc ?_ _ | refine blk_drew ?_)) hb3⟩; clear q0 q1 q2 q3 q4 q5 q6 q7 HB BX; have HB := HB'; have BX := BX'; clear HB' BX' hb3; obtain ⟨q0, q1, q2, q3, q4, q5, q6, q7⟩ := box8 BX.out) | (go_at_call 11; (with_reducible refine (K_New _ c A6 n6 d6 A7 n7 d7 (H6.out.below ?_) (H7.out.below ?_) ?_).mono ?_); exact (by with_reducible repeat (first | exact Below.refl _ _ | exact HB.out | apply below_drew1 | apply below_alloc)); exact (by with_reducible repeat (first | exact Below.refl _ _ | exact HB.out | apply below_drew1 | apply below_alloc)); (have h1 := HR.out.1.2.2.2.2.2.2.1.2; have h2 : c.ls.length = c.ps.length := HR.out.1.2.2.2.2.2.2.2; omega); rintro e w4 ⟨b, rfl, hbs, hm, hb4⟩; have HS : Aside0 (MS W w4 b (runC c l 0)) := ⟨MS.new (by with_reducible repeat (first | exact Below.refl _ _ | exact HB.out | apply below_drew1 | apply below_alloc)) hbs hm hb4⟩; clear hm; have hbn : Aside0 (b ≠ W.heap.size) := ⟨by have := hbs; have := blk_lt BX.out; omega⟩; have HB' : Aside0 (Below W.heap.size W w4) := ⟨below_step (by with_reducible repeat (first | exact Below.refl _ _ | exact HB.out | apply below_drew1 | apply below_alloc)) hb4⟩; have BX' : Aside0 (w4.heap[W.heap.size]? = some (.cells #[.int .i64 c.th, .int .i64 c.st, .int .i64 c.ga, .int .i64 c.le, .int .i64 c.re, .int .i64 c.ti, .slice A6 n6 d6, .slice A7 n7 d7] 24 (0, 0))) := ⟨blk_below (g := W.heap.size) (by with_reducible repeat (first | exact BX.out | exact blk_new _ _ | refine blk_alloc ?_ _ | refine blk_drew ?_)) hb4⟩; clear q0 q1 q2 q3 q4 q5 q6 q7 HB BX; have HB := HB'; have BX := BX'; clear HB' BX' hb4; obtain ⟨q0, q1, q2, q3, q4, q5, q6, q7⟩ := box8 BX.out; clear q0 q1 q2 q3 q4 q5 q6 q7))
  go_loopg [11] l.length (fun gg s7 wr => ∃ kk : Nat, kk ≤ l.length ∧ l.length - kk ≤ gg ∧ s7 = .int .i64 kk ∧ Aside0 (Below W.heap.size W wr) ∧ Aside0 (wr.heap[W.heap.size]? = some (.cells #[.int .i64 c.th, .int .i64 c.st, .int .i64 c.ga, .int .i64 c.le, .int .i64 c.re, .int .i64 c.ti, .slice A6 n6 d6, .slice A7 n7 d7] 24 (0, 0))) ∧ Aside0 (MS W wr b (runC c l kk)))
  case atStart => exact ⟨0, Nat.zero_le _, by omega, rfl, HB, BX, HS⟩
  case round =>
    obtain ⟨kk, hkk, hg', rfl, BW, BY, HM⟩ := hrel
    clear HB BX HS
    have hin := Aside0.mk (runC_inv HR.out l kk hkk)
    by_cases hlt : kk < l.length
    · have hltb : decide ((kk : Int) < (n : Int)) = true := decide_eq_true (by have := hn.out; omega)
      have hk0 : (0 : Int) ≤ (kk : Int) := by omega
      have hkn : (kk : Int) < (n : Int) := by have := hn.out; omega
      obtain ⟨ad, rfl, y0, y1, y2, hy⟩ := (HL.out.below BW.out).at kk hlt
      have HY := Aside0.mk hy
      have hst := Aside0.mk (runC_succ c l kk hlt)
      have hlen : (n : Int) ≤ 40 := by have := hn.out; unfold great15 at hg; simp at hg; omega
      clear hy
      go_wp2_with (go_at_call 13; (with_reducible refine (K_DoS W _ b (runC c l kk) ?_ ?_ _ _ _ ?_).mono ?_); exact HM.out.below (by with_reducible repeat (first | exact Below.refl _ _ | apply below_drew1 | apply below_alloc)); exact hin.out.1.ok; exact HY.out; rintro e w5 ⟨rfl, hk5, hs5⟩; have HM5 : Aside0 (MS W w5 b (runC c l (kk + 1))) := ⟨by rw [hst.out]; exact hs5⟩; have BW5 : Aside0 (Below W.heap.size W w5) := ⟨hs5.2.1⟩; have BY5 : Aside0 (w5.heap[W.heap.size]? = some (.cells #[.int .i64 c.th, .int .i64 c.st, .int .i64 c.ga, .int .i64 c.le, .int .i64 c.re, .int .i64 c.ti, .slice A6 n6 d6, .slice A7 n7 d7] 24 (0, 0))) := ⟨hk5.blk (by with_reducible repeat (first | exact BY.out | refine blk_alloc ?_ _ | refine blk_drew ?_)) (Ne.symm hbn.out)⟩; clear hk5 hs5 y0 y1 y2)
      go_roundg (l.length - (kk + 1))
      case measure => omega
      case rel => exact ⟨kk + 1, by omega, by omega, by go_num, ⟨by have hB := BW5.out; with_reducible repeat (first | exact hB | apply below_drew1 | apply below_alloc)⟩, ⟨by have hB := BY5.out; with_reducible repeat (first | exact hB | refine blk_alloc ?_ _ | refine blk_drew ?_)⟩, ⟨HM5.out.below (by with_reducible repeat (first | exact Below.refl _ _ | apply below_drew1 | apply below_alloc))⟩⟩
    · have hltb : (n : Int) ≤ (kk : Int) := by have := hn.out; omega
      have hkl : kk = l.length := by omega
      subst hkl
      have hlen40 : (l.length : Int) ≤ 40 := by unfold great15 at hg; simp at hg; omega
      obtain ⟨M, hMe⟩ : ∃ M, runC c l l.length = M := ⟨_, rfl⟩
      rw [hMe] at HM hin
      clear hMe
      obtain ⟨q0, q1, q2, q3, q4, q5, q6, q7⟩ := box8 BY.out
      clear q0 q1 q2 q3 q4 q5 q7
      have h6l := H6.out.len
      have hpos : 1 ≤ c.ps.length := HR.out.1.2.2.2.2.2.2.1.1
      have hps : c.ps.length ≤ 12 := HR.out.1.2.2.2.2.2.2.1.2
      have hx' := u8_range hx
      have hy' := u16_range hy
      have hn0 : (0 : Int) < (n6 : Int) := by omega
      have hn1 : (n6 : Int) ≤ 12 := by omega
      have h6n : (n6 : Int) = (c.ps.length : Int) := by omega
      obtain ⟨v, hv, hvl'⟩ := back_mod (x := x) hn0
      have hvl : v < c.ps.length := by clear hv; omega
      obtain ⟨k, hk, hk50⟩ := back_mod (x := y) (n := 50) (by decide)
      have hx0 : 0 ≤ x := hx'.1
      have hx1 : x ≤ 255 := hx'.2
      have hy0 : 0 ≤ y := hy'.1
      have hy1 : y ≤ 65535 := hy'.2
      have hkb : Aside0 (1 ≤ (k : Int) + 1 ∧ (k : Int) + 1 ≤ 1048576 ∧ (k : Int) + 1 ≤ 9223372036854775807) := ⟨back_k hk50⟩
      have hB0 := hin.out.1.bound 0 (by omega)
      have htx : Int.tmod x (n6 : Int) = (v : Int) := by rw [Int.tmod_eq_emod_of_nonneg hx0]; exact hv
      have hty : Int.tmod y 50 = (k : Int) := by rw [Int.tmod_eq_emod_of_nonneg hy0]; exact hk

      have HVL := Aside0.mk hvl
      clear hx hy hx' hy' hv hk hvl h6l hvl' h6n
      obtain ⟨u0, hu0⟩ : ∃ u0, rd M.use 0 = u0 := ⟨_, rfl⟩
      have hU : Aside0 (∀ (w : World) (M' : ML), MS W w b M' → Calls Tryz.prog 17 #[.pointer (some ⟨b, 0, none⟩), .int .i64 0] w fun e w' => e = .returned (.int .i64 (rd M'.use 0)) ∧ w' = w) := ⟨fun w M' hw => K_UsedS W w b M' hw 0 (by decide)⟩
      have hu00 : 0 ≤ u0 := by rw [← hu0]; exact hB0.1
      have hu01 : u0 ≤ 16777216 := by rw [← hu0]; exact hB0.2
      have HU0 := Aside0.mk hu0
      have hUM : Aside0 (∀ (w : World), MS W w b M → Calls Tryz.prog 17 #[.pointer (some ⟨b, 0, none⟩), .int .i64 0] w fun e w' => e = .returned (.int .i64 u0) ∧ w' = w) := ⟨fun w hw => by have := hU.out w M hw; rw [hu0] at this; exact this⟩
      clear hB0 hu0
      obtain ⟨R1, hR1⟩ : ∃ R, doM M 1 v ((k : Int) + 1) = R := ⟨_, rfl⟩
      have HR1 := Aside0.mk hR1
      have hI1 := Aside0.mk (hin.out.1.doM 1 v ((k : Int) + 1))
      rw [hR1] at hI1
      by_cases he : R1.2.err = 0
      · have hA := admit_yes hin.out.1 v ((k : Int) + 1) (by rw [hin.out.2]; exact HVL.out) ⟨hkb.out.1, hkb.out.2.1⟩ (by rw [hR1]; exact he)
        have HB0 := Aside0.mk (back_ok hin.out.1 v ((k : Int) + 1) (by rw [hin.out.2]; exact HVL.out) ⟨hkb.out.1, hkb.out.2.1⟩ (by rw [hR1]; exact he))
        obtain ⟨N1, hN1⟩ : ∃ N1, R1.2.n = N1 := ⟨_, rfl⟩
        have hA1 : Aside0 (ansV R1.2 = .agg #[.int .i64 0, .int .i64 N1, .bool false, .int .i64 0]) := ⟨by
          obtain ⟨_, t, _, _, e⟩ := hA
          rw [hR1] at e
          rw [← hN1, e]; rfl⟩
        clear hA he
        have hb1 := HB0.out.named
        have hb2 := HB0.out.on
        have hb3 := HB0.out.b
        have hb4 := HB0.out.d
        have hb5 := HB0.out.n
        have hb6 := HB0.out.use
        rw [hR1] at hb1 hb2 hb3 hb4 hb5 hb6
        rw [hN1] at hb1 hb3 hb4 hb5 hb6
        rw [hin.out.2] at hb1
        rw [HU0.out] at hb6
        obtain ⟨R2, hR2⟩ : ∃ R, doM R1.1 2 0 N1 = R := ⟨_, rfl⟩
        rw [hR2] at hb3 hb4 hb5 hb6
        obtain ⟨R3, hR3⟩ : ∃ R, doM R2.1 1 v ((k : Int) + 1) = R := ⟨_, rfl⟩
        rw [hR3] at hb4 hb5 hb6
        have hI2 := Aside0.mk (hI1.out.doM 2 0 N1)
        rw [hR2] at hI2
        obtain ⟨N3, hN3⟩ : ∃ N3, R3.2.n = N3 := ⟨_, rfl⟩
        rw [hN3] at hb5
        obtain ⟨on, hon⟩ : ∃ on, rd R1.1.use (v : Int) = on := ⟨_, rfl⟩
        rw [hon] at hb2
        have hA2 : Aside0 (ansV R2.2 = .agg #[.int .i64 0, .int .i64 ((k : Int) + 1), .bool false, .int .i64 v]) := ⟨by rw [hb3]; rfl⟩
        have hA3 : Aside0 (ansV R3.2 = .agg #[.int .i64 0, .int .i64 N3, .bool R3.2.ex, .int .i64 R3.2.node]) := ⟨by unfold ansV; rw [hb4, hN3]⟩
        have HON := Aside0.mk hon
        have hN1b : Aside0 (N1 ≤ 9223372036854775807) := ⟨back_n hb1⟩
        have hnm : Aside0 (∀ w, Calls Tryz.prog 20 #[.int .i64 N1, .int .i64 c.ti] w fun e w' => e = .returned (.tuple #[.int .i64 (tkOf N1 c.ti), .int .i64 (verOf N1 c.ti), .bool true]) ∧ Below w.heap.size w w') := ⟨fun w => by have := K_Named N1 c.ti hN1b.out w; rw [hb1] at this; exact this⟩
        have HR2 := Aside0.mk hR2
        have HR3 := Aside0.mk hR3
        have hU3 : Aside0 (∀ (w : World), MS W w b R3.1 → Calls Tryz.prog 17 #[.pointer (some ⟨b, 0, none⟩), .int .i64 0] w fun e w' => e = .returned (.int .i64 (u0 + ((k : Int) + 1))) ∧ w' = w) := ⟨fun w hw => by have := hU.out w R3.1 hw; rw [hb6] at this; exact this⟩
        have hUV : Aside0 (∀ (w : World), MS W w b R1.1 → Calls Tryz.prog 17 #[.pointer (some ⟨b, 0, none⟩), .int .i64 v] w fun e w' => e = .returned (.int .i64 on) ∧ w' = w) := ⟨fun w hw => by have := K_UsedS W w b R1.1 hw v (Nat.lt_of_lt_of_le HVL.out hps); rw [hon] at this; exact this⟩
        have hne : (N3 != N1) = true := by simpa using hb5
        have hge : decide ((k : Int) + 1 ≤ on) = true := decide_eq_true hb2
        have hok0 := Aside0.mk hin.out.1.ok
        clear hR1 hN1 hb1 hb3 hb4 hb5 hb6 hR2 hR3 hN3 hon HB0
        go_wp2_with (fail)
        go_wp2_with (go_at_call 17; (with_reducible refine (hUM.out _ ?_).mono ?_); exact HM.out.below (by with_reducible repeat (first | exact Below.refl _ _ | apply below_drew1 | apply below_alloc)); rintro e w' ⟨rfl, rfl⟩)
        go_wp2_with (go_at_call 13; (with_reducible refine (K_DoS W _ b M ?_ hok0.out 1 v ((k : Int) + 1) hkb.out.2.2).mono ?_); exact HM.out.below (by with_reducible repeat (first | exact Below.refl _ _ | apply below_drew1 | apply below_alloc)); rintro e w6 ⟨he, hk6, hs6⟩; rw [HR1.out] at he hs6; rw [hA1.out] at he; subst he; have HS1 := Aside0.mk hs6; have BQ : Aside0 (w6.heap[W.heap.size]? = some (.cells #[.int .i64 c.th, .int .i64 c.st, .int .i64 c.ga, .int .i64 c.le, .int .i64 c.re, .int .i64 c.ti, .slice A6 n6 d6, .slice A7 n7 d7] 24 (0, 0))) := ⟨hk6.blk (by with_reducible repeat (first | exact BY.out | refine blk_alloc ?_ _ | refine blk_drew ?_)) (Ne.symm hbn.out)⟩; have hl0 : Aside0 (b < w6.heap.size) := ⟨hs6.blt⟩; clear hk6 hs6 q6 BY HM BW; have a5 : (w6.alloc (.cells #[.int .i64 0, .int .i64 N1, .bool false, .int .i64 0] 35)).cell? ⟨W.heap.size, 5, none⟩ = some (.int .i64 c.ti) := (blk_cell (blk_alloc BQ.out _) 5).trans rfl)
        go_wp2_with (go_at_call 20; (with_reducible refine (hnm.out _).mono ?_); rintro e w7 ⟨rfl, hb7⟩; have HS1' : Aside0 (MS W w7 b R1.1) := ⟨(HS1.out.below (by with_reducible repeat (first | exact Below.refl _ _ | apply below_drew1 | apply below_alloc))).below hb7⟩; have BA : Aside0 (w7.heap[w6.heap.size]? = some (.cells #[.int .i64 0, .int .i64 N1, .bool false, .int .i64 0] 35 (0, 0))) := ⟨blk_below (by with_reducible repeat (first | exact blk_new _ _ | refine blk_alloc ?_ _ | refine blk_drew ?_)) hb7⟩; clear a5 hb7 HS1; have a1 : w7.cell? ⟨w6.heap.size, 1, none⟩ = some (.int .i64 N1) := (blk_cell BA.out 1).trans rfl)
        go_wp2_with (go_at_call 17; (with_reducible refine (hUV.out _ ?_).mono ?_); exact HS1'.out.below (by with_reducible repeat (first | exact Below.refl _ _ | apply below_drew1 | apply below_alloc)); rintro e w' ⟨rfl, rfl⟩)
        go_wp2_with (go_at_call 13; (with_reducible refine (K_DoS W _ b R1.1 ?_ hI1.out.ok 2 0 N1 ?_).mono ?_); exact HS1'.out.below (by with_reducible repeat (first | exact Below.refl _ _ | apply below_drew1 | apply below_alloc)); exact hN1b.out; rintro e w8 ⟨he, hk8, hs8⟩; rw [HR2.out] at he hs8; rw [hA2.out] at he; subst he; have HS2 := Aside0.mk hs8; have BA2 : Aside0 (w8.heap[w6.heap.size]? = some (.cells #[.int .i64 0, .int .i64 N1, .bool false, .int .i64 0] 35 (0, 0))) := ⟨hk8.blk (by with_reducible repeat (first | exact BA.out | refine blk_alloc ?_ _ | refine blk_drew ?_)) (Nat.ne_of_gt hl0.out)⟩; have hl1 : Aside0 (b < w8.heap.size) := ⟨hs8.blt⟩; clear a1 BA hk8 hs8 HS1')
        go_wp2_with (go_at_call 13; (with_reducible refine (K_DoS W _ b R2.1 ?_ hI2.out.ok 1 v ((k : Int) + 1) ?_).mono ?_); exact HS2.out.below (by with_reducible repeat (first | exact Below.refl _ _ | apply below_drew1 | apply below_alloc)); exact hkb.out.2.2; rintro e w9 ⟨he, hk9, hs9⟩; rw [HR3.out] at he hs9; rw [hA3.out] at he; subst he; have HS3 := Aside0.mk hs9; have BA3 : Aside0 (w9.heap[w6.heap.size]? = some (.cells #[.int .i64 0, .int .i64 N1, .bool false, .int .i64 0] 35 (0, 0))) := ⟨hk9.blk (by with_reducible repeat (first | exact BA2.out | refine blk_alloc ?_ _ | refine blk_drew ?_)) (Nat.ne_of_gt hl0.out)⟩; have BB3 : Aside0 (w9.heap[w8.heap.size]? = some (.cells #[.int .i64 0, .int .i64 ((k : Int) + 1), .bool false, .int .i64 v] 35 (0, 0))) := ⟨hk9.blk (by with_reducible repeat (first | exact blk_new _ _ | refine blk_alloc ?_ _ | refine blk_drew ?_)) (Nat.ne_of_gt hl1.out)⟩; clear BA2 hk9 hs9 HS2; have g0 := box4 (blk_alloc BA3.out (.cells #[.int .i64 0, .int .i64 N3, .bool R3.2.ex, .int .i64 R3.2.node] 35)); obtain ⟨g00, g01, g02, g03, -⟩ := g0; have g1 := box4 (blk_alloc BB3.out (.cells #[.int .i64 0, .int .i64 N3, .bool R3.2.ex, .int .i64 R3.2.node] 35)); obtain ⟨g10, g11, g12, g13, -⟩ := g1; have g2 := box4 (blk_new w9 (.cells #[.int .i64 0, .int .i64 N3, .bool R3.2.ex, .int .i64 R3.2.node] 35)); obtain ⟨g20, g21, g22, g23, -⟩ := g2)
        go_wp2_with (go_at_call 17; (with_reducible refine (hU3.out _ ?_).mono ?_); exact HS3.out.below (by with_reducible repeat (first | exact Below.refl _ _ | apply below_drew1 | apply below_alloc)); rintro e w' ⟨rfl, rfl⟩)
        go_ret
        exact ⟨rfl, (HS3.out.below (by with_reducible repeat (first | exact Below.refl _ _ | apply below_drew1 | apply below_alloc))).2.1⟩
      · have hA1 : Aside0 (ansV R1.2 = .agg #[.int .i64 R1.2.err, .int .i64 R1.2.n, .bool R1.2.ex, .int .i64 R1.2.node]) := ⟨rfl⟩
        have hU1 : Aside0 (∀ (w : World), MS W w b R1.1 → Calls Tryz.prog 17 #[.pointer (some ⟨b, 0, none⟩), .int .i64 0] w fun e w' => e = .returned (.int .i64 u0) ∧ w' = w) := ⟨fun w hw => by
          have := hU.out w R1.1 hw
          have e := back_err (M := M) (v : Int) ((k : Int) + 1) (by rw [hR1]; exact he)
          rw [hR1] at e
          rw [e, HU0.out] at this
          exact this⟩
        obtain ⟨er, her⟩ : ∃ er, R1.2.err = er := ⟨_, rfl⟩
        rw [her] at he hA1
        have hne : (er != 0) = true := by simpa using he
        have hok0 := Aside0.mk hin.out.1.ok
        clear hR1 her
        go_wp2_with (fail)
        go_wp2_with (go_at_call 17; (with_reducible refine (hUM.out _ ?_).mono ?_); exact HM.out.below (by with_reducible repeat (first | exact Below.refl _ _ | apply below_drew1 | apply below_alloc)); rintro e w' ⟨rfl, rfl⟩)
        go_wp2_with (go_at_call 13; (with_reducible refine (K_DoS W _ b M ?_ hok0.out 1 v ((k : Int) + 1) hkb.out.2.2).mono ?_); exact HM.out.below (by with_reducible repeat (first | exact Below.refl _ _ | apply below_drew1 | apply below_alloc)); rintro e w6 ⟨he, hk6, hs6⟩; rw [HR1.out] at he hs6; rw [hA1.out] at he; subst he; have HS1 := Aside0.mk hs6; clear hk6 hs6 q6 BY HM BW)
        go_wp2_with (go_at_call 17; (with_reducible refine (hU1.out _ ?_).mono ?_); exact HS1.out.below (by with_reducible repeat (first | exact Below.refl _ _ | apply below_drew1 | apply below_alloc)); rintro e w' ⟨rfl, rfl⟩)
        go_ret
        exact ⟨rfl, (HS1.out.below (by with_reducible repeat (first | exact Below.refl _ _ | apply below_drew1 | apply below_alloc))).2.1⟩
end Go.Proofs.YteaidhoimaphlaaGreat.PM
