import Derived.Test.YteaidhoimaphlaaGreatMPure
import Derived.Test.YteaidhoimaphlaaGreatPMx3
import Derived.RangeFuncNested
import Derived.RangeFuncBound
import Derived.RangeFuncCalls
import Derived.RangeFuncLeaves
import Derived.RangeFuncBox
import Derived.Shelf.Abstract
import Derived.Shelf.RegionOpen
import Derived.OwnWalkIn
import Derived.TacticsInMore
import Derived.LoopNIn
import Derived.LoopIn
import Derived.Deep.RegionHeld3
import Derived.Deep.RegionLaw
import Derived.Laws.CopyOwn
import Derived.Laws.EntriesVeiled
namespace Go.Proofs.YteaidhoimaphlaaGreat.PM
open Go.RowKit Go.Shelf Go.Proofs.YteaidhoimaphlaaGreatW.PrintWords Go.Proofs.YteaidhoimaphlaaGreatW.PrintLast Go.Proofs.YteaidhoimaphlaaGreatW.PrintMore
attribute [local go_sem] max2_int min2_int max_two min_two max_three min_three max_four min_four
set_option linter.unusedVariables false
set_option linter.unusedSimpArgs false
/-- what a ticket uses of a node. -/
def contrib (ps : List Int) (t : TK) (v : Int) : Int := if v ∈ pathL ps t.node then t.n else 0
def sumC (ps : List Int) (tk : List TK) (v : Int) : Int := (tk.map (fun t => contrib ps t v)).sum
theorem sumC_set (ps : List Int) (v : Int) (t : TK) : ∀ (tk : List TK) (k : Nat), k < tk.length → sumC ps (tk.set k t) v = sumC ps tk v - contrib ps (tkAt tk k) v + contrib ps t v
  | [], k, h => by simp at h
  | x :: tk, 0, _ => by simp [sumC, tkAt]; omega
  | x :: tk, k + 1, h => by
    have := sumC_set ps v t tk k (by simpa using h)
    simp only [sumC, List.set_cons_succ, List.map_cons, List.sum_cons] at this ⊢
    have e : tkAt (x :: tk) (k + 1) = tkAt tk k := by simp [tkAt]
    rw [e]
    omega
theorem sumC_bound (ps : List Int) (v B : Int) (hB : 0 ≤ B) : ∀ (tk : List TK), (∀ t ∈ tk, 0 ≤ t.n ∧ t.n ≤ B) → 0 ≤ sumC ps tk v ∧ sumC ps tk v ≤ B * tk.length
  | [], _ => by simp [sumC]
  | x :: tk, h => by
    have ih := sumC_bound ps v B hB tk (fun t ht => h t (List.mem_cons_of_mem _ ht))
    have hx := h x List.mem_cons_self
    have hc : 0 ≤ contrib ps x v ∧ contrib ps x v ≤ B := by unfold contrib; split <;> omega
    simp only [sumC, List.map_cons, List.sum_cons, List.length_cons] at ih ⊢
    have e : B * ((tk.length + 1 : Nat) : Int) = B * (tk.length : Int) + B := by rw [Int.natCast_add, Int.mul_add]; simp
    rw [e]
    omega
theorem rd_set (l : List Int) (k : Nat) (x : Int) (v : Nat) (hk : k < l.length) : rd (l.set k x) (v : Int) = if v = k then x else rd l (v : Int) := by
  unfold rd
  by_cases e : v = k
  · subst e; simp [List.getD, hk]
  · simp [List.getD, List.getElem?_set, Ne.symm e, e]
theorem isUp_lt {ps : List Int} : ∀ {xs : List Int} {v : Int}, IsUp ps v xs → ∀ x ∈ xs, x ≤ v
  | [], _, _, x, hx => by cases hx
  | y :: xs, v, ⟨h1, h2, h3, h4, h5⟩, x, hx => by
    rcases List.mem_cons.1 hx with rfl | hx
    · omega
    · have := isUp_lt h5 x hx; omega
theorem isUp_nodup {ps : List Int} : ∀ {xs : List Int} {v : Int}, IsUp ps v xs → xs.Nodup
  | [], _, _ => List.nodup_nil
  | y :: xs, v, ⟨h1, h2, h3, h4, h5⟩ => List.nodup_cons.2 ⟨fun hy => by have := isUp_lt h5 y hy; omega, isUp_nodup h5⟩
theorem pathL_nodup {ps : List Int} (hf : Falls ps) (v : Int) : (pathL ps v).Nodup := by
  by_cases h : v < (ps.length : Int)
  · exact isUp_nodup (pathL_is hf h)
  · rw [pathL_out (by omega)]; exact List.nodup_nil
theorem addUses_rd (n : Int) : ∀ (P u : List Int) (v : Nat), P.Nodup → (∀ x ∈ P, 0 ≤ x ∧ x < (u.length : Int)) → rd (addUses u P n) (v : Int) = if (v : Int) ∈ P then wrap64 (rd u (v : Int) + n) else rd u (v : Int)
  | [], u, v, _, _ => by simp [addUses]
  | x :: P, u, v, hn, hr => by
    have hx := hr x List.mem_cons_self
    have hn' := List.nodup_cons.1 hn
    have hlen := addUse_len u x n
    have ih := addUses_rd n P (addUse u x n) v hn'.2 (fun y hy => by have := hr y (List.mem_cons_of_mem _ hy); omega)
    have e : rd (addUse u x n) (v : Int) = if (v : Int) = x then wrap64 (rd u (v : Int) + n) else rd u (v : Int) := by
      unfold addUse
      rw [rd_set u x.toNat _ v (by omega)]
      by_cases h : (v : Int) = x
      · rw [if_pos (by omega), if_pos h, h]
      · rw [if_neg (by omega), if_neg h]
    show rd (addUses (addUse u x n) P n) (v : Int) = _
    rw [ih, e]
    by_cases h : (v : Int) = x
    · have : (v : Int) ∉ P := by rw [h]; exact hn'.1
      rw [if_neg this, if_pos h, if_pos (by rw [h]; exact List.mem_cons_self)]
    · by_cases hm : (v : Int) ∈ P
      · rw [if_pos hm, if_neg h, if_pos (List.mem_cons_of_mem _ hm)]
      · rw [if_neg hm, if_neg h, if_neg (by simp [h, hm])]
theorem overV_none (lim use : List Int) (n : Int) : ∀ (P : List Int), overV lim use n P = none → ∀ x ∈ P, wrap64 (rd use x + n) ≤ rd lim x
  | [], _, x, hx => by cases hx
  | y :: P, h, x, hx => by
    unfold overV at h
    split at h
    · cases h
    · rcases List.mem_cons.1 hx with rfl | hx
      · omega
      · exact overV_none lim use n P h x hx
structure Inv (M : ML) : Prop where
  right : Right M.c
  ok : MOk M
  l1 : M.lim.length = 12
  l2 : M.use.length = 12
  l3 : M.tk.length = 16
  tks : ∀ k, k < 16 → 0 ≤ (tkAt M.tk k).n ∧ (tkAt M.tk k).n ≤ 1048576 ∧ ((tkAt M.tk k).n = 0 → (tkAt M.tk k).node = 0) ∧ (0 < (tkAt M.tk k).n → 0 ≤ (tkAt M.tk k).node ∧ (tkAt M.tk k).node < (M.c.ps.length : Int))
  uses : ∀ v : Nat, v < 12 → rd M.use (v : Int) = sumC M.c.ps M.tk (v : Int)
  lims : ∀ v : Nat, v < M.c.ps.length → rd M.use (v : Int) ≤ rd M.lim (v : Int) ∧ rd M.lim (v : Int) ≤ 1099511627776
theorem Inv.bound {M : ML} (h : Inv M) (v : Nat) (hv : v < 12) : 0 ≤ rd M.use (v : Int) ∧ rd M.use (v : Int) ≤ 16777216 := by
  rw [h.uses v hv]
  have := sumC_bound M.c.ps (v : Int) 1048576 (by decide) M.tk (fun t ht => by
    obtain ⟨k, hk, e⟩ := List.getElem_of_mem ht
    have := h.tks k (by have := h.l3; omega)
    rw [tkAt_lt hk, e] at this
    exact ⟨this.1, this.2.1⟩)
  rw [h.l3] at this
  exact ⟨this.1, by have := this.2; omega⟩
theorem contrib_zero (ps : List Int) (t : TK) (v : Int) (h : t.n = 0) : contrib ps t v = 0 := by unfold contrib; rw [h]; simp
theorem Inv.turn0 {M : ML} (h : Inv M) (k : Nat) (hk : k < 16) (h0 : (tkAt M.tk k).n = 0) : Inv { M with tk := M.tk.set k (turnT (tkAt M.tk k) 0 0) } := by
  have hkl : k < M.tk.length := by rw [h.l3]; exact hk
  refine ⟨h.right, turn_ok h.ok k 0 0 M.use, h.l1, h.l2, by simp [h.l3], fun j hj => ?_, fun v hv => ?_, h.lims⟩
  · show 0 ≤ (tkAt (M.tk.set k (turnT (tkAt M.tk k) 0 0)) j).n ∧ _
    by_cases e : j = k
    · subst e; simp only [tkAt_set _ _ _ hkl]; unfold turnT; simp
    · simp only [tkAt_set_ne _ _ _ _ e]; exact h.tks j hj
  · show rd M.use (v : Int) = sumC M.c.ps (M.tk.set k (turnT (tkAt M.tk k) 0 0)) (v : Int)
    rw [sumC_set _ _ _ _ _ hkl, contrib_zero _ _ _ h0, contrib_zero _ (turnT _ 0 0) _ rfl, h.uses v hv]
    omega
theorem free_n {t : TK} (h : isFree t = true) : t.node = 0 ∧ t.n = 0 := by
  unfold isFree at h
  simpa using h
theorem Inv.admit {M : ML} (h : Inv M) (v n : Int) (hv : 0 ≤ v ∧ v < (M.c.ps.length : Int)) (hn : 1 ≤ n ∧ n ≤ 1048576) : Inv (admitM M v n).1 := by
  unfold admitM
  cases hf : freeK M.tk M.c.ti.toNat 0 with
  | none => exact h
  | some k =>
    have hk := freeK_lt _ _ _ _ hf
    have hti := h.ok.ti
    have hk16 : k < 16 := by omega
    have hfr := free_n hk.2.2
    have hkl : k < M.tk.length := by rw [h.l3]; exact hk16
    cases ho : overV M.lim M.use n (pathL M.c.ps v) with
    | some u => exact h.turn0 k hk16 hfr.2
    | none =>
      have hps := h.ok.nodes
      have hrg := pathL_range h.ok.falls v
      have hrd : ∀ u : Nat, rd (addUses M.use (pathL M.c.ps v) n) (u : Int) = if (u : Int) ∈ pathL M.c.ps v then wrap64 (rd M.use (u : Int) + n) else rd M.use (u : Int) :=
        fun u => addUses_rd n _ _ u (pathL_nodup h.ok.falls v) (fun x hx => by have := hrg x hx; have := h.l2; omega)
      refine ⟨h.right, turn_ok h.ok k v n _, h.l1, (addUses_len _ _ _).trans h.l2, by simp [h.l3], fun j hj => ?_, fun u hu => ?_, fun u hu => ?_⟩
      · show 0 ≤ (tkAt (M.tk.set k (turnT (tkAt M.tk k) v n)) j).n ∧ _
        by_cases e : j = k
        · subst e; simp only [tkAt_set _ _ _ hkl]; unfold turnT; simp only; exact ⟨by omega, by omega, by intro; omega, fun _ => hv⟩
        · simp only [tkAt_set_ne _ _ _ _ e]; exact h.tks j hj
      · show rd (addUses M.use (pathL M.c.ps v) n) (u : Int) = sumC M.c.ps (M.tk.set k (turnT (tkAt M.tk k) v n)) (u : Int)
        have hb := h.bound u hu
        rw [sumC_set _ _ _ _ _ hkl, contrib_zero _ _ _ hfr.2, hrd u, ← h.uses u hu]
        show _ = _ - 0 + (if (u : Int) ∈ pathL M.c.ps v then n else 0)
        split
        · rw [w64 (by omega) (by omega)]; omega
        · omega
      · have hl := h.lims u hu
        have hb := h.bound u (Nat.lt_of_lt_of_le hu hps)
        show rd (addUses M.use (pathL M.c.ps v) n) (u : Int) ≤ rd M.lim (u : Int) ∧ _
        rw [hrd u]
        split
        · exact ⟨overV_none _ _ _ _ ho _ (by assumption), hl.2⟩
        · exact hl
theorem Inv.release {M : ML} (h : Inv M) (n : Int) : Inv (releaseM M n).1 := by
  unfold releaseM
  have hkr := tkOf_range n M.c.ti
  obtain ⟨k, hk⟩ : ∃ k : Nat, tkOf n M.c.ti = (k : Int) := ⟨(tkOf n M.c.ti).toNat, by omega⟩
  rw [hk, Int.toNat_natCast]
  have hk16 : k < 16 := by omega
  have hkl : k < M.tk.length := by rw [h.l3]; exact hk16
  have ht := h.tks k hk16
  split
  · exact h
  · have hps := h.ok.nodes
    have hrg := pathL_range h.ok.falls (tkAt M.tk k).node
    have hw : wrap64 (-(tkAt M.tk k).n) = -(tkAt M.tk k).n := w64 (by omega) (by omega)
    rw [hw]
    have hrd : ∀ u : Nat, rd (addUses M.use (pathL M.c.ps (tkAt M.tk k).node) (-(tkAt M.tk k).n)) (u : Int) = if (u : Int) ∈ pathL M.c.ps (tkAt M.tk k).node then wrap64 (rd M.use (u : Int) + -(tkAt M.tk k).n) else rd M.use (u : Int) :=
      fun u => addUses_rd _ _ _ u (pathL_nodup h.ok.falls _) (fun x hx => by have := hrg x hx; have := h.l2; omega)
    refine ⟨h.right, turn_ok h.ok k 0 0 _, h.l1, (addUses_len _ _ _).trans h.l2, by simp [h.l3], fun j hj => ?_, fun u hu => ?_, fun u hu => ?_⟩
    · show 0 ≤ (tkAt (M.tk.set k (turnT (tkAt M.tk k) 0 0)) j).n ∧ _
      by_cases e : j = k
      · subst e; simp only [tkAt_set _ _ _ hkl]; unfold turnT; simp
      · simp only [tkAt_set_ne _ _ _ _ e]; exact h.tks j hj
    · show rd (addUses M.use (pathL M.c.ps (tkAt M.tk k).node) (-(tkAt M.tk k).n)) (u : Int) = sumC M.c.ps (M.tk.set k (turnT (tkAt M.tk k) 0 0)) (u : Int)
      have hb := h.bound u hu
      rw [sumC_set _ _ _ _ _ hkl, contrib_zero _ (turnT _ 0 0) _ rfl, hrd u, ← h.uses u hu]
      show _ = _ - (if (u : Int) ∈ pathL M.c.ps (tkAt M.tk k).node then (tkAt M.tk k).n else 0) + 0
      split
      · rw [w64 (by omega) (by omega)]; omega
      · omega
    · have hl := h.lims u hu
      have hb := h.bound u (Nat.lt_of_lt_of_le hu hps)
      show rd (addUses M.use (pathL M.c.ps (tkAt M.tk k).node) (-(tkAt M.tk k).n)) (u : Int) ≤ rd M.lim (u : Int) ∧ _
      rw [hrd u]
      split
      · rw [w64 (by omega) (by omega)]; exact ⟨by omega, hl.2⟩
      · exact hl
theorem leaf_range {ps : List Int} {v n : Int} (h : leafE ps v n = 0) : (0 ≤ v ∧ v < (ps.length : Int)) ∧ 1 ≤ n ∧ n ≤ 1048576 := by
  unfold leafE amountE at h
  by_cases hl : leafB ps v = true
  · rw [if_pos hl, if_pos rfl] at h
    unfold leafB at hl
    have := of_decide_eq_true hl
    refine ⟨⟨this.1, this.2.1⟩, ?_⟩
    split at h
    · omega
    · split at h
      · omega
      · omega
  · rw [if_neg hl, if_neg (by decide)] at h
    omega
theorem moved_range {ps : List Int} {v n : Int} (h : movedE ps v n = 0) : (0 ≤ v ∧ v < (ps.length : Int)) ∧ 1 ≤ n ∧ n ≤ 1048576 := by
  unfold movedE amountE nodeE at h
  by_cases h1 : v < 0
  · rw [if_pos h1, if_neg (by decide)] at h; omega
  · by_cases h2 : v ≥ (ps.length : Int)
    · rw [if_neg h1, if_pos h2, if_neg (by decide)] at h; omega
    · rw [if_neg h1, if_neg h2, if_pos rfl] at h
      refine ⟨⟨by omega, by omega⟩, ?_⟩
      split at h
      · omega
      · split at h <;> omega
theorem Inv.lim {M : ML} (h : Inv M) (k : Nat) (hk : k < M.c.ps.length) (x : Int) (h1 : rd M.use (k : Int) ≤ x) (h2 : x ≤ 1099511627776) : Inv { M with lim := M.lim.set k x } := by
  have hps := h.ok.nodes
  refine ⟨h.right, ⟨h.ok.ti, h.ok.falls, h.ok.nodes, h.ok.vers⟩, by simp [h.l1], h.l2, h.l3, h.tks, h.uses, fun u hu => ?_⟩
  show rd M.use (u : Int) ≤ rd (M.lim.set k x) (u : Int) ∧ rd (M.lim.set k x) (u : Int) ≤ 1099511627776
  rw [rd_set _ _ _ _ (by have := h.l1; omega)]
  split
  · rename_i e; subst e; exact ⟨h1, h2⟩
  · exact h.lims u hu
theorem Inv.doM {M : ML} (h : Inv M) (kk v n : Int) : Inv (doM M kk v n).1 := by
  unfold PM.doM
  by_cases he : checkE M.c kk v n = 0
  · rw [if_neg (by simpa using he)]
    have hps := h.ok.nodes
    split
    · rename_i e; subst e
      have := leaf_range (show leafE M.c.ps v n = 0 from by simpa [checkE] using he)
      exact h.admit v n this.1 this.2
    · split
      · exact h.release n
      · split
        · rename_i e; subst e
          have hr := moved_range (show movedE M.c.ps v n = 0 from by simpa [checkE] using he)
          obtain ⟨k, rfl⟩ : ∃ k : Nat, v = (k : Int) := ⟨v.toNat, by omega⟩
          have hl := h.lims k (by omega)
          have hb := h.bound k (by omega)
          split
          · exact h
          · rename_i hw
            rw [w64 (by omega) (by omega)] at hw
            rw [w64 (by omega) (by omega), Int.toNat_natCast]
            exact h.lim k (by omega) _ (by omega) (by omega)
        · split
          · rename_i e; subst e
            have hr := moved_range (show movedE M.c.ps v n = 0 from by simpa [checkE] using he)
            obtain ⟨k, rfl⟩ : ∃ k : Nat, v = (k : Int) := ⟨v.toNat, by omega⟩
            have hl := h.lims k (by omega)
            have hb := h.bound k (by omega)
            split
            · exact h
            · rename_i hw
              rw [w64 (by omega) (by omega)] at hw
              rw [w64 (by omega) (by omega), Int.toNat_natCast]
              exact h.lim k (by omega) _ (by omega) (by omega)
          · exact h
  · rw [if_pos (by simpa using he)]; exact h
theorem falls_right {c : LConf} (h : Right c) : Falls c.ps := fun i hi => by
  have := (h.2 i hi).2
  split at this
  · subst_vars; omega
  · exact this.2
theorem rd_append_l (l r : List Int) (v : Nat) (hv : v < l.length) : rd (l ++ r) (v : Int) = rd l (v : Int) := by
  rw [rd_lt (by simp; omega), rd_lt hv, List.getElem_append_left hv]
theorem rd_rep (n : Nat) (v : Nat) : rd (List.replicate n (0 : Int)) (v : Int) = 0 := by
  by_cases h : v < n
  · rw [rd_lt (by simpa using h)]; simp
  · simp [rd, List.getD, List.getElem?_replicate, h]
theorem sumC_zero (ps : List Int) (v : Int) : ∀ n : Nat, sumC ps (List.replicate n ⟨0, 0, 0⟩) v = 0
  | 0 => rfl
  | n + 1 => by
    have := sumC_zero ps v n
    simp only [sumC, List.replicate_succ, List.map_cons, List.sum_cons] at this ⊢
    rw [this, contrib_zero _ _ _ rfl]; rfl
theorem inv_new {c : LConf} (h : Right c) : Inv (newM c) := by
  have h1 := h.1.2.2.2.2.2.1
  have h2 := h.1.2.2.2.2.2.2
  have hn : c.ps.length ≤ 12 := h2.1.2
  have hl : c.ls.length = c.ps.length := h2.2
  refine ⟨h, newM_ok (by omega) h1.2 (falls_right h) hn, by simp [newM]; omega, by simp [newM], by simp [newM], fun k hk => ?_, fun v hv => ?_, fun v hv => ?_⟩
  · have : tkAt (newM c).tk k = ⟨0, 0, 0⟩ := by
      rw [tkAt_lt (by simpa [newM] using hk)]
      exact List.getElem_replicate _
    rw [this]
    exact ⟨by decide, by decide, fun _ => rfl, fun h => absurd h (by decide)⟩
  · show rd (List.replicate 12 (0 : Int)) (v : Int) = sumC c.ps (List.replicate 16 ⟨0, 0, 0⟩) (v : Int)
    rw [rd_rep, sumC_zero]
  · have hv' : v < c.ps.length := hv
    show rd (List.replicate 12 (0 : Int)) (v : Int) ≤ rd (c.ls ++ List.replicate (12 - c.ls.length) 0) (v : Int) ∧ rd (c.ls ++ List.replicate (12 - c.ls.length) 0) (v : Int) ≤ 1099511627776
    rw [rd_rep, rd_append_l _ _ _ (by omega)]
    exact (h.2 v hv').1
/-- a row of calls. -/
def IsCalls (W : World) (v : Value) (l : List S38) : Prop := ∃ A c, v = .slice A l.length c ∧ l.length ≤ c ∧ Kd.C k38 W A l.length l ∧ ∀ x ∈ l, x.f2 ≤ 9223372036854775807
theorem IsCalls.below {W W' : World} {v : Value} {l : List S38} (h : IsCalls W v l) (hb : Below W.heap.size W W') : IsCalls W' v l := by
  obtain ⟨A, c, e, hc, hr, hx⟩ := h
  exact ⟨A, c, e, hc, Kd.C_below hr hb, hx⟩
theorem IsCalls.len {W : World} {A : Option Addr} {n c : Nat} {l : List S38} (h : IsCalls W (.slice A n c) l) : n = l.length := by
  obtain ⟨A', c', e, _⟩ := h
  injection e
theorem IsCalls.at {W : World} {A : Option Addr} {n c : Nat} {l : List S38} (h : IsCalls W (.slice A n c) l) (k : Nat) (hk : k < l.length) :
    ∃ ad, A = some ad ∧ W.cell? (ad.add (k * 3)) = some (.int .i64 (rd_T38 l (k : Int)).f0) ∧ W.cell? ⟨(ad.add (k * 3)).block, (ad.add (k * 3)).off + 1, none⟩ = some (.int .i64 (rd_T38 l (k : Int)).f1) ∧ W.cell? ⟨(ad.add (k * 3)).block, (ad.add (k * 3)).off + 2, none⟩ = some (.int .i64 (rd_T38 l (k : Int)).f2) ∧ (rd_T38 l (k : Int)).f2 ≤ 9223372036854775807 := by
  obtain ⟨A', c', e, hc, hC, hx⟩ := h
  cases e
  obtain ⟨ad, hA, h0, h1, h2⟩ := at_T38 hC (k : Int) (by omega) (by omega)
  simp only [Int.toNat_natCast] at h0 h1 h2
  refine ⟨ad, hA, h0, h1, h2, hx _ ?_⟩
  unfold rd_T38
  rw [Int.toNat_natCast, List.getD_eq_getElem?_getD, List.getElem?_eq_getElem hk]
  exact List.getElem_mem _
def great15 (c : LConf) (l : List S38) : Bool := decide (c.ps.length > 100 ∨ c.ls.length > 100) || decide (40 < l.length)
theorem K_great15 (c : LConf) (A6 : Option Addr) (n6 d6 : Nat) (A7 : Option Addr) (n7 d7 : Nat) (A : Option Addr) (n d : Nat) (l : List S38) (W : World) (h6 : IsInts W (.slice A6 n6 d6) c.ps) (h7 : IsInts W (.slice A7 n7 d7) c.ls) (hl : IsCalls W (.slice A n d) l) :
    Calls Tryz.prog 9 #[.agg #[.int .i64 c.th, .int .i64 c.st, .int .i64 c.ga, .int .i64 c.le, .int .i64 c.re, .int .i64 c.ti, .slice A6 n6 d6, .slice A7 n7 d7], .slice A n d] W fun e w' => e = .returned (.bool (great15 c l)) ∧ Below W.heap.size W w' := by
  obtain ⟨B6, e6, he6, hc6, hr6⟩ := h6
  obtain ⟨B7, e7, he7, hc7, hr7⟩ := h7
  obtain ⟨B, e, he, hc, hr, hx⟩ := hl
  rw [he6, he7, he]
  refine breadlinelaw15_Great.calls _ _ _ _ _ _ B6 e6 c.ps B7 e7 c.ls B e l _ W hr6 hc6 hr7 hc7 hr hc ?_
  have hg : breadlinelaw04_Great.f c.th c.st c.ga c.le c.re c.ti c.ps c.ls = some (decide (c.ps.length > 100 ∨ c.ls.length > 100)) := by
    unfold breadlinelaw04_Great.f
    split
    · congr 1; exact (decide_eq_true (by omega)).symm
    · congr 1; rw [Bool.eq_iff_iff]; simp only [decide_eq_true_eq]; omega
  unfold breadlinelaw15_Great.f great15
  rw [hg]
  simp only [Option.bind_some]
  split
  · rename_i h; rw [h]; rfl
  · rename_i h
    rw [(Bool.not_eq_true _).mp h, Bool.false_or]
    congr 1
    rw [Bool.eq_iff_iff]; simp only [decide_eq_true_eq]; omega
def stepC (M : ML) (x : S38) : ML := (doM M x.f0 x.f1 x.f2).1
def runC (c : LConf) (l : List S38) (k : Nat) : ML := (l.take k).foldl stepC (newM c)
theorem runC_succ (c : LConf) (l : List S38) (k : Nat) (hk : k < l.length) : runC c l (k + 1) = stepC (runC c l k) (rd_T38 l (k : Int)) := by
  unfold runC
  rw [List.take_succ_eq_append_getElem hk, List.foldl_append]
  simp only [List.foldl_cons, List.foldl_nil, rd_T38, Int.toNat_natCast, List.getD_eq_getElem?_getD, List.getElem?_eq_getElem hk, Option.getD_some]
theorem runC_inv {c : LConf} (h : Right c) (l : List S38) : ∀ k, k ≤ l.length → Inv (runC c l k) ∧ (runC c l k).c = c
  | 0, _ => ⟨inv_new h, rfl⟩
  | k + 1, hk => by
    have ih := runC_inv h l k (by omega)
    rw [runC_succ c l k (by omega)]
    exact ⟨ih.1.doM _ _ _, ((doM_ok ih.1.ok _ _ _).2).trans ih.2⟩
end Go.Proofs.YteaidhoimaphlaaGreat.PM
