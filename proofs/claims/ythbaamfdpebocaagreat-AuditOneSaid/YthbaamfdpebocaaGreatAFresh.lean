import Derived.Test.YthbaamfdpebocaaGreatANode
import Derived.Test.YthbaamfdpebocaaGreatARaw
import Derived.RangeFuncNested
import Derived.RangeFuncBound
import Derived.RangeFuncCalls
import Derived.RangeFuncLeaves
import Derived.RangeFuncBox
import Derived.Shelf.Abstract
import Derived.Shelf.RegionOpen
import Derived.OwnWalkIn
import Derived.TacticsInMore
import Derived.LoopNIn
import Derived.LoopIn
import Derived.Lib.QuietBelow
import Derived.Deep.RegionHeld3
import Derived.Deep.RegionLaw
import Derived.Laws.CopyOwn
import Derived.Laws.EntriesVeiled
import Derived.Deep.DeepCutAuto
import Derived.Deep.MidRow
import Derived.Deep.Heap
import Derived.Lib.SmallJoins
import Derived.ChangeKeysEq
namespace Go.Proofs.YthbaamfdpebocaaGreat.PA
open Go.RowKit Go.Shelf Go.Proofs.YthbaamfdpebocaaGreatW.PrintWords Go.Proofs.YthbaamfdpebocaaGreatW.PrintLast Go.Proofs.YthbaamfdpebocaaGreatW.PrintMore
attribute [local go_sem] max2_int min2_int max_two min_two max_three min_three max_four min_four
set_option linter.unusedVariables false
set_option linter.unusedSimpArgs false
theorem u16_range {x : Int} (h : (Lit.int .u16 x).wf = true) : 0 ≤ x ∧ x ≤ 65535 := by
  have e1 : IntKind.u16.min = 0 := by kernel_rfl
  have e2 : IntKind.u16.max = 65535 := by kernel_rfl
  simp only [Lit.wf, Bool.and_eq_true, decide_eq_true_eq, e1, e2] at h
  exact h
theorem poke_set (l : List Int) (j : Nat) (x : Int) (h : j < l.length) : pokeL l (j : Int) x = l.set j x := by
  unfold pokeL
  rw [if_pos (by omega), Int.toNat_natCast]
theorem cell_set_other {w : World} {b i q j : Nat} {u v : Value} (hc : w.cell? ⟨q, j, none⟩ = some v) (hne : q ≠ b) : (w.setCell ⟨b, i, none⟩ u).cell? ⟨q, j, none⟩ = some v := by
  refine (cell_of_blk (p := ⟨q, j, none⟩) ?_).trans hc
  exact Below.heap_setCell w _ _ q hne
section
theorem rd_poke (l : List Int) (i x j : Int) (h0 : 0 ≤ i) (h1 : i < (l.length : Int)) (hj : 0 ≤ j) : rd (pokeL l i x) j = if j = i then x else rd l j := by
  unfold pokeL rd
  rw [if_pos ⟨h0, h1⟩]
  by_cases e : j = i
  · subst e
    rw [if_pos rfl, List.getD_eq_getElem?_getD, List.getElem?_set_self (by omega)]
    rfl
  · rw [if_neg e, List.getD_eq_getElem?_getD, List.getElem?_set_ne (by omega), List.getD_eq_getElem?_getD]
theorem poke_len {c : LConf} {a : List Int} (hl : WL c a) (i x : Int) : WL c (pokeL a i x) := by
  unfold WL
  rw [pokeL_len]
  exact hl
theorem fresh_WL (c : LConf) (hc : CB c) (k : Nat) : WL c (freshL c k) := WL.of hc (freshL_len c k)
/-- two nodes' words lie apart. -/
theorem nodes_apart (c : LConf) (hc : CB c) (u v : Int) (i j : Int) (hi : 0 ≤ i ∧ i < 6 + 2 * c.st) (hj : 0 ≤ j ∧ j < 6 + 2 * c.st) (h : aLim c u + i = aLim c v + j) : u = v ∧ i = j := by
  rcases Int.lt_trichotomy u v with h1 | h1 | h1
  · have := aLim_step c hc u v h1
    omega
  · subst h1
    omega
  · have := aLim_step c hc v u h1
    omega
theorem fresh_node (c : LConf) (hc : CB c) (u : Nat) (hu : u < c.ps.length) (j : Int) (hj : 0 ≤ j ∧ j < 6 + 2 * c.st) : ∀ k : Nat, k ≤ c.ps.length → rd (freshL c k) (aLim c (u : Int) + j) = if u < k then (if j = 0 ∨ j = 1 then rd c.ls (u : Int) else if j = 5 + c.st then 1 else 0) else 0
  | 0, _ => by
    rw [if_neg (by omega)]
    unfold freshL rd
    rw [List.getD_eq_getElem?_getD, List.getElem?_replicate]
    split <;> rfl
  | k + 1, hk => by
    have hs := hc.1
    have h2 := hc.2.1
    have ih := fresh_node c hc u hu j hj k (by omega)
    have hu0 := aLim_bound c hc (u : Int) (by omega)
    have hin := node_in c hc (fresh_WL c hc k) (k : Int) (by omega)
    have hl := (fresh_WL c hc k)
    have ap := fun i hi h => nodes_apart c hc (u : Int) (k : Int) j i hj hi h
    have ap0 := ap 0 (by omega)
    have ap1 := ap 1 (by omega)
    have ap5 := ap (5 + c.st) (by omega)
    unfold freshL
    rw [rd_poke _ _ _ _ (by unfold aCo; omega) (by rw [pokeL_len, pokeL_len]; unfold aCo; omega) (by omega), rd_poke _ _ _ _ (by unfold aAv; omega) (by rw [pokeL_len]; unfold aAv; omega) (by omega), rd_poke _ _ _ _ (by omega) (by omega) (by omega), ih]
    by_cases e : u = k
    · subst e
      rw [if_pos (show u < u + 1 by omega)]
      by_cases j5 : j = 5 + c.st
      · rw [if_pos (by unfold aCo; omega), if_neg (by omega), if_pos j5]
      · rw [if_neg (by unfold aCo; omega)]
        by_cases j1 : j = 1
        · rw [if_pos (by unfold aAv; omega), if_pos (Or.inr j1)]
        · rw [if_neg (by unfold aAv; omega)]
          by_cases j0 : j = 0
          · rw [if_pos (by omega), if_pos (Or.inl j0)]
          · rw [if_neg (by omega), if_neg (show ¬ u < u by omega), if_neg (by omega), if_neg j5]
    · rw [if_neg (fun h => e (by have := (ap5 (by unfold aCo at h; omega)).1; omega)), if_neg (fun h => e (by have := (ap1 (by unfold aAv at h; omega)).1; omega)), if_neg (fun h => e (by have := (ap0 (by omega)).1; omega))]
      by_cases h : u < k
      · rw [if_pos h, if_pos (show u < k + 1 by omega)]
      · rw [if_neg h, if_neg (show ¬ u < k + 1 by omega)]
theorem fresh_tick (c : LConf) (hc : CB c) (i : Int) (hi : aLim c (c.ps.length : Int) ≤ i) : ∀ k : Nat, k ≤ c.ps.length → rd (freshL c k) i = 0
  | 0, _ => by
    unfold freshL rd
    rw [List.getD_eq_getElem?_getD, List.getElem?_replicate]
    split <;> rfl
  | k + 1, hk => by
    have hs := hc.1
    have h2 := hc.2.1
    have ih := fresh_tick c hc i hi k (by omega)
    have hu0 := aLim_bound c hc (c.ps.length : Int) (by omega)
    have hin := node_in c hc (fresh_WL c hc k) (k : Int) (by omega)
    have hst := aLim_step c hc (k : Int) (c.ps.length : Int) (by omega)
    unfold freshL
    rw [rd_poke _ _ _ _ (by unfold aCo; omega) (by rw [pokeL_len, pokeL_len]; unfold aCo; omega) (by omega), rd_poke _ _ _ _ (by unfold aAv; omega) (by rw [pokeL_len]; unfold aAv; omega) (by omega), rd_poke _ _ _ _ (by omega) (by omega) (by omega), ih, if_neg (by unfold aCo; omega), if_neg (by unfold aAv; omega), if_neg (by omega)]
/-- a node's words: its limit, what is available, and no more. -/
structure NodeIs (c : LConf) (b : List Int) (u : Int) (l a : Int) : Prop where
  lim : rd b (aLim c u) = l
  av : rd b (aAv c u) = a
  le : ∀ s, 0 ≤ s → s < c.st → rd b (aLe c u s) = 0
  co : ∀ j, 0 ≤ j → j < 4 + c.st → rd b (aCo c u + j) = if j = 3 then 1 else 0
/-- no ticket is. -/
def TF (c : LConf) (b : List Int) : Prop := ∀ i, aLim c (c.ps.length : Int) ≤ i → i < (b.length : Int) → rd b i = 0
theorem fresh_is (c : LConf) (hc : CB c) (u : Nat) (hu : u < c.ps.length) : NodeIs c (freshW c) (u : Int) (rd c.ls (u : Int)) (rd c.ls (u : Int)) := by
  have hs := hc.1
  have h := fun j hj => (fresh_node c hc u hu j hj c.ps.length (Nat.le_refl _)).trans (if_pos hu)
  refine ⟨?_, ?_, fun s h0 h1 => ?_, fun j h0 h1 => ?_⟩
  · have := h 0 (by omega)
    rw [Int.add_zero, if_pos (Or.inl rfl)] at this
    exact this
  · have := h 1 (by omega)
    rw [if_pos (Or.inr rfl)] at this
    exact this
  · have := h (2 + s) (by omega)
    rw [if_neg (by omega), if_neg (by omega)] at this
    rw [show aLe c (u : Int) s = aLim c (u : Int) + (2 + s) by unfold aLe; omega]
    exact this
  · have := h (2 + c.st + j) (by omega)
    rw [if_neg (by omega)] at this
    rw [show aCo c (u : Int) + j = aLim c (u : Int) + (2 + c.st + j) by unfold aCo; omega]
    refine Eq.trans this ?_
    by_cases e : j = 3
    · rw [if_pos (by omega), if_pos e]
    · rw [if_neg (by omega), if_neg e]
theorem fresh_TF (c : LConf) (hc : CB c) : TF c (freshW c) := fun i hi _ => fresh_tick c hc i hi c.ps.length (Nat.le_refl _)
/-- another node's word is altered. -/
theorem NodeIs.other {c : LConf} (hc : CB c) {b : List Int} (hl : WL c b) {u v : Nat} (hu : u < c.ps.length) (hv : v < c.ps.length) (hne : u ≠ v) {l a : Int} (h : NodeIs c b (u : Int) l a) (j : Int) (hj : 0 ≤ j ∧ j < 6 + 2 * c.st) (x : Int) : NodeIs c (pokeL b (aLim c (v : Int) + j) x) (u : Int) l a := by
  have hs := hc.1
  have h2 := hc.2.1
  have hin := node_in c hc hl (v : Int) (by omega)
  have hiu := node_in c hc hl (u : Int) (by omega)
  have ap : ∀ i, 0 ≤ i → i < 6 + 2 * c.st → rd (pokeL b (aLim c (v : Int) + j) x) (aLim c (u : Int) + i) = rd b (aLim c (u : Int) + i) := fun i h0 h1 => by
    rw [rd_poke _ _ _ _ (by omega) (by omega) (by omega), if_neg (fun e => hne (by have := (nodes_apart c hc (u : Int) (v : Int) i j ⟨h0, h1⟩ hj e).1; omega))]
  refine ⟨?_, ?_, fun s h0 h1 => ?_, fun i h0 h1 => ?_⟩
  · have := ap 0 (by omega) (by omega)
    rw [Int.add_zero] at this
    rw [this]; exact h.lim
  · have := ap 1 (by omega) (by omega)
    exact this.trans h.av
  · have := ap (2 + s) (by omega) (by omega)
    rw [show aLim c (u : Int) + (2 + s) = aLe c (u : Int) s by unfold aLe; omega] at this
    exact this.trans (h.le s h0 h1)
  · have := ap (2 + c.st + i) (by omega) (by omega)
    rw [show aLim c (u : Int) + (2 + c.st + i) = aCo c (u : Int) + i by unfold aCo; omega] at this
    exact this.trans (h.co i h0 h1)
theorem TF.poke {c : LConf} (hc : CB c) {b : List Int} (hl : WL c b) (h : TF c b) {v : Nat} (hv : v < c.ps.length) (j : Int) (hj : 0 ≤ j ∧ j < 6 + 2 * c.st) (x : Int) : TF c (pokeL b (aLim c (v : Int) + j) x) := fun i h0 h1 => by
  have hs := hc.1
  have hin := node_in c hc hl (v : Int) (by omega)
  have hst := aLim_step c hc (v : Int) (c.ps.length : Int) (by omega)
  rw [pokeL_len] at h1
  rw [rd_poke _ _ _ _ (by omega) (by omega) (by omega), if_neg (by omega)]
  exact h i h0 h1
theorem TF.amts {c : LConf} (hc : CB c) {b : List Int} (hl : WL c b) (h : TF c b) (v : Int) : ∀ (n : Nat) (k : Int), 0 ≤ k → k + n ≤ c.ti → PA.amts c b v n k = []
  | 0, _, _, _ => rfl
  | n + 1, k, h0, h1 => by
    have h3 := hc.2.2.1
    have hi := tick_in c hc hl k (by omega)
    have e : rd b (aTi c k) = 0 := h _ (by unfold aTi; omega) (by omega)
    have e2 : (livP c b k).2.2 = false := by
      unfold livP
      rw [e, if_neg (fun hh => absurd hh.2.1 (by decide))]
    unfold PA.amts
    rw [if_neg (fun hh => by rw [e2] at hh; exact absurd hh.1 (by decide)), TF.amts hc hl h v n (k + 1) (by omega) (by omega)]
theorem TF.used {c : LConf} (hc : CB c) {b : List Int} (hl : WL c b) (h : TF c b) (v : Int) : usedP c b v = 0 := by
  have h3 := hc.2.2.1
  unfold usedP
  rw [h.amts hc hl v c.ti.toNat 0 (by omega) (by omega)]
  rfl
theorem sum_zero {c : LConf} {b : List Int} : ∀ (n : Nat) (i : Int), (∀ k, i ≤ k → k < i + n → rd b k = 0) → (rdI b n i).sum = 0
  | 0, _, _ => rfl
  | n + 1, i, h => by
    rw [rdI, List.sum_cons, h i (by omega) (by omega), sum_zero (c := c) n (i + 1) (fun k h0 h1 => h k (by omega) (by omega))]
    rfl
theorem NodeIs.held {c : LConf} (hc : CB c) {b : List Int} (hl : WL c b) (ht : TF c b) {u l a : Int} (h : NodeIs c b u l a) : heldP c b u = wrap64 (l - a) := by
  have hs := hc.1
  unfold heldP
  rw [ht.used hc hl, h.lim, rdI, List.sum_cons, h.av, sum_zero (c := c) _ _ (fun k h0 h1 => by
    have := h.le (k - (aLim c u + 2)) (by unfold aAv at h0; omega) (by unfold aAv at h1; omega)
    rw [show aLe c u (k - (aLim c u + 2)) = k by unfold aLe; omega] at this
    exact this)]
  congr 1
  omega
theorem NodeIs.str {c : LConf} (hR : Right c) {b : List Int} {u l a : Int} (h : NodeIs c b u l a) : ∀ (n : Nat) (s : Int), 0 ≤ s → s + n ≤ c.st → strB c b u n s = true
  | 0, _, _, _ => rfl
  | n + 1, s, h0, h1 => by
    have hg := hR.1.2.2.1
    have hle := hR.1.2.2.2.1
    have e := h.co (4 + s) (by omega) (by omega)
    rw [if_neg (by omega), show aCo c u + (4 + s) = aCo c u + 4 + s by omega] at e
    unfold strB
    rw [h.le s h0 (by omega), e, h.str hR n (s + 1) (by omega) (by omega), show valP 0 = 0 from rfl, decide_eq_true (by omega)]
    rfl
theorem NodeIs.liv {c : LConf} (hc : CB c) {b : List Int} {u l a : Int} (h : NodeIs c b u l a) : livB c b u = true := by
  have hs := hc.1
  have e := h.co 3 (by omega) (by omega)
  rw [if_pos rfl] at e
  unfold livB
  rw [e]
  exact decide_eq_true (by omega)
theorem NodeIs.saf {c : LConf} (hR : Right c) {b : List Int} (hl : WL c b) (ht : TF c b) {u l a : Int} (h : NodeIs c b u l a) (h0 : 0 ≤ a) (h1 : a ≤ l) (h2 : l ≤ 1099511627776) : safB c b u = true := by
  have hs := hR.cb.1
  have e : limB c b u = true := by
    unfold limB
    rw [h.held hR.cb hl ht, h.lim, h.av, ht.used hR.cb hl, w64 (by omega) (by omega)]
    exact decide_eq_true (by omega)
  unfold safB
  rw [e, h.liv hR.cb, h.str hR c.st.toNat 0 (by omega) (by omega)]
  rfl
theorem sum_vals {b : List Int} : ∀ (n : Nat) (i x : Int), (∀ k, i ≤ k → k < i + n → rd b k = 0) → -9223372036854775808 ≤ x → x ≤ 9223372036854775807 → ((rdI b n i).map valP).foldl add64 x = x
  | 0, _, _, _, _, _ => rfl
  | n + 1, i, x, h, h0, h1 => by
    have e : add64 x (valP 0) = x := by
      rw [show valP 0 = 0 from rfl]
      unfold add64
      rw [Int.add_zero, w64 h0 h1]
    rw [rdI, List.map_cons, List.foldl_cons, h i (by omega) (by omega), e]
    exact sum_vals n (i + 1) x (fun k h0 h1 => h k (by omega) (by omega)) h0 h1
theorem NodeIs.rst {c : LConf} (hc : CB c) {b : List Int} (hl : WL c b) (ht : TF c b) {u l a : Int} (h : NodeIs c b u l a) : rstB c b u = decide (wrap64 (l - a) = 0) := by
  have hs := hc.1
  have e0 := h.co 0 (by omega) (by omega)
  have e1 := h.co 1 (by omega) (by omega)
  have e2 := h.co 2 (by omega) (by omega)
  rw [if_neg (by omega)] at e0 e1 e2
  rw [Int.add_zero] at e0
  have e3 : sumP c b u = 0 := by
    unfold sumP
    rw [e0]
    refine sum_vals _ _ _ (fun k h0 h1 => ?_) (by omega) (by omega)
    have := h.co (k - aCo c u) (by omega) (by omega)
    rw [if_neg (by omega), show aCo c u + (k - aCo c u) = k by omega] at this
    exact this
  unfold rstB
  rw [h.held hc hl ht, e1, e2, e3, ht.used hc hl]
  exact decide_eq_decide.2 ⟨fun h => h.1, fun h => ⟨h, rfl, rfl⟩⟩
theorem fstP_all {p : Int → Bool} : ∀ (n : Nat) (v : Int), (∀ u, v ≤ u → u < v + n → p u = true) → fstP p n v = -1
  | 0, _, _ => rfl
  | n + 1, v, h => by
    unfold fstP
    rw [if_pos (h v (by omega) (by omega))]
    exact fstP_all n (v + 1) fun u h0 h1 => h u (by omega) (by omega)
theorem fstP_one {p : Int → Bool} (v : Int) (hv : p v = false) : ∀ (n : Nat) (u : Int), u ≤ v → v < u + n → (∀ x, u ≤ x → x < v → p x = true) → fstP p n u = v
  | 0, u, h0, h1, _ => by omega
  | n + 1, u, h0, h1, h => by
    unfold fstP
    by_cases e : u = v
    · subst e
      rw [if_neg (by rw [hv]; decide)]
    · rw [if_pos (h u (by omega) (by omega))]
      exact fstP_one v hv n (u + 1) (by omega) (by omega) fun x h2 h3 => h x (by omega) h3
end
section
theorem Right.lim {c : LConf} (hR : Right c) (u : Nat) (hu : u < c.ps.length) : 0 ≤ rd c.ls (u : Int) ∧ rd c.ls (u : Int) ≤ 1099511627776 := (hR.2 u hu).1
theorem NodeIs.setAv {c : LConf} (hc : CB c) {b : List Int} (hl : WL c b) {v : Nat} (hv : v < c.ps.length) {l a : Int} (h : NodeIs c b (v : Int) l a) (x : Int) : NodeIs c (pokeL b (aAv c (v : Int)) x) (v : Int) l x := by
  have hs := hc.1
  have hin := node_in c hc hl (v : Int) (by omega)
  refine ⟨?_, ?_, fun s h0 h1 => ?_, fun i h0 h1 => ?_⟩
  · rw [rd_poke _ _ _ _ (by unfold aAv; omega) (by unfold aAv; omega) (by omega), if_neg (by unfold aAv; omega)]
    exact h.lim
  · rw [rd_poke _ _ _ _ (by unfold aAv; omega) (by unfold aAv; omega) (by unfold aAv; omega), if_pos rfl]
  · rw [rd_poke _ _ _ _ (by unfold aAv; omega) (by unfold aAv; omega) (by unfold aLe; omega), if_neg (by unfold aAv aLe; omega)]
    exact h.le s h0 h1
  · rw [rd_poke _ _ _ _ (by unfold aAv; omega) (by unfold aAv; omega) (by unfold aCo; omega), if_neg (by unfold aAv aCo; omega)]
    exact h.co i h0 h1
theorem NodeIs.setLim {c : LConf} (hc : CB c) {b : List Int} (hl : WL c b) {v : Nat} (hv : v < c.ps.length) {l a : Int} (h : NodeIs c b (v : Int) l a) (x : Int) : NodeIs c (pokeL b (aLim c (v : Int)) x) (v : Int) x a := by
  have hs := hc.1
  have hin := node_in c hc hl (v : Int) (by omega)
  refine ⟨?_, ?_, fun s h0 h1 => ?_, fun i h0 h1 => ?_⟩
  · rw [rd_poke _ _ _ _ (by omega) (by omega) (by omega), if_pos rfl]
  · rw [rd_poke _ _ _ _ (by omega) (by omega) (by unfold aAv; omega), if_neg (by unfold aAv; omega)]
    exact h.av
  · rw [rd_poke _ _ _ _ (by omega) (by omega) (by unfold aLe; omega), if_neg (by unfold aLe; omega)]
    exact h.le s h0 h1
  · rw [rd_poke _ _ _ _ (by omega) (by omega) (by unfold aCo; omega), if_neg (by unfold aCo; omega)]
    exact h.co i h0 h1
theorem fresh_saf (c : LConf) (hR : Right c) (v : Nat) (hv : v < c.ps.length) (j : Int) (hj : 0 ≤ j ∧ j < 6 + 2 * c.st) (x : Int) (u : Nat) (hu : u < c.ps.length) (hne : u ≠ v) : NodeIs c (pokeL (freshW c) (aLim c (v : Int) + j) x) (u : Int) (rd c.ls (u : Int)) (rd c.ls (u : Int)) :=
  (fresh_is c hR.cb u hu).other hR.cb (fresh_WL c hR.cb _) hu hv hne j hj x
theorem one_of (c : LConf) (hR : Right c) (v : Nat) (hv : v < c.ps.length) (j : Int) (hj : 0 ≤ j ∧ j < 6 + 2 * c.st) (x : Int) (hb : safB c (pokeL (freshW c) (aLim c (v : Int) + j) x) (v : Int) = false) : safeP c (pokeL (freshW c) (aLim c (v : Int) + j) x) = (v : Int) ∧ quietP c (pokeL (freshW c) (aLim c (v : Int) + j) x) = (v : Int) := by
  have hw := poke_len (fresh_WL c hR.cb c.ps.length) (aLim c (v : Int) + j) x
  have ht := (fresh_TF c hR.cb).poke hR.cb (fresh_WL c hR.cb c.ps.length) hv j hj x
  have e : safeP c (pokeL (freshW c) (aLim c (v : Int) + j) x) = (v : Int) := by
    refine fstP_one _ hb _ _ (by omega) (by omega) fun u h0 h1 => ?_
    obtain ⟨u, rfl⟩ := Int.eq_ofNat_of_zero_le h0
    have hl := hR.lim u (by omega)
    exact (fresh_saf c hR v hv j hj x u (by omega) (by omega)).saf hR hw ht hl.1 (Int.le_refl _) hl.2
  exact ⟨e, by unfold quietP; rw [if_pos (by omega)]; exact e⟩
theorem strB_bad (c : LConf) (b : List Int) (v s : Int) (h : ¬ ((0 ≤ rd b (aLe c v s) ∧ rd b (aLe c v s) ≤ c.le) ∧ 1 - c.ga ≤ valP (rd b (aCo c v + 4 + s)) ∧ valP (rd b (aCo c v + 4 + s)) ≤ c.ga - 1)) : ∀ (n : Nat) (s0 : Int), s0 ≤ s → s < s0 + n → strB c b v n s0 = false
  | 0, s0, h0, h1 => by omega
  | n + 1, s0, h0, h1 => by
    unfold strB
    by_cases e : s0 = s
    · subst e
      rw [decide_eq_false h, Bool.false_and]
    · rw [strB_bad c b v s h n (s0 + 1) (by omega) (by omega), Bool.and_false]
/-- what a word is set to, and where. -/
def oneAt (c : LConf) (v s : Int) (q : Int) : Int := if q = 0 then 0 else if q = 1 then 1 else if q = 2 then 2 + s else if q = 3 then 2 + c.st + 3 else 2 + c.st + 4 + s
def oneVal (c : LConf) (v n : Int) (q : Int) : Int := if q = 0 then -n else if q = 1 then rd c.ls v + n else if q = 2 then c.le + n else if q = 3 then c.st + n else c.ga + n - 1
theorem one_plain (c : LConf) (hR : Right c) (v : Nat) (hv : v < c.ps.length) (s n q : Int) (hs : 0 ≤ s ∧ s < c.st) (hn : 1 ≤ n ∧ n ≤ 65536) (hq : 0 ≤ q ∧ q < 5) :
    safeP c (pokeL (freshW c) (aLim c (v : Int) + oneAt c (v : Int) s q) (oneVal c (v : Int) n q)) = (v : Int) ∧ quietP c (pokeL (freshW c) (aLim c (v : Int) + oneAt c (v : Int) s q) (oneVal c (v : Int) n q)) = (v : Int) := by
  have hc := hR.cb
  have hst := hc.1
  have hg := hR.1.2.2.1
  have hle := hR.1.2.2.2.1
  have hl : WL c (freshW c) := fresh_WL c hc c.ps.length
  have hin := node_in c hc hl (v : Int) (by omega)
  have hlm := hR.lim v hv
  have hj : 0 ≤ oneAt c (v : Int) s q ∧ oneAt c (v : Int) s q < 6 + 2 * c.st := by unfold oneAt; repeat' (first | omega | split)
  refine one_of c hR v hv _ hj _ ?_
  have e : q = 0 ∨ q = 1 ∨ q = 2 ∨ q = 3 ∨ q = 4 := by omega
  have hw := poke_len hl (aLim c (v : Int) + oneAt c (v : Int) s q) (oneVal c (v : Int) n q)
  have ht := (fresh_TF c hc).poke hc hl hv _ hj (oneVal c (v : Int) n q)
  have hrd : rd (pokeL (freshW c) (aLim c (v : Int) + oneAt c (v : Int) s q) (oneVal c (v : Int) n q)) (aLim c (v : Int) + oneAt c (v : Int) s q) = oneVal c (v : Int) n q := by
    rw [rd_poke _ _ _ _ (by omega) (by omega) (by omega), if_pos rfl]
  unfold safB
  rcases e with rfl | rfl | rfl | rfl | rfl
  · have e1 : rd (pokeL (freshW c) (aLim c (v : Int) + oneAt c (v : Int) s 0) (oneVal c (v : Int) n 0)) (aLim c (v : Int)) = -n := by
      have := hrd
      rw [show aLim c (v : Int) + oneAt c (v : Int) s 0 = aLim c (v : Int) from Int.add_zero _] at this ⊢
      exact this
    have : limB c (pokeL (freshW c) (aLim c (v : Int) + oneAt c (v : Int) s 0) (oneVal c (v : Int) n 0)) (v : Int) = false := by
      unfold limB
      rw [e1]
      exact decide_eq_false (fun h => by have := h.1; omega)
    rw [this]; rfl
  · have hN : NodeIs c (pokeL (freshW c) (aLim c (v : Int) + oneAt c (v : Int) s 1) (oneVal c (v : Int) n 1)) (v : Int) (rd c.ls (v : Int)) (rd c.ls (v : Int) + n) := (fresh_is c hc v hv).setAv hc hl hv (rd c.ls (v : Int) + n)
    have : limB c (pokeL (freshW c) (aLim c (v : Int) + oneAt c (v : Int) s 1) (oneVal c (v : Int) n 1)) (v : Int) = false := by
      unfold limB
      rw [hN.held hc hw ht, w64 (by omega) (by omega)]
      exact decide_eq_false (fun h => by have := h.2.2.2.2; omega)
    rw [this]; rfl
  · have e1 : rd (pokeL (freshW c) (aLim c (v : Int) + oneAt c (v : Int) s 2) (oneVal c (v : Int) n 2)) (aLe c (v : Int) s) = c.le + n := by
      have := hrd
      rw [show aLim c (v : Int) + oneAt c (v : Int) s 2 = aLe c (v : Int) s by show aLim c (v : Int) + (2 + s) = _; unfold aLe; omega] at this ⊢
      exact this
    rw [strB_bad c _ (v : Int) s (fun h => by rw [e1] at h; have := h.1.2; omega) c.st.toNat 0 (by omega) (by omega), Bool.and_false]
  · have e1 : rd (pokeL (freshW c) (aLim c (v : Int) + oneAt c (v : Int) s 3) (oneVal c (v : Int) n 3)) (aCo c (v : Int) + 3) = c.st + n := by
      have := hrd
      rw [show aLim c (v : Int) + oneAt c (v : Int) s 3 = aCo c (v : Int) + 3 by show aLim c (v : Int) + (2 + c.st + 3) = _; unfold aCo; omega] at this ⊢
      exact this
    have : livB c (pokeL (freshW c) (aLim c (v : Int) + oneAt c (v : Int) s 3) (oneVal c (v : Int) n 3)) (v : Int) = false := by
      unfold livB
      rw [e1]
      exact decide_eq_false (fun h => by have := h.1.2; omega)
    rw [this, Bool.and_false, Bool.false_and]
  · have e1 : rd (pokeL (freshW c) (aLim c (v : Int) + oneAt c (v : Int) s 4) (oneVal c (v : Int) n 4)) (aCo c (v : Int) + 4 + s) = c.ga + n - 1 := by
      have := hrd
      rw [show aLim c (v : Int) + oneAt c (v : Int) s 4 = aCo c (v : Int) + 4 + s by show aLim c (v : Int) + (2 + c.st + 4 + s) = _; unfold aCo; omega] at this ⊢
      exact this
    have e2 : valP (c.ga + n - 1) = c.ga + n - 1 := by unfold valP; omega
    rw [strB_bad c _ (v : Int) s (fun h => by rw [e1, e2] at h; have := h.2.2; omega) c.st.toNat 0 (by omega) (by omega), Bool.and_false]
/-- fresh words of which less is available at a node. -/
def heldW (c : LConf) (v n : Int) : List Int := pokeL (freshW c) (aAv c v) (rd c.ls v - n)
theorem held_plain (c : LConf) (hR : Right c) (v : Nat) (hv : v < c.ps.length) (n : Int) (hn : 0 ≤ n ∧ n ≤ rd c.ls (v : Int)) :
    safeP c (heldW c (v : Int) n) = -1 ∧ quietP c (heldW c (v : Int) n) = (if n = 0 then -1 else (v : Int)) ∧ safeP c (pokeL (heldW c (v : Int) n) (aLim c (v : Int)) (rd c.ls (v : Int) - n)) = -1 ∧ quietP c (pokeL (heldW c (v : Int) n) (aLim c (v : Int)) (rd c.ls (v : Int) - n)) = -1 := by
  have hc := hR.cb
  have hst := hc.1
  have hl : WL c (freshW c) := fresh_WL c hc c.ps.length
  have hlm := hR.lim v hv
  have hw : WL c (heldW c (v : Int) n) := poke_len hl _ _
  have hw2 : WL c (pokeL (heldW c (v : Int) n) (aLim c (v : Int)) (rd c.ls (v : Int) - n)) := poke_len hw _ _
  have ht : TF c (heldW c (v : Int) n) := (fresh_TF c hc).poke hc hl hv 1 (by omega) _
  have ht2 : TF c (pokeL (heldW c (v : Int) n) (aLim c (v : Int)) (rd c.ls (v : Int) - n)) := by
    have := ht.poke hc hw hv 0 (by omega) (rd c.ls (v : Int) - n)
    rwa [Int.add_zero] at this
  have hv1 : NodeIs c (heldW c (v : Int) n) (v : Int) (rd c.ls (v : Int)) (rd c.ls (v : Int) - n) := (fresh_is c hc v hv).setAv hc hl hv _
  have hv2 : NodeIs c (pokeL (heldW c (v : Int) n) (aLim c (v : Int)) (rd c.ls (v : Int) - n)) (v : Int) (rd c.ls (v : Int) - n) (rd c.ls (v : Int) - n) := hv1.setLim hc hw hv _
  have ho1 : ∀ u : Nat, u < c.ps.length → u ≠ v → NodeIs c (heldW c (v : Int) n) (u : Int) (rd c.ls (u : Int)) (rd c.ls (u : Int)) := fun u hu hne => fresh_saf c hR v hv 1 (by omega) _ u hu hne
  have ho2 : ∀ u : Nat, u < c.ps.length → u ≠ v → NodeIs c (pokeL (heldW c (v : Int) n) (aLim c (v : Int)) (rd c.ls (v : Int) - n)) (u : Int) (rd c.ls (u : Int)) (rd c.ls (u : Int)) := fun u hu hne => by
    have := (ho1 u hu hne).other hc hw hu hv hne 0 (by omega) (rd c.ls (v : Int) - n)
    rwa [Int.add_zero] at this
  have s1 : safeP c (heldW c (v : Int) n) = -1 := fstP_all _ _ fun u h0 h1 => by
    obtain ⟨u, rfl⟩ := Int.eq_ofNat_of_zero_le h0
    have hlu := hR.lim u (by omega)
    by_cases e : u = v
    · subst e; exact hv1.saf hR hw ht (by omega) (by omega) (by omega)
    · exact (ho1 u (by omega) e).saf hR hw ht hlu.1 (Int.le_refl _) hlu.2
  have s2 : safeP c (pokeL (heldW c (v : Int) n) (aLim c (v : Int)) (rd c.ls (v : Int) - n)) = -1 := fstP_all _ _ fun u h0 h1 => by
    obtain ⟨u, rfl⟩ := Int.eq_ofNat_of_zero_le h0
    have hlu := hR.lim u (by omega)
    by_cases e : u = v
    · subst e; exact hv2.saf hR hw2 ht2 (by omega) (by omega) (by omega)
    · exact (ho2 u (by omega) e).saf hR hw2 ht2 hlu.1 (Int.le_refl _) hlu.2
  have z0 : ∀ x : Int, wrap64 (x - x) = 0 := fun x => by rw [Int.sub_self]; exact w64 (by omega) (by omega)
  refine ⟨s1, ?_, s2, ?_⟩
  · unfold quietP
    rw [if_neg (by omega)]
    by_cases e0 : n = 0
    · rw [if_pos e0]
      refine fstP_all _ _ fun u h0 h1 => ?_
      obtain ⟨u, rfl⟩ := Int.eq_ofNat_of_zero_le h0
      by_cases e : u = v
      · subst e
        rw [hv1.rst hc hw ht, e0, Int.sub_zero, z0]
        rfl
      · rw [(ho1 u (by omega) e).rst hc hw ht, z0]
        rfl
    · rw [if_neg e0]
      refine fstP_one _ ?_ _ _ (by omega) (by omega) fun u h0 h1 => ?_
      · rw [hv1.rst hc hw ht, w64 (by omega) (by omega)]
        exact decide_eq_false (by omega)
      · obtain ⟨u, rfl⟩ := Int.eq_ofNat_of_zero_le h0
        rw [(ho1 u (by omega) (by omega)).rst hc hw ht, z0]
        rfl
  · unfold quietP
    rw [if_neg (by omega)]
    refine fstP_all _ _ fun u h0 h1 => ?_
    obtain ⟨u, rfl⟩ := Int.eq_ofNat_of_zero_le h0
    by_cases e : u = v
    · subst e
      rw [hv2.rst hc hw2 ht2, z0]
      rfl
    · rw [(ho2 u (by omega) e).rst hc hw2 ht2, z0]
      rfl
end
end Go.Proofs.YthbaamfdpebocaaGreat.PA
