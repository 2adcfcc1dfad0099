import Derived.Test.YthbaamfdpebocaaGreatHPlan
import Derived.Test.YthbaamfdpebocaaGreatAFirst
import Derived.Test.YthbaamfdpebocaaGreatPAx3
import Derived.Test.YthbaamfdpebocaaGreatPAx4
import Derived.Test.YthbaamfdpebocaaGreatPAx6
import Derived.Test.YthbaamfdpebocaaGreatPAx1
import Derived.RangeFuncNested
import Derived.RangeFuncBound
import Derived.RangeFuncCalls
import Derived.RangeFuncLeaves
import Derived.RangeFuncBox
import Derived.Shelf.Abstract
import Derived.Shelf.RegionOpen
import Derived.OwnWalkIn
import Derived.TacticsInMore
import Derived.LoopNIn
import Derived.LoopIn
import Derived.Lib.QuietBelow
import Derived.Deep.RegionHeld3
import Derived.Deep.RegionLaw
import Derived.Laws.CopyOwn
import Derived.Laws.EntriesVeiled
import Derived.Deep.DeepCutAuto
import Derived.Deep.MidRow
import Derived.Deep.Heap
import Derived.Lib.SmallJoins
import Derived.ChangeKeysEq
namespace Go.Proofs.YthbaamfdpebocaaGreat.PA
open Go.RowKit Go.Shelf Go.Proofs.YthbaamfdpebocaaGreatW.PrintWords Go.Proofs.YthbaamfdpebocaaGreatW.PrintLast Go.Proofs.YthbaamfdpebocaaGreatW.PrintMore
attribute [local go_sem] max2_int min2_int max_two min_two max_three min_three max_four min_four
set_option linter.unusedVariables false
set_option linter.unusedSimpArgs false
section
/-! addresses -/
theorem plan_each_a (c : LConf) (hc : CB c) : plan_setting_each.f c.th c.st c.ga c.le c.re c.ti c.ps c.ls = some (6 + 2 * c.st) := by
  have h1 := hc.1
  unfold plan_setting_each.f
  rw [w64 (x := 2 * c.st) (by omega) (by omega), w64 (x := 6 + 2 * c.st) (by omega) (by omega)]
theorem plan_node_a (c : LConf) (hc : CB c) (v : Int) (hv : 0 ≤ v ∧ v ≤ 1000) : plan_setting_node.f c.th c.st c.ga c.le c.re c.ti c.ps c.ls v = some (aLim c v) := by
  have hb := aLim_bound c hc v hv
  unfold plan_setting_node.f
  rw [plan_each_a c hc, Option.bind_some]
  exact congrArg some (w64 (x := v * (6 + 2 * c.st)) (by have := hb.1; unfold aLim at this; omega) (by have := hb.2; unfold aLim at this; omega))
theorem plan_Limit_a (c : LConf) (hc : CB c) (v : Int) (hv : 0 ≤ v ∧ v ≤ 1000) : plan_Limit.f c.th c.st c.ga c.le c.re c.ti c.ps c.ls v = some (aLim c v) := by
  unfold plan_Limit.f
  rw [plan_node_a c hc v hv]
  rfl
theorem plan_Avail_a (c : LConf) (hc : CB c) (v : Int) (hv : 0 ≤ v ∧ v ≤ 1000) : plan_Avail.f c.th c.st c.ga c.le c.re c.ti c.ps c.ls v = some (aAv c v) := by
  have hb := aLim_bound c hc v hv
  unfold plan_Avail.f
  rw [plan_Limit_a c hc v hv, Option.bind_some, w64 (by omega) (by omega)]
  rfl
theorem plan_Lease_a (c : LConf) (hc : CB c) (v s : Int) (hv : 0 ≤ v ∧ v ≤ 1000) (hs : 0 ≤ s ∧ s ≤ 1000) : plan_Lease.f c.th c.st c.ga c.le c.re c.ti c.ps c.ls v s = some (aLe c v s) := by
  have hb := aLim_bound c hc v hv
  unfold plan_Lease.f
  rw [plan_Limit_a c hc v hv, Option.bind_some, w64 (x := aLim c v + 2) (by omega) (by omega), w64 (by omega) (by omega)]
  rfl
theorem plan_Counter_a (c : LConf) (hc : CB c) (v : Int) (hv : 0 ≤ v ∧ v ≤ 1000) : plan_Counter.f c.th c.st c.ga c.le c.re c.ti c.ps c.ls v = some (aCo c v) := by
  have h1 := hc.1
  unfold plan_Counter.f
  rw [plan_Lease_a c hc v c.st hv (by omega)]
  rfl
theorem plan_Ticket_a (c : LConf) (hc : CB c) (k : Int) (hk : 0 ≤ k ∧ k ≤ 1000) : plan_Ticket.f c.th c.st c.ga c.le c.re c.ti c.ps c.ls k = some (aTi c k) := by
  have h2 := hc.2.1
  have hb := aLim_bound c hc (c.ps.length : Int) (by omega)
  unfold plan_Ticket.f
  rw [plan_node_a c hc _ (by omega), Option.bind_some, w64 (x := 2 * k) (by omega) (by omega), w64 (by omega) (by omega)]
  rfl
/-- the words are as many as a setting has. -/
def WL (c : LConf) (a : List Int) : Prop := (a.length : Int) = aSz c ∧ a.length ≤ 100000
theorem node_in (c : LConf) (hc : CB c) {a : List Int} (hl : WL c a) (v : Int) (hv : 0 ≤ v ∧ v < (c.ps.length : Int)) : 0 ≤ aLim c v ∧ aLim c v + (6 + 2 * c.st) ≤ (a.length : Int) := by
  have h2 := hc.2.1
  have h3 := hc.2.2.1
  have hb := aLim_bound c hc v (by omega)
  have hs := aLim_step c hc v (c.ps.length : Int) hv.2
  refine ⟨hb.1, ?_⟩
  rw [hl.1]
  unfold aSz aTi
  omega
theorem tick_in (c : LConf) (hc : CB c) {a : List Int} (hl : WL c a) (k : Int) (hk : 0 ≤ k ∧ k < c.ti) : 0 ≤ aTi c k ∧ aTi c k + 2 ≤ (a.length : Int) := by
  have h2 := hc.2.1
  have hb := aLim_bound c hc (c.ps.length : Int) (by omega)
  rw [hl.1]
  unfold aSz aTi
  omega
/-! what words say -/
def valP (w : Int) : Int := (w + 2147483648) % 4294967296 - 2147483648
theorem valP_bound (w : Int) : -2147483648 ≤ valP w ∧ valP w < 2147483648 := by unfold valP; omega
theorem val_f (w : Int) : pack_Value.f w = some (valP w) := by
  have hb := valP_bound w
  have e : wrap32 (IntKind.u64.wrap w % 4294967296) = valP w := by
    rw [IntKind.wrap_u64]
    unfold wrap32 valP
    omega
  unfold pack_Value.f
  rw [e, w64 (by omega) (by omega)]
def stP (w : Int) : Int := if 0 ≤ valP w ∧ valP w ≤ 3 then valP w else -1
theorem state_f (w : Int) : slot_State.f w = some (stP w) := by
  unfold slot_State.f slot_state_known.f stP
  simp only [val_f, Option.bind_some]
  by_cases h0 : valP w ≥ 0
  · rw [if_pos h0, Option.bind_some]
    by_cases h1 : valP w ≤ 3
    · rw [if_pos (by simpa using h1), if_pos ⟨h0, h1⟩]
    · rw [if_neg (by simpa using h1), if_neg (by omega)]
  · rw [if_neg h0, Option.bind_some, if_neg (by simp), if_neg (by omega)]
def ofP (w : Int) : Int × Int × Bool := if 0 ≤ w ∧ w / 2097152 < 12 ∧ 1 ≤ w % 2097152 ∧ w % 2097152 ≤ 1048576 then (w / 2097152, w % 2097152, true) else (0, 0, false)
theorem of_f (w : Int) : slot_Of.f w = some (ofP w) := by
  unfold slot_Of.f slot_body_right.f ofP
  by_cases h0 : w / 2097152 ≥ 0
  · rw [if_pos h0]
    by_cases h1 : w / 2097152 < 12
    · have e : Go.bits .and .i64 w 2097151 = w % 2097152 := by
        have hw : w < 2 ^ 63 := by
          have : w < 9223372036854775808 := by omega
          exact this
        have := bits_mask .i64 63 (by decide) (fun n h0 h1 => by rw [IntKind.wrap_i64]; have h1' : n < 9223372036854775808 := h1; omega) 21 (by decide) w (by omega) hw
        simpa using this
      rw [if_pos h1, e]
      by_cases h2 : w % 2097152 ≥ 1
      · rw [if_pos h2, Option.bind_some]
        by_cases h3 : w % 2097152 ≤ 1048576
        · rw [if_pos (by simpa using h3), if_pos ⟨by omega, h1, h2, h3⟩]
        · rw [if_neg (by simpa using h3), if_neg (by omega)]
      · rw [if_neg h2, Option.bind_some, if_neg (by simp), if_neg (by omega)]
    · rw [if_neg h1, Option.bind_some, if_neg (by simp), if_neg (by omega)]
  · rw [if_neg h0, Option.bind_some, if_neg (by simp), if_neg (by omega)]
/-! tickets -/
def livP (c : LConf) (a : List Int) (k : Int) : Int × Int × Bool :=
  if (ofP (rd a (aTi c k + 1))).2.2 = true ∧ stP (rd a (aTi c k)) = 2 ∧ (ofP (rd a (aTi c k + 1))).1 < (c.ps.length : Int) then ((ofP (rd a (aTi c k + 1))).1, (ofP (rd a (aTi c k + 1))).2.1, true) else (0, 0, false)
theorem live_f (c : LConf) (hc : CB c) {a : List Int} (hl : WL c a) (k : Int) (hk : 0 ≤ k ∧ k < c.ti) : usage_Live.f c.th c.st c.ga c.le c.re c.ti c.ps c.ls a k = some (livP c a k) := by
  have h3 := hc.2.2.1
  have hi := tick_in c hc hl k hk
  have hlb := hl.2
  unfold usage_Live.f livP
  rw [plan_Ticket_a c hc k (by omega), Option.bind_some, w64 (by omega) (by omega), if_pos (by omega), if_pos (by omega), of_f, Option.bind_some]
  by_cases h1 : (ofP (rd a (aTi c k + 1))).2.2 = true
  · rw [if_pos h1, if_pos hi.1, if_pos (by omega), state_f, Option.bind_some]
    by_cases h2 : stP (rd a (aTi c k)) = 2
    · rw [if_pos h2]
      by_cases h4 : (ofP (rd a (aTi c k + 1))).1 ≥ (c.ps.length : Int)
      · rw [if_pos h4, if_neg (by omega)]
      · rw [if_neg h4, if_pos ⟨h1, h2, by omega⟩]
    · rw [if_neg h2, if_neg (fun h => h2 h.2.1)]
  · rw [if_neg h1, if_neg (fun h => h1 h.1)]
/-- the amounts of live tickets under a node, from ticket k on. -/
def amts (c : LConf) (a : List Int) (v : Int) : Nat → Int → List Int
  | 0, _ => []
  | n + 1, k => if (livP c a k).2.2 = true ∧ v ∈ pathL c.ps (livP c a k).1 then (livP c a k).2.1 :: amts c a v n (k + 1) else amts c a v n (k + 1)
def add64 (s x : Int) : Int := wrap64 (s + x)
def usedP (c : LConf) (a : List Int) (v : Int) : Int := (amts c a v c.ti.toNat 0).foldl add64 0
theorem usesL_f (c : LConf) (hR : Right c) {a : List Int} (hl : WL c a) (v : Int) : ∀ (n : Nat) (k : Int), 0 ≤ k → k + n ≤ c.ti → usesL c.th c.st c.ga c.le c.re c.ti c.ps c.ls a v n k = some (amts c a v n k)
  | 0, _, _, _ => rfl
  | n + 1, k, h0, h1 => by
    have ih := usesL_f c hR hl v n (k + 1) (by omega) (by omega)
    have hn : c.ps.length < 1000000 := by have := hR.cb.2.1; omega
    unfold usesL amts
    rw [live_f c hR.cb hl k (by omega), Option.bind_some]
    by_cases h2 : (livP c a k).2.2 = true
    · rw [if_pos h2, under_f hR.falls hn, Option.bind_some]
      by_cases h3 : v ∈ pathL c.ps (livP c a k).1
      · rw [if_pos (by simpa using h3), ih, if_pos ⟨h2, h3⟩]
        rfl
      · rw [if_neg (by simpa using h3), ih, if_neg (fun h => h3 h.2)]
    · rw [if_neg h2, ih, if_neg (fun h => h2 h.1)]
theorem used_f (c : LConf) (hR : Right c) {a : List Int} (hl : WL c a) (v : Int) : usage_Used.f c.th c.st c.ga c.le c.re c.ti c.ps c.ls a v = some (usedP c a v) := by
  have h3 := hR.cb.2.2.1
  unfold usage_Used.f
  rw [if_pos (by omega), usesL_f c hR hl v _ 0 (by omega) (by omega)]
  rfl
end
section
/-- n words from i on. -/
def rdI (a : List Int) : Nat → Int → List Int
  | 0, _ => []
  | n + 1, i => rd a i :: rdI a n (i + 1)
theorem take_rdI (a : List Int) : ∀ (n : Nat) (i : Int), 0 ≤ i → i + n ≤ (a.length : Int) → (a.drop i.toNat).take n = rdI a n i
  | 0, i, _, _ => by simp [rdI]
  | n + 1, i, h0, h1 => by
    have hlt : i.toNat < a.length := by omega
    have ih := take_rdI a n (i + 1) (by omega) (by omega)
    rw [show (i + 1).toNat = i.toNat + 1 by omega] at ih
    rw [List.drop_eq_getElem_cons hlt, List.take_succ_cons, ih, rdI, ← rd_lt hlt, show ((i.toNat : Nat) : Int) = i by omega]
theorem held_prog (u : Int) : ∀ (l : List Int) (s : Int), wrap64 (l.foldl (fun s x => wrap64 (s - x)) s - u) = wrap64 (s - l.sum - u)
  | [], s => by simp
  | x :: l, s => by
    rw [List.foldl_cons, held_prog u l, List.sum_cons]
    unfold wrap64
    omega
def heldP (c : LConf) (a : List Int) (v : Int) : Int := wrap64 (rd a (aLim c v) - (rdI a (c.st.toNat + 1) (aAv c v)).sum - usedP c a v)
theorem held_f (c : LConf) (hR : Right c) {a : List Int} (hl : WL c a) (v : Int) (hv : 0 ≤ v ∧ v < (c.ps.length : Int)) : usage_Held.f c.th c.st c.ga c.le c.re c.ti c.ps c.ls a v = some (heldP c a v) := by
  have hc := hR.cb
  have h1 := hc.1
  have h2 := hc.2.1
  have hi := node_in c hc hl v hv
  have hlb := hl.2
  unfold usage_Held.f heldP
  rw [plan_Avail_a c hc v (by omega), plan_Limit_a c hc v (by omega), Option.bind_some, Option.bind_some, if_pos (by unfold aAv; omega), used_f c hR hl, Option.map_some, held_prog, show (1 + c.st).toNat = c.st.toNat + 1 by omega, take_rdI a _ _ (by unfold aAv; omega) (by unfold aAv; omega)]
/-! nodes -/
def limB (c : LConf) (a : List Int) (v : Int) : Bool := decide (0 ≤ rd a (aLim c v) ∧ rd a (aLim c v) ≤ 1099511627776 ∧ 0 ≤ rd a (aAv c v) ∧ usedP c a v ≤ rd a (aLim c v) ∧ 0 ≤ heldP c a v)
def livB (c : LConf) (a : List Int) (v : Int) : Bool := decide ((1 ≤ rd a (aCo c v + 3) ∧ rd a (aCo c v + 3) ≤ c.st) ∧ (rd a (aCo c v + 3) = 1 ∨ rd a (aCo c v + 3) = 2 ∨ rd a (aCo c v + 3) = 4 ∨ rd a (aCo c v + 3) = 8))
def strB (c : LConf) (a : List Int) (v : Int) : Nat → Int → Bool
  | 0, _ => true
  | n + 1, s => decide ((0 ≤ rd a (aLe c v s) ∧ rd a (aLe c v s) ≤ c.le) ∧ 1 - c.ga ≤ valP (rd a (aCo c v + 4 + s)) ∧ valP (rd a (aCo c v + 4 + s)) ≤ c.ga - 1) && strB c a v n (s + 1)
def safB (c : LConf) (a : List Int) (v : Int) : Bool := limB c a v && livB c a v && strB c a v c.st.toNat 0
def sumP (c : LConf) (a : List Int) (v : Int) : Int := ((rdI a c.st.toNat (aCo c v + 4)).map valP).foldl add64 (rd a (aCo c v))
def rstB (c : LConf) (a : List Int) (v : Int) : Bool := decide (heldP c a v = 0 ∧ rd a (aCo c v + 1) = rd a (aCo c v + 2) ∧ sumP c a v = usedP c a v)
theorem within_f (x l h : Int) : audit_within.f x l h = some (decide (l ≤ x ∧ x ≤ h)) := by
  unfold audit_within.f
  by_cases h0 : x ≥ l
  · rw [if_pos h0]
    have h0' : l ≤ x := h0
    simp [h0']
  · rw [if_neg h0, decide_eq_false (by omega)]
theorem word_f (c : LConf) (hc : CB c) {a : List Int} (hl : WL c a) (v : Int) (hv : 0 ≤ v ∧ v < (c.ps.length : Int)) (q : Int) (hq : 0 ≤ q ∧ q < 4 + c.st) : audit_node_word.f c.th c.st c.ga c.le c.re c.ti c.ps c.ls a v (aCo c v) q = some (rd a (aCo c v + q)) := by
  have h1 := hc.1
  have hi := node_in c hc hl v hv
  have hlb := hl.2
  have e : wrap64 (aCo c v + q) = aCo c v + q := w64 (by unfold aCo; omega) (by unfold aCo; omega)
  unfold audit_node_word.f
  rw [e, if_pos (by unfold aCo; omega), if_pos (by unfold aCo; omega)]
theorem lim_f (c : LConf) (hR : Right c) {a : List Int} (hl : WL c a) (v : Int) (hv : 0 ≤ v ∧ v < (c.ps.length : Int)) (at_ : Int) : audit_limits.f c.th c.st c.ga c.le c.re c.ti c.ps c.ls a v at_ = some (limB c a v) := by
  have hc := hR.cb
  have h1 := hc.1
  have h2 := hc.2.1
  have hi := node_in c hc hl v hv
  unfold audit_limits.f limB
  rw [plan_Limit_a c hc v (by omega), Option.bind_some, if_pos hi.1, if_pos (by omega), within_f, Option.bind_some]
  by_cases g1 : 0 ≤ rd a (aLim c v) ∧ rd a (aLim c v) ≤ 1099511627776
  · rw [if_pos (by simpa using g1), plan_Avail_a c hc v (by omega), Option.bind_some, if_pos (by unfold aAv; omega), if_pos (by unfold aAv; omega)]
    by_cases g2 : rd a (aAv c v) ≥ 0
    · rw [if_pos g2, used_f c hR hl, Option.bind_some]
      by_cases g3 : usedP c a v ≤ rd a (aLim c v)
      · rw [if_pos g3, held_f c hR hl v hv, Option.bind_some]
        exact congrArg some (decide_eq_decide.2 ⟨fun h => ⟨g1.1, g1.2, g2, g3, h⟩, fun h => h.2.2.2.2⟩)
      · rw [if_neg g3]
        exact congrArg some (decide_eq_false (fun h => g3 h.2.2.2.1)).symm
    · rw [if_neg g2]
      exact congrArg some (decide_eq_false (fun h => g2 h.2.2.1)).symm
  · rw [if_neg (by simpa using g1)]
    exact congrArg some (decide_eq_false (fun h => g1 ⟨h.1, h.2.1⟩)).symm
theorem rst_l0 (c : LConf) (hR : Right c) {a : List Int} (hl : WL c a) (v : Int) (hv : 0 ≤ v ∧ v < (c.ps.length : Int)) : ∀ (n : Nat) (s x : Int) (k : Nat), 0 ≤ s → s + n = c.st → n < k → audit_rests.l0 k x c.st s c.th c.st c.ga c.le c.re c.ti c.ps c.ls a v (aCo c v) = some (decide (heldP c a v = 0 ∧ rd a (aCo c v + 1) = rd a (aCo c v + 2) ∧ ((rdI a n (aCo c v + 4 + s)).map valP).foldl add64 x = usedP c a v))
  | n, s, x, 0, _, _, h => absurd h (Nat.not_lt_zero _)
  | 0, s, x, k + 1, h0, h1, h => by
    have hc := hR.cb
    have hs := hc.1
    unfold audit_rests.l0
    rw [if_neg (by omega), held_f c hR hl v hv, Option.bind_some]
    by_cases g1 : heldP c a v = 0
    · rw [if_pos g1, word_f c hc hl v hv 1 (by omega), Option.bind_some, word_f c hc hl v hv 2 (by omega), Option.bind_some]
      by_cases g2 : rd a (aCo c v + 1) = rd a (aCo c v + 2)
      · rw [if_pos g2, used_f c hR hl, Option.bind_some]
        refine congrArg some ?_
        rw [show (x == usedP c a v) = decide (x = usedP c a v) from rfl]
        exact decide_eq_decide.2 ⟨fun h => ⟨g1, g2, h⟩, fun h => h.2.2⟩
      · rw [if_neg g2]
        exact congrArg some (decide_eq_false (fun h => g2 h.2.1)).symm
    · rw [if_neg g1]
      exact congrArg some (decide_eq_false (fun h => g1 h.1)).symm
  | n + 1, s, x, k + 1, h0, h1, h => by
    have hc := hR.cb
    have hs := hc.1
    have e : wrap64 (s + 1) = s + 1 := w64 (by omega) (by omega)
    have e1 : wrap64 (4 + s) = 4 + s := w64 (by omega) (by omega)
    have ih := fun x => rst_l0 c hR hl v hv n (s + 1) x k (by omega) (by omega) (by omega)
    unfold audit_rests.l0
    rw [if_pos (by omega), e1, word_f c hc hl v hv (4 + s) (by omega), Option.bind_some, val_f, Option.bind_some, e, ih, rdI, List.map_cons, List.foldl_cons, show aCo c v + (4 + s) = aCo c v + 4 + s by omega, show aCo c v + 4 + (s + 1) = aCo c v + 4 + s + 1 by omega]
    rfl
theorem rst_f (c : LConf) (hR : Right c) {a : List Int} (hl : WL c a) (v : Int) (hv : 0 ≤ v ∧ v < (c.ps.length : Int)) {k : Nat} (hk : 60 ≤ k) : audit_rests.f k c.th c.st c.ga c.le c.re c.ti c.ps c.ls a v (aCo c v) = some (rstB c a v) := by
  have hc := hR.cb
  have hs := hc.1
  unfold audit_rests.f rstB sumP
  rw [word_f c hc hl v hv 0 (by omega), Option.bind_some, rst_l0 c hR hl v hv c.st.toNat 0 _ k (by omega) (by omega) (by omega), Int.add_zero, Int.add_zero]
/-! all nodes -/
def fstP (p : Int → Bool) : Nat → Int → Int
  | 0, _ => -1
  | n + 1, v => if p v = true then fstP p n (v + 1) else v
def safeP (c : LConf) (a : List Int) : Int := fstP (safB c a) c.ps.length 0
def quietP (c : LConf) (a : List Int) : Int := if safeP c a ≥ 0 then safeP c a else fstP (rstB c a) c.ps.length 0
theorem firstL_f {ctr : Int → Option Int} {g : Nat → Int → Int → Option Bool} {fs : List Nat} {p : Int → Bool} {cn : Int → Int} : ∀ (n : Nat) (v : Int), (∀ u, v ≤ u → u < v + n → ctr u = some (cn u) ∧ allG g u (cn u) fs = some (p u)) → firstL ctr g fs n v = some (fstP p n v)
  | 0, _, _ => rfl
  | n + 1, v, h => by
    obtain ⟨h1, h2⟩ := h v (by omega) (by omega)
    unfold firstL fstP
    rw [h1, Option.bind_some, h2, Option.bind_some]
    split
    · exact firstL_f n (v + 1) fun u hu hv => h u (by omega) (by omega)
    · rfl
end
section
theorem WL.of {c : LConf} (hc : CB c) {a : List Int} (h : a.length = (aSz c).toNat) : WL c a := by
  have := aSz_bound c hc
  exact ⟨by omega, by omega⟩
theorem fstP_bound (p : Int → Bool) : ∀ (n : Nat) (v : Int), fstP p n v = -1 ∨ (v ≤ fstP p n v ∧ fstP p n v < v + n)
  | 0, _ => .inl rfl
  | n + 1, v => by
    unfold fstP
    split
    · rcases fstP_bound p n (v + 1) with h | h
      · exact .inl h
      · exact .inr (by omega)
    · exact .inr (by omega)
theorem safeP_bound (c : LConf) (a : List Int) : -1 ≤ safeP c a ∧ (safeP c a < (c.ps.length : Int) ∨ safeP c a = -1) := by
  rcases fstP_bound (safB c a) c.ps.length 0 with h | h
  · exact ⟨by unfold safeP; omega, .inr h⟩
  · exact ⟨by unfold safeP; omega, .inl (by unfold safeP; omega)⟩
theorem quietP_bound (c : LConf) (a : List Int) : -1 ≤ quietP c a ∧ (quietP c a < (c.ps.length : Int) ∨ quietP c a = -1) := by
  unfold quietP
  split
  · exact safeP_bound c a
  · rcases fstP_bound (rstB c a) c.ps.length 0 with h | h
    · exact ⟨by omega, .inr h⟩
    · exact ⟨by omega, .inl (by omega)⟩
theorem quietP_safe (c : LConf) (a : List Int) (h : ¬ safeP c a < 0) : quietP c a = safeP c a := if_pos (by omega)
end
section
/-- words, and k words more, where they are not 0. -/
def mixL (w a : List Int) : Nat → List Int
  | 0 => a
  | k + 1 => if rd w (k : Int) = 0 then mixL w a k else (mixL w a k).set k (rd w (k : Int))
theorem mixL_len (w a : List Int) : ∀ k, (mixL w a k).length = a.length
  | 0 => rfl
  | k + 1 => by
    rw [mixL]
    split
    · exact mixL_len w a k
    · rw [List.length_set, mixL_len w a k]
end
end Go.Proofs.YthbaamfdpebocaaGreat.PA
