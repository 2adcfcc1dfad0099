import Derived.Test.YtfolhicnbabldaaDoorRAns
import Derived.RangeFuncNested
import Derived.RangeFuncBound
import Derived.RangeFuncCalls
import Derived.RangeFuncLeaves
import Derived.RangeFuncBox
import Derived.Shelf.Abstract
import Derived.Shelf.RegionOpen
import Derived.OwnWalkIn
import Derived.TacticsInMore
import Derived.LoopNIn
import Derived.LoopIn
import Derived.Deep.RegionHeld3
import Derived.Deep.RegionLaw
import Derived.Laws.CopyOwn
import Derived.Laws.EntriesVeiled
import Derived.WalkKit
import Derived.BigCall
import Derived.Lib.ItoaLen
import Derived.Lib.SplitLaws
namespace Go.Proofs.YtfolhicnbabldaaDoor.PR
open Go.RowKit Go.Shelf Go.Proofs.YtfolhicnbabldaaDoorW.PrintWords Go.Proofs.YtfolhicnbabldaaDoorW.PrintLast Go.Proofs.YtfolhicnbabldaaDoorW.PrintMore
attribute [local go_sem] max2_int min2_int max_two min_two max_three min_three max_four min_four
set_option linter.unusedVariables false
set_option linter.unusedSimpArgs false
/-- the words of a text. -/
def wordsL (s : Bytes) (c : UInt8) : List Bytes := Lib.split s [c]
theorem map_strV (ps : List ByteArray) : ps.map Value.string = (ps.map (·.data.toList)).map strV := by
  rw [List.map_map]
  apply List.map_congr_left
  intro p _
  simp [strV]
theorem K_Split (s : Bytes) (c : UInt8) (hs : s.length ≤ 100000) (w : World) (hG : GW w) :
    Calls Tryd.prog 15 #[.string ⟨s.toArray⟩, .string ⟨#[c]⟩] w fun e w' => e = .returned (.slice (some ⟨w.heap.size, 0, none⟩) (wordsL s c).length (wordsL s c).length) ∧ w' = w.alloc (.cells ((wordsL s c).map strV).toArray 9) := by
  obtain ⟨m, hm⟩ := hG.maxl
  have h := Tryd.strings_Split ⟨s.toArray⟩ ⟨#[c]⟩ m w (by simp [ByteArray.size]; omega) hm (Nat.le_refl 1)
  have e1 : Lib.splitB ⟨#[c]⟩ 0 (Lib.countB ⟨s.toArray⟩ ⟨#[c]⟩) ⟨s.toArray⟩ = Lib.splitB ⟨#[c]⟩ 0 (Lib.countB ⟨s.toArray⟩ ⟨#[c]⟩) ⟨s.toArray⟩ := rfl
  have e2 : (Lib.splitB ⟨#[c]⟩ 0 (Lib.countB ⟨s.toArray⟩ ⟨#[c]⟩) ⟨s.toArray⟩).map (·.data.toList) = wordsL s c := by
    rw [Lib.splitB_data]
    rfl
  have e3 : Lib.countB ⟨s.toArray⟩ ⟨#[c]⟩ + 1 = (wordsL s c).length := by
    rw [← e2, List.length_map, Lib.splitB_all ⟨#[c]⟩ (Nat.le_refl 1) 0 _ _ rfl]
  rw [map_strV, e2, e3] at h
  exact h
theorem parse_snoc (c : UInt8) (hc : 48 ≤ c.toNat ∧ c.toNat ≤ 57) : ∀ (l : Bytes) (acc m : Nat), Lib.parseUint10 acc l = .ok m → m < 1844674407370955162 → m * 10 + (c.toNat - 48) < 18446744073709551616 → Lib.parseUint10 acc (l ++ [c]) = .ok (m * 10 + (c.toNat - 48))
  | [], acc, m, h, h1, h2 => by
    simp only [Lib.parseUint10] at h
    injection h with h
    subst h
    simp only [List.nil_append, Lib.parseUint10]
    rw [if_pos hc, if_neg (by omega), if_neg (by omega)]
  | d :: l, acc, m, h, h1, h2 => by
    simp only [Lib.parseUint10] at h
    simp only [List.cons_append, Lib.parseUint10]
    split at h
    · rename_i hd
      rw [if_pos hd]
      split at h
      · cases h
      · rename_i ha
        rw [if_neg ha]
        split at h
        · cases h
        · rename_i hb
          rw [if_neg hb]
          exact parse_snoc c hc l _ m h h1 h2
    · cases h
theorem digit_of (d : Nat) (h : d < 10) : (UInt8.ofNat (48 + d)).toNat = 48 + d := by
  rw [UInt8.toNat_ofNat']
  omega
theorem parse_dec : ∀ (k u : Nat), u ≤ k → u < 18446744073709551616 → Lib.parseUint10 0 (Lib.decDigits u) = .ok u
  | k, u, hk, hu => by
    rw [Lib.decDigits]
    split
    · rename_i h
      have := digit_of u h
      simp only [Lib.parseUint10]
      rw [this, if_pos (by omega), if_neg (by omega), if_neg (by omega)]
      simp
    · rename_i h
      cases k with
      | zero => omega
      | succ k =>
        have hd := digit_of (u % 10) (by omega)
        have ih := parse_dec k (u / 10) (by omega) (by omega)
        have := parse_snoc (UInt8.ofNat (48 + u % 10)) (by rw [hd]; omega) _ 0 _ ih (by omega) (by rw [hd]; omega)
        rw [this, hd]
        congr 1
        omega
theorem dec_ne (u : Nat) : Lib.decDigits u ≠ [] := by
  rw [Lib.decDigits]
  split <;> simp
theorem dec_digits : ∀ (k u : Nat), u ≤ k → ∀ c ∈ Lib.decDigits u, 48 ≤ c.toNat ∧ c.toNat ≤ 57
  | k, u, hk, c, hc => by
    rw [Lib.decDigits] at hc
    split at hc
    · rename_i h
      simp only [List.mem_singleton] at hc
      rw [hc, digit_of u h]
      omega
    · cases k with
      | zero => omega
      | succ k =>
        rcases List.mem_append.1 hc with h | h
        · exact dec_digits k (u / 10) (by omega) c h
        · simp only [List.mem_singleton] at h
          rw [h, digit_of _ (by omega)]
          omega
theorem atoi_itoa (n : Int) (hn : I64 n) : atoiV (Lib.itoa n) = n := by
  have h0 := hn.1
  have h1 := hn.2
  unfold atoiV Lib.itoa
  by_cases hneg : n < 0
  · rw [if_pos hneg]
    have hp := parse_dec _ n.natAbs (Nat.le_refl _) (by omega)
    have : Lib.atoiAll (45 :: Lib.decDigits n.natAbs) = .ok n := by
      unfold Lib.atoiAll
      simp only
      have e45 : (45 : UInt8).toNat = 45 := rfl
      rw [e45, if_pos (Or.inr rfl)]
      unfold Lib.parseMag
      rw [if_neg (dec_ne _), hp]
      simp only [not_true_eq_false, false_and, if_false, true_and, if_true]
      rw [if_neg (by omega)]
      congr 1
      omega
    rw [this]
  · rw [if_neg hneg]
    have hp := parse_dec _ n.toNat (Nat.le_refl _) (by omega)
    have hdg := dec_digits _ n.toNat (Nat.le_refl _)
    have : Lib.atoiAll (Lib.decDigits n.toNat) = .ok n := by
      cases hd : Lib.decDigits n.toNat with
      | nil => exact absurd hd (dec_ne _)
      | cons c r =>
        have hc := hdg c (by rw [hd]; exact List.mem_cons_self)
        unfold Lib.atoiAll
        simp only
        rw [if_neg (by omega), ← hd]
        unfold Lib.parseMag
        rw [if_neg (dec_ne _), hp]
        have h45 : ¬ c.toNat = 45 := by omega
        simp only [h45, not_false_eq_true, true_and, false_and, if_false]
        rw [if_neg (by omega)]
        congr 1
        omega
    rw [this]
theorem itoa_nosp (n : Int) (c : UInt8) (hc : c = 32 ∨ c = 10) : c ∉ Lib.itoa n := by
  have hcn : c.toNat = 32 ∨ c.toNat = 10 := by rcases hc with rfl | rfl; exact .inl rfl; exact .inr rfl
  unfold Lib.itoa
  split
  · intro h
    rcases List.mem_cons.1 h with h | h
    · rcases hc with e | e
      · rw [e] at h; exact absurd h (by decide)
      · rw [e] at h; exact absurd h (by decide)
    · have := dec_digits _ _ (Nat.le_refl _) c h; omega
  · intro h
    have := dec_digits _ _ (Nat.le_refl _) c h
    omega
theorem idx_hit (c : UInt8) : ∀ (w r : Bytes), c ∉ w → Lib.index (w ++ c :: r) [c] = (w.length : Int)
  | [], r, _ => by simp [Lib.index, List.isPrefixOf]
  | b :: w, r, h => by
    have hb : ¬ c = b := fun e => h (by rw [e]; exact List.mem_cons_self)
    have ih := idx_hit c w r (fun hm => h (List.mem_cons_of_mem _ hm))
    have hp : ([c] : Bytes).isPrefixOf (b :: (w ++ c :: r)) = false := by simp [List.isPrefixOf, hb]
    simp only [List.cons_append, Lib.index]
    rw [hp, ih]
    simp
theorem idx_miss (c : UInt8) : ∀ (w : Bytes), c ∉ w → Lib.index w [c] = -1
  | [], _ => by simp [Lib.index]
  | b :: w, h => by
    have hb : ¬ c = b := fun e => h (by rw [e]; exact List.mem_cons_self)
    have ih := idx_miss c w (fun hm => h (List.mem_cons_of_mem _ hm))
    have hp : ([c] : Bytes).isPrefixOf (b :: w) = false := by simp [List.isPrefixOf, hb]
    simp only [Lib.index]
    rw [hp, ih]
    simp
/-- a text of words, each but the last with a separator behind it. -/
def joinC (c : UInt8) : List Bytes → Bytes
  | [] => []
  | [w] => w
  | w :: v :: ws => w ++ c :: joinC c (v :: ws)
theorem count_no (c : UInt8) (w : Bytes) (h : c ∉ w) : w.count c = 0 := List.count_eq_zero.2 h
theorem join_count (c : UInt8) : ∀ (ws : List Bytes), ws ≠ [] → (∀ w ∈ ws, c ∉ w) → (joinC c ws).count c = ws.length - 1
  | [], h, _ => absurd rfl h
  | [w], _, h => by simp [joinC, count_no c w (h w List.mem_cons_self)]
  | w :: v :: ws, _, h => by
    have ih := join_count c (v :: ws) (by simp) (fun x hx => h x (List.mem_cons_of_mem _ hx))
    simp only [joinC, List.count_append, List.count_cons_self, ih, count_no c w (h w List.mem_cons_self), List.length_cons]
    omega
theorem splitK_join (c : UInt8) : ∀ (ws : List Bytes), ws ≠ [] → (∀ w ∈ ws, c ∉ w) → Lib.splitK [c] 0 (ws.length - 1) (joinC c ws) = ws
  | [], h, _ => absurd rfl h
  | [w], _, h => rfl
  | w :: v :: ws, _, h => by
    have ih := splitK_join c (v :: ws) (by simp) (fun x hx => h x (List.mem_cons_of_mem _ hx))
    have hi := idx_hit c w (joinC c (v :: ws)) (h w List.mem_cons_self)
    show Lib.splitK [c] 0 (ws.length + 1) (w ++ c :: joinC c (v :: ws)) = _
    simp only [Lib.splitK]
    rw [hi, if_neg (by simp)]
    have e1 : ((w.length : Int)).toNat + 0 = w.length := by omega
    have e2 : ((w.length : Int)).toNat + ([c] : Bytes).length = w.length + 1 := by simp
    rw [e1, e2, List.take_left' rfl, show w.length + 1 = w.length + 1 from rfl]
    have e3 : (w ++ c :: joinC c (v :: ws)).drop (w.length + 1) = joinC c (v :: ws) := by
      rw [show w ++ c :: joinC c (v :: ws) = (w ++ [c]) ++ joinC c (v :: ws) by simp, List.drop_left' (by simp)]
    rw [e3]
    congr 1
theorem split_join (c : UInt8) (ws : List Bytes) (h0 : ws ≠ []) (h : ∀ w ∈ ws, c ∉ w) : wordsL (joinC c ws) c = ws := by
  unfold wordsL Lib.split
  rw [Lib.count_one, join_count c ws h0 h]
  exact splitK_join c ws h0 h
theorem join_snoc (c : UInt8) : ∀ (ws : List Bytes) (s : Bytes), ws ≠ [] → joinC c (ws ++ [s]) = joinC c ws ++ c :: s
  | [], _, h => absurd rfl h
  | [w], s, _ => rfl
  | w :: v :: ws, s, _ => by
    have ih := join_snoc c (v :: ws) s (by simp)
    show w ++ c :: joinC c (v :: ws ++ [s]) = _
    rw [ih]
    simp [joinC]
theorem addW_join (ws : List Bytes) (s : Bytes) (h0 : ws ≠ []) (h : joinC 32 ws ≠ []) : addW (joinC 32 ws) s = joinC 32 (ws ++ [s]) := by
  rw [join_snoc 32 ws s h0, addW_cons _ _ h]
theorem join_ne (c : UInt8) : ∀ (ws : List Bytes), ws ≠ [] → (∀ w ∈ ws, w ≠ []) → joinC c ws ≠ []
  | [], h, _ => absurd rfl h
  | [w], _, h => h w List.mem_cons_self
  | w :: v :: ws, _, h => by simp [joinC]
def kindWs (k : Int) : List Bytes := if 0 < k ∧ k < 7 then [nameW k] else [wCall, Lib.itoa k]
def ansWs (er an : Int) (ex : Bool) (nd : Int) : List Bytes := if er ≠ 0 then [wErr, Lib.itoa er, wAt, Lib.itoa nd] else [wOk, Lib.itoa an, if ex = true then wExact else wNear, wAt, Lib.itoa nd]
def lineWs (e : Ev) : List Bytes := [Lib.itoa e.wh, wThread, Lib.itoa e.th, if e.kd = 1 then wBegin else wEnd] ++ kindWs e.ck ++ [wNode, Lib.itoa e.cv, wN, Lib.itoa e.cn] ++ (if e.kd = 1 then [] else ansWs e.er e.an e.ex e.nd)
/-- a row of words under way. -/
structure Wds (l : Bytes) (ws : List Bytes) : Prop where
  eq : l = joinC 32 ws
  ne : ws ≠ []
  wn : ∀ w ∈ ws, w ≠ []
theorem Wds.add {l : Bytes} {ws : List Bytes} (h : Wds l ws) (s : Bytes) (hs : s ≠ []) : Wds (addW l s) (ws ++ [s]) := by
  refine ⟨?_, by simp, fun w hw => ?_⟩
  · rw [h.eq, addW_join ws s h.ne (join_ne 32 ws h.ne h.wn)]
  · rcases List.mem_append.1 hw with h1 | h1
    · exact h.wn w h1
    · simp only [List.mem_singleton] at h1; rw [h1]; exact hs
theorem nameW_ne (k : Int) : nameW k ≠ [] := by
  unfold nameW
  (repeat' split) <;> decide
theorem Wds.kind {l : Bytes} {ws : List Bytes} (h : Wds l ws) (k : Int) : Wds (kindW l k) (ws ++ kindWs k) := by
  unfold kindW kindWs
  split
  · exact h.add _ (nameW_ne k)
  · have := (h.add wCall (by decide)).add (Lib.itoa k) (itoa_ne k)
    simpa using this
theorem Wds.call {l : Bytes} {ws : List Bytes} (h : Wds l ws) (k v n : Int) : Wds (callW l k v n) (ws ++ kindWs k ++ [wNode, Lib.itoa v, wN, Lib.itoa n]) := by
  have := ((((h.kind k).add wNode (by decide)).add (Lib.itoa v) (itoa_ne v)).add wN (by decide)).add (Lib.itoa n) (itoa_ne n)
  unfold callW
  simpa using this
theorem Wds.ans {l : Bytes} {ws : List Bytes} (h : Wds l ws) (er n : Int) (ex : Bool) (nd : Int) : Wds (ansW l er n ex nd) (ws ++ ansWs er n ex nd) := by
  unfold ansW ansWs
  split
  · have := ((((h.add wErr (by decide)).add (Lib.itoa er) (itoa_ne er))).add wAt (by decide)).add (Lib.itoa nd) (itoa_ne nd)
    simpa using this
  · have hx : (if ex = true then wExact else wNear) ≠ [] := by split <;> decide
    have := (((((h.add wOk (by decide)).add (Lib.itoa n) (itoa_ne n))).add _ hx).add wAt (by decide)).add (Lib.itoa nd) (itoa_ne nd)
    simpa using this
theorem line_words (e : Ev) (hp : plainB e = true) : Wds (lineL e) (lineWs e) := by
  have h0 : Wds (addW [] (Lib.itoa e.wh)) [Lib.itoa e.wh] := ⟨by unfold addW; rw [if_pos rfl]; rfl, by simp, fun w hw => by simp only [List.mem_singleton] at hw; rw [hw]; exact itoa_ne _⟩
  have h1 := (h0.add wThread (by decide)).add (Lib.itoa e.th) (itoa_ne _)
  unfold lineL lineWs
  rw [if_neg (by rw [hp]; simp)]
  split
  · have := (h1.add wBegin (by decide)).call e.ck e.cv e.cn
    simpa using this
  · have := ((h1.add wEnd (by decide)).call e.ck e.cv e.cn).ans e.er e.an e.ex e.nd
    simpa using this
theorem nameW_no (k : Int) (c : UInt8) (hc : c = 32 ∨ c = 10) : c ∉ nameW k := by
  unfold nameW
  rcases hc with rfl | rfl <;> (repeat' split) <;> decide
theorem lineWs_no (e : Ev) (c : UInt8) (hc : c = 32 ∨ c = 10) : ∀ w ∈ lineWs e, c ∉ w := by
  have hi := fun n => itoa_nosp n c hc
  have hn := fun k => nameW_no k c hc
  have hk : ∀ w : Bytes, w ∈ [wThread, wBegin, wEnd, wNode, wN, wCall, wErr, wOk, wAt, wExact, wNear] → c ∉ w := by
    intro w hw
    simp only [List.mem_cons, List.not_mem_nil, or_false] at hw
    rcases hc with rfl | rfl <;> rcases hw with rfl | rfl | rfl | rfl | rfl | rfl | rfl | rfl | rfl | rfl | rfl <;> decide
  have hk1 : ∀ w ∈ kindWs e.ck, c ∉ w := by
    unfold kindWs
    split
    · intro w hw; simp only [List.mem_singleton] at hw; rw [hw]; exact hn _
    · intro w hw
      simp only [List.mem_cons, List.not_mem_nil, or_false] at hw
      rcases hw with rfl | rfl
      · exact hk _ (by simp)
      · exact hi _
  have hk2 : ∀ w ∈ ansWs e.er e.an e.ex e.nd, c ∉ w := by
    unfold ansWs
    split
    · intro w hw
      simp only [List.mem_cons, List.not_mem_nil, or_false] at hw
      rcases hw with rfl | rfl | rfl | rfl
      · exact hk _ (by simp)
      · exact hi _
      · exact hk _ (by simp)
      · exact hi _
    · intro w hw
      simp only [List.mem_cons, List.not_mem_nil, or_false] at hw
      rcases hw with rfl | rfl | rfl | rfl | rfl
      · exact hk _ (by simp)
      · exact hi _
      · split
        · exact hk _ (by simp)
        · exact hk _ (by simp)
      · exact hk _ (by simp)
      · exact hi _
  have hbe : c ∉ (if e.kd = 1 then wBegin else wEnd) := by
    split
    · exact hk _ (by simp)
    · exact hk _ (by simp)
  intro w hw
  unfold lineWs at hw
  rcases List.mem_append.1 hw with hw | hw
  · rcases List.mem_append.1 hw with hw | hw
    · rcases List.mem_append.1 hw with hw | hw
      · simp only [List.mem_cons, List.not_mem_nil, or_false] at hw
        rcases hw with rfl | rfl | rfl | rfl
        · exact hi _
        · exact hk _ (by simp)
        · exact hi _
        · exact hbe
      · exact hk1 w hw
    · simp only [List.mem_cons, List.not_mem_nil, or_false] at hw
      rcases hw with rfl | rfl | rfl | rfl
      · exact hk _ (by simp)
      · exact hi _
      · exact hk _ (by simp)
      · exact hi _
  · split at hw
    · cases hw
    · exact hk2 w hw
/-- the words of a line are its words. -/
theorem split_line (e : Ev) (hp : plainB e = true) : wordsL (lineL e) 32 = lineWs e := by
  have h := line_words e hp
  rw [h.eq]
  exact split_join 32 _ h.ne (lineWs_no e 32 (.inl rfl))
/-- what the words of a text are read to be. -/
def guessP (L : List Bytes) : Ev :=
  if wordAt L 3 = wEnd then
    if wordAt L (kindN L 4 + 4) = wErr then ⟨atoiV (wordAt L 0), atoiV (wordAt L 2), 2, kindP L 4, atoiV (wordAt L (kindN L 4 + 1)), atoiV (wordAt L (kindN L 4 + 3)), atoiV (wordAt L (kindN L 4 + 5)), 0, false, atoiV (wordAt L (kindN L 4 + 7))⟩
    else ⟨atoiV (wordAt L 0), atoiV (wordAt L 2), 2, kindP L 4, atoiV (wordAt L (kindN L 4 + 1)), atoiV (wordAt L (kindN L 4 + 3)), 0, atoiV (wordAt L (kindN L 4 + 5)), wordAt L (kindN L 4 + 6) == wExact, atoiV (wordAt L (kindN L 4 + 8))⟩
  else ⟨atoiV (wordAt L 0), atoiV (wordAt L 2), 1, kindP L 4, atoiV (wordAt L (kindN L 4 + 1)), atoiV (wordAt L (kindN L 4 + 3)), 0, 0, false, 0⟩
def readP (s : Bytes) : Option Ev := if s ≠ [] ∧ lineL (guessP (wordsL s 32)) = s then some (guessP (wordsL s 32)) else none
theorem kIdx_name (k : Int) (h0 : 0 < k) (h7 : k < 7) : kIdx (nameW k) = k - 1 := by
  obtain ⟨m, rfl⟩ : ∃ m : Nat, k = (m : Int) := ⟨k.toNat, by omega⟩
  have hm : m < 7 := by omega
  have hp : 0 < m := by omega
  match m, hm, hp with
  | 1, _, _ => decide
  | 2, _, _ => decide
  | 3, _, _ => decide
  | 4, _, _ => decide
  | 5, _, _ => decide
  | 6, _, _ => decide
theorem kIdx_call : kIdx wCall = -1 := by decide
theorem guess_line (e : Ev) (hp : plainB e = true) (hok : EvOk e) : guessP (lineWs e) = e := by
  have ai := fun n hn => atoi_itoa n hn
  by_cases hk : 0 < e.ck ∧ e.ck < 7
  · skip
    by_cases h1 : e.kd = 1
    · have hq := hp
      unfold plainB at hq
      rw [if_pos h1] at hq
      simp only [Bool.and_eq_true, beq_iff_eq, Bool.not_eq_true'] at hq
      obtain ⟨g1, g2, g3, g4⟩ := hq
      have hL : lineWs e = [Lib.itoa e.wh, wThread, Lib.itoa e.th, wBegin, nameW e.ck, wNode, Lib.itoa e.cv, wN, Lib.itoa e.cn] := by
        unfold lineWs kindWs
        rw [if_pos hk, if_pos h1, if_pos h1]
        rfl
      have hN : kindN (lineWs e) 4 = 5 := by
        rw [hL]
        unfold kindN
        show (if kIdx (nameW e.ck) ≥ 0 then 4 + 1 else 4 + 2) = 5
        rw [kIdx_name _ hk.1 hk.2, if_pos (by omega)]
      have hP : kindP (lineWs e) 4 = e.ck := by
        rw [hL]
        unfold kindP
        show (if kIdx (nameW e.ck) ≥ 0 then kIdx (nameW e.ck) + 1 else atoiV wNode) = e.ck
        rw [kIdx_name _ hk.1 hk.2, if_pos (by omega)]
        omega
      unfold guessP
      rw [hN, hP, hL]
      show (if wBegin = wEnd then _ else (⟨atoiV (Lib.itoa e.wh), atoiV (Lib.itoa e.th), 1, e.ck, atoiV (Lib.itoa e.cv), atoiV (Lib.itoa e.cn), 0, 0, false, 0⟩ : Ev)) = e
      rw [if_neg (by decide), ai _ hok.wh, ai _ hok.th, ai _ hok.cv, ai _ hok.cn]
      obtain ⟨wh, th, kd, ck, cv, cn, er, an, ex, nd⟩ := e
      simp only at h1 g1 g2 g3 g4 ⊢
      rw [h1, g1, g2, g3, g4]
    · have hq := hp
      unfold plainB at hq
      rw [if_neg h1] at hq
      have h2 : e.kd = 2 := by
        by_cases h2 : e.kd = 2
        · exact h2
        · rw [if_neg h2] at hq; cases hq
      rw [if_pos h2] at hq
      by_cases h3 : e.er = 0
      · skip
        have hL : lineWs e = [Lib.itoa e.wh, wThread, Lib.itoa e.th, wEnd, nameW e.ck, wNode, Lib.itoa e.cv, wN, Lib.itoa e.cn, wOk, Lib.itoa e.an, if e.ex = true then wExact else wNear, wAt, Lib.itoa e.nd] := by
          unfold lineWs kindWs ansWs
          rw [if_pos hk, if_neg h1, if_neg h1, if_neg (by simpa using h3)]
          rfl
        have hN : kindN (lineWs e) 4 = 5 := by
          rw [hL]
          unfold kindN
          show (if kIdx (nameW e.ck) ≥ 0 then 4 + 1 else 4 + 2) = 5
          rw [kIdx_name _ hk.1 hk.2, if_pos (by omega)]
        have hP : kindP (lineWs e) 4 = e.ck := by
          rw [hL]
          unfold kindP
          show (if kIdx (nameW e.ck) ≥ 0 then kIdx (nameW e.ck) + 1 else atoiV wNode) = e.ck
          rw [kIdx_name _ hk.1 hk.2, if_pos (by omega)]
          omega
        unfold guessP
        rw [hN, hP, hL]
        show (if wEnd = wEnd then (if wOk = wErr then _ else (⟨atoiV (Lib.itoa e.wh), atoiV (Lib.itoa e.th), 2, e.ck, atoiV (Lib.itoa e.cv), atoiV (Lib.itoa e.cn), 0, atoiV (Lib.itoa e.an), (if e.ex = true then wExact else wNear) == wExact, atoiV (Lib.itoa e.nd)⟩ : Ev)) else _) = e
        have hx : ((if e.ex = true then wExact else wNear) == wExact) = e.ex := by cases e.ex <;> decide
        rw [if_pos rfl, if_neg (by decide), ai _ hok.wh, ai _ hok.th, ai _ hok.cv, ai _ hok.cn, ai _ hok.an, ai _ hok.nd, hx]
        obtain ⟨wh, th, kd, ck, cv, cn, er, an, ex, nd⟩ := e
        simp only at h2 h3 ⊢
        rw [h2, h3]
      · rw [if_neg h3] at hq
        have hpos : e.er > 0 := by
          by_cases hh : e.er > 0
          · exact hh
          · rw [if_neg hh] at hq; cases hq
        rw [if_pos hpos] at hq
        simp only [Bool.and_eq_true, beq_iff_eq, Bool.not_eq_true'] at hq
        obtain ⟨g2, g3⟩ := hq
        have hL : lineWs e = [Lib.itoa e.wh, wThread, Lib.itoa e.th, wEnd, nameW e.ck, wNode, Lib.itoa e.cv, wN, Lib.itoa e.cn, wErr, Lib.itoa e.er, wAt, Lib.itoa e.nd] := by
          unfold lineWs kindWs ansWs
          rw [if_pos hk, if_neg h1, if_neg h1, if_pos h3]
          rfl
        have hN : kindN (lineWs e) 4 = 5 := by
          rw [hL]
          unfold kindN
          show (if kIdx (nameW e.ck) ≥ 0 then 4 + 1 else 4 + 2) = 5
          rw [kIdx_name _ hk.1 hk.2, if_pos (by omega)]
        have hP : kindP (lineWs e) 4 = e.ck := by
          rw [hL]
          unfold kindP
          show (if kIdx (nameW e.ck) ≥ 0 then kIdx (nameW e.ck) + 1 else atoiV wNode) = e.ck
          rw [kIdx_name _ hk.1 hk.2, if_pos (by omega)]
          omega
        unfold guessP
        rw [hN, hP, hL]
        show (if wEnd = wEnd then (if wErr = wErr then (⟨atoiV (Lib.itoa e.wh), atoiV (Lib.itoa e.th), 2, e.ck, atoiV (Lib.itoa e.cv), atoiV (Lib.itoa e.cn), atoiV (Lib.itoa e.er), 0, false, atoiV (Lib.itoa e.nd)⟩ : Ev) else _) else _) = e
        rw [if_pos rfl, if_pos rfl, ai _ hok.wh, ai _ hok.th, ai _ hok.cv, ai _ hok.cn, ai _ hok.er, ai _ hok.nd]
        obtain ⟨wh, th, kd, ck, cv, cn, er, an, ex, nd⟩ := e
        simp only at h2 g2 g3 ⊢
        rw [h2, g2, g3]
  · skip
    by_cases h1 : e.kd = 1
    · have hq := hp
      unfold plainB at hq
      rw [if_pos h1] at hq
      simp only [Bool.and_eq_true, beq_iff_eq, Bool.not_eq_true'] at hq
      obtain ⟨g1, g2, g3, g4⟩ := hq
      have hL : lineWs e = [Lib.itoa e.wh, wThread, Lib.itoa e.th, wBegin, wCall, Lib.itoa e.ck, wNode, Lib.itoa e.cv, wN, Lib.itoa e.cn] := by
        unfold lineWs kindWs
        rw [if_neg hk, if_pos h1, if_pos h1]
        rfl
      have hN : kindN (lineWs e) 4 = 6 := by
        rw [hL]
        unfold kindN
        show (if kIdx wCall ≥ 0 then 4 + 1 else 4 + 2) = 6
        rw [kIdx_call, if_neg (by decide)]
      have hP : kindP (lineWs e) 4 = e.ck := by
        rw [hL]
        unfold kindP
        show (if kIdx wCall ≥ 0 then kIdx wCall + 1 else atoiV (Lib.itoa e.ck)) = e.ck
        rw [kIdx_call, if_neg (by decide)]
        exact ai _ hok.ck
      unfold guessP
      rw [hN, hP, hL]
      show (if wBegin = wEnd then _ else (⟨atoiV (Lib.itoa e.wh), atoiV (Lib.itoa e.th), 1, e.ck, atoiV (Lib.itoa e.cv), atoiV (Lib.itoa e.cn), 0, 0, false, 0⟩ : Ev)) = e
      rw [if_neg (by decide), ai _ hok.wh, ai _ hok.th, ai _ hok.cv, ai _ hok.cn]
      obtain ⟨wh, th, kd, ck, cv, cn, er, an, ex, nd⟩ := e
      simp only at h1 g1 g2 g3 g4 ⊢
      rw [h1, g1, g2, g3, g4]
    · have hq := hp
      unfold plainB at hq
      rw [if_neg h1] at hq
      have h2 : e.kd = 2 := by
        by_cases h2 : e.kd = 2
        · exact h2
        · rw [if_neg h2] at hq; cases hq
      rw [if_pos h2] at hq
      by_cases h3 : e.er = 0
      · skip
        have hL : lineWs e = [Lib.itoa e.wh, wThread, Lib.itoa e.th, wEnd, wCall, Lib.itoa e.ck, wNode, Lib.itoa e.cv, wN, Lib.itoa e.cn, wOk, Lib.itoa e.an, if e.ex = true then wExact else wNear, wAt, Lib.itoa e.nd] := by
          unfold lineWs kindWs ansWs
          rw [if_neg hk, if_neg h1, if_neg h1, if_neg (by simpa using h3)]
          rfl
        have hN : kindN (lineWs e) 4 = 6 := by
          rw [hL]
          unfold kindN
          show (if kIdx wCall ≥ 0 then 4 + 1 else 4 + 2) = 6
          rw [kIdx_call, if_neg (by decide)]
        have hP : kindP (lineWs e) 4 = e.ck := by
          rw [hL]
          unfold kindP
          show (if kIdx wCall ≥ 0 then kIdx wCall + 1 else atoiV (Lib.itoa e.ck)) = e.ck
          rw [kIdx_call, if_neg (by decide)]
          exact ai _ hok.ck
        unfold guessP
        rw [hN, hP, hL]
        show (if wEnd = wEnd then (if wOk = wErr then _ else (⟨atoiV (Lib.itoa e.wh), atoiV (Lib.itoa e.th), 2, e.ck, atoiV (Lib.itoa e.cv), atoiV (Lib.itoa e.cn), 0, atoiV (Lib.itoa e.an), (if e.ex = true then wExact else wNear) == wExact, atoiV (Lib.itoa e.nd)⟩ : Ev)) else _) = e
        have hx : ((if e.ex = true then wExact else wNear) == wExact) = e.ex := by cases e.ex <;> decide
        rw [if_pos rfl, if_neg (by decide), ai _ hok.wh, ai _ hok.th, ai _ hok.cv, ai _ hok.cn, ai _ hok.an, ai _ hok.nd, hx]
        obtain ⟨wh, th, kd, ck, cv, cn, er, an, ex, nd⟩ := e
        simp only at h2 h3 ⊢
        rw [h2, h3]
      · rw [if_neg h3] at hq
        have hpos : e.er > 0 := by
          by_cases hh : e.er > 0
          · exact hh
          · rw [if_neg hh] at hq; cases hq
        rw [if_pos hpos] at hq
        simp only [Bool.and_eq_true, beq_iff_eq, Bool.not_eq_true'] at hq
        obtain ⟨g2, g3⟩ := hq
        have hL : lineWs e = [Lib.itoa e.wh, wThread, Lib.itoa e.th, wEnd, wCall, Lib.itoa e.ck, wNode, Lib.itoa e.cv, wN, Lib.itoa e.cn, wErr, Lib.itoa e.er, wAt, Lib.itoa e.nd] := by
          unfold lineWs kindWs ansWs
          rw [if_neg hk, if_neg h1, if_neg h1, if_pos h3]
          rfl
        have hN : kindN (lineWs e) 4 = 6 := by
          rw [hL]
          unfold kindN
          show (if kIdx wCall ≥ 0 then 4 + 1 else 4 + 2) = 6
          rw [kIdx_call, if_neg (by decide)]
        have hP : kindP (lineWs e) 4 = e.ck := by
          rw [hL]
          unfold kindP
          show (if kIdx wCall ≥ 0 then kIdx wCall + 1 else atoiV (Lib.itoa e.ck)) = e.ck
          rw [kIdx_call, if_neg (by decide)]
          exact ai _ hok.ck
        unfold guessP
        rw [hN, hP, hL]
        show (if wEnd = wEnd then (if wErr = wErr then (⟨atoiV (Lib.itoa e.wh), atoiV (Lib.itoa e.th), 2, e.ck, atoiV (Lib.itoa e.cv), atoiV (Lib.itoa e.cn), atoiV (Lib.itoa e.er), 0, false, atoiV (Lib.itoa e.nd)⟩ : Ev) else _) else _) = e
        rw [if_pos rfl, if_pos rfl, ai _ hok.wh, ai _ hok.th, ai _ hok.cv, ai _ hok.cn, ai _ hok.er, ai _ hok.nd]
        obtain ⟨wh, th, kd, ck, cv, cn, er, an, ex, nd⟩ := e
        simp only at h2 g2 g3 ⊢
        rw [h2, g2, g3]
theorem atoiV_ok (l : Bytes) : I64 (atoiV l) := by
  unfold atoiV I64
  cases h : Lib.atoiAll l with
  | ok v =>
    have := Lib.atoiAll_bounds h
    simp only
    omega
  | «syntax» => simp only; omega
  | range =>
    simp only
    unfold Lib.atoiSat
    split <;> omega
theorem kIdx_ge (s : Bytes) : -1 ≤ kIdx s := by
  unfold kIdx
  (repeat' split) <;> omega
theorem kindP_ok (L : List Bytes) (k : Nat) : I64 (kindP L k) := by
  unfold kindP
  split
  · have h1 := kIdx_lt (wordAt L k)
    have h2 := kIdx_ge (wordAt L k)
    unfold I64
    omega
  · exact atoiV_ok _
theorem i64_0 : I64 0 := by unfold I64; omega
theorem i64_1 : I64 1 := by unfold I64; omega
theorem i64_2 : I64 2 := by unfold I64; omega
theorem guess_ok (L : List Bytes) : EvOk (guessP L) := by
  unfold guessP
  split
  · split
    · exact ⟨atoiV_ok _, atoiV_ok _, i64_2, kindP_ok _ _, atoiV_ok _, atoiV_ok _, atoiV_ok _, i64_0, atoiV_ok _⟩
    · exact ⟨atoiV_ok _, atoiV_ok _, i64_2, kindP_ok _ _, atoiV_ok _, atoiV_ok _, i64_0, atoiV_ok _, atoiV_ok _⟩
  · exact ⟨atoiV_ok _, atoiV_ok _, i64_1, kindP_ok _ _, atoiV_ok _, atoiV_ok _, i64_0, i64_0, i64_0⟩
theorem line_ne (e : Ev) (hp : plainB e = true) : lineL e ≠ [] := by
  have h := line_words e hp
  rw [h.eq]
  exact join_ne 32 _ h.ne h.wn
theorem line_plain (e : Ev) (h : lineL e ≠ []) : plainB e = true := by
  cases hp : plainB e with
  | true => rfl
  | false => exact absurd (by unfold lineL; rw [if_pos hp]) h
theorem readP_iff (s : Bytes) (e : Ev) : readP s = some e ↔ plainB e = true ∧ EvOk e ∧ lineL e = s := by
  unfold readP
  constructor
  · intro h
    split at h
    · rename_i hc
      cases h
      exact ⟨line_plain _ (by rw [hc.2]; exact hc.1), guess_ok _, hc.2⟩
    · cases h
  · rintro ⟨hp, hok, rfl⟩
    have hg : guessP (wordsL (lineL e) 32) = e := by rw [split_line e hp, guess_line e hp hok]
    rw [hg, if_pos ⟨line_ne e hp, rfl⟩]
/-- a line has no line's end in it. -/
theorem join_no (c d : UInt8) (hcd : c ≠ d) : ∀ (ws : List Bytes), (∀ w ∈ ws, c ∉ w) → c ∉ joinC d ws
  | [], _ => by simp [joinC]
  | [w], h => h w List.mem_cons_self
  | w :: v :: ws, h => by
    have ih := join_no c d hcd (v :: ws) (fun x hx => h x (List.mem_cons_of_mem _ hx))
    simp only [joinC, List.mem_append, List.mem_cons]
    rintro (h1 | h1 | h1)
    · exact h w List.mem_cons_self h1
    · exact hcd h1
    · exact ih h1
theorem line_no (e : Ev) : (10 : UInt8) ∉ lineL e := by
  by_cases hp : plainB e = true
  · have h := line_words e hp
    rw [h.eq]
    exact join_no 10 32 (by decide) _ (lineWs_no e 10 (.inr rfl))
  · have : lineL e = [] := by unfold lineL; rw [if_pos (by simpa using hp)]
    rw [this]; simp
/-- a text of lines is split into them, and an empty one. -/
theorem text_join : ∀ (l : List Ev), textL l = joinC 10 (l.map lineL ++ [[]])
  | [] => rfl
  | [e] => by simp [textL, joinC]
  | e :: f :: l => by
    have ih := text_join (f :: l)
    show lineL e ++ [10] ++ textL (f :: l) = _
    rw [ih]
    simp [joinC]
theorem split_text (l : List Ev) : wordsL (textL l) 10 = l.map lineL ++ [[]] := by
  rw [text_join l]
  refine split_join 10 _ (by simp) (fun w hw => ?_)
  rcases List.mem_append.1 hw with h | h
  · obtain ⟨e, _, rfl⟩ := List.mem_map.1 h
    exact line_no e
  · simp only [List.mem_singleton] at h; rw [h]; simp
theorem textL_append (l m : List Ev) : textL (l ++ m) = textL l ++ textL m := by
  induction l with
  | nil => rfl
  | cons e l ih => simp only [List.cons_append, textL, ih, List.append_assoc]
end Go.Proofs.YtfolhicnbabldaaDoor.PR
