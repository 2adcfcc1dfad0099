import Derived.Test.YtfolhicnbabldaaDoorRRead
import Derived.RangeFuncNested
import Derived.RangeFuncBound
import Derived.RangeFuncCalls
import Derived.RangeFuncLeaves
import Derived.RangeFuncBox
import Derived.Shelf.Abstract
import Derived.Shelf.RegionOpen
import Derived.OwnWalkIn
import Derived.TacticsInMore
import Derived.LoopNIn
import Derived.LoopIn
import Derived.Deep.RegionHeld3
import Derived.Deep.RegionLaw
import Derived.Laws.CopyOwn
import Derived.Laws.EntriesVeiled
import Derived.WalkKit
import Derived.BigCall
import Derived.Lib.ItoaLen
import Derived.Lib.SplitLaws
namespace Go.Proofs.YtfolhicnbabldaaDoor.PR
open Go.RowKit Go.Shelf Go.Proofs.YtfolhicnbabldaaDoorW.PrintWords Go.Proofs.YtfolhicnbabldaaDoorW.PrintLast Go.Proofs.YtfolhicnbabldaaDoorW.PrintMore
attribute [local go_sem] max2_int min2_int max_two min_two max_three min_three max_four min_four
set_option linter.unusedVariables false
set_option linter.unusedSimpArgs false
def kdR (L : List Bytes) : Int := if wordAt L 3 = wEnd then 2 else 1
/-- what the reference's answer is, from word j on. -/
def ansR (L : List Bytes) (j : Nat) : Int × Int × Bool × Int :=
  if j + 4 ≤ L.length ∧ wordAt L j = wErr then (atoiV (wordAt L (j + 1)), 0, false, atoiV (wordAt L (j + 3)))
  else if j + 5 ≤ L.length ∧ wordAt L j = wOk then (0, atoiV (wordAt L (j + 1)), wordAt L (j + 2) == wExact, atoiV (wordAt L (j + 4)))
  else (0, 0, false, 0)
/-- the reference's guess. -/
def guessR (L : List Bytes) : Ev := ⟨atoiV (wordAt L 0), atoiV (wordAt L 2), kdR L, kindP L 4, atoiV (wordAt L (kindN L 4 + 1)), atoiV (wordAt L (kindN L 4 + 3)), (ansR L (kindN L 4 + 4)).1, (ansR L (kindN L 4 + 4)).2.1, (ansR L (kindN L 4 + 4)).2.2.1, (ansR L (kindN L 4 + 4)).2.2.2⟩
def readR (s : Bytes) : Option Ev := if s ≠ [] ∧ 9 ≤ (wordsL s 32).length ∧ kindN (wordsL s 32) 4 + 4 ≤ (wordsL s 32).length ∧ lineL (guessR (wordsL s 32)) = s then some (guessR (wordsL s 32)) else none
theorem guessR_ok (L : List Bytes) : EvOk (guessR L) := by
  have ha : I64 (ansR L (kindN L 4 + 4)).1 ∧ I64 (ansR L (kindN L 4 + 4)).2.1 ∧ I64 (ansR L (kindN L 4 + 4)).2.2.2 := by
    unfold ansR
    split
    · exact ⟨atoiV_ok _, i64_0, atoiV_ok _⟩
    · split
      · exact ⟨i64_0, atoiV_ok _, atoiV_ok _⟩
      · exact ⟨i64_0, i64_0, i64_0⟩
  have hk : I64 (kdR L) := by
    unfold kdR
    split
    · exact i64_2
    · exact i64_1
  exact ⟨atoiV_ok _, atoiV_ok _, hk, kindP_ok _ _, atoiV_ok _, atoiV_ok _, ha.1, ha.2.1, ha.2.2⟩
theorem guessR_line (e : Ev) (hp : plainB e = true) (hok : EvOk e) : 9 ≤ (lineWs e).length ∧ kindN (lineWs e) 4 + 4 ≤ (lineWs e).length ∧ guessR (lineWs e) = e := by
  have ai := fun n hn => atoi_itoa n hn
  by_cases hk : 0 < e.ck ∧ e.ck < 7
  · skip
    by_cases h1 : e.kd = 1
    · have hq := hp
      unfold plainB at hq
      rw [if_pos h1] at hq
      simp only [Bool.and_eq_true, beq_iff_eq, Bool.not_eq_true'] at hq
      obtain ⟨g1, g2, g3, g4⟩ := hq
      have hL : lineWs e = [Lib.itoa e.wh, wThread, Lib.itoa e.th, wBegin, nameW e.ck, wNode, Lib.itoa e.cv, wN, Lib.itoa e.cn] := by
        unfold lineWs kindWs
        rw [if_pos hk, if_pos h1, if_pos h1]
        rfl
      have hN : kindN (lineWs e) 4 = 5 := by
        rw [hL]
        unfold kindN
        show (if kIdx (nameW e.ck) ≥ 0 then 4 + 1 else 4 + 2) = 5
        rw [kIdx_name _ hk.1 hk.2, if_pos (by omega)]
      have hP : kindP (lineWs e) 4 = e.ck := by
        rw [hL]
        unfold kindP
        show (if kIdx (nameW e.ck) ≥ 0 then kIdx (nameW e.ck) + 1 else atoiV wNode) = e.ck
        rw [kIdx_name _ hk.1 hk.2, if_pos (by omega)]
        omega
      refine ⟨by rw [hL]; simp, by rw [hN, hL]; simp, ?_⟩
      have hA : ansR (lineWs e) 9 = (0, 0, false, 0) := by
        rw [hL]
        unfold ansR
        rw [if_neg (by simp), if_neg (by simp)]
      unfold guessR
      rw [hN, hP, hA, hL]
      show (⟨atoiV (Lib.itoa e.wh), atoiV (Lib.itoa e.th), if wBegin = wEnd then 2 else 1, e.ck, atoiV (Lib.itoa e.cv), atoiV (Lib.itoa e.cn), 0, 0, false, 0⟩ : Ev) = e
      rw [if_neg (by decide), ai _ hok.wh, ai _ hok.th, ai _ hok.cv, ai _ hok.cn]
      obtain ⟨wh, th, kd, ck, cv, cn, er, an, ex, nd⟩ := e
      simp only at h1 g1 g2 g3 g4 ⊢
      rw [h1, g1, g2, g3, g4]
    · have hq := hp
      unfold plainB at hq
      rw [if_neg h1] at hq
      have h2 : e.kd = 2 := by
        by_cases h2 : e.kd = 2
        · exact h2
        · rw [if_neg h2] at hq; cases hq
      rw [if_pos h2] at hq
      by_cases h3 : e.er = 0
      · skip
        have hL : lineWs e = [Lib.itoa e.wh, wThread, Lib.itoa e.th, wEnd, nameW e.ck, wNode, Lib.itoa e.cv, wN, Lib.itoa e.cn, wOk, Lib.itoa e.an, if e.ex = true then wExact else wNear, wAt, Lib.itoa e.nd] := by
          unfold lineWs kindWs ansWs
          rw [if_pos hk, if_neg h1, if_neg h1, if_neg (by simpa using h3)]
          rfl
        have hN : kindN (lineWs e) 4 = 5 := by
          rw [hL]
          unfold kindN
          show (if kIdx (nameW e.ck) ≥ 0 then 4 + 1 else 4 + 2) = 5
          rw [kIdx_name _ hk.1 hk.2, if_pos (by omega)]
        have hP : kindP (lineWs e) 4 = e.ck := by
          rw [hL]
          unfold kindP
          show (if kIdx (nameW e.ck) ≥ 0 then kIdx (nameW e.ck) + 1 else atoiV wNode) = e.ck
          rw [kIdx_name _ hk.1 hk.2, if_pos (by omega)]
          omega
        refine ⟨by rw [hL]; simp, by rw [hN, hL]; simp, ?_⟩
        have hx : ((if e.ex = true then wExact else wNear) == wExact) = e.ex := by cases e.ex <;> decide
        have hA : ansR (lineWs e) 9 = (0, atoiV (Lib.itoa e.an), e.ex, atoiV (Lib.itoa e.nd)) := by
          rw [hL]
          unfold ansR
          rw [if_neg (fun h => absurd h.2 (by show ¬ wOk = wErr; decide)), if_pos ⟨by simp, rfl⟩]
          show (0, atoiV (Lib.itoa e.an), (if e.ex = true then wExact else wNear) == wExact, atoiV (Lib.itoa e.nd)) = _
          rw [hx]
        unfold guessR
        rw [hN, hP, hA, hL]
        show (⟨atoiV (Lib.itoa e.wh), atoiV (Lib.itoa e.th), if wEnd = wEnd then 2 else 1, e.ck, atoiV (Lib.itoa e.cv), atoiV (Lib.itoa e.cn), 0, atoiV (Lib.itoa e.an), e.ex, atoiV (Lib.itoa e.nd)⟩ : Ev) = e
        rw [if_pos rfl, ai _ hok.wh, ai _ hok.th, ai _ hok.cv, ai _ hok.cn, ai _ hok.an, ai _ hok.nd]
        obtain ⟨wh, th, kd, ck, cv, cn, er, an, ex, nd⟩ := e
        simp only at h2 h3 ⊢
        rw [h2, h3]
      · rw [if_neg h3] at hq
        have hpos : e.er > 0 := by
          by_cases hh : e.er > 0
          · exact hh
          · rw [if_neg hh] at hq; cases hq
        rw [if_pos hpos] at hq
        simp only [Bool.and_eq_true, beq_iff_eq, Bool.not_eq_true'] at hq
        obtain ⟨g2, g3⟩ := hq
        have hL : lineWs e = [Lib.itoa e.wh, wThread, Lib.itoa e.th, wEnd, nameW e.ck, wNode, Lib.itoa e.cv, wN, Lib.itoa e.cn, wErr, Lib.itoa e.er, wAt, Lib.itoa e.nd] := by
          unfold lineWs kindWs ansWs
          rw [if_pos hk, if_neg h1, if_neg h1, if_pos h3]
          rfl
        have hN : kindN (lineWs e) 4 = 5 := by
          rw [hL]
          unfold kindN
          show (if kIdx (nameW e.ck) ≥ 0 then 4 + 1 else 4 + 2) = 5
          rw [kIdx_name _ hk.1 hk.2, if_pos (by omega)]
        have hP : kindP (lineWs e) 4 = e.ck := by
          rw [hL]
          unfold kindP
          show (if kIdx (nameW e.ck) ≥ 0 then kIdx (nameW e.ck) + 1 else atoiV wNode) = e.ck
          rw [kIdx_name _ hk.1 hk.2, if_pos (by omega)]
          omega
        refine ⟨by rw [hL]; simp, by rw [hN, hL]; simp, ?_⟩
        have hA : ansR (lineWs e) 9 = (atoiV (Lib.itoa e.er), 0, false, atoiV (Lib.itoa e.nd)) := by
          rw [hL]
          unfold ansR
          rw [if_pos ⟨by simp, rfl⟩]
          rfl
        unfold guessR
        rw [hN, hP, hA, hL]
        show (⟨atoiV (Lib.itoa e.wh), atoiV (Lib.itoa e.th), if wEnd = wEnd then 2 else 1, e.ck, atoiV (Lib.itoa e.cv), atoiV (Lib.itoa e.cn), atoiV (Lib.itoa e.er), 0, false, atoiV (Lib.itoa e.nd)⟩ : Ev) = e
        rw [if_pos rfl, ai _ hok.wh, ai _ hok.th, ai _ hok.cv, ai _ hok.cn, ai _ hok.er, ai _ hok.nd]
        obtain ⟨wh, th, kd, ck, cv, cn, er, an, ex, nd⟩ := e
        simp only at h2 g2 g3 ⊢
        rw [h2, g2, g3]
  
  · skip
    by_cases h1 : e.kd = 1
    · have hq := hp
      unfold plainB at hq
      rw [if_pos h1] at hq
      simp only [Bool.and_eq_true, beq_iff_eq, Bool.not_eq_true'] at hq
      obtain ⟨g1, g2, g3, g4⟩ := hq
      have hL : lineWs e = [Lib.itoa e.wh, wThread, Lib.itoa e.th, wBegin, wCall, Lib.itoa e.ck, wNode, Lib.itoa e.cv, wN, Lib.itoa e.cn] := by
        unfold lineWs kindWs
        rw [if_neg hk, if_pos h1, if_pos h1]
        rfl
      have hN : kindN (lineWs e) 4 = 6 := by
        rw [hL]
        unfold kindN
        show (if kIdx wCall ≥ 0 then 4 + 1 else 4 + 2) = 6
        rw [kIdx_call, if_neg (by decide)]
      have hP : kindP (lineWs e) 4 = e.ck := by
        rw [hL]
        unfold kindP
        show (if kIdx wCall ≥ 0 then kIdx wCall + 1 else atoiV (Lib.itoa e.ck)) = e.ck
        rw [kIdx_call, if_neg (by decide)]
        exact ai _ hok.ck
      refine ⟨by rw [hL]; simp, by rw [hN, hL]; simp, ?_⟩
      have hA : ansR (lineWs e) 10 = (0, 0, false, 0) := by
        rw [hL]
        unfold ansR
        rw [if_neg (by simp), if_neg (by simp)]
      unfold guessR
      rw [hN, hP, hA, hL]
      show (⟨atoiV (Lib.itoa e.wh), atoiV (Lib.itoa e.th), if wBegin = wEnd then 2 else 1, e.ck, atoiV (Lib.itoa e.cv), atoiV (Lib.itoa e.cn), 0, 0, false, 0⟩ : Ev) = e
      rw [if_neg (by decide), ai _ hok.wh, ai _ hok.th, ai _ hok.cv, ai _ hok.cn]
      obtain ⟨wh, th, kd, ck, cv, cn, er, an, ex, nd⟩ := e
      simp only at h1 g1 g2 g3 g4 ⊢
      rw [h1, g1, g2, g3, g4]
    · have hq := hp
      unfold plainB at hq
      rw [if_neg h1] at hq
      have h2 : e.kd = 2 := by
        by_cases h2 : e.kd = 2
        · exact h2
        · rw [if_neg h2] at hq; cases hq
      rw [if_pos h2] at hq
      by_cases h3 : e.er = 0
      · skip
        have hL : lineWs e = [Lib.itoa e.wh, wThread, Lib.itoa e.th, wEnd, wCall, Lib.itoa e.ck, wNode, Lib.itoa e.cv, wN, Lib.itoa e.cn, wOk, Lib.itoa e.an, if e.ex = true then wExact else wNear, wAt, Lib.itoa e.nd] := by
          unfold lineWs kindWs ansWs
          rw [if_neg hk, if_neg h1, if_neg h1, if_neg (by simpa using h3)]
          rfl
        have hN : kindN (lineWs e) 4 = 6 := by
          rw [hL]
          unfold kindN
          show (if kIdx wCall ≥ 0 then 4 + 1 else 4 + 2) = 6
          rw [kIdx_call, if_neg (by decide)]
        have hP : kindP (lineWs e) 4 = e.ck := by
          rw [hL]
          unfold kindP
          show (if kIdx wCall ≥ 0 then kIdx wCall + 1 else atoiV (Lib.itoa e.ck)) = e.ck
          rw [kIdx_call, if_neg (by decide)]
          exact ai _ hok.ck
        refine ⟨by rw [hL]; simp, by rw [hN, hL]; simp, ?_⟩
        have hx : ((if e.ex = true then wExact else wNear) == wExact) = e.ex := by cases e.ex <;> decide
        have hA : ansR (lineWs e) 10 = (0, atoiV (Lib.itoa e.an), e.ex, atoiV (Lib.itoa e.nd)) := by
          rw [hL]
          unfold ansR
          rw [if_neg (fun h => absurd h.2 (by show ¬ wOk = wErr; decide)), if_pos ⟨by simp, rfl⟩]
          show (0, atoiV (Lib.itoa e.an), (if e.ex = true then wExact else wNear) == wExact, atoiV (Lib.itoa e.nd)) = _
          rw [hx]
        unfold guessR
        rw [hN, hP, hA, hL]
        show (⟨atoiV (Lib.itoa e.wh), atoiV (Lib.itoa e.th), if wEnd = wEnd then 2 else 1, e.ck, atoiV (Lib.itoa e.cv), atoiV (Lib.itoa e.cn), 0, atoiV (Lib.itoa e.an), e.ex, atoiV (Lib.itoa e.nd)⟩ : Ev) = e
        rw [if_pos rfl, ai _ hok.wh, ai _ hok.th, ai _ hok.cv, ai _ hok.cn, ai _ hok.an, ai _ hok.nd]
        obtain ⟨wh, th, kd, ck, cv, cn, er, an, ex, nd⟩ := e
        simp only at h2 h3 ⊢
        rw [h2, h3]
      · rw [if_neg h3] at hq
        have hpos : e.er > 0 := by
          by_cases hh : e.er > 0
          · exact hh
          · rw [if_neg hh] at hq; cases hq
        rw [if_pos hpos] at hq
        simp only [Bool.and_eq_true, beq_iff_eq, Bool.not_eq_true'] at hq
        obtain ⟨g2, g3⟩ := hq
        have hL : lineWs e = [Lib.itoa e.wh, wThread, Lib.itoa e.th, wEnd, wCall, Lib.itoa e.ck, wNode, Lib.itoa e.cv, wN, Lib.itoa e.cn, wErr, Lib.itoa e.er, wAt, Lib.itoa e.nd] := by
          unfold lineWs kindWs ansWs
          rw [if_neg hk, if_neg h1, if_neg h1, if_pos h3]
          rfl
        have hN : kindN (lineWs e) 4 = 6 := by
          rw [hL]
          unfold kindN
          show (if kIdx wCall ≥ 0 then 4 + 1 else 4 + 2) = 6
          rw [kIdx_call, if_neg (by decide)]
        have hP : kindP (lineWs e) 4 = e.ck := by
          rw [hL]
          unfold kindP
          show (if kIdx wCall ≥ 0 then kIdx wCall + 1 else atoiV (Lib.itoa e.ck)) = e.ck
          rw [kIdx_call, if_neg (by decide)]
          exact ai _ hok.ck
        refine ⟨by rw [hL]; simp, by rw [hN, hL]; simp, ?_⟩
        have hA : ansR (lineWs e) 10 = (atoiV (Lib.itoa e.er), 0, false, atoiV (Lib.itoa e.nd)) := by
          rw [hL]
          unfold ansR
          rw [if_pos ⟨by simp, rfl⟩]
          rfl
        unfold guessR
        rw [hN, hP, hA, hL]
        show (⟨atoiV (Lib.itoa e.wh), atoiV (Lib.itoa e.th), if wEnd = wEnd then 2 else 1, e.ck, atoiV (Lib.itoa e.cv), atoiV (Lib.itoa e.cn), atoiV (Lib.itoa e.er), 0, false, atoiV (Lib.itoa e.nd)⟩ : Ev) = e
        rw [if_pos rfl, ai _ hok.wh, ai _ hok.th, ai _ hok.cv, ai _ hok.cn, ai _ hok.er, ai _ hok.nd]
        obtain ⟨wh, th, kd, ck, cv, cn, er, an, ex, nd⟩ := e
        simp only at h2 g2 g3 ⊢
        rw [h2, g2, g3]
theorem readR_iff (s : Bytes) (e : Ev) : readR s = some e ↔ plainB e = true ∧ EvOk e ∧ lineL e = s := by
  unfold readR
  constructor
  · intro h
    split at h
    · rename_i hc
      cases h
      exact ⟨line_plain _ (by rw [hc.2.2.2]; exact hc.1), guessR_ok _, hc.2.2.2⟩
    · cases h
  · rintro ⟨hp, hok, rfl⟩
    have hg := guessR_line e hp hok
    rw [split_line e hp, hg.2.2, if_pos ⟨line_ne e hp, hg.1, hg.2.1, rfl⟩]
theorem readR_eq (s : Bytes) : readR s = readP s := by
  cases h : readP s with
  | some e => exact (readR_iff s e).2 ((readP_iff s e).1 h)
  | none =>
    cases h2 : readR s with
    | none => rfl
    | some e => rw [(readP_iff s e).2 ((readR_iff s e).1 h2)] at h; cases h
theorem K_rnumS (l : Bytes) (hl : l.length ≤ 100000) (w : World) (hG : GW w) :
    Calls Tryd.prog 21 #[.string ⟨l.toArray⟩] w fun e w' => e = .returned (.int .i64 (atoiV l)) ∧ Below w.heap.size w w' := K_rnum l hl w hG
theorem kIdx_back (s : Bytes) (h : 0 ≤ kIdx s) : s = nameW (kIdx s + 1) := by
  unfold kIdx at h ⊢
  repeat' split
  all_goals first | (subst_vars; rfl) | simp_all | omega
theorem nameR_in (k : Int) (h0 : 0 < k) (h7 : k < 7) : nameR k = nameW k := by
  unfold nameR
  rw [if_pos ⟨h0, h7⟩]
set_option maxHeartbeats 4000000 in
set_option maxRecDepth 100000 in
theorem K_rkind (w : World) (g : Nat) (L : List Bytes) (k c : Nat) (hS : Short L) (hG : GW w) (h2 : k + 2 ≤ L.length) (hb : w.heap[g]? = some (.cells (L.map strV).toArray 9 (0, 0))) :
    Calls Tryd.prog 22 #[.slice (some ⟨g, k, none⟩) (L.length - k) c] w fun e w' => e = .returned (.tuple #[.int .i64 (kindP L k), .int .i64 ((kindN L k : Int) - (k : Int))]) ∧ Below w.heap.size w w' := by
  have HS := Aside0.mk hS
  have HG := Aside0.mk hG
  have HB := Aside0.mk hb
  have H2 := Aside0.mk h2
  have cA : ∀ (w' : World) (j : Nat), Below w.heap.size w w' → j < L.length → w'.cell? ⟨g, j, none⟩ = some (.string ⟨(wordAt L j).toArray⟩) := fun w' j hw hj => by
    rw [blk_cell (blk_below hb hw) j]
    simp [wordAt, strV, List.getD_eq_getElem?_getD, List.getElem?_eq_getElem hj]
  have CA := Aside0.mk cA
  clear cA hS hG hb h2
  go_enter Tryd.func22, Tryd.ntmps22
  go_wp2_with (fail)
  go_loopg [4] 7 (fun gg s4 wr => ∃ kk : Nat, 1 ≤ kk ∧ kk ≤ 7 ∧ 7 - kk ≤ gg ∧ s4 = .int .i64 kk ∧ Aside0 (Below w.heap.size w wr) ∧ Aside0 (∀ j : Nat, 1 ≤ j → j < kk → wordAt L k ≠ nameW j))
  case atStart => exact ⟨1, by omega, by omega, by omega, rfl, ⟨Below.refl _ _⟩, ⟨fun j h1 h2 => by omega⟩⟩
  case round =>
    obtain ⟨kk, h1, h7, hg, rfl, BW, HN⟩ := hrel
    have a0 := CA.out _ k BW.out (by have := H2.out; omega)
    have a1 := CA.out _ (k + 1) BW.out (by have := H2.out; omega)
    have hki : I64 (kk : Int) := ⟨by omega, by omega⟩
    have n0 : (0 : Int) < ((L.length - k : Nat) : Int) := by have := H2.out; omega
    have n1 : (1 : Int) < ((L.length - k : Nat) : Int) := by have := H2.out; omega
    by_cases hk : kk ≤ 6
    · have hkb : decide ((kk : Int) ≤ 6) = true := decide_eq_true (by omega)
      by_cases he : wordAt L k = nameW kk
      · have hne : (wordAt L k == nameR kk) = true := by rw [nameR_in kk (by omega) (by omega)]; simp [he]
        have heA := Aside0.mk he
        clear he
        go_wp2_with (fail)
        go_region_with (go_at_call 31; (with_reducible refine (K_rnameS (kk : Int) hki _ (HG.out.of ?_)).mono ?_); exact (by with_reducible repeat (first | exact BW.out | apply below_drew1 | apply pw_below_drewN)); rintro e w2 ⟨rfl, hb⟩; have HB2 : Aside0 (Below w.heap.size w w2) := ⟨below_step (by with_reducible repeat (first | exact BW.out | apply below_drew1 | apply pw_below_drewN)) hb⟩; clear hb; have a2 := CA.out _ k HB2.out (by have := H2.out; omega))
        go_wp2_with (fail)
        all_goals
          refine bodyPost_ret (results_tmp2 rfl _ _ _) rfl ?_
          have hI := kIdx_name (kk : Int) (by omega) (by omega)
          rw [← heA.out] at hI
          refine ⟨?_, HB2.out⟩
          unfold kindP kindN
          rw [if_pos (by omega), if_pos (by omega), hI, show (((k + 1 : Nat) : Int) - (k : Int)) = 1 by omega, show (kk : Int) - 1 + 1 = kk by omega]
          rfl
      · have hne : (wordAt L k == nameR kk) = false := by rw [nameR_in kk (by omega) (by omega)]; simp [he]
        have heA := Aside0.mk he
        clear he
        go_wp2_with (fail)
        go_region_with (go_at_call 31; (with_reducible refine (K_rnameS (kk : Int) hki _ (HG.out.of ?_)).mono ?_); exact (by with_reducible repeat (first | exact BW.out | apply below_drew1 | apply pw_below_drewN)); rintro e w2 ⟨rfl, hb⟩; have HB2 : Aside0 (Below w.heap.size w w2) := ⟨below_step (by with_reducible repeat (first | exact BW.out | apply below_drew1 | apply pw_below_drewN)) hb⟩; clear hb; have a2 := CA.out _ k HB2.out (by have := H2.out; omega))
        go_wp2_with (fail)
        all_goals
          go_roundg (7 - (kk + 1))
          case measure => omega
          case rel => exact ⟨kk + 1, by omega, by omega, by omega, by go_num, HB2, ⟨fun j h1 h2 => if h : j < kk then HN.out j h1 h else (show j = kk by omega) ▸ heA.out⟩⟩
    · have hkb : decide ((kk : Int) ≤ 6) = false := decide_eq_false (by omega)
      have h2b : decide (((L.length - k : Nat) : Int) < 2) = false := decide_eq_false (by have := H2.out; omega)
      go_wp2_with (go_at_call 21; (with_reducible refine (K_rnumS (wordAt L (k + 1)) (HS.out.at (k + 1)) _ (HG.out.of BW.out)).mono ?_); rintro e w2 ⟨he, hb⟩; obtain rfl : e = .returned (.int .i64 (atoiV (wordAt L (k + 1)))) := he; have HB2 : Aside0 (Below w.heap.size w w2) := ⟨below_step BW.out hb⟩; clear hb)
      refine bodyPost_ret (results_tmp2 rfl _ _ _) rfl ?_
      have hkI : kIdx (wordAt L k) < 0 := by
        rcases Int.lt_or_le (kIdx (wordAt L k)) 0 with h | h
        · exact h
        · have h5 := kIdx_lt (wordAt L k)
          refine absurd (kIdx_back _ h) ?_
          have := HN.out (kIdx (wordAt L k) + 1).toNat (by omega) (by omega)
          rwa [Int.toNat_of_nonneg (by omega)] at this
      refine ⟨?_, HB2.out⟩
      unfold kindP kindN
      rw [if_neg (by omega), if_neg (by omega), show (((k + 2 : Nat) : Int) - (k : Int)) = 2 by omega]
      rfl
end Go.Proofs.YtfolhicnbabldaaDoor.PR
