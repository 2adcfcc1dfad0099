import Derived.Test.YtfolhicnbabldaaDoorRBuild
import Derived.RangeFuncNested
import Derived.RangeFuncBound
import Derived.RangeFuncCalls
import Derived.RangeFuncLeaves
import Derived.RangeFuncBox
import Derived.Shelf.Abstract
import Derived.Shelf.RegionOpen
import Derived.OwnWalkIn
import Derived.TacticsInMore
import Derived.LoopNIn
import Derived.LoopIn
import Derived.Deep.RegionHeld3
import Derived.Deep.RegionLaw
import Derived.Laws.CopyOwn
import Derived.Laws.EntriesVeiled
import Derived.WalkKit
import Derived.BigCall
import Derived.Lib.ItoaLen
namespace Go.Proofs.YtfolhicnbabldaaDoor.PR
open Go.RowKit Go.Shelf Go.Proofs.YtfolhicnbabldaaDoorW.PrintWords Go.Proofs.YtfolhicnbabldaaDoorW.PrintLast Go.Proofs.YtfolhicnbabldaaDoorW.PrintMore
attribute [local go_sem] max2_int min2_int max_two min_two max_three min_three max_four min_four
set_option linter.unusedVariables false
set_option linter.unusedSimpArgs false
theorem strCells_of (s : Bytes) : Lib.strCells ⟨s.toArray⟩ = Lib.byteCells s := by simp [Lib.strCells, Lib.byteCells]
theorem byteCells_one (c : UInt8) : ([Value.int .u8 c.toNat] : List Value) = Lib.byteCells [c] := rfl
theorem LineAt.step {W w w' : World} {b : Nat} {l : Bytes} (h : LineAt W w b l) {p : Value} {l' : Bytes} (hp : p = .pointer (some ⟨b, 0, none⟩)) (h1 : Lib.BuilderAt 56 5 W.heap.size b p (Lib.byteCells l') w') (hb : Below W.heap.size w w') : LineAt W w' b l' :=
  ⟨.inr (by rw [hp] at h1; exact h1), h.2.trans hb⟩
theorem LineAt.b {W w : World} {b : Nat} {l : Bytes} (h : LineAt W w b l) : Lib.IsBuilder 56 5 W.heap.size b (Lib.byteCells l) w := h.1
theorem LineAt.below {W w : World} {b : Nat} {l : Bytes} (h : LineAt W w b l) : Below W.heap.size W w := h.2
theorem LineAt.size {W w : World} {b : Nat} {l : Bytes} (h : LineAt W w b l) : W.heap.size ≤ w.heap.size := h.2.size
/-- a line, with a word more. -/
def addW (l s : Bytes) : Bytes := if l = [] then s else l ++ 32 :: s
set_option maxHeartbeats 4000000 in
set_option maxRecDepth 100000 in
theorem K_word (W w : World) (b : Nat) (l s : Bytes) (h : LineAt W w b l) (hl : l.length + s.length ≤ 1000000) :
    Calls Tryd.prog 25 #[.pointer (some ⟨b, 0, none⟩), strV s] w fun e w' => e = .returned (.tuple #[]) ∧ LineAt W w' b (addW l s) ∧ KL w w' b := by
  have H := Aside0.mk h
  have hs1 : (ByteArray.mk s.toArray).size = s.length := by simp [ByteArray.size]
  have HS := Aside0.mk hs1
  have HL := Aside0.mk hl
  have hu := Tryd.underlying56
  have hu2 := Tryd.underlying54
  clear h hs1
  by_cases hn : l = []
  · have hlen : Aside0 (l.length = 0) := ⟨by rw [hn]; rfl⟩
    have hlc : Aside0 (∀ w, Lib.IsBuilder 56 5 W.heap.size b (Lib.byteCells l) w → Calls Tryd.prog 38 #[.pointer (some ⟨b, 0, none⟩)] w fun e w' => e = .returned (.int .i64 0) ∧ w' = w) := ⟨fun w hw => by
      have := B_Len _ _ b _ w hw
      rw [Lib.byteCells_length, hlen.out] at this
      exact this⟩
    have hres : Aside0 (addW l s = s) := ⟨by unfold addW; rw [if_pos hn]⟩
    have hnl := Aside0.mk hn
    clear hl hn
    unfold strV
    go_enter Tryd.func25, Tryd.ntmps25
    go_wp2_with (first | (go_at_call 38; (with_reducible refine (hlc.out _ ?_).mono ?_); exact H.out.b; rintro e w' ⟨rfl, rfl⟩) | (go_at_call 32; (with_reducible refine (B_WriteString _ bt_line _ b _ _ _ H.out.b ?_ H.out.size).mono ?_); (rw [Lib.byteCells_length, HS.out]; have := HL.out; omega); rintro e w2 ⟨rfl, h1, hb, hk⟩; have H2 := Aside0.mk h1; have HB2 := Aside0.mk hb; have HK2 := Aside0.mk hk; clear h1 hb hk))
    go_end0
    refine ⟨rfl, ?_, HK2.out⟩
    rw [hres.out]
    have h1 := H2.out
    rw [strCells_of, hnl.out] at h1
    exact H.out.step rfl h1 HB2.out
  · have hpos : Aside0 (0 < l.length) := ⟨by cases l with | nil => exact absurd rfl hn | cons a l => simp⟩
    have hposb : decide ((0 : Int) < (l.length : Int)) = true := decide_eq_true (by have := hpos.out; omega)
    have hposn : decide (0 < l.length) = true := decide_eq_true hpos.out
    have hlc : Aside0 (∀ w, Lib.IsBuilder 56 5 W.heap.size b (Lib.byteCells l) w → Calls Tryd.prog 38 #[.pointer (some ⟨b, 0, none⟩)] w fun e w' => e = .returned (.int .i64 l.length) ∧ w' = w) := ⟨fun w hw => by
      have := B_Len _ _ b _ w hw
      rw [Lib.byteCells_length] at this
      exact this⟩
    have hres : Aside0 (addW l s = l ++ 32 :: s) := ⟨by unfold addW; rw [if_neg hn]⟩
    clear hl hn
    unfold strV
    go_enter Tryd.func25, Tryd.ntmps25
    go_wp2_with (first | (go_at_call 38; (with_reducible refine (hlc.out _ ?_).mono ?_); exact H.out.b; rintro e w' ⟨rfl, rfl⟩) | (go_at_call 39; (with_reducible refine (B_WriteByte _ bt_line _ b _ _ _ H.out.b ?_ H.out.size).mono ?_); (rw [Lib.byteCells_length]; have := HL.out; omega); rintro e w1 ⟨rfl, h1, hb, hk⟩; have HK1 := Aside0.mk hk; have H1 : Aside0 (LineAt W w1 b (l ++ [32])) := ⟨H.out.step rfl (by rw [show Lib.byteCells (l ++ [32]) = Lib.byteCells l ++ [Value.int .u8 32] by simp [Lib.byteCells]]; exact h1) hb⟩; clear h1 hb hk) | (go_at_call 32; (with_reducible refine (B_WriteString _ bt_line _ b _ _ _ H1.out.b ?_ H1.out.size).mono ?_); (rw [Lib.byteCells_length, HS.out]; have := HL.out; simp only [List.length_append, List.length_cons, List.length_nil]; omega); rintro e w2 ⟨rfl, h1, hb, hk⟩; have H2 := Aside0.mk h1; have HB2 := Aside0.mk hb; have HK2 := Aside0.mk hk; clear h1 hb hk))
    go_end0
    refine ⟨rfl, ?_, HK1.out.trans HK2.out⟩
    rw [hres.out]
    have h1 := H2.out
    rw [strCells_of, ← Lib.byteCells_append] at h1
    exact H1.out.step rfl (by rw [show l ++ 32 :: s = l ++ [32] ++ s by simp]; exact h1) HB2.out
theorem itoa_len (n : Int) (h0 : -9223372036854775808 ≤ n) (h1 : n ≤ 9223372036854775807) : (Lib.itoa n).length ≤ 21 := Lib.itoa_length_le n h0 h1
theorem LineAt.grow {W w w' : World} {b : Nat} {l : Bytes} (h : LineAt W w b l) (hb : Below w.heap.size w w') : LineAt W w' b l := by
  refine ⟨?_, h.2.trans (hb.mono h.2.size)⟩
  have hk : ∀ p, Lib.BuilderAt 56 5 W.heap.size b p (Lib.byteCells l) w → Lib.BuilderAt 56 5 W.heap.size b p (Lib.byteCells l) w' := fun p ⟨hB, v, hbk, hown, hne⟩ =>
    ⟨hB, v, (hb.block b (blk_lt hbk)).trans hbk, own_move hown (fun k hk => hb.block k (own_lt hown k hk)), hne⟩
  rcases h.1 with h1 | h1
  · exact .inl (hk _ h1)
  · exact .inr (hk _ h1)
theorem K_wordS (W w : World) (b : Nat) (l s : Bytes) (h : LineAt W w b l) (hl : l.length + s.length ≤ 1000000) :
    Calls Tryd.prog 25 #[.pointer (some ⟨b, 0, none⟩), .string ⟨s.toArray⟩] w fun e w' => e = .returned (.tuple #[]) ∧ LineAt W w' b (addW l s) ∧ KL w w' b := K_word W w b l s h hl
theorem addW_len (l s : Bytes) : (addW l s).length ≤ l.length + s.length + 1 := by
  unfold addW
  split
  · omega
  · simp only [List.length_append, List.length_cons]
    omega
set_option maxHeartbeats 4000000 in
set_option maxRecDepth 100000 in
theorem K_number0 (W w : World) (b : Nat) (l : Bytes) (n : Int) (h0 : -9223372036854775808 ≤ n) (h1 : n ≤ 9223372036854775807) (hG : GW W) (h : LineAt W w b l) (hl : l.length ≤ 100000) :
    Calls Tryd.prog 24 #[.pointer (some ⟨b, 0, none⟩), strV [], .int .i64 n] w fun e w' => e = .returned (.tuple #[]) ∧ LineAt W w' b (addW l (Lib.itoa n)) ∧ KL w w' b := by
  have H := Aside0.mk h
  have hi := Aside0.mk (fun w => K_Itoa n h0 h1 w)
  have hlen := Aside0.mk (itoa_len n h0 h1)
  have HL := Aside0.mk hl
  have HG := Aside0.mk hG
  clear h h0 h1 hl hG
  unfold strV
  go_enter Tryd.func24, Tryd.ntmps24
  go_wp2_with (first | (go_at_call 30; (with_reducible refine (hi.out _ ?_).mono ?_); exact HG.out.of H.out.below; rintro e w2 ⟨rfl, hb⟩; have H2 : Aside0 (LineAt W w2 b l) := ⟨H.out.grow hb⟩; have HKa := Aside0.mk (KL.of_below hb b); clear hb) | (go_at_call 25; (with_reducible refine (K_word W _ b _ _ H2.out ?_).mono ?_); (have := HL.out; have := hlen.out; omega); rintro e w3 ⟨rfl, h3, hk⟩; have H3 := Aside0.mk h3; have HKb := Aside0.mk hk; clear h3 hk))
  go_end0
  exact ⟨rfl, H3.out, HKa.out.trans HKb.out⟩
set_option maxHeartbeats 4000000 in
set_option maxRecDepth 100000 in
theorem K_number (W w : World) (b : Nat) (l s : Bytes) (n : Int) (hs : s ≠ []) (hs1 : s.length ≤ 100) (h0 : -9223372036854775808 ≤ n) (h1 : n ≤ 9223372036854775807) (hG : GW W) (h : LineAt W w b l) (hl : l.length ≤ 100000) :
    Calls Tryd.prog 24 #[.pointer (some ⟨b, 0, none⟩), strV s, .int .i64 n] w fun e w' => e = .returned (.tuple #[]) ∧ LineAt W w' b (addW (addW l s) (Lib.itoa n)) ∧ KL w w' b := by
  have H := Aside0.mk h
  have hi := Aside0.mk (fun w => K_Itoa n h0 h1 w)
  have hlen := Aside0.mk (itoa_len n h0 h1)
  have HL := Aside0.mk hl
  have HS := Aside0.mk hs1
  have HG := Aside0.mk hG
  have hsn : ¬ s = [] := hs
  have hse : s.isEmpty = false := by cases s with | nil => exact absurd rfl hs | cons a s => rfl
  clear h h0 h1 hl hG hs1 hs
  unfold strV
  go_enter Tryd.func24, Tryd.ntmps24
  go_wp2_with (first | (go_at_call 30; (with_reducible refine (hi.out _ ?_).mono ?_); exact HG.out.of H2.out.below; rintro e w2 ⟨rfl, hb⟩; have H3 : Aside0 (LineAt W w2 b (addW l s)) := ⟨H2.out.grow hb⟩; have HKb := Aside0.mk (KL.of_below hb b); clear hb H2) | (go_at_call 25; (with_reducible refine (K_word W _ b _ _ H3.out ?_).mono ?_); (have := HL.out; have := hlen.out; have := HS.out; have := addW_len l s; omega); rintro e w3 ⟨rfl, h3, hk⟩; have H4 := Aside0.mk h3; have HKc := Aside0.mk hk; clear h3 hk) | (go_at_call 25; (with_reducible refine (K_wordS W _ b _ _ H.out ?_).mono ?_); (have := HL.out; have := HS.out; omega); rintro e w3 ⟨rfl, h3, hk⟩; have H2 := Aside0.mk h3; have HKa := Aside0.mk hk; clear h3 hk H))
  go_end0
  exact ⟨rfl, H4.out, (HKa.out.trans HKb.out).trans HKc.out⟩
end Go.Proofs.YtfolhicnbabldaaDoor.PR
