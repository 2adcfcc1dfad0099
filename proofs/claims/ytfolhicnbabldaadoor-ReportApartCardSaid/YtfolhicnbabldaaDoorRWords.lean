import Derived.Test.YtfolhicnbabldaaDoorREvs
import Derived.RangeFuncNested
import Derived.RangeFuncBound
import Derived.RangeFuncCalls
import Derived.RangeFuncLeaves
import Derived.RangeFuncBox
import Derived.Shelf.Abstract
import Derived.Shelf.RegionOpen
import Derived.OwnWalkIn
import Derived.TacticsInMore
import Derived.LoopNIn
import Derived.LoopIn
import Derived.Deep.RegionHeld3
import Derived.Deep.RegionLaw
import Derived.Laws.CopyOwn
import Derived.Laws.EntriesVeiled
import Derived.WalkKit
import Derived.BigCall
import Derived.Lib.ItoaLen
namespace Go.Proofs.YtfolhicnbabldaaDoor.PR
open Go.RowKit Go.Shelf Go.Proofs.YtfolhicnbabldaaDoorW.PrintWords Go.Proofs.YtfolhicnbabldaaDoorW.PrintLast Go.Proofs.YtfolhicnbabldaaDoorW.PrintMore
attribute [local go_sem] max2_int min2_int max_two min_two max_three min_three max_four min_four
set_option linter.unusedVariables false
set_option linter.unusedSimpArgs false
/-- what a step keeps: all blocks but b. -/
structure KX (w w' : World) (b : Nat) : Prop where
  os : w'.os = w.os
  tape : w'.tape = w.tape
  out : w'.output = w.output
  size : w.heap.size ≤ w'.heap.size
  same : ∀ i, i < w.heap.size → i ≠ b → w'.heap[i]? = w.heap[i]?
theorem KX.refl (w : World) (b : Nat) : KX w w b := ⟨rfl, rfl, rfl, Nat.le_refl _, fun _ _ _ => rfl⟩
theorem KX.of_below {w w' : World} (h : Below w.heap.size w w') (b : Nat) : KX w w' b := ⟨h.os, h.tape, h.output, h.size, fun i hi _ => h.block i hi⟩
theorem KX.trans {X Y Z : World} {b : Nat} (h : KX X Y b) (k : KX Y Z b) : KX X Z b :=
  ⟨k.os.trans h.os, k.tape.trans h.tape, k.out.trans h.out, Nat.le_trans h.size k.size, fun i hi hb => (k.same i (Nat.lt_of_lt_of_le hi h.size) hb).trans (h.same i hi hb)⟩
theorem KX.set (w : World) (b i : Nat) (u : Value) : KX w (w.setCell ⟨b, i, none⟩ u) b :=
  ⟨rfl, rfl, rfl, by simp [World.setCell], fun j _ hb => Below.heap_setCell w _ u j hb⟩
theorem KX.below {W w w' : World} {b : Nat} (h : KX w w' b) (hb : Below W.heap.size W w) (hle : W.heap.size ≤ b) : Below W.heap.size W w' :=
  ⟨h.os.trans hb.os, h.tape.trans hb.tape, h.out.trans hb.output, Nat.le_trans hb.size h.size, fun i hi => (h.same i (Nat.lt_of_lt_of_le hi hb.size) (by omega)).trans (hb.block i hi)⟩
theorem KX.blk {w w' : World} {b g : Nat} {o : Obj} (h : KX w w' b) (hg : w.heap[g]? = some o) (hne : g ≠ b) : w'.heap[g]? = some o := (h.same g (blk_lt hg) hne).trans hg
/-- the words that are left, behind the first k of L. -/
def WAt (w : World) (b g : Nat) (L : List Bytes) (k : Nat) : Prop := g ≠ b ∧ w.heap[g]? = some (.cells (L.map strV).toArray 9 (0, 0)) ∧
  ∃ o, w.heap[b]? = some (.cells #[.slice (some ⟨g, o, none⟩) (L.length - k) (L.length - k)] 43 (0, 0)) ∧ (k < L.length → o = k)
theorem WAt.below {w w' : World} {b g : Nat} {L : List Bytes} {k : Nat} (h : WAt w b g L k) (hb : Below w.heap.size w w') : WAt w' b g L k := by
  obtain ⟨hne, hg, o, hbk, ho⟩ := h
  exact ⟨hne, blk_below hg hb, o, blk_below hbk hb, ho⟩
theorem WAt.lt {w : World} {b g : Nat} {L : List Bytes} {k : Nat} (h : WAt w b g L k) : b < w.heap.size := by
  obtain ⟨_, _, o, hbk, _⟩ := h
  exact blk_lt hbk
def wordAt (L : List Bytes) (k : Nat) : Bytes := L.getD k []
set_option maxHeartbeats 4000000 in
set_option maxRecDepth 100000 in
theorem K_next (w : World) (b g : Nat) (L : List Bytes) (k : Nat) (h : WAt w b g L k) (hL : L.length ≤ 100000) :
    Calls Tryd.prog 18 #[.pointer (some ⟨b, 0, none⟩)] w fun e w' => e = .returned (strV (wordAt L k)) ∧ WAt w' b g L (k + 1) ∧ KX w w' b := by
  obtain ⟨hne, hg, o, hbk, ho⟩ := h
  have c0 : w.cell? ⟨b, 0, none⟩ = some (.slice (some ⟨g, o, none⟩) (L.length - k) (L.length - k)) := (blk_cell hbk 0).trans rfl
  have f0 := blk_frozen hbk 0
  have hus := Tryd.underlying43
  have HG := Aside0.mk hg
  have HBK := Aside0.mk hbk
  have HNE := Aside0.mk hne
  by_cases hk : k < L.length
  · have ho' := ho hk
    subst ho'
    obtain ⟨m, hm⟩ : ∃ m, L.length - o = m + 1 := ⟨L.length - o - 1, by omega⟩
    have hw : w.cell? ⟨g, o, none⟩ = some (.string ⟨(wordAt L o).toArray⟩) := by
      rw [blk_cell hg, List.getElem?_toArray, List.getElem?_map, List.getElem?_eq_getElem hk]
      simp [wordAt, List.getD, hk, strV]
    have HM := Aside0.mk hm
    have HL := Aside0.mk hL
    have HK := Aside0.mk hk
    rw [hm] at c0
    have hmm : o + 1 ≤ L.length → L.length - (o + 1) = m := fun _ => by omega
    have hlm := Aside0.mk (show L.length - (o + 1) = m by omega)
    clear hmm
    by_cases hm1 : m = 0
    · subst hm1
      have hlast := Aside0.mk (show ¬ o + 1 < L.length by omega)
      clear hg hbk hne ho hm hL hk
      go_enter Tryd.func18, Tryd.ntmps18
      go_wp2_with (fail)
      go_ret
      refine ⟨rfl, ⟨HNE.out, ?_, o, ?_, fun h => absurd h hlast.out⟩, KX.set _ _ _ _⟩
      · exact (Below.heap_setCell w _ _ g HNE.out).trans HG.out
      · rw [hlm.out]
        have := blk_set HBK.out 0 (.slice (some ⟨g, o, none⟩) 0 0)
        rw [this]
        rfl
    · obtain ⟨N, hN⟩ : ∃ N, m + 1 = N := ⟨_, rfl⟩
      rw [hN] at c0
      have hpos : 0 < N := by omega
      have hzb : decide (N = 0) = false := decide_eq_false (by omega)
      have hN1 : (1 : Int) ≤ (N : Int) := by omega
      have hN0 : (0 : Int) < (N : Int) := by omega
      have hNn : ¬ N = 1 := by omega
      have hNm := Aside0.mk (show N - 1 = m by omega)
      have HN := Aside0.mk hN
      clear hN hg hbk hne ho hm hL hk hm1
      go_enter Tryd.func18, Tryd.ntmps18
      go_wp2_with (fail)
      go_ret
      refine ⟨rfl, ⟨HNE.out, ?_, o + 1, ?_, fun _ => rfl⟩, KX.set _ _ _ _⟩
      · exact (Below.heap_setCell w _ _ g HNE.out).trans HG.out
      · have := blk_set HBK.out 0 (.slice (some ⟨g, o + 1, none⟩) (N - 1) (N - 1))
        rw [this, hlm.out, hNm.out]
        rfl
  · have hz : L.length - k = 0 := by omega
    rw [hz] at c0
    have hres : Aside0 (wordAt L k = []) := ⟨by simp [wordAt, List.getD, List.getElem?_eq_none (show L.length ≤ k by omega)]⟩
    have hz1 := Aside0.mk (show L.length - (k + 1) = 0 by omega)
    have hz2 := Aside0.mk (show ¬ k + 1 < L.length by omega)
    have HZ := Aside0.mk hz
    clear hg hbk hne ho hL hk hz
    go_enter Tryd.func18, Tryd.ntmps18
    go_wp2_with (fail)
    go_ret
    have hb := HBK.out
    rw [HZ.out] at hb
    exact ⟨by rw [hres.out]; rfl, ⟨HNE.out, HG.out, o, by rw [hz1.out]; exact hb, fun h => absurd h hz2.out⟩, KX.refl _ _⟩
theorem GW.kx {W w w' : World} {b : Nat} (h : GW W) (hw : Below W.heap.size W w) (hk : KX w w' b) (hb : W.heap.size ≤ b) : GW w' := h.of (hk.below hw hb)
/-- words that lie in memory are short. -/
def Short (L : List Bytes) : Prop := L.length ≤ 100000 ∧ ∀ s ∈ L, s.length ≤ 100000
theorem Short.len {L : List Bytes} (h : Short L) : L.length ≤ 100000 := h.1
theorem Short.at {L : List Bytes} (h : Short L) (k : Nat) : (wordAt L k).length ≤ 100000 := by
  unfold wordAt
  by_cases hk : k < L.length
  · rw [List.getD_eq_getElem?_getD, List.getElem?_eq_getElem hk]
    exact h.2 _ (List.getElem_mem hk)
  · rw [List.getD_eq_getElem?_getD, List.getElem?_eq_none (by omega)]
    simp
theorem K_AtoiS (l : Bytes) (hl : l.length ≤ 100000) (w : World) (hG : GW w) :
    Calls Tryd.prog 35 #[strV l] w fun e w' => (∃ er, e = .returned (.tuple #[.int .i64 (atoiV l), er])) ∧ Below w.heap.size w w' :=
  K_Atoi ⟨l.toArray⟩ (by simp [ByteArray.size]; omega) w hG
set_option maxHeartbeats 4000000 in
set_option maxRecDepth 100000 in
theorem K_wnum (W w : World) (b g : Nat) (L : List Bytes) (k : Nat) (sk : Bool) (hS : Short L) (hG : GW W) (hW : Below W.heap.size W w) (hb : W.heap.size ≤ b) (h : WAt w b g L k) :
    Calls Tryd.prog 17 #[.pointer (some ⟨b, 0, none⟩), .bool sk] w fun e w' => e = .returned (.int .i64 (atoiV (wordAt L (if sk = true then k + 1 else k)))) ∧ WAt w' b g L (if sk = true then k + 2 else k + 1) ∧ KX w w' b := by
  have H := Aside0.mk h
  have HS := Aside0.mk hS
  have HG := Aside0.mk hG
  have HW := Aside0.mk hW
  have HB := Aside0.mk hb
  clear h hS hG hW hb
  cases sk with
  | true =>
    show Calls _ _ _ _ fun e w' => e = .returned (.int .i64 (atoiV (wordAt L (k + 1)))) ∧ WAt w' b g L (k + 2) ∧ KX w w' b
    go_enter Tryd.func17, Tryd.ntmps17
    go_wp2_with (first | (go_at_call 35; (with_reducible refine (K_AtoiS _ (HS.out.at (k + 1)) _ (HG.out.kx HW.out HK2.out HB.out)).mono ?_); rintro e w4 ⟨⟨er, rfl⟩, hb⟩; have HB4 := Aside0.mk hb; clear hb) | (go_at_call 18; (with_reducible refine (K_next _ b g L (k + 1) H1.out HS.out.len).mono ?_); rintro e w2 ⟨rfl, h, hk⟩; have H2 := Aside0.mk h; have HK2 := Aside0.mk (HK1.out.trans hk); clear h hk H1) | (go_at_call 18; (with_reducible refine (K_next _ b g L k H.out HS.out.len).mono ?_); rintro e w1 ⟨rfl, h, hk⟩; have H1 := Aside0.mk h; have HK1 := Aside0.mk hk; clear h hk H))
    go_ret
    exact ⟨rfl, H2.out.below HB4.out, HK2.out.trans (KX.of_below HB4.out b)⟩
  | false =>
    show Calls _ _ _ _ fun e w' => e = .returned (.int .i64 (atoiV (wordAt L k))) ∧ WAt w' b g L (k + 1) ∧ KX w w' b
    go_enter Tryd.func17, Tryd.ntmps17
    go_wp2_with (first | (go_at_call 35; (with_reducible refine (K_AtoiS _ (HS.out.at k) _ (HG.out.kx HW.out HK1.out HB.out)).mono ?_); rintro e w4 ⟨⟨er, rfl⟩, hb⟩; have HB4 := Aside0.mk hb; clear hb) | (go_at_call 18; (with_reducible refine (K_next _ b g L k H.out HS.out.len).mono ?_); rintro e w1 ⟨rfl, h, hk⟩; have H1 := Aside0.mk h; have HK1 := Aside0.mk hk; clear h hk H))
    go_ret
    exact ⟨rfl, H1.out.below HB4.out, HK1.out.trans (KX.of_below HB4.out b)⟩
/-- which kind a word is (-1: none). -/
def kIdx (s : Bytes) : Int := if s = wAdmit then 0 else if s = wRelease then 1 else if s = wRaise then 2 else if s = wLower then 3 else if s = wUsage then 4 else if s = wPeek then 5 else -1
def namesB : List ByteArray := [⟨wAdmit.toArray⟩, ⟨wRelease.toArray⟩, ⟨wRaise.toArray⟩, ⟨wLower.toArray⟩, ⟨wUsage.toArray⟩, ⟨wPeek.toArray⟩]
theorem ba_inj (a s : Bytes) : ByteArray.mk a.toArray = ByteArray.mk s.toArray ↔ s = a :=
  ⟨fun e => by have := congrArg (fun x : ByteArray => x.data.toList) e; simpa using this.symm, fun e => by rw [e]⟩
theorem kIdx_of (s : Bytes) : Lib.idxOfS (namesB.take 6) ⟨s.toArray⟩ = kIdx s := by
  unfold kIdx
  simp only [namesB, List.take_succ_cons, List.take_zero, Lib.idxOfS, Lib.idxFromS, beq_iff_eq, ba_inj]
  repeat' split
  all_goals first | rfl | contradiction
set_option maxHeartbeats 4000000 in
set_option maxRecDepth 100000 in
theorem K_index (q c : Nat) (s : Bytes) (w : World) (h : w.heap[q]? = some (.cells #[strV [], strV wAdmit, strV wRelease, strV wRaise, strV wLower, strV wUsage, strV wPeek] 69 (0, 0))) :
    Calls Tryd.prog 37 #[.slice (some ⟨q, 1, none⟩) 6 c, strV s] w fun e w' => e = .returned (.int .i64 (kIdx s)) ∧ w' = w := by
  rw [← kIdx_of s]
  refine Tryd.slices_Index_string q 1 6 c namesB ⟨s.toArray⟩ w (by decide) (by decide) (fun j hj => ?_)
  rw [blk_cell h]
  have hj6 : j < 6 := hj
  match j, hj6 with
  | 0, _ => rfl
  | 1, _ => rfl
  | 2, _ => rfl
  | 3, _ => rfl
  | 4, _ => rfl
  | 5, _ => rfl
/-- what a kind is read to be, and how many words it is. -/
def kindP (L : List Bytes) (k : Nat) : Int := if kIdx (wordAt L k) ≥ 0 then kIdx (wordAt L k) + 1 else atoiV (wordAt L (k + 1))
def kindN (L : List Bytes) (k : Nat) : Nat := if kIdx (wordAt L k) ≥ 0 then k + 1 else k + 2
theorem kIdx_lt (s : Bytes) : kIdx s ≤ 5 := by
  unfold kIdx
  (repeat' split) <;> omega
set_option maxHeartbeats 4000000 in
set_option maxRecDepth 100000 in
theorem K_kind (W w : World) (b g : Nat) (L : List Bytes) (k : Nat) (hS : Short L) (hG : GW W) (hW : Below W.heap.size W w) (hb : W.heap.size ≤ b) (h : WAt w b g L k) :
    Calls Tryd.prog 19 #[.pointer (some ⟨b, 0, none⟩)] w fun e w' => e = .returned (.int .i64 (kindP L k)) ∧ WAt w' b g L (kindN L k) ∧ KX w w' b := by
  have H := Aside0.mk h
  have HS := Aside0.mk hS
  have HG := Aside0.mk hG
  have HW := Aside0.mk hW
  have HB := Aside0.mk hb
  have hlt := Aside0.mk h.lt
  have hus := Tryd.underlying69
  clear h hS hG hW hb
  obtain ⟨r, hr⟩ : ∃ r, kIdx (wordAt L k) = r := ⟨_, rfl⟩
  have hr5 := kIdx_lt (wordAt L k)
  rw [hr] at hr5
  have hix : Aside0 (∀ (q c : Nat) (w : World), w.heap[q]? = some (.cells #[strV [], strV wAdmit, strV wRelease, strV wRaise, strV wLower, strV wUsage, strV wPeek] 69 (0, 0)) → Calls Tryd.prog 37 #[.slice (some ⟨q, 1, none⟩) 6 c, strV (wordAt L k)] w fun e w' => e = .returned (.int .i64 r) ∧ w' = w) := ⟨fun q c w hq => by have := K_index q c (wordAt L k) w hq; rw [hr] at this; exact this⟩
  by_cases hr0 : r ≥ 0
  · have hp : Aside0 (kindP L k = r + 1) := ⟨by unfold kindP; rw [hr, if_pos hr0]⟩
    have hn : Aside0 (kindN L k = k + 1) := ⟨by unfold kindN; rw [hr, if_pos hr0]⟩
    have hrb : decide (0 ≤ r) = true := decide_eq_true hr0
    clear hr
    go_enter Tryd.func19, Tryd.ntmps19
    go_wp2_with (go_at_call 36; (with_reducible refine (K_names _).mono ?_); rintro e w1 ⟨he, hb⟩; obtain rfl : e = .returned (.agg #[.string ⟨#[]⟩, .string ⟨#[97, 100, 109, 105, 116]⟩, .string ⟨#[114, 101, 108, 101, 97, 115, 101]⟩, .string ⟨#[114, 97, 105, 115, 101]⟩, .string ⟨#[108, 111, 119, 101, 114]⟩, .string ⟨#[117, 115, 97, 103, 101]⟩, .string ⟨#[112, 101, 101, 107]⟩]) := he; have H1 := Aside0.mk (H.out.below hb); have HK1 := Aside0.mk (KX.of_below hb b); clear hb)
    obtain ⟨w2, hw2⟩ : ∃ w2, w1.alloc (.cells #[.string ⟨#[]⟩, .string ⟨#[97, 100, 109, 105, 116]⟩, .string ⟨#[114, 101, 108, 101, 97, 115, 101]⟩, .string ⟨#[114, 97, 105, 115, 101]⟩, .string ⟨#[108, 111, 119, 101, 114]⟩, .string ⟨#[117, 115, 97, 103, 101]⟩, .string ⟨#[112, 101, 101, 107]⟩] 69) = w2 := ⟨_, rfl⟩
    have HQ : Aside0 (w2.heap[w1.heap.size]? = some (.cells #[strV [], strV wAdmit, strV wRelease, strV wRaise, strV wLower, strV wUsage, strV wPeek] 69 (0, 0))) := ⟨by rw [← hw2]; exact blk_new _ _⟩
    have H2 : Aside0 (WAt w2 b g L k) := ⟨by rw [← hw2]; exact H1.out.below (below_alloc (Below.refl _ _) _)⟩
    have HK2 : Aside0 (KX w w2 b) := ⟨by rw [← hw2]; exact HK1.out.trans (KX.of_below (below_alloc (Below.refl _ _) _) b)⟩
    have hq : Aside0 (w1.heap.size ≠ b) := ⟨by have := H1.out.lt; omega⟩
    rw [hw2]
    clear hw2 H1 HK1
    go_region_with (first | (go_at_call 18; (with_reducible refine (K_next _ b g L k (H2.out.below ?_) HS.out.len).mono ?_); exact (by with_reducible repeat (first | exact Below.refl _ _ | apply below_drew1 | apply pw_below_drewN)); rintro e w3 ⟨rfl, h, hk⟩; have H3 := Aside0.mk h; have HK3 := Aside0.mk hk; clear h hk) | (go_at_call 37; (with_reducible refine (hix.out _ _ _ ?_).mono ?_); exact HK3.out.blk (by with_reducible repeat (first | exact HQ.out | refine blk_drewN ?_ _ | refine blk_drew ?_)) hq.out; rintro e w4 ⟨rfl, rfl⟩))
    go_wp2_with (fail)
    go_ret
    exact ⟨by rw [hp.out]; rfl, by rw [hn.out]; exact H3.out, HK2.out.trans ((KX.of_below (by with_reducible repeat (first | exact Below.refl _ _ | apply below_drew1 | apply pw_below_drewN)) b).trans HK3.out)⟩
  · have hp : Aside0 (kindP L k = atoiV (wordAt L (k + 1))) := ⟨by unfold kindP; rw [hr, if_neg hr0]⟩
    have hn : Aside0 (kindN L k = k + 2) := ⟨by unfold kindN; rw [hr, if_neg hr0]⟩
    have hrb : decide (0 ≤ r) = false := decide_eq_false (by omega)
    clear hr
    go_enter Tryd.func19, Tryd.ntmps19
    go_wp2_with (go_at_call 36; (with_reducible refine (K_names _).mono ?_); rintro e w1 ⟨he, hb⟩; obtain rfl : e = .returned (.agg #[.string ⟨#[]⟩, .string ⟨#[97, 100, 109, 105, 116]⟩, .string ⟨#[114, 101, 108, 101, 97, 115, 101]⟩, .string ⟨#[114, 97, 105, 115, 101]⟩, .string ⟨#[108, 111, 119, 101, 114]⟩, .string ⟨#[117, 115, 97, 103, 101]⟩, .string ⟨#[112, 101, 101, 107]⟩]) := he; have H1 := Aside0.mk (H.out.below hb); have HK1 := Aside0.mk (KX.of_below hb b); clear hb)
    obtain ⟨w2, hw2⟩ : ∃ w2, w1.alloc (.cells #[.string ⟨#[]⟩, .string ⟨#[97, 100, 109, 105, 116]⟩, .string ⟨#[114, 101, 108, 101, 97, 115, 101]⟩, .string ⟨#[114, 97, 105, 115, 101]⟩, .string ⟨#[108, 111, 119, 101, 114]⟩, .string ⟨#[117, 115, 97, 103, 101]⟩, .string ⟨#[112, 101, 101, 107]⟩] 69) = w2 := ⟨_, rfl⟩
    have HQ : Aside0 (w2.heap[w1.heap.size]? = some (.cells #[strV [], strV wAdmit, strV wRelease, strV wRaise, strV wLower, strV wUsage, strV wPeek] 69 (0, 0))) := ⟨by rw [← hw2]; exact blk_new _ _⟩
    have H2 : Aside0 (WAt w2 b g L k) := ⟨by rw [← hw2]; exact H1.out.below (below_alloc (Below.refl _ _) _)⟩
    have HK2 : Aside0 (KX w w2 b) := ⟨by rw [← hw2]; exact HK1.out.trans (KX.of_below (below_alloc (Below.refl _ _) _) b)⟩
    have hq : Aside0 (w1.heap.size ≠ b) := ⟨by have := H1.out.lt; omega⟩
    rw [hw2]
    clear hw2 H1 HK1
    go_region_with (first | (go_at_call 18; (with_reducible refine (K_next _ b g L k (H2.out.below ?_) HS.out.len).mono ?_); exact (by with_reducible repeat (first | exact Below.refl _ _ | apply below_drew1 | apply pw_below_drewN)); rintro e w3 ⟨rfl, h, hk⟩; have H3 := Aside0.mk h; have HK3 := Aside0.mk hk; clear h hk) | (go_at_call 37; (with_reducible refine (hix.out _ _ _ ?_).mono ?_); exact HK3.out.blk (by with_reducible repeat (first | exact HQ.out | refine blk_drewN ?_ _ | refine blk_drew ?_)) hq.out; rintro e w4 ⟨rfl, rfl⟩))
    have HK4 := Aside0.mk (HK2.out.trans ((KX.of_below (by with_reducible repeat (first | exact Below.refl _ _ | apply below_drew1 | apply pw_below_drewN)) b).trans HK3.out))
    go_wp2_with (go_at_call 17; (with_reducible refine (K_wnum W _ b g L (k + 1) false HS.out HG.out (HK4.out.below HW.out HB.out) HB.out H3.out).mono ?_); rintro e w5 ⟨he, h, hk⟩; obtain rfl : e = .returned (.int .i64 (atoiV (wordAt L (k + 1)))) := he; have H5 : Aside0 (WAt w5 b g L (k + 2)) := ⟨h⟩; have HK5 := Aside0.mk hk; clear h hk)
    go_ret
    exact ⟨by rw [hp.out]; rfl, by rw [hn.out]; exact H5.out, HK4.out.trans HK5.out⟩
end Go.Proofs.YtfolhicnbabldaaDoor.PR
