import Derived.Test.YtfolhicnbabldaaDoorRRKind
import Derived.RangeFuncNested
import Derived.RangeFuncBound
import Derived.RangeFuncCalls
import Derived.RangeFuncLeaves
import Derived.RangeFuncBox
import Derived.Shelf.Abstract
import Derived.Shelf.RegionOpen
import Derived.OwnWalkIn
import Derived.TacticsInMore
import Derived.LoopNIn
import Derived.LoopIn
import Derived.Deep.RegionHeld3
import Derived.Deep.RegionLaw
import Derived.Laws.CopyOwn
import Derived.Laws.EntriesVeiled
import Derived.WalkKit
import Derived.BigCall
import Derived.Lib.ItoaLen
import Derived.Lib.SplitLaws
import Derived.Deep.DeepCutAuto
namespace Go.Proofs.YtfolhicnbabldaaDoor.PR
open Go.RowKit Go.Shelf Go.Proofs.YtfolhicnbabldaaDoorW.PrintWords Go.Proofs.YtfolhicnbabldaaDoorW.PrintLast Go.Proofs.YtfolhicnbabldaaDoorW.PrintMore
attribute [local go_sem] max2_int min2_int max_two min_two max_three min_three max_four min_four
set_option linter.unusedVariables false
set_option linter.unusedSimpArgs false
/-- under way in the reference's Read: the event's box. -/
structure RS (w2 wx : World) (q : Nat) (cs : Array Value) : Prop where
  bel : Below w2.heap.size w2 wx
  le : w2.heap.size ≤ q
  blk : wx.heap[q]? = some (.cells cs 28 (0, 0))
theorem RS.set {w2 wx : World} {q : Nat} {cs : Array Value} (h : RS w2 wx q cs) (i : Nat) (v : Value) : RS w2 (wx.setCell ⟨q, i, none⟩ v) q (cs.setIfInBounds i v) :=
  ⟨h.bel.setCell h.le _, h.le, blk_set h.blk i v⟩
theorem RS.call {w2 wx w' : World} {q : Nat} {cs : Array Value} (h : RS w2 wx q cs) (hb : Below wx.heap.size wx w') : RS w2 w' q cs :=
  ⟨h.bel.trans (hb.mono h.bel.size), h.le, blk_below h.blk hb⟩
theorem box10f {W : World} {g t : Nat} {x0 x1 x2 x3 x4 x5 x6 x7 x8 x9 : Value} (h : W.heap[g]? = some (.cells #[x0, x1, x2, x3, x4, x5, x6, x7, x8, x9] t (0, 0))) :
    W.cell? ⟨g, 0, none⟩ = some x0 ∧ W.cell? ⟨g, 1, none⟩ = some x1 ∧ W.cell? ⟨g, 2, none⟩ = some x2 ∧ W.cell? ⟨g, 3, none⟩ = some x3 ∧ W.cell? ⟨g, 4, none⟩ = some x4 ∧ W.cell? ⟨g, 5, none⟩ = some x5 ∧ W.cell? ⟨g, 6, none⟩ = some x6 ∧ W.cell? ⟨g, 7, none⟩ = some x7 ∧ W.cell? ⟨g, 8, none⟩ = some x8 ∧ W.cell? ⟨g, 9, none⟩ = some x9 ∧ (∀ c, W.frozen? ⟨g, c, none⟩ = false) :=
  ⟨(blk_cell h 0).trans rfl, (blk_cell h 1).trans rfl, (blk_cell h 2).trans rfl, (blk_cell h 3).trans rfl, (blk_cell h 4).trans rfl, (blk_cell h 5).trans rfl, (blk_cell h 6).trans rfl, (blk_cell h 7).trans rfl, (blk_cell h 8).trans rfl, (blk_cell h 9).trans rfl, fun c => blk_frozen h c⟩
theorem below_put1 {B : Nat} {w X : World} {g : Nat} (h : Below B w X) (hB : B ≤ g) (i : Nat) (v : Value) : Below B w (X.setCell ⟨g, i, none⟩ v) := h.setCell hB _
theorem RS.fresh {w2 X : World} {cs : Array Value} (h : Below w2.heap.size w2 X) : RS w2 (X.alloc (.cells cs 28)) X.heap.size cs := ⟨below_alloc h _, h.size, blk_new _ _⟩
theorem RS.put {w2 X : World} {g : Nat} {a0 a1 a2 a3 a4 a5 a6 a7 a8 a9 v0 v1 v2 v3 v4 v5 v6 v7 v8 v9 : Value} (hb : X.heap[g]? = some (.cells #[a0, a1, a2, a3, a4, a5, a6, a7, a8, a9] 28 (0, 0))) (h : Below w2.heap.size w2 X) (hle : w2.heap.size ≤ g) :
    RS w2 ((((((((((X.setCell ⟨g, 0, none⟩ v0).setCell ⟨g, 1, none⟩ v1).setCell ⟨g, 2, none⟩ v2).setCell ⟨g, 3, none⟩ v3).setCell ⟨g, 4, none⟩ v4).setCell ⟨g, 5, none⟩ v5).setCell ⟨g, 6, none⟩ v6).setCell ⟨g, 7, none⟩ v7).setCell ⟨g, 8, none⟩ v8).setCell ⟨g, 9, none⟩ v9) g #[v0, v1, v2, v3, v4, v5, v6, v7, v8, v9] :=
  ⟨below_put10 h hle _ _ _ _ _ _ _ _ _ _, hle, blk_put10 hb _ _ _ _ _ _ _ _ _ _⟩
def ansE (L : List Bytes) (j : Nat) : Int × Int × Bool × Int := if j + 4 ≤ L.length ∧ wordAt L j = wErr then (atoiV (wordAt L (j + 1)), 0, false, atoiV (wordAt L (j + 3))) else (0, 0, false, 0)
theorem ansR_ok {L : List Bytes} {j : Nat} (h : j + 5 ≤ L.length ∧ wordAt L j = wOk) : ansR L j = (0, atoiV (wordAt L (j + 1)), wordAt L (j + 2) == wExact, atoiV (wordAt L (j + 4))) := by
  unfold ansR
  rw [if_neg (fun k => absurd (h.2.symm.trans k.2) (by decide)), if_pos h]
theorem ansR_no {L : List Bytes} {j : Nat} (h : ¬ (j + 5 ≤ L.length ∧ wordAt L j = wOk)) : ansR L j = ansE L j := by
  unfold ansR ansE
  rw [if_neg h]

set_option maxHeartbeats 4000000 in
set_option maxRecDepth 100000 in
theorem K_rRead5 (s : Bytes) (hs : s.length ≤ 1000) (w : World) (hG : GW w) (hz : s ≠ []) (h9 : 9 ≤ (wordsL s 32).length) (hN : kindN (wordsL s 32) 4 = 5) :
    Calls Tryd.prog 10 #[.string ⟨s.toArray⟩] w fun e w' => e = .returned (readA s) ∧ Below w.heap.size w w' := by
  have HG := Aside0.mk hG
  have HS := Aside0.mk (words_short s 32 hs)
  have hs' : Aside0 (s.length ≤ 100000) := ⟨by omega⟩
  have hue := Tryd.underlying28
  have hua := Tryd.underlying26
  have huc := Tryd.underlying23
  clear hG hs
  have hz' : List.isEmpty s = false := by cases s with | nil => exact absurd rfl hz | cons => rfl
  have hne : decide ((wordsL s 32).length < 9) = false := decide_eq_false (by omega)
  have HZ := Aside0.mk hz
  have H9 := Aside0.mk h9
  have HN := Aside0.mk hN
  have HR := Aside0.mk (readR_eq s)
  clear hz hN
  go_enter Tryd.func10, Tryd.ntmps10
  go_upto_region 4 with (go_at_call 15; (with_reducible refine (K_Split s 32 hs'.out _ (HG.out.of (by with_reducible repeat (first | exact Below.refl _ _ | apply below_alloc)))).mono ?_); rintro e w1 ⟨rfl, rfl⟩)
  obtain ⟨L, hL⟩ : ∃ L, wordsL s 32 = L := ⟨_, rfl⟩
  have HL := Aside0.mk hL
  rw [hL] at HS H9 h9 hne HN ⊢
  clear hL hne
  generalize hX : ((w.alloc (.cells #[.int .i64 0, .int .i64 0, .int .i64 0, .int .i64 0, .int .i64 0, .int .i64 0, .int .i64 0, .int .i64 0, .bool false, .int .i64 0] 28)).alloc (.cells (L.map strV).toArray 9)) = w2
  have B2 : Aside0 (Below w.heap.size w w2) := ⟨by rw [← hX]; exact below_alloc (below_alloc (Below.refl _ _) _) _⟩
  have R2 : Aside0 (w2.heap[w.heap.size]? = some (.cells #[.int .i64 0, .int .i64 0, .int .i64 0, .int .i64 0, .int .i64 0, .int .i64 0, .int .i64 0, .int .i64 0, .bool false, .int .i64 0] 28 (0, 0))) := ⟨by rw [← hX]; exact blk_alloc (blk_new w _) _⟩
  have G2 : Aside0 (w2.heap[w.heap.size + 1]? = some (.cells (L.map strV).toArray 9 (0, 0))) := ⟨by rw [← hX]; have h := blk_new (w.alloc (.cells #[.int .i64 0, .int .i64 0, .int .i64 0, .int .i64 0, .int .i64 0, .int .i64 0, .int .i64 0, .int .i64 0, .bool false, .int .i64 0] 28)) (.cells (L.map strV).toArray 9); rw [show (w.alloc (.cells #[.int .i64 0, .int .i64 0, .int .i64 0, .int .i64 0, .int .i64 0, .int .i64 0, .int .i64 0, .int .i64 0, .bool false, .int .i64 0] 28)).heap.size = w.heap.size + 1 by simp] at h; exact h⟩
  clear hX
  have HG2 := Aside0.mk (HG.out.of B2.out)
  have CA : Aside0 (∀ (X : World) (j : Nat), Below w2.heap.size w2 X → j < L.length → X.cell? ⟨w.heap.size + 1, j, none⟩ = some (.string ⟨(wordAt L j).toArray⟩)) := ⟨fun X j hw hj => by
    rw [blk_cell (blk_below G2.out hw) j]
    simp [wordAt, strV, List.getD_eq_getElem?_getD, List.getElem?_eq_getElem hj]⟩
  have HGW : Aside0 (∀ (X : World) (q : Nat) (cs : Array Value), RS w2 X q cs → GW X) := ⟨fun X q cs h => HG.out.of (B2.out.trans (h.bel.mono B2.out.size))⟩
  have HNUM : Aside0 (∀ (l : Bytes), l.length ≤ 100000 → ∀ (X : World) (q : Nat) (cs : Array Value), RS w2 X q cs → Calls Tryd.prog 21 #[.string ⟨l.toArray⟩] X fun e w' => e = .returned (.int .i64 (atoiV l)) ∧ Below X.heap.size X w') := ⟨fun l hl X q cs h => K_rnumS l hl X (HGW.out X q cs h)⟩
  have HRK : Aside0 (∀ (X : World) (q : Nat) (cs : Array Value), RS w2 X q cs → Calls Tryd.prog 22 #[.slice (some ⟨w.heap.size + 1, 4, none⟩) (L.length - 4) (L.length - 4)] X fun e w' => e = .returned (.tuple #[.int .i64 (kindP L 4), .int .i64 1]) ∧ Below X.heap.size X w') := ⟨fun X q cs h => by
    have hk := K_rkind X (w.heap.size + 1) L 4 (L.length - 4) HS.out (HGW.out X q cs h) (by have := H9.out; omega) (blk_below G2.out h.bel)
    rw [HN.out] at hk
    exact hk⟩
  have QN : Aside0 (∀ (X : World) (q : Nat) (cs : Array Value), RS w2 X q cs → q ≠ w.heap.size + 1 ∧ w.heap.size + 1 ≠ q ∧ q ≠ w.heap.size) := ⟨fun X q cs h => by have h1 := h.le; have h2 := blk_lt G2.out; omega⟩
  have h90 : (0 : Int) ≤ (L.length : Int) := by omega
  have a0 := CA.out w2 0 (Below.refl _ _) (by omega)
  have a2 := CA.out w2 2 (Below.refl _ _) (by omega)
  have n0 : 0 < L.length := by omega
  have i0 : (0 : Int) < (L.length : Int) := by omega
  have i2 : (2 : Int) < (L.length : Int) := by omega
  have i3 : (3 : Int) < (L.length : Int) := by omega
  have i4 : (4 : Int) ≤ (L.length : Int) := by omega
  go_cut [5] (fun s5 wx => ∃ q : Nat, s5 = .pointer (some ⟨q, 0, none⟩) ∧ RS w2 wx q #[.int .i64 (atoiV (wordAt L 0)), .int .i64 (atoiV (wordAt L 2)), .int .i64 (1), .int .i64 (0), .int .i64 (0), .int .i64 (0), .int .i64 (0), .int .i64 (0), .bool false, .int .i64 (0)])
  case first =>
    go_region_held3 (fun w' => w'.cell? ⟨w.heap.size + 1, 0, none⟩ = some (.string ⟨(wordAt L 0).toArray⟩) ∧ w'.cell? ⟨w.heap.size + 1, 2, none⟩ = some (.string ⟨(wordAt L 2).toArray⟩)) ((go_split_ands; (repeat' apply And.intro); all_goals (exact below_cell_of (W := w2) (by with_reducible repeat (first | exact Below.refl _ _ | assumption | exact Aside0.out (by assumption) | apply below_alloc | apply below_drew1 | apply pw_below_drewN | refine below_put1 ?_ ?_ _ _ | omega)) (by assumption)))) ((go_at_call 21; refine (K_rnumS _ (HS.out.at _) _ (HG2.out.of ?_)).mono ?_; exact (by with_reducible repeat (first | exact Below.refl _ _ | assumption | exact Aside0.out (by assumption) | apply below_alloc | apply below_drew1 | apply pw_below_drewN | refine below_put1 ?_ ?_ _ _ | omega)); rintro e wz ⟨rfl, hb⟩; have BZ := Aside0.mk (below_step (w := w2) (by with_reducible repeat (first | exact Below.refl _ _ | assumption | exact Aside0.out (by assumption) | apply below_alloc | apply below_drew1 | apply pw_below_drewN | refine below_put1 ?_ ?_ _ _ | omega)) hb); have hs1 := BZ.out.size; (try (first | (have QB := Aside0.mk (blk_below (QB.out) hb); obtain ⟨x0, x1, x2, x3, x4, x5, x6, x7, x8, x9, fr⟩ := box10f QB.out) | (have QB := Aside0.mk (blk_below (blk_drew QB.out) hb); obtain ⟨x0, x1, x2, x3, x4, x5, x6, x7, x8, x9, fr⟩ := box10f QB.out) | (have QB := Aside0.mk (blk_below (blk_drewN QB.out _) hb); obtain ⟨x0, x1, x2, x3, x4, x5, x6, x7, x8, x9, fr⟩ := box10f QB.out) | (have QB := Aside0.mk (blk_below (blk_new _ _) hb); obtain ⟨x0, x1, x2, x3, x4, x5, x6, x7, x8, x9, fr⟩ := box10f QB.out) | (have QB := Aside0.mk (blk_below (blk_drew (blk_new _ _)) hb); obtain ⟨x0, x1, x2, x3, x4, x5, x6, x7, x8, x9, fr⟩ := box10f QB.out) | (have QB := Aside0.mk (blk_below (blk_drewN (blk_new _ _) _) hb); obtain ⟨x0, x1, x2, x3, x4, x5, x6, x7, x8, x9, fr⟩ := box10f QB.out))); clear hb))
    all_goals
      go_wp2_with (fail)
      go_meet
      refine ⟨_, rfl, ?_⟩
      first
        | (with_reducible refine RS.fresh ?_; exact (by with_reducible repeat (first | exact Below.refl _ _ | assumption | exact Aside0.out (by assumption) | apply below_alloc | apply below_drew1 | apply pw_below_drewN | refine below_put1 ?_ ?_ _ _ | omega)))
        | (with_reducible refine RS.put QB.out ?_ ?_; exact (by with_reducible repeat (first | exact Below.refl _ _ | assumption | exact Aside0.out (by assumption) | apply below_alloc | apply below_drew1 | apply pw_below_drewN | refine below_put1 ?_ ?_ _ _ | omega)); omega)
  case rest =>
    obtain ⟨q, rfl, h5⟩ := hcut
    have R5 := Aside0.mk h5
    have a3 := CA.out _ 3 h5.bel (by omega)
    have hqn := QN.out _ _ _ h5
    clear h5 a0 a2
    go_upto_if 31 with (fail)
    go_cut [5] (fun s5 wx => s5 = .pointer (some ⟨q, 0, none⟩) ∧ RS w2 wx q #[.int .i64 (atoiV (wordAt L 0)), .int .i64 (atoiV (wordAt L 2)), .int .i64 (kdR L), .int .i64 (0), .int .i64 (0), .int .i64 (0), .int .i64 (0), .int .i64 (0), .bool false, .int .i64 (0)])
    case first =>
      obtain ⟨x0, x1, x2, x3, x4, x5, x6, x7, x8, x9, fr⟩ := box10f R5.out.blk
      by_cases hE : wordAt L 3 = wEnd
      · have hE' : (wordAt L 3 == [101, 110, 100]) = true := by rw [hE]; rfl
        have HE := Aside0.mk hE
        clear hE
        rw [hE']
        go_wp2_with (fail)
        go_meet
        exact ⟨rfl, by rw [show kdR L = 2 from if_pos HE.out]; exact R5.out.set 2 _⟩
      · have hE' : (wordAt L 3 == [101, 110, 100]) = false := beq_eq_false_iff_ne.2 hE
        have HE := Aside0.mk hE
        clear hE
        rw [hE']
        go_wp2_with (fail)
        go_meet
        exact ⟨rfl, by rw [show kdR L = 1 from if_neg HE.out]; exact R5.out⟩
    case rest =>
      obtain ⟨rfl, h6⟩ := hcut
      have R6 := Aside0.mk h6
      clear a3 R5 h6
      have m4 : (4 : Int) ≤ (L.length : Int) := by omega
      by_cases h4 : 9 ≤ L.length
      · have H4 := Aside0.mk h4
        have h4' : decide (((L.length - 5 : Nat) : Int) < 4) = false := decide_eq_false (by omega)
        have b1 : (1 : Int) < ((L.length - 5 : Nat) : Int) := by omega
        have b3 : (3 : Int) < ((L.length - 5 : Nat) : Int) := by omega
        have b4 : (4 : Int) ≤ ((L.length - 5 : Nat) : Int) := by omega
        have bN : (5 : Int) ≤ (L.length : Int) := by omega
        go_upto_region 15 with (first | (go_at_call 21; (with_reducible refine (HNUM.out (wordAt L 8) (HS.out.at _) _ _ _ (R12.out.set 4 _)).mono ?_); rintro e w13 ⟨he, hb⟩; obtain rfl : e = .returned (.int .i64 (atoiV (wordAt L 8))) := he; have R13 : Aside0 (RS w2 w13 q #[.int .i64 (atoiV (wordAt L 0)), .int .i64 (atoiV (wordAt L 2)), .int .i64 (kdR L), .int .i64 (kindP L 4), .int .i64 (atoiV (wordAt L 6)), .int .i64 (0), .int .i64 (0), .int .i64 (0), .bool false, .int .i64 (0)]) := ⟨(R12.out.set 4 _).call hb⟩; clear hb R12 x0 x1 x2 x3 x4 x5 x6 x7 x8 x9 fr a1; obtain ⟨x0, x1, x2, x3, x4, x5, x6, x7, x8, x9, fr⟩ := box10f R13.out.blk; have a1 := True.intro) | (go_at_call 21; (with_reducible refine (HNUM.out (wordAt L 6) (HS.out.at _) _ _ _ (R7.out.set 3 _)).mono ?_); rintro e w12 ⟨he, hb⟩; obtain rfl : e = .returned (.int .i64 (atoiV (wordAt L 6))) := he; have R12 : Aside0 (RS w2 w12 q #[.int .i64 (atoiV (wordAt L 0)), .int .i64 (atoiV (wordAt L 2)), .int .i64 (kdR L), .int .i64 (kindP L 4), .int .i64 (0), .int .i64 (0), .int .i64 (0), .int .i64 (0), .bool false, .int .i64 (0)]) := ⟨(R7.out.set 3 _).call hb⟩; clear hb R7 x0 x1 x2 x3 x4 x5 x6 x7 x8 x9 fr a1; obtain ⟨x0, x1, x2, x3, x4, x5, x6, x7, x8, x9, fr⟩ := box10f R12.out.blk; have a1 := CA.out _ 8 R12.out.bel (by omega)) | (go_at_call 22; (with_reducible refine (HRK.out _ _ _ R6.out).mono ?_); rintro e w7 ⟨rfl, hb⟩; have R7 := Aside0.mk (R6.out.call hb); clear hb R6; obtain ⟨x0, x1, x2, x3, x4, x5, x6, x7, x8, x9, fr⟩ := box10f R7.out.blk; have a1 := CA.out _ 6 R7.out.bel (by omega)))
        obtain ⟨w14, hw⟩ : ∃ X, w13.setCell ⟨q, 5, none⟩ (.int .i64 (atoiV (wordAt L 8))) = X := ⟨_, rfl⟩
        have R14 : Aside0 (RS w2 w14 q #[.int .i64 (atoiV (wordAt L 0)), .int .i64 (atoiV (wordAt L 2)), .int .i64 (kdR L), .int .i64 (kindP L 4), .int .i64 (atoiV (wordAt L 6)), .int .i64 (atoiV (wordAt L 8)), .int .i64 (0), .int .i64 (0), .bool false, .int .i64 (0)]) := ⟨by rw [← hw]; exact R13.out.set 5 _⟩
        rw [hw]
        clear hw x0 x1 x2 x3 x4 x5 x6 x7 x8 x9 fr a1
        have R14' := R14.out
        generalize hAd : (if L.length - 5 = 4 then (some ⟨w.heap.size + 1, 5, none⟩ : Option Addr) else some ⟨w.heap.size + 1, 9, none⟩) = ad
        have HAd : Aside0 (9 + 1 ≤ L.length → ad = some ⟨w.heap.size + 1, 9, none⟩) := ⟨fun h => by rw [← hAd, if_neg (by omega)]⟩
        clear hAd R14' h4' b1 b3 b4
        go_cut [72] (fun s72 wx => s72 = .bool (decide (9 + 4 ≤ L.length ∧ wordAt L 9 = wErr)) ∧ w14 = wx)
        case first =>
          by_cases g4 : 9 + 4 ≤ L.length
          · have hd : decide ((4 : Int) ≤ ((L.length - 5 - 4 : Nat) : Int)) = true := decide_eq_true (by omega)
            obtain rfl := HAd.out (by omega)
            have a1 := CA.out _ 9 R14.out.bel (by omega)
            have m0 : 0 < L.length - 5 - 4 := by omega
            have m1 : (0 : Int) < ((L.length - 5 - 4 : Nat) : Int) := by omega
            go_wp2_with (fail)
            go_meet
            refine ⟨?_, rfl⟩
            have : (wordAt L 9 == wErr) = decide (9 + 4 ≤ L.length ∧ wordAt L 9 = wErr) := by rw [Bool.eq_iff_iff]; simp [g4]
            rw [← this]
            rfl
          · have hd : decide ((4 : Int) ≤ ((L.length - 5 - 4 : Nat) : Int)) = false := decide_eq_false (by omega)
            go_wp2_with (fail)
            go_meet
            refine ⟨?_, rfl⟩
            rw [decide_eq_false (fun h => g4 h.1)]
        case rest =>
          obtain ⟨rfl, rfl⟩ := hcut
          go_upto_if 72 with (fail)
          go_cut [5] (fun s5 wx => s5 = .pointer (some ⟨q, 0, none⟩) ∧ RS w2 wx q #[.int .i64 (atoiV (wordAt L 0)), .int .i64 (atoiV (wordAt L 2)), .int .i64 (kdR L), .int .i64 (kindP L 4), .int .i64 (atoiV (wordAt L 6)), .int .i64 (atoiV (wordAt L 8)), .int .i64 ((ansE L 9).1), .int .i64 ((ansE L 9).2.1), .bool (ansE L 9).2.2.1, .int .i64 ((ansE L 9).2.2.2)])
          case first =>
            by_cases hc : 9 + 4 ≤ L.length ∧ wordAt L 9 = wErr
            · rw [decide_eq_true hc]
              have hc1 := hc.1
              obtain rfl := HAd.out (by omega)
              have a1 := CA.out _ 10 R14.out.bel (by omega); have m1 : (1 : Int) < ((L.length - 5 - 4 : Nat) : Int) := (by omega); have a3 := CA.out _ 12 R14.out.bel (by omega); have m3 : (3 : Int) < ((L.length - 5 - 4 : Nat) : Int) := (by omega)
              have QB : Aside0 _ := ⟨R14.out.blk⟩
              have BZ : Aside0 _ := ⟨R14.out.bel⟩
              have LE : Aside0 _ := ⟨R14.out.le⟩
              have HC := Aside0.mk hc
              clear hc
              obtain ⟨x0, x1, x2, x3, x4, x5, x6, x7, x8, x9, fr⟩ := box10f QB.out
              go_upto_region 16 with (fail)
              go_region_held3 (fun w' => w'.cell? ⟨w.heap.size + 1, 10, none⟩ = some (.string ⟨(wordAt L 10).toArray⟩) ∧ w'.cell? ⟨w.heap.size + 1, 12, none⟩ = some (.string ⟨(wordAt L 12).toArray⟩)) ((go_split_ands; (repeat' apply And.intro); all_goals (exact CA.out _ _ (by with_reducible repeat (first | exact Below.refl _ _ | assumption | exact Aside0.out (by assumption) | apply below_alloc | apply below_drew1 | apply pw_below_drewN | refine below_put1 ?_ ?_ _ _ | omega)) (by omega)))) ((go_at_call 21; refine (K_rnumS _ (HS.out.at _) _ (HG2.out.of ?_)).mono ?_; exact (by with_reducible repeat (first | exact Below.refl _ _ | assumption | exact Aside0.out (by assumption) | apply below_alloc | apply below_drew1 | apply pw_below_drewN | refine below_put1 ?_ ?_ _ _ | omega)); rintro e wz ⟨rfl, hb⟩; have BZ := Aside0.mk (below_step (w := w2) (by with_reducible repeat (first | exact Below.refl _ _ | assumption | exact Aside0.out (by assumption) | apply below_alloc | apply below_drew1 | apply pw_below_drewN | refine below_put1 ?_ ?_ _ _ | omega)) hb); have hs1 := BZ.out.size; (try (first | (have QB := Aside0.mk (blk_below (QB.out) hb); obtain ⟨x0, x1, x2, x3, x4, x5, x6, x7, x8, x9, fr⟩ := box10f QB.out) | (have QB := Aside0.mk (blk_below (blk_drew QB.out) hb); obtain ⟨x0, x1, x2, x3, x4, x5, x6, x7, x8, x9, fr⟩ := box10f QB.out) | (have QB := Aside0.mk (blk_below (blk_drewN QB.out _) hb); obtain ⟨x0, x1, x2, x3, x4, x5, x6, x7, x8, x9, fr⟩ := box10f QB.out) | (have QB := Aside0.mk (blk_below (blk_new _ _) hb); obtain ⟨x0, x1, x2, x3, x4, x5, x6, x7, x8, x9, fr⟩ := box10f QB.out) | (have QB := Aside0.mk (blk_below (blk_drew (blk_new _ _)) hb); obtain ⟨x0, x1, x2, x3, x4, x5, x6, x7, x8, x9, fr⟩ := box10f QB.out) | (have QB := Aside0.mk (blk_below (blk_drewN (blk_new _ _) _) hb); obtain ⟨x0, x1, x2, x3, x4, x5, x6, x7, x8, x9, fr⟩ := box10f QB.out))); clear hb))
              go_wp2_with (fail)
              go_meet
              have hc := HC.out
              exact ⟨rfl, by rw [show ansE L 9 = _ from if_pos hc]; exact ((((RS.mk BZ.out LE.out QB.out).set 6 _).set 7 _).set 8 _).set 9 _⟩
            · rw [decide_eq_false hc]
              have HC := Aside0.mk hc
              clear hc
              go_wp2_with (fail)
              go_meet
              have hc := HC.out
              exact ⟨rfl, by rw [show ansE L 9 = _ from if_neg hc]; exact R14.out⟩
          case rest =>
            obtain ⟨rfl, h16⟩ := hcut
            obtain ⟨w16, rfl⟩ : ∃ X, X = wc := ⟨_, rfl⟩
            have R16 := Aside0.mk h16
            clear h16 R14
            go_upto_region 17 with (fail)
            go_cut [91] (fun s91 wx => s91 = .bool (decide (9 + 5 ≤ L.length ∧ wordAt L 9 = wOk)) ∧ w16 = wx)
            case first =>
              by_cases g4 : 9 + 5 ≤ L.length
              · have hd : decide ((5 : Int) ≤ ((L.length - 5 - 4 : Nat) : Int)) = true := decide_eq_true (by omega)
                obtain rfl := HAd.out (by omega)
                have a1 := CA.out _ 9 R16.out.bel (by omega)
                have m0 : 0 < L.length - 5 - 4 := by omega
                have m1 : (0 : Int) < ((L.length - 5 - 4 : Nat) : Int) := by omega
                go_wp2_with (fail)
                go_meet
                refine ⟨?_, rfl⟩
                have : (wordAt L 9 == wOk) = decide (9 + 5 ≤ L.length ∧ wordAt L 9 = wOk) := by rw [Bool.eq_iff_iff]; simp [g4]
                rw [← this]
                rfl
              · have hd : decide ((5 : Int) ≤ ((L.length - 5 - 4 : Nat) : Int)) = false := decide_eq_false (by omega)
                go_wp2_with (fail)
                go_meet
                refine ⟨?_, rfl⟩
                rw [decide_eq_false (fun h => g4 h.1)]
            case rest =>
              obtain ⟨rfl, rfl⟩ := hcut
              go_upto_if 91 with (fail)
              go_cut [5] (fun s5 wx => s5 = .pointer (some ⟨q, 0, none⟩) ∧ RS w2 wx q #[.int .i64 (atoiV (wordAt L 0)), .int .i64 (atoiV (wordAt L 2)), .int .i64 (kdR L), .int .i64 (kindP L 4), .int .i64 (atoiV (wordAt L 6)), .int .i64 (atoiV (wordAt L 8)), .int .i64 ((ansR L 9).1), .int .i64 ((ansR L 9).2.1), .bool (ansR L 9).2.2.1, .int .i64 ((ansR L 9).2.2.2)])
              case first =>
                by_cases hc : 9 + 5 ≤ L.length ∧ wordAt L 9 = wOk
                · rw [decide_eq_true hc]
                  have hc1 := hc.1
                  obtain rfl := HAd.out (by omega)
                  have a1 := CA.out _ 10 R16.out.bel (by omega); have m1 : (1 : Int) < ((L.length - 5 - 4 : Nat) : Int) := (by omega); have a2 := CA.out _ 11 R16.out.bel (by omega); have m2 : (2 : Int) < ((L.length - 5 - 4 : Nat) : Int) := (by omega); have a4 := CA.out _ 13 R16.out.bel (by omega); have m4 : (4 : Int) < ((L.length - 5 - 4 : Nat) : Int) := (by omega)
                  have QB : Aside0 _ := ⟨R16.out.blk⟩
                  have BZ : Aside0 _ := ⟨R16.out.bel⟩
                  have LE : Aside0 _ := ⟨R16.out.le⟩
                  have HC := Aside0.mk hc
                  clear hc
                  obtain ⟨x0, x1, x2, x3, x4, x5, x6, x7, x8, x9, fr⟩ := box10f QB.out
                  go_upto_region 18 with (fail)
                  go_region_held3 (fun w' => w'.cell? ⟨w.heap.size + 1, 10, none⟩ = some (.string ⟨(wordAt L 10).toArray⟩) ∧ w'.cell? ⟨w.heap.size + 1, 11, none⟩ = some (.string ⟨(wordAt L 11).toArray⟩) ∧ w'.cell? ⟨w.heap.size + 1, 13, none⟩ = some (.string ⟨(wordAt L 13).toArray⟩)) ((go_split_ands; (repeat' apply And.intro); all_goals (exact CA.out _ _ (by with_reducible repeat (first | exact Below.refl _ _ | assumption | exact Aside0.out (by assumption) | apply below_alloc | apply below_drew1 | apply pw_below_drewN | refine below_put1 ?_ ?_ _ _ | omega)) (by omega)))) ((go_at_call 21; refine (K_rnumS _ (HS.out.at _) _ (HG2.out.of ?_)).mono ?_; exact (by with_reducible repeat (first | exact Below.refl _ _ | assumption | exact Aside0.out (by assumption) | apply below_alloc | apply below_drew1 | apply pw_below_drewN | refine below_put1 ?_ ?_ _ _ | omega)); rintro e wz ⟨rfl, hb⟩; have BZ := Aside0.mk (below_step (w := w2) (by with_reducible repeat (first | exact Below.refl _ _ | assumption | exact Aside0.out (by assumption) | apply below_alloc | apply below_drew1 | apply pw_below_drewN | refine below_put1 ?_ ?_ _ _ | omega)) hb); have hs1 := BZ.out.size; (try (first | (have QB := Aside0.mk (blk_below (QB.out) hb); obtain ⟨x0, x1, x2, x3, x4, x5, x6, x7, x8, x9, fr⟩ := box10f QB.out) | (have QB := Aside0.mk (blk_below (blk_drew QB.out) hb); obtain ⟨x0, x1, x2, x3, x4, x5, x6, x7, x8, x9, fr⟩ := box10f QB.out) | (have QB := Aside0.mk (blk_below (blk_drewN QB.out _) hb); obtain ⟨x0, x1, x2, x3, x4, x5, x6, x7, x8, x9, fr⟩ := box10f QB.out) | (have QB := Aside0.mk (blk_below (blk_new _ _) hb); obtain ⟨x0, x1, x2, x3, x4, x5, x6, x7, x8, x9, fr⟩ := box10f QB.out) | (have QB := Aside0.mk (blk_below (blk_drew (blk_new _ _)) hb); obtain ⟨x0, x1, x2, x3, x4, x5, x6, x7, x8, x9, fr⟩ := box10f QB.out) | (have QB := Aside0.mk (blk_below (blk_drewN (blk_new _ _) _) hb); obtain ⟨x0, x1, x2, x3, x4, x5, x6, x7, x8, x9, fr⟩ := box10f QB.out))); clear hb))
                  go_wp2_with (fail)
                  go_meet
                  have hc := HC.out
                  exact ⟨rfl, by rw [ansR_ok hc]; exact ((((RS.mk BZ.out LE.out QB.out).set 6 _).set 7 _).set 8 _).set 9 _⟩
                · rw [decide_eq_false hc]
                  have HC := Aside0.mk hc
                  clear hc
                  go_wp2_with (fail)
                  go_meet
                  have hc := HC.out
                  exact ⟨rfl, by rw [ansR_no hc]; exact R16.out⟩
              case rest =>
                obtain ⟨rfl, h18⟩ := hcut
                obtain ⟨w18, rfl⟩ : ∃ X, X = wc := ⟨_, rfl⟩
                have R18 := Aside0.mk h18
                clear h18 R16
                have hgR : guessR L = (⟨atoiV (wordAt L 0), atoiV (wordAt L 2), kdR L, kindP L 4, atoiV (wordAt L 6), atoiV (wordAt L 8), (ansR L 9).1, (ansR L 9).2.1, (ansR L 9).2.2.1, (ansR L 9).2.2.2⟩ : Ev) := by unfold guessR; rw [HN.out]
                have hok := guessR_ok L
                rw [hgR] at hok
                have HLn : Aside0 (∀ X : World, GW X → Calls Tryd.prog 12 #[.agg #[.int .i64 (atoiV (wordAt L 0)), .int .i64 (atoiV (wordAt L 2)), .int .i64 (kdR L), .int .i64 (kindP L 4), .int .i64 (atoiV (wordAt L 6)), .int .i64 (atoiV (wordAt L 8)), .int .i64 ((ansR L 9).1), .int .i64 ((ansR L 9).2.1), .bool (ansR L 9).2.2.1, .int .i64 ((ansR L 9).2.2.2)]] X fun x w' => x = .returned (.string ⟨(lineL (⟨atoiV (wordAt L 0), atoiV (wordAt L 2), kdR L, kindP L 4, atoiV (wordAt L 6), atoiV (wordAt L 8), (ansR L 9).1, (ansR L 9).2.1, (ansR L 9).2.2.1, (ansR L 9).2.2.2⟩ : Ev)).toArray⟩) ∧ Below X.heap.size X w') := ⟨fun X hX => K_rLineS (⟨atoiV (wordAt L 0), atoiV (wordAt L 2), kdR L, kindP L 4, atoiV (wordAt L 6), atoiV (wordAt L 8), (ansR L 9).1, (ansR L 9).2.1, (ansR L 9).2.2.1, (ansR L 9).2.2.2⟩ : Ev) hok X hX⟩
                obtain ⟨E, hEE⟩ : ∃ E, (⟨atoiV (wordAt L 0), atoiV (wordAt L 2), kdR L, kindP L 4, atoiV (wordAt L 6), atoiV (wordAt L 8), (ansR L 9).1, (ansR L 9).2.1, (ansR L 9).2.2.1, (ansR L 9).2.2.2⟩ : Ev) = E := ⟨_, rfl⟩
                rw [hEE] at hgR HLn
                have hEE' := Aside0.mk hEE
                have HGR := Aside0.mk hgR
                clear hEE hok hgR
                obtain ⟨x0, x1, x2, x3, x4, x5, x6, x7, x8, x9, fr⟩ := box10f R18.out.blk
                by_cases hl : lineL E = s
                · have hl' : (lineL E == s) = true := by simp [hl]
                  have hl2 : (lineL E != s) = false := by simp [hl]
                  have hRA : Aside0 (readP s = some E) := ⟨by rw [← HR.out]; unfold readR; rw [HL.out, HN.out, HGR.out, if_pos ⟨HZ.out, H9.out, H4.out, hl⟩]⟩
                  have hlA := Aside0.mk hl
                  clear hl
                  go_wp2_with (first | (go_at_call 12; (with_reducible refine (HLn.out _ (HGW.out _ _ _ R18.out)).mono ?_); rintro e w19 ⟨he, hb⟩; obtain rfl : e = .returned (.string ⟨(lineL E).toArray⟩) := he; have R19 : Aside0 (RS w2 w19 q #[.int .i64 (atoiV (wordAt L 0)), .int .i64 (atoiV (wordAt L 2)), .int .i64 (kdR L), .int .i64 (kindP L 4), .int .i64 (atoiV (wordAt L 6)), .int .i64 (atoiV (wordAt L 8)), .int .i64 ((ansR L 9).1), .int .i64 ((ansR L 9).2.1), .bool (ansR L 9).2.2.1, .int .i64 ((ansR L 9).2.2.2)]) := ⟨R18.out.call hb⟩; clear hb x0 x1 x2 x3 x4 x5 x6 x7 x8 x9 fr; obtain ⟨x0, x1, x2, x3, x4, x5, x6, x7, x8, x9, fr⟩ := box10f R19.out.blk; have Q0 : Aside0 (w19.heap[w.heap.size]? = some (.cells #[.int .i64 0, .int .i64 0, .int .i64 0, .int .i64 0, .int .i64 0, .int .i64 0, .int .i64 0, .int .i64 0, .bool false, .int .i64 0] 28 (0, 0))) := ⟨blk_below R2.out R19.out.bel⟩; obtain ⟨y0, y1, y2, y3, y4, y5, y6, y7, y8, y9, fy⟩ := box10f Q0.out))
                  refine bodyPost_ret (results_ct rfl _ _ w.heap.size 28 #[.int .i64 (atoiV (wordAt L 0)), .int .i64 (atoiV (wordAt L 2)), .int .i64 (kdR L), .int .i64 (kindP L 4), .int .i64 (atoiV (wordAt L 6)), .int .i64 (atoiV (wordAt L 8)), .int .i64 ((ansR L 9).1), .int .i64 ((ansR L 9).2.1), .bool (ansR L 9).2.2.1, .int .i64 ((ansR L 9).2.2.2)] (0, 0) _ rfl (blk_put10 Q0.out _ _ _ _ _ _ _ _ _ _) hue rfl (by kernel_rfl)) rfl ?_
                  exact ⟨by rw [readA_some hRA.out, ← hEE'.out]; rfl, below_put10 (B2.out.trans (R19.out.bel.mono B2.out.size)) (Nat.le_refl _) _ _ _ _ _ _ _ _ _ _⟩
                · have hl' : (lineL E == s) = false := by simp [hl]
                  have hl2 : (lineL E != s) = true := by simp [hl]
                  have hRA : Aside0 (readP s = none) := ⟨by rw [← HR.out]; unfold readR; rw [HL.out, HN.out, HGR.out, if_neg (fun h => hl h.2.2.2)]⟩
                  have hlA := Aside0.mk hl
                  clear hl
                  go_wp2_with (first | (go_at_call 12; (with_reducible refine (HLn.out _ (HGW.out _ _ _ R18.out)).mono ?_); rintro e w19 ⟨he, hb⟩; obtain rfl : e = .returned (.string ⟨(lineL E).toArray⟩) := he; have R19 : Aside0 (RS w2 w19 q #[.int .i64 (atoiV (wordAt L 0)), .int .i64 (atoiV (wordAt L 2)), .int .i64 (kdR L), .int .i64 (kindP L 4), .int .i64 (atoiV (wordAt L 6)), .int .i64 (atoiV (wordAt L 8)), .int .i64 ((ansR L 9).1), .int .i64 ((ansR L 9).2.1), .bool (ansR L 9).2.2.1, .int .i64 ((ansR L 9).2.2.2)]) := ⟨R18.out.call hb⟩; clear hb x0 x1 x2 x3 x4 x5 x6 x7 x8 x9 fr; obtain ⟨x0, x1, x2, x3, x4, x5, x6, x7, x8, x9, fr⟩ := box10f R19.out.blk; have Q0 : Aside0 (w19.heap[w.heap.size]? = some (.cells #[.int .i64 0, .int .i64 0, .int .i64 0, .int .i64 0, .int .i64 0, .int .i64 0, .int .i64 0, .int .i64 0, .bool false, .int .i64 0] 28 (0, 0))) := ⟨blk_below R2.out R19.out.bel⟩; obtain ⟨y0, y1, y2, y3, y4, y5, y6, y7, y8, y9, fy⟩ := box10f Q0.out))
                  refine bodyPost_ret (results_ct rfl _ _ w.heap.size 28 #[.int .i64 0, .int .i64 0, .int .i64 0, .int .i64 0, .int .i64 0, .int .i64 0, .int .i64 0, .int .i64 0, .bool false, .int .i64 0] (0, 0) _ rfl (blk_put10 Q0.out _ _ _ _ _ _ _ _ _ _) hue rfl (by kernel_rfl)) rfl ?_
                  exact ⟨by rw [readA_none hRA.out]; rfl, below_put10 (B2.out.trans (R19.out.bel.mono B2.out.size)) (Nat.le_refl _) _ _ _ _ _ _ _ _ _ _⟩
      · omega

set_option maxHeartbeats 4000000 in
set_option maxRecDepth 100000 in
theorem K_rRead6 (s : Bytes) (hs : s.length ≤ 1000) (w : World) (hG : GW w) (hz : s ≠ []) (h9 : 9 ≤ (wordsL s 32).length) (hN : kindN (wordsL s 32) 4 = 6) :
    Calls Tryd.prog 10 #[.string ⟨s.toArray⟩] w fun e w' => e = .returned (readA s) ∧ Below w.heap.size w w' := by
  have HG := Aside0.mk hG
  have HS := Aside0.mk (words_short s 32 hs)
  have hs' : Aside0 (s.length ≤ 100000) := ⟨by omega⟩
  have hue := Tryd.underlying28
  have hua := Tryd.underlying26
  have huc := Tryd.underlying23
  clear hG hs
  have hz' : List.isEmpty s = false := by cases s with | nil => exact absurd rfl hz | cons => rfl
  have hne : decide ((wordsL s 32).length < 9) = false := decide_eq_false (by omega)
  have HZ := Aside0.mk hz
  have H9 := Aside0.mk h9
  have HN := Aside0.mk hN
  have HR := Aside0.mk (readR_eq s)
  clear hz hN
  go_enter Tryd.func10, Tryd.ntmps10
  go_upto_region 4 with (go_at_call 15; (with_reducible refine (K_Split s 32 hs'.out _ (HG.out.of (by with_reducible repeat (first | exact Below.refl _ _ | apply below_alloc)))).mono ?_); rintro e w1 ⟨rfl, rfl⟩)
  obtain ⟨L, hL⟩ : ∃ L, wordsL s 32 = L := ⟨_, rfl⟩
  have HL := Aside0.mk hL
  rw [hL] at HS H9 h9 hne HN ⊢
  clear hL hne
  generalize hX : ((w.alloc (.cells #[.int .i64 0, .int .i64 0, .int .i64 0, .int .i64 0, .int .i64 0, .int .i64 0, .int .i64 0, .int .i64 0, .bool false, .int .i64 0] 28)).alloc (.cells (L.map strV).toArray 9)) = w2
  have B2 : Aside0 (Below w.heap.size w w2) := ⟨by rw [← hX]; exact below_alloc (below_alloc (Below.refl _ _) _) _⟩
  have R2 : Aside0 (w2.heap[w.heap.size]? = some (.cells #[.int .i64 0, .int .i64 0, .int .i64 0, .int .i64 0, .int .i64 0, .int .i64 0, .int .i64 0, .int .i64 0, .bool false, .int .i64 0] 28 (0, 0))) := ⟨by rw [← hX]; exact blk_alloc (blk_new w _) _⟩
  have G2 : Aside0 (w2.heap[w.heap.size + 1]? = some (.cells (L.map strV).toArray 9 (0, 0))) := ⟨by rw [← hX]; have h := blk_new (w.alloc (.cells #[.int .i64 0, .int .i64 0, .int .i64 0, .int .i64 0, .int .i64 0, .int .i64 0, .int .i64 0, .int .i64 0, .bool false, .int .i64 0] 28)) (.cells (L.map strV).toArray 9); rw [show (w.alloc (.cells #[.int .i64 0, .int .i64 0, .int .i64 0, .int .i64 0, .int .i64 0, .int .i64 0, .int .i64 0, .int .i64 0, .bool false, .int .i64 0] 28)).heap.size = w.heap.size + 1 by simp] at h; exact h⟩
  clear hX
  have HG2 := Aside0.mk (HG.out.of B2.out)
  have CA : Aside0 (∀ (X : World) (j : Nat), Below w2.heap.size w2 X → j < L.length → X.cell? ⟨w.heap.size + 1, j, none⟩ = some (.string ⟨(wordAt L j).toArray⟩)) := ⟨fun X j hw hj => by
    rw [blk_cell (blk_below G2.out hw) j]
    simp [wordAt, strV, List.getD_eq_getElem?_getD, List.getElem?_eq_getElem hj]⟩
  have HGW : Aside0 (∀ (X : World) (q : Nat) (cs : Array Value), RS w2 X q cs → GW X) := ⟨fun X q cs h => HG.out.of (B2.out.trans (h.bel.mono B2.out.size))⟩
  have HNUM : Aside0 (∀ (l : Bytes), l.length ≤ 100000 → ∀ (X : World) (q : Nat) (cs : Array Value), RS w2 X q cs → Calls Tryd.prog 21 #[.string ⟨l.toArray⟩] X fun e w' => e = .returned (.int .i64 (atoiV l)) ∧ Below X.heap.size X w') := ⟨fun l hl X q cs h => K_rnumS l hl X (HGW.out X q cs h)⟩
  have HRK : Aside0 (∀ (X : World) (q : Nat) (cs : Array Value), RS w2 X q cs → Calls Tryd.prog 22 #[.slice (some ⟨w.heap.size + 1, 4, none⟩) (L.length - 4) (L.length - 4)] X fun e w' => e = .returned (.tuple #[.int .i64 (kindP L 4), .int .i64 2]) ∧ Below X.heap.size X w') := ⟨fun X q cs h => by
    have hk := K_rkind X (w.heap.size + 1) L 4 (L.length - 4) HS.out (HGW.out X q cs h) (by have := H9.out; omega) (blk_below G2.out h.bel)
    rw [HN.out] at hk
    exact hk⟩
  have QN : Aside0 (∀ (X : World) (q : Nat) (cs : Array Value), RS w2 X q cs → q ≠ w.heap.size + 1 ∧ w.heap.size + 1 ≠ q ∧ q ≠ w.heap.size) := ⟨fun X q cs h => by have h1 := h.le; have h2 := blk_lt G2.out; omega⟩
  have h90 : (0 : Int) ≤ (L.length : Int) := by omega
  have a0 := CA.out w2 0 (Below.refl _ _) (by omega)
  have a2 := CA.out w2 2 (Below.refl _ _) (by omega)
  have n0 : 0 < L.length := by omega
  have i0 : (0 : Int) < (L.length : Int) := by omega
  have i2 : (2 : Int) < (L.length : Int) := by omega
  have i3 : (3 : Int) < (L.length : Int) := by omega
  have i4 : (4 : Int) ≤ (L.length : Int) := by omega
  go_cut [5] (fun s5 wx => ∃ q : Nat, s5 = .pointer (some ⟨q, 0, none⟩) ∧ RS w2 wx q #[.int .i64 (atoiV (wordAt L 0)), .int .i64 (atoiV (wordAt L 2)), .int .i64 (1), .int .i64 (0), .int .i64 (0), .int .i64 (0), .int .i64 (0), .int .i64 (0), .bool false, .int .i64 (0)])
  case first =>
    go_region_held3 (fun w' => w'.cell? ⟨w.heap.size + 1, 0, none⟩ = some (.string ⟨(wordAt L 0).toArray⟩) ∧ w'.cell? ⟨w.heap.size + 1, 2, none⟩ = some (.string ⟨(wordAt L 2).toArray⟩)) ((go_split_ands; (repeat' apply And.intro); all_goals (exact below_cell_of (W := w2) (by with_reducible repeat (first | exact Below.refl _ _ | assumption | exact Aside0.out (by assumption) | apply below_alloc | apply below_drew1 | apply pw_below_drewN | refine below_put1 ?_ ?_ _ _ | omega)) (by assumption)))) ((go_at_call 21; refine (K_rnumS _ (HS.out.at _) _ (HG2.out.of ?_)).mono ?_; exact (by with_reducible repeat (first | exact Below.refl _ _ | assumption | exact Aside0.out (by assumption) | apply below_alloc | apply below_drew1 | apply pw_below_drewN | refine below_put1 ?_ ?_ _ _ | omega)); rintro e wz ⟨rfl, hb⟩; have BZ := Aside0.mk (below_step (w := w2) (by with_reducible repeat (first | exact Below.refl _ _ | assumption | exact Aside0.out (by assumption) | apply below_alloc | apply below_drew1 | apply pw_below_drewN | refine below_put1 ?_ ?_ _ _ | omega)) hb); have hs1 := BZ.out.size; (try (first | (have QB := Aside0.mk (blk_below (QB.out) hb); obtain ⟨x0, x1, x2, x3, x4, x5, x6, x7, x8, x9, fr⟩ := box10f QB.out) | (have QB := Aside0.mk (blk_below (blk_drew QB.out) hb); obtain ⟨x0, x1, x2, x3, x4, x5, x6, x7, x8, x9, fr⟩ := box10f QB.out) | (have QB := Aside0.mk (blk_below (blk_drewN QB.out _) hb); obtain ⟨x0, x1, x2, x3, x4, x5, x6, x7, x8, x9, fr⟩ := box10f QB.out) | (have QB := Aside0.mk (blk_below (blk_new _ _) hb); obtain ⟨x0, x1, x2, x3, x4, x5, x6, x7, x8, x9, fr⟩ := box10f QB.out) | (have QB := Aside0.mk (blk_below (blk_drew (blk_new _ _)) hb); obtain ⟨x0, x1, x2, x3, x4, x5, x6, x7, x8, x9, fr⟩ := box10f QB.out) | (have QB := Aside0.mk (blk_below (blk_drewN (blk_new _ _) _) hb); obtain ⟨x0, x1, x2, x3, x4, x5, x6, x7, x8, x9, fr⟩ := box10f QB.out))); clear hb))
    all_goals
      go_wp2_with (fail)
      go_meet
      refine ⟨_, rfl, ?_⟩
      first
        | (with_reducible refine RS.fresh ?_; exact (by with_reducible repeat (first | exact Below.refl _ _ | assumption | exact Aside0.out (by assumption) | apply below_alloc | apply below_drew1 | apply pw_below_drewN | refine below_put1 ?_ ?_ _ _ | omega)))
        | (with_reducible refine RS.put QB.out ?_ ?_; exact (by with_reducible repeat (first | exact Below.refl _ _ | assumption | exact Aside0.out (by assumption) | apply below_alloc | apply below_drew1 | apply pw_below_drewN | refine below_put1 ?_ ?_ _ _ | omega)); omega)
  case rest =>
    obtain ⟨q, rfl, h5⟩ := hcut
    have R5 := Aside0.mk h5
    have a3 := CA.out _ 3 h5.bel (by omega)
    have hqn := QN.out _ _ _ h5
    clear h5 a0 a2
    go_upto_if 31 with (fail)
    go_cut [5] (fun s5 wx => s5 = .pointer (some ⟨q, 0, none⟩) ∧ RS w2 wx q #[.int .i64 (atoiV (wordAt L 0)), .int .i64 (atoiV (wordAt L 2)), .int .i64 (kdR L), .int .i64 (0), .int .i64 (0), .int .i64 (0), .int .i64 (0), .int .i64 (0), .bool false, .int .i64 (0)])
    case first =>
      obtain ⟨x0, x1, x2, x3, x4, x5, x6, x7, x8, x9, fr⟩ := box10f R5.out.blk
      by_cases hE : wordAt L 3 = wEnd
      · have hE' : (wordAt L 3 == [101, 110, 100]) = true := by rw [hE]; rfl
        have HE := Aside0.mk hE
        clear hE
        rw [hE']
        go_wp2_with (fail)
        go_meet
        exact ⟨rfl, by rw [show kdR L = 2 from if_pos HE.out]; exact R5.out.set 2 _⟩
      · have hE' : (wordAt L 3 == [101, 110, 100]) = false := beq_eq_false_iff_ne.2 hE
        have HE := Aside0.mk hE
        clear hE
        rw [hE']
        go_wp2_with (fail)
        go_meet
        exact ⟨rfl, by rw [show kdR L = 1 from if_neg HE.out]; exact R5.out⟩
    case rest =>
      obtain ⟨rfl, h6⟩ := hcut
      have R6 := Aside0.mk h6
      clear a3 R5 h6
      have m4 : (4 : Int) ≤ (L.length : Int) := by omega
      by_cases h4 : 10 ≤ L.length
      · have H4 := Aside0.mk h4
        have h4' : decide (((L.length - 6 : Nat) : Int) < 4) = false := decide_eq_false (by omega)
        have b1 : (1 : Int) < ((L.length - 6 : Nat) : Int) := by omega
        have b3 : (3 : Int) < ((L.length - 6 : Nat) : Int) := by omega
        have b4 : (4 : Int) ≤ ((L.length - 6 : Nat) : Int) := by omega
        have bN : (6 : Int) ≤ (L.length : Int) := by omega
        go_upto_region 15 with (first | (go_at_call 21; (with_reducible refine (HNUM.out (wordAt L 9) (HS.out.at _) _ _ _ (R12.out.set 4 _)).mono ?_); rintro e w13 ⟨he, hb⟩; obtain rfl : e = .returned (.int .i64 (atoiV (wordAt L 9))) := he; have R13 : Aside0 (RS w2 w13 q #[.int .i64 (atoiV (wordAt L 0)), .int .i64 (atoiV (wordAt L 2)), .int .i64 (kdR L), .int .i64 (kindP L 4), .int .i64 (atoiV (wordAt L 7)), .int .i64 (0), .int .i64 (0), .int .i64 (0), .bool false, .int .i64 (0)]) := ⟨(R12.out.set 4 _).call hb⟩; clear hb R12 x0 x1 x2 x3 x4 x5 x6 x7 x8 x9 fr a1; obtain ⟨x0, x1, x2, x3, x4, x5, x6, x7, x8, x9, fr⟩ := box10f R13.out.blk; have a1 := True.intro) | (go_at_call 21; (with_reducible refine (HNUM.out (wordAt L 7) (HS.out.at _) _ _ _ (R7.out.set 3 _)).mono ?_); rintro e w12 ⟨he, hb⟩; obtain rfl : e = .returned (.int .i64 (atoiV (wordAt L 7))) := he; have R12 : Aside0 (RS w2 w12 q #[.int .i64 (atoiV (wordAt L 0)), .int .i64 (atoiV (wordAt L 2)), .int .i64 (kdR L), .int .i64 (kindP L 4), .int .i64 (0), .int .i64 (0), .int .i64 (0), .int .i64 (0), .bool false, .int .i64 (0)]) := ⟨(R7.out.set 3 _).call hb⟩; clear hb R7 x0 x1 x2 x3 x4 x5 x6 x7 x8 x9 fr a1; obtain ⟨x0, x1, x2, x3, x4, x5, x6, x7, x8, x9, fr⟩ := box10f R12.out.blk; have a1 := CA.out _ 9 R12.out.bel (by omega)) | (go_at_call 22; (with_reducible refine (HRK.out _ _ _ R6.out).mono ?_); rintro e w7 ⟨rfl, hb⟩; have R7 := Aside0.mk (R6.out.call hb); clear hb R6; obtain ⟨x0, x1, x2, x3, x4, x5, x6, x7, x8, x9, fr⟩ := box10f R7.out.blk; have a1 := CA.out _ 7 R7.out.bel (by omega)))
        obtain ⟨w14, hw⟩ : ∃ X, w13.setCell ⟨q, 5, none⟩ (.int .i64 (atoiV (wordAt L 9))) = X := ⟨_, rfl⟩
        have R14 : Aside0 (RS w2 w14 q #[.int .i64 (atoiV (wordAt L 0)), .int .i64 (atoiV (wordAt L 2)), .int .i64 (kdR L), .int .i64 (kindP L 4), .int .i64 (atoiV (wordAt L 7)), .int .i64 (atoiV (wordAt L 9)), .int .i64 (0), .int .i64 (0), .bool false, .int .i64 (0)]) := ⟨by rw [← hw]; exact R13.out.set 5 _⟩
        rw [hw]
        clear hw x0 x1 x2 x3 x4 x5 x6 x7 x8 x9 fr a1
        have R14' := R14.out
        generalize hAd : (if L.length - 6 = 4 then (some ⟨w.heap.size + 1, 6, none⟩ : Option Addr) else some ⟨w.heap.size + 1, 10, none⟩) = ad
        have HAd : Aside0 (10 + 1 ≤ L.length → ad = some ⟨w.heap.size + 1, 10, none⟩) := ⟨fun h => by rw [← hAd, if_neg (by omega)]⟩
        clear hAd R14' h4' b1 b3 b4
        go_cut [72] (fun s72 wx => s72 = .bool (decide (10 + 4 ≤ L.length ∧ wordAt L 10 = wErr)) ∧ w14 = wx)
        case first =>
          by_cases g4 : 10 + 4 ≤ L.length
          · have hd : decide ((4 : Int) ≤ ((L.length - 6 - 4 : Nat) : Int)) = true := decide_eq_true (by omega)
            obtain rfl := HAd.out (by omega)
            have a1 := CA.out _ 10 R14.out.bel (by omega)
            have m0 : 0 < L.length - 6 - 4 := by omega
            have m1 : (0 : Int) < ((L.length - 6 - 4 : Nat) : Int) := by omega
            go_wp2_with (fail)
            go_meet
            refine ⟨?_, rfl⟩
            have : (wordAt L 10 == wErr) = decide (10 + 4 ≤ L.length ∧ wordAt L 10 = wErr) := by rw [Bool.eq_iff_iff]; simp [g4]
            rw [← this]
            rfl
          · have hd : decide ((4 : Int) ≤ ((L.length - 6 - 4 : Nat) : Int)) = false := decide_eq_false (by omega)
            go_wp2_with (fail)
            go_meet
            refine ⟨?_, rfl⟩
            rw [decide_eq_false (fun h => g4 h.1)]
        case rest =>
          obtain ⟨rfl, rfl⟩ := hcut
          go_upto_if 72 with (fail)
          go_cut [5] (fun s5 wx => s5 = .pointer (some ⟨q, 0, none⟩) ∧ RS w2 wx q #[.int .i64 (atoiV (wordAt L 0)), .int .i64 (atoiV (wordAt L 2)), .int .i64 (kdR L), .int .i64 (kindP L 4), .int .i64 (atoiV (wordAt L 7)), .int .i64 (atoiV (wordAt L 9)), .int .i64 ((ansE L 10).1), .int .i64 ((ansE L 10).2.1), .bool (ansE L 10).2.2.1, .int .i64 ((ansE L 10).2.2.2)])
          case first =>
            by_cases hc : 10 + 4 ≤ L.length ∧ wordAt L 10 = wErr
            · rw [decide_eq_true hc]
              have hc1 := hc.1
              obtain rfl := HAd.out (by omega)
              have a1 := CA.out _ 11 R14.out.bel (by omega); have m1 : (1 : Int) < ((L.length - 6 - 4 : Nat) : Int) := (by omega); have a3 := CA.out _ 13 R14.out.bel (by omega); have m3 : (3 : Int) < ((L.length - 6 - 4 : Nat) : Int) := (by omega)
              have QB : Aside0 _ := ⟨R14.out.blk⟩
              have BZ : Aside0 _ := ⟨R14.out.bel⟩
              have LE : Aside0 _ := ⟨R14.out.le⟩
              have HC := Aside0.mk hc
              clear hc
              obtain ⟨x0, x1, x2, x3, x4, x5, x6, x7, x8, x9, fr⟩ := box10f QB.out
              go_upto_region 16 with (fail)
              go_region_held3 (fun w' => w'.cell? ⟨w.heap.size + 1, 11, none⟩ = some (.string ⟨(wordAt L 11).toArray⟩) ∧ w'.cell? ⟨w.heap.size + 1, 13, none⟩ = some (.string ⟨(wordAt L 13).toArray⟩)) ((go_split_ands; (repeat' apply And.intro); all_goals (exact CA.out _ _ (by with_reducible repeat (first | exact Below.refl _ _ | assumption | exact Aside0.out (by assumption) | apply below_alloc | apply below_drew1 | apply pw_below_drewN | refine below_put1 ?_ ?_ _ _ | omega)) (by omega)))) ((go_at_call 21; refine (K_rnumS _ (HS.out.at _) _ (HG2.out.of ?_)).mono ?_; exact (by with_reducible repeat (first | exact Below.refl _ _ | assumption | exact Aside0.out (by assumption) | apply below_alloc | apply below_drew1 | apply pw_below_drewN | refine below_put1 ?_ ?_ _ _ | omega)); rintro e wz ⟨rfl, hb⟩; have BZ := Aside0.mk (below_step (w := w2) (by with_reducible repeat (first | exact Below.refl _ _ | assumption | exact Aside0.out (by assumption) | apply below_alloc | apply below_drew1 | apply pw_below_drewN | refine below_put1 ?_ ?_ _ _ | omega)) hb); have hs1 := BZ.out.size; (try (first | (have QB := Aside0.mk (blk_below (QB.out) hb); obtain ⟨x0, x1, x2, x3, x4, x5, x6, x7, x8, x9, fr⟩ := box10f QB.out) | (have QB := Aside0.mk (blk_below (blk_drew QB.out) hb); obtain ⟨x0, x1, x2, x3, x4, x5, x6, x7, x8, x9, fr⟩ := box10f QB.out) | (have QB := Aside0.mk (blk_below (blk_drewN QB.out _) hb); obtain ⟨x0, x1, x2, x3, x4, x5, x6, x7, x8, x9, fr⟩ := box10f QB.out) | (have QB := Aside0.mk (blk_below (blk_new _ _) hb); obtain ⟨x0, x1, x2, x3, x4, x5, x6, x7, x8, x9, fr⟩ := box10f QB.out) | (have QB := Aside0.mk (blk_below (blk_drew (blk_new _ _)) hb); obtain ⟨x0, x1, x2, x3, x4, x5, x6, x7, x8, x9, fr⟩ := box10f QB.out) | (have QB := Aside0.mk (blk_below (blk_drewN (blk_new _ _) _) hb); obtain ⟨x0, x1, x2, x3, x4, x5, x6, x7, x8, x9, fr⟩ := box10f QB.out))); clear hb))
              go_wp2_with (fail)
              go_meet
              have hc := HC.out
              exact ⟨rfl, by rw [show ansE L 10 = _ from if_pos hc]; exact ((((RS.mk BZ.out LE.out QB.out).set 6 _).set 7 _).set 8 _).set 9 _⟩
            · rw [decide_eq_false hc]
              have HC := Aside0.mk hc
              clear hc
              go_wp2_with (fail)
              go_meet
              have hc := HC.out
              exact ⟨rfl, by rw [show ansE L 10 = _ from if_neg hc]; exact R14.out⟩
          case rest =>
            obtain ⟨rfl, h16⟩ := hcut
            obtain ⟨w16, rfl⟩ : ∃ X, X = wc := ⟨_, rfl⟩
            have R16 := Aside0.mk h16
            clear h16 R14
            go_upto_region 17 with (fail)
            go_cut [91] (fun s91 wx => s91 = .bool (decide (10 + 5 ≤ L.length ∧ wordAt L 10 = wOk)) ∧ w16 = wx)
            case first =>
              by_cases g4 : 10 + 5 ≤ L.length
              · have hd : decide ((5 : Int) ≤ ((L.length - 6 - 4 : Nat) : Int)) = true := decide_eq_true (by omega)
                obtain rfl := HAd.out (by omega)
                have a1 := CA.out _ 10 R16.out.bel (by omega)
                have m0 : 0 < L.length - 6 - 4 := by omega
                have m1 : (0 : Int) < ((L.length - 6 - 4 : Nat) : Int) := by omega
                go_wp2_with (fail)
                go_meet
                refine ⟨?_, rfl⟩
                have : (wordAt L 10 == wOk) = decide (10 + 5 ≤ L.length ∧ wordAt L 10 = wOk) := by rw [Bool.eq_iff_iff]; simp [g4]
                rw [← this]
                rfl
              · have hd : decide ((5 : Int) ≤ ((L.length - 6 - 4 : Nat) : Int)) = false := decide_eq_false (by omega)
                go_wp2_with (fail)
                go_meet
                refine ⟨?_, rfl⟩
                rw [decide_eq_false (fun h => g4 h.1)]
            case rest =>
              obtain ⟨rfl, rfl⟩ := hcut
              go_upto_if 91 with (fail)
              go_cut [5] (fun s5 wx => s5 = .pointer (some ⟨q, 0, none⟩) ∧ RS w2 wx q #[.int .i64 (atoiV (wordAt L 0)), .int .i64 (atoiV (wordAt L 2)), .int .i64 (kdR L), .int .i64 (kindP L 4), .int .i64 (atoiV (wordAt L 7)), .int .i64 (atoiV (wordAt L 9)), .int .i64 ((ansR L 10).1), .int .i64 ((ansR L 10).2.1), .bool (ansR L 10).2.2.1, .int .i64 ((ansR L 10).2.2.2)])
              case first =>
                by_cases hc : 10 + 5 ≤ L.length ∧ wordAt L 10 = wOk
                · rw [decide_eq_true hc]
                  have hc1 := hc.1
                  obtain rfl := HAd.out (by omega)
                  have a1 := CA.out _ 11 R16.out.bel (by omega); have m1 : (1 : Int) < ((L.length - 6 - 4 : Nat) : Int) := (by omega); have a2 := CA.out _ 12 R16.out.bel (by omega); have m2 : (2 : Int) < ((L.length - 6 - 4 : Nat) : Int) := (by omega); have a4 := CA.out _ 14 R16.out.bel (by omega); have m4 : (4 : Int) < ((L.length - 6 - 4 : Nat) : Int) := (by omega)
                  have QB : Aside0 _ := ⟨R16.out.blk⟩
                  have BZ : Aside0 _ := ⟨R16.out.bel⟩
                  have LE : Aside0 _ := ⟨R16.out.le⟩
                  have HC := Aside0.mk hc
                  clear hc
                  obtain ⟨x0, x1, x2, x3, x4, x5, x6, x7, x8, x9, fr⟩ := box10f QB.out
                  go_upto_region 18 with (fail)
                  go_region_held3 (fun w' => w'.cell? ⟨w.heap.size + 1, 11, none⟩ = some (.string ⟨(wordAt L 11).toArray⟩) ∧ w'.cell? ⟨w.heap.size + 1, 12, none⟩ = some (.string ⟨(wordAt L 12).toArray⟩) ∧ w'.cell? ⟨w.heap.size + 1, 14, none⟩ = some (.string ⟨(wordAt L 14).toArray⟩)) ((go_split_ands; (repeat' apply And.intro); all_goals (exact CA.out _ _ (by with_reducible repeat (first | exact Below.refl _ _ | assumption | exact Aside0.out (by assumption) | apply below_alloc | apply below_drew1 | apply pw_below_drewN | refine below_put1 ?_ ?_ _ _ | omega)) (by omega)))) ((go_at_call 21; refine (K_rnumS _ (HS.out.at _) _ (HG2.out.of ?_)).mono ?_; exact (by with_reducible repeat (first | exact Below.refl _ _ | assumption | exact Aside0.out (by assumption) | apply below_alloc | apply below_drew1 | apply pw_below_drewN | refine below_put1 ?_ ?_ _ _ | omega)); rintro e wz ⟨rfl, hb⟩; have BZ := Aside0.mk (below_step (w := w2) (by with_reducible repeat (first | exact Below.refl _ _ | assumption | exact Aside0.out (by assumption) | apply below_alloc | apply below_drew1 | apply pw_below_drewN | refine below_put1 ?_ ?_ _ _ | omega)) hb); have hs1 := BZ.out.size; (try (first | (have QB := Aside0.mk (blk_below (QB.out) hb); obtain ⟨x0, x1, x2, x3, x4, x5, x6, x7, x8, x9, fr⟩ := box10f QB.out) | (have QB := Aside0.mk (blk_below (blk_drew QB.out) hb); obtain ⟨x0, x1, x2, x3, x4, x5, x6, x7, x8, x9, fr⟩ := box10f QB.out) | (have QB := Aside0.mk (blk_below (blk_drewN QB.out _) hb); obtain ⟨x0, x1, x2, x3, x4, x5, x6, x7, x8, x9, fr⟩ := box10f QB.out) | (have QB := Aside0.mk (blk_below (blk_new _ _) hb); obtain ⟨x0, x1, x2, x3, x4, x5, x6, x7, x8, x9, fr⟩ := box10f QB.out) | (have QB := Aside0.mk (blk_below (blk_drew (blk_new _ _)) hb); obtain ⟨x0, x1, x2, x3, x4, x5, x6, x7, x8, x9, fr⟩ := box10f QB.out) | (have QB := Aside0.mk (blk_below (blk_drewN (blk_new _ _) _) hb); obtain ⟨x0, x1, x2, x3, x4, x5, x6, x7, x8, x9, fr⟩ := box10f QB.out))); clear hb))
                  go_wp2_with (fail)
                  go_meet
                  have hc := HC.out
                  exact ⟨rfl, by rw [ansR_ok hc]; exact ((((RS.mk BZ.out LE.out QB.out).set 6 _).set 7 _).set 8 _).set 9 _⟩
                · rw [decide_eq_false hc]
                  have HC := Aside0.mk hc
                  clear hc
                  go_wp2_with (fail)
                  go_meet
                  have hc := HC.out
                  exact ⟨rfl, by rw [ansR_no hc]; exact R16.out⟩
              case rest =>
                obtain ⟨rfl, h18⟩ := hcut
                obtain ⟨w18, rfl⟩ : ∃ X, X = wc := ⟨_, rfl⟩
                have R18 := Aside0.mk h18
                clear h18 R16
                have hgR : guessR L = (⟨atoiV (wordAt L 0), atoiV (wordAt L 2), kdR L, kindP L 4, atoiV (wordAt L 7), atoiV (wordAt L 9), (ansR L 10).1, (ansR L 10).2.1, (ansR L 10).2.2.1, (ansR L 10).2.2.2⟩ : Ev) := by unfold guessR; rw [HN.out]
                have hok := guessR_ok L
                rw [hgR] at hok
                have HLn : Aside0 (∀ X : World, GW X → Calls Tryd.prog 12 #[.agg #[.int .i64 (atoiV (wordAt L 0)), .int .i64 (atoiV (wordAt L 2)), .int .i64 (kdR L), .int .i64 (kindP L 4), .int .i64 (atoiV (wordAt L 7)), .int .i64 (atoiV (wordAt L 9)), .int .i64 ((ansR L 10).1), .int .i64 ((ansR L 10).2.1), .bool (ansR L 10).2.2.1, .int .i64 ((ansR L 10).2.2.2)]] X fun x w' => x = .returned (.string ⟨(lineL (⟨atoiV (wordAt L 0), atoiV (wordAt L 2), kdR L, kindP L 4, atoiV (wordAt L 7), atoiV (wordAt L 9), (ansR L 10).1, (ansR L 10).2.1, (ansR L 10).2.2.1, (ansR L 10).2.2.2⟩ : Ev)).toArray⟩) ∧ Below X.heap.size X w') := ⟨fun X hX => K_rLineS (⟨atoiV (wordAt L 0), atoiV (wordAt L 2), kdR L, kindP L 4, atoiV (wordAt L 7), atoiV (wordAt L 9), (ansR L 10).1, (ansR L 10).2.1, (ansR L 10).2.2.1, (ansR L 10).2.2.2⟩ : Ev) hok X hX⟩
                obtain ⟨E, hEE⟩ : ∃ E, (⟨atoiV (wordAt L 0), atoiV (wordAt L 2), kdR L, kindP L 4, atoiV (wordAt L 7), atoiV (wordAt L 9), (ansR L 10).1, (ansR L 10).2.1, (ansR L 10).2.2.1, (ansR L 10).2.2.2⟩ : Ev) = E := ⟨_, rfl⟩
                rw [hEE] at hgR HLn
                have hEE' := Aside0.mk hEE
                have HGR := Aside0.mk hgR
                clear hEE hok hgR
                obtain ⟨x0, x1, x2, x3, x4, x5, x6, x7, x8, x9, fr⟩ := box10f R18.out.blk
                by_cases hl : lineL E = s
                · have hl' : (lineL E == s) = true := by simp [hl]
                  have hl2 : (lineL E != s) = false := by simp [hl]
                  have hRA : Aside0 (readP s = some E) := ⟨by rw [← HR.out]; unfold readR; rw [HL.out, HN.out, HGR.out, if_pos ⟨HZ.out, H9.out, H4.out, hl⟩]⟩
                  have hlA := Aside0.mk hl
                  clear hl
                  go_wp2_with (first | (go_at_call 12; (with_reducible refine (HLn.out _ (HGW.out _ _ _ R18.out)).mono ?_); rintro e w19 ⟨he, hb⟩; obtain rfl : e = .returned (.string ⟨(lineL E).toArray⟩) := he; have R19 : Aside0 (RS w2 w19 q #[.int .i64 (atoiV (wordAt L 0)), .int .i64 (atoiV (wordAt L 2)), .int .i64 (kdR L), .int .i64 (kindP L 4), .int .i64 (atoiV (wordAt L 7)), .int .i64 (atoiV (wordAt L 9)), .int .i64 ((ansR L 10).1), .int .i64 ((ansR L 10).2.1), .bool (ansR L 10).2.2.1, .int .i64 ((ansR L 10).2.2.2)]) := ⟨R18.out.call hb⟩; clear hb x0 x1 x2 x3 x4 x5 x6 x7 x8 x9 fr; obtain ⟨x0, x1, x2, x3, x4, x5, x6, x7, x8, x9, fr⟩ := box10f R19.out.blk; have Q0 : Aside0 (w19.heap[w.heap.size]? = some (.cells #[.int .i64 0, .int .i64 0, .int .i64 0, .int .i64 0, .int .i64 0, .int .i64 0, .int .i64 0, .int .i64 0, .bool false, .int .i64 0] 28 (0, 0))) := ⟨blk_below R2.out R19.out.bel⟩; obtain ⟨y0, y1, y2, y3, y4, y5, y6, y7, y8, y9, fy⟩ := box10f Q0.out))
                  refine bodyPost_ret (results_ct rfl _ _ w.heap.size 28 #[.int .i64 (atoiV (wordAt L 0)), .int .i64 (atoiV (wordAt L 2)), .int .i64 (kdR L), .int .i64 (kindP L 4), .int .i64 (atoiV (wordAt L 7)), .int .i64 (atoiV (wordAt L 9)), .int .i64 ((ansR L 10).1), .int .i64 ((ansR L 10).2.1), .bool (ansR L 10).2.2.1, .int .i64 ((ansR L 10).2.2.2)] (0, 0) _ rfl (blk_put10 Q0.out _ _ _ _ _ _ _ _ _ _) hue rfl (by kernel_rfl)) rfl ?_
                  exact ⟨by rw [readA_some hRA.out, ← hEE'.out]; rfl, below_put10 (B2.out.trans (R19.out.bel.mono B2.out.size)) (Nat.le_refl _) _ _ _ _ _ _ _ _ _ _⟩
                · have hl' : (lineL E == s) = false := by simp [hl]
                  have hl2 : (lineL E != s) = true := by simp [hl]
                  have hRA : Aside0 (readP s = none) := ⟨by rw [← HR.out]; unfold readR; rw [HL.out, HN.out, HGR.out, if_neg (fun h => hl h.2.2.2)]⟩
                  have hlA := Aside0.mk hl
                  clear hl
                  go_wp2_with (first | (go_at_call 12; (with_reducible refine (HLn.out _ (HGW.out _ _ _ R18.out)).mono ?_); rintro e w19 ⟨he, hb⟩; obtain rfl : e = .returned (.string ⟨(lineL E).toArray⟩) := he; have R19 : Aside0 (RS w2 w19 q #[.int .i64 (atoiV (wordAt L 0)), .int .i64 (atoiV (wordAt L 2)), .int .i64 (kdR L), .int .i64 (kindP L 4), .int .i64 (atoiV (wordAt L 7)), .int .i64 (atoiV (wordAt L 9)), .int .i64 ((ansR L 10).1), .int .i64 ((ansR L 10).2.1), .bool (ansR L 10).2.2.1, .int .i64 ((ansR L 10).2.2.2)]) := ⟨R18.out.call hb⟩; clear hb x0 x1 x2 x3 x4 x5 x6 x7 x8 x9 fr; obtain ⟨x0, x1, x2, x3, x4, x5, x6, x7, x8, x9, fr⟩ := box10f R19.out.blk; have Q0 : Aside0 (w19.heap[w.heap.size]? = some (.cells #[.int .i64 0, .int .i64 0, .int .i64 0, .int .i64 0, .int .i64 0, .int .i64 0, .int .i64 0, .int .i64 0, .bool false, .int .i64 0] 28 (0, 0))) := ⟨blk_below R2.out R19.out.bel⟩; obtain ⟨y0, y1, y2, y3, y4, y5, y6, y7, y8, y9, fy⟩ := box10f Q0.out))
                  refine bodyPost_ret (results_ct rfl _ _ w.heap.size 28 #[.int .i64 0, .int .i64 0, .int .i64 0, .int .i64 0, .int .i64 0, .int .i64 0, .int .i64 0, .int .i64 0, .bool false, .int .i64 0] (0, 0) _ rfl (blk_put10 Q0.out _ _ _ _ _ _ _ _ _ _) hue rfl (by kernel_rfl)) rfl ?_
                  exact ⟨by rw [readA_none hRA.out]; rfl, below_put10 (B2.out.trans (R19.out.bel.mono B2.out.size)) (Nat.le_refl _) _ _ _ _ _ _ _ _ _ _⟩
      · have h4' : decide (((L.length - 6 : Nat) : Int) < 4) = true := decide_eq_true (by omega)
        have bN : (6 : Int) ≤ (L.length : Int) := by omega
        have hRA : Aside0 (readP s = none) := ⟨by rw [← HR.out]; unfold readR; rw [HL.out, HN.out, if_neg (fun h => h4 h.2.2.1)]⟩
        go_wp2_with (first | (go_loud (go_at_call 22; (with_reducible refine (HRK.out _ _ _ R6.out).mono ?_); rintro e w7 ⟨rfl, hb⟩; have R7 := Aside0.mk (R6.out.call hb); clear hb R6; obtain ⟨x0, x1, x2, x3, x4, x5, x6, x7, x8, x9, fr⟩ := box10f R7.out.blk; have Q0 : Aside0 (w7.heap[w.heap.size]? = some (.cells #[.int .i64 0, .int .i64 0, .int .i64 0, .int .i64 0, .int .i64 0, .int .i64 0, .int .i64 0, .int .i64 0, .bool false, .int .i64 0] 28 (0, 0))) := ⟨blk_below R2.out R7.out.bel⟩; obtain ⟨y0, y1, y2, y3, y4, y5, y6, y7, y8, y9, fy⟩ := box10f Q0.out)))
        refine bodyPost_ret (results_ct rfl _ _ w.heap.size 28 #[.int .i64 0, .int .i64 0, .int .i64 0, .int .i64 0, .int .i64 0, .int .i64 0, .int .i64 0, .int .i64 0, .bool false, .int .i64 0] (0, 0) _ rfl (blk_put10 ((Below.heap_setCell w7 ⟨q, 3, none⟩ _ w.heap.size (Ne.symm hqn.2.2)).trans Q0.out) _ _ _ _ _ _ _ _ _ _) hue rfl (by kernel_rfl)) rfl ?_
        exact ⟨by rw [readA_none hRA.out]; rfl, below_put10 (B2.out.trans ((R7.out.set 3 _).bel.mono B2.out.size)) (Nat.le_refl _) _ _ _ _ _ _ _ _ _ _⟩

set_option maxHeartbeats 4000000 in
set_option maxRecDepth 100000 in
theorem K_rRead0 (s : Bytes) (hs : s.length ≤ 1000) (w : World) (hG : GW w) (h : s = [] ∨ (s ≠ [] ∧ (wordsL s 32).length < 9)) :
    Calls Tryd.prog 10 #[.string ⟨s.toArray⟩] w fun e w' => e = .returned (readA s) ∧ Below w.heap.size w w' := by
  have HG := Aside0.mk hG
  have hs' : Aside0 (s.length ≤ 100000) := ⟨by omega⟩
  have hue := Tryd.underlying28
  have hua := Tryd.underlying26
  have huc := Tryd.underlying23
  have hRA : Aside0 (readP s = none) := ⟨by
    rw [← readR_eq s]; unfold readR
    rcases h with h | h
    · rw [if_neg (fun k => k.1 h)]
    · rw [if_neg (fun k => by have := k.2.1; omega)]⟩
  clear hG hs
  rcases h with h | ⟨h, h9⟩
  · subst h
    go_enter Tryd.func10, Tryd.ntmps10
    go_wp2_with (go_at_call 15; (with_reducible refine (K_Split [] 32 hs'.out _ (HG.out.of (by with_reducible repeat (first | exact Below.refl _ _ | apply below_alloc)))).mono ?_); rintro e w1 ⟨rfl, rfl⟩)
    refine bodyPost_ret (results_ct rfl _ _ w.heap.size 28 #[.int .i64 0, .int .i64 0, .int .i64 0, .int .i64 0, .int .i64 0, .int .i64 0, .int .i64 0, .int .i64 0, .bool false, .int .i64 0] (0, 0) _ rfl (blk_alloc (blk_new w _) _) hue rfl (by kernel_rfl)) rfl ?_
    exact ⟨by rw [readA_none hRA.out]; rfl, below_alloc (below_alloc (Below.refl _ _) _) _⟩
  · have hz' : List.isEmpty s = false := by cases s with | nil => exact absurd rfl h | cons => rfl
    have hne : decide ((wordsL s 32).length < 9) = true := decide_eq_true h9
    have hne2 : decide (((wordsL s 32).length : Int) < 9) = true := decide_eq_true (by omega)
    clear h
    go_enter Tryd.func10, Tryd.ntmps10
    go_wp2_with (go_at_call 15; (with_reducible refine (K_Split s 32 hs'.out _ (HG.out.of (by with_reducible repeat (first | exact Below.refl _ _ | apply below_alloc)))).mono ?_); rintro e w1 ⟨rfl, rfl⟩)
    refine bodyPost_ret (results_ct rfl _ _ w.heap.size 28 #[.int .i64 0, .int .i64 0, .int .i64 0, .int .i64 0, .int .i64 0, .int .i64 0, .int .i64 0, .int .i64 0, .bool false, .int .i64 0] (0, 0) _ rfl (blk_alloc (blk_new w _) _) hue rfl (by kernel_rfl)) rfl ?_
    exact ⟨by rw [readA_none hRA.out]; rfl, below_alloc (below_alloc (Below.refl _ _) _) _⟩
theorem K_rRead (s : Bytes) (hs : s.length ≤ 1000) (w : World) (hG : GW w) :
    Calls Tryd.prog 10 #[.string ⟨s.toArray⟩] w fun e w' => e = .returned (readA s) ∧ Below w.heap.size w w' := by
  by_cases hz : s = []
  · exact K_rRead0 s hs w hG (.inl hz)
  by_cases h9 : 9 ≤ (wordsL s 32).length
  · by_cases h : kIdx (wordAt (wordsL s 32) 4) ≥ 0
    · exact K_rRead5 s hs w hG hz h9 (by unfold kindN; rw [if_pos h])
    · exact K_rRead6 s hs w hG hz h9 (by unfold kindN; rw [if_neg h])
  · exact K_rRead0 s hs w hG (.inr ⟨hz, by omega⟩)
end Go.Proofs.YtfolhicnbabldaaDoor.PR
