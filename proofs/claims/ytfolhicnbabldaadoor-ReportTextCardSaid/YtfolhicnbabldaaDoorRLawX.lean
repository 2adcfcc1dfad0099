import Derived.Test.YtfolhicnbabldaaDoorRHead
import Derived.RangeFuncNested
import Derived.RangeFuncBound
import Derived.RangeFuncCalls
import Derived.RangeFuncLeaves
import Derived.RangeFuncBox
import Derived.Shelf.Abstract
import Derived.Shelf.RegionOpen
import Derived.OwnWalkIn
import Derived.TacticsInMore
import Derived.LoopNIn
import Derived.LoopIn
import Derived.Deep.RegionHeld3
import Derived.Deep.RegionLaw
import Derived.Laws.CopyOwn
import Derived.Laws.EntriesVeiled
import Derived.WalkKit
import Derived.BigCall
import Derived.Lib.ItoaLen
import Derived.Lib.SplitLaws
import Derived.Deep.DeepCutAuto
import Derived.KernelRfl
namespace Go.Proofs.YtfolhicnbabldaaDoor.PR
open Go.RowKit Go.Shelf Go.Proofs.YtfolhicnbabldaaDoorW.PrintWords Go.Proofs.YtfolhicnbabldaaDoorW.PrintLast Go.Proofs.YtfolhicnbabldaaDoorW.PrintMore
attribute [local go_sem] max2_int min2_int max_two min_two max_three min_three max_four min_four
set_option linter.unusedVariables false
set_option linter.unusedSimpArgs false
theorem IsEvs.take {W : World} {A : Option Addr} {n c : Nat} {l : List Ev} (h : IsEvs W (.slice A n c) l) (k : Nat) (hk : k ≤ l.length) : IsEvs W (.slice A k c) (l.take k) := by
  obtain ⟨A', c', e, hc, hC, hx⟩ := h
  cases e
  have hl : (l.take k).length = k := by rw [List.length_take]; omega
  have hC2 := Kd.C_take hC hk
  exact ⟨A, c, by rw [hl], by omega, hC2, fun x hx' => hx x (List.mem_of_mem_take hx')⟩
theorem IsEvs.drop {W : World} {A : Option Addr} {n c : Nat} {l : List Ev} (h : IsEvs W (.slice A n c) l) (k : Nat) (hk : k ≤ l.length) : IsEvs W (.slice (if c = k then A else A.map (·.add (k * 10))) (n - k) (c - k)) (l.drop k) := by
  obtain ⟨A', c', e, hc, hC, hx⟩ := h
  cases e
  have hl : (l.drop k).length = l.length - k := by rw [List.length_drop]
  have hC2 := Kd.C_drop hC hk hc
  exact ⟨_, c - k, by rw [hl]; rfl, by omega, hC2, fun x hx' => hx x (List.mem_of_mem_drop hx')⟩
set_option maxHeartbeats 4000000 in
set_option maxRecDepth 100000 in
theorem W_Text (ad : Addr) (n c : Nat) (l : List Ev) (at_ : Int) (ha0 : 0 ≤ at_) (ha1 : at_ ≤ 255) (w : World) (hL0 : IsEvs w (.slice (some ad) n c) l) (hG : GW w) : Calls Tryd.prog 6 #[.slice (some ad) n c, .int .u8 at_] w fun e w' => e = .returned (.bool true) ∧ Below w.heap.size w w' := by
  have HG := Aside0.mk hG
  have hue := Tryd.underlying28
  have hua := Tryd.underlying26
  have huc := Tryd.underlying23
  clear hG
  obtain rfl := hL0.len
  have HL := Aside0.mk hL0
  clear hL0
  by_cases h2 : l.length ≤ 100
  · have d2 : decide ((100 : Int) < (l.length : Int)) = false := decide_eq_false (by omega)
    have hl := Aside0.mk h2
    have hc : Aside0 (l.length ≤ c) := ⟨by obtain ⟨_, _, e, hc, _⟩ := HL.out; cases e; exact hc⟩
    have ht : Aside0 ((textL l).length ≤ 100000) := ⟨by have := textL_len l (fun x hx => by obtain ⟨_, _, _, _, _, hx'⟩ := HL.out; exact hx' x hx); omega⟩
    obtain ⟨k, hk⟩ : ∃ k : Nat, at_ % ((l.length : Int) + 1) = (k : Int) := ⟨(at_ % ((l.length : Int) + 1)).toNat, by have := Int.emod_nonneg at_ (b := (l.length : Int) + 1) (by omega); omega⟩
    have hkl : k ≤ l.length := by have := Int.emod_lt_of_pos at_ (b := (l.length : Int) + 1) (by omega); omega
    have hk0 : (0 : Int) ≤ (k : Int) := by omega
    have hk1 : (k : Int) ≤ (l.length : Int) := by omega
    have hk2 : (k : Int) ≤ (c : Int) := by have := hc.out; omega
    have hk3 : (l.length : Int) ≤ (c : Int) := by have := hc.out; omega
    go_enter Tryd.func6, Tryd.ntmps6
    go_upto_region 7 with (first | (go_at_call 15; (with_reducible refine (K_Split (textL l) 10 ht.out _ (HG.out.of (by with_reducible repeat (first | exact HB.out | exact Below.refl _ _ | apply below_alloc | apply below_drew1 | apply pw_below_drewN)))).mono ?_); rintro en w3 ⟨rfl, rfl⟩) | (go_at_call 13; (with_reducible refine (K_TextS l (some ad) l.length c _ (HL.out.below (by with_reducible repeat (first | exact HB.out | exact Below.refl _ _ | apply below_alloc | apply below_drew1 | apply pw_below_drewN))) hl.out (HG.out.of (by with_reducible repeat (first | exact HB.out | exact Below.refl _ _ | apply below_alloc | apply below_drew1 | apply pw_below_drewN)))).mono ?_); rintro en w2 ⟨he, hb⟩; obtain rfl : en = .returned (.string ⟨(textL l).toArray⟩) := he; have HN : Aside0 (Below w.heap.size w w2) := ⟨below_step (by with_reducible repeat (first | exact HB.out | exact Below.refl _ _ | apply below_alloc | apply below_drew1 | apply pw_below_drewN)) hb⟩; clear hb HB; have HB := HN; clear HN) | (go_at_call 8; (with_reducible refine (K_head23 _ (HG.out.of (by with_reducible repeat (first | exact Below.refl _ _ | exact Below.refl _ _ | apply below_alloc | apply below_drew1 | apply pw_below_drewN)))).mono ?_); rintro en w1 ⟨he, hb⟩; obtain rfl : en = .returned (.bool true) := he; have HN : Aside0 (Below w.heap.size w w1) := ⟨below_step (by with_reducible repeat (first | exact Below.refl _ _ | exact Below.refl _ _ | apply below_alloc | apply below_drew1 | apply pw_below_drewN)) hb⟩; clear hb; have HB := HN; clear HN))
    have HK := Aside0.mk hk
    clear hk
    obtain ⟨Wd, hWd⟩ : ∃ Wd, wordsL (textL l) 10 = Wd := ⟨_, rfl⟩
    have hWs : Aside0 (Wd = l.map lineL ++ [[]]) := ⟨by rw [← hWd, split_text]⟩
    rw [hWd]
    clear hWd
    have hwl : Aside0 (Wd.length = l.length + 1) := ⟨by rw [hWs.out]; simp⟩
    have hq1 : ((Wd.length : Int) != (l.length : Int) + 1) = false := by rw [hwl.out]; simp
    have hcat : (ByteArray.mk (textL (l.take k)).toArray ++ ByteArray.mk (textL (l.drop k)).toArray) = ByteArray.mk (textL l).toArray := by rw [ba_append, ← textL_append, List.take_append_drop]
    obtain ⟨w4, hw⟩ : ∃ X, w2.alloc (.cells (Wd.map strV).toArray 9) = X := ⟨_, rfl⟩
    have B4 : Aside0 (Below w.heap.size w w4) := ⟨by rw [← hw]; exact below_alloc HB.out _⟩
    have D4 : Aside0 (w4.heap[w2.heap.size]? = some (.cells (Wd.map strV).toArray 9 (0, 0))) := ⟨by rw [← hw]; exact blk_new _ _⟩
    rw [hw]
    clear hw HB
    have HG4 := Aside0.mk (HG.out.of B4.out)
    have HL4 := Aside0.mk (HL.out.below B4.out)
    have HT : Aside0 (∀ X : World, Below w4.heap.size w4 X → Calls Tryd.prog 13 #[.slice (some ad) k c] X fun e w' => e = .returned (.string ⟨(textL (l.take k)).toArray⟩) ∧ Below X.heap.size X w') := ⟨fun X hX => K_TextS (l.take k) (some ad) k c X ((HL4.out.take k hkl).below hX) (by rw [List.length_take]; have := hl.out; omega) (HG4.out.of hX)⟩
    have HD : Aside0 (∀ X : World, Below w4.heap.size w4 X → Calls Tryd.prog 13 #[.slice (if c = k then some ad else some (ad.add (k * 10))) (l.length - k) (c - k)] X fun e w' => e = .returned (.string ⟨(textL (l.drop k)).toArray⟩) ∧ Below X.heap.size X w') := ⟨fun X hX => K_TextS (l.drop k) _ (l.length - k) (c - k) X ((HL4.out.drop k hkl).below hX) (by rw [List.length_drop]; have := hl.out; omega) (HG4.out.of hX)⟩
    have m12 : (textL (l.take k)).length + (textL (l.drop k)).length ≤ 100000 := by rw [← List.length_append, ← textL_append, List.take_append_drop]; exact ht.out
    obtain ⟨ta, hta⟩ : ∃ ta, textL (l.take k) = ta := ⟨_, rfl⟩
    obtain ⟨tb, htb⟩ : ∃ tb, textL (l.drop k) = tb := ⟨_, rfl⟩
    rw [hta] at HT hcat m12
    rw [htb] at HD hcat m12
    have HTA := Aside0.mk hta
    have HTB := Aside0.mk htb
    clear hta htb
    have Hq1 := Aside0.mk hq1
    have hwrap : Aside0 (IntKind.i64.wrap ((l.length : Int) + 1) = (l.length : Int) + 1) := ⟨IntWalk.i64_in _ (by omega)⟩
    clear hq1
    go_cut [43] (fun s43 wx => s43 = .bool false ∧ Aside0 (Below w4.heap.size w4 wx))
    case first =>
      have hcat' := Aside0.mk hcat
      have m1 : ¬ 9223372036854775807 < ta.length + tb.length := by omega
      have m3 : ta.length + tb.length ≤ 9223372036854775807 := by omega
      clear m12
      by_cases hck : c = k
      · obtain rfl : k = l.length := by have := hc.out; omega
        subst hck
        have HT0 : Aside0 (∀ X : World, Below w4.heap.size w4 X → Calls Tryd.prog 13 #[.slice (some ad) l.length l.length] X fun e w' => e = .returned (.string ⟨(textL l).toArray⟩) ∧ Below X.heap.size X w') := ⟨fun X hX => K_TextS l (some ad) l.length l.length X (HL4.out.below hX) hl.out (HG4.out.of hX)⟩
        have HD0 : Aside0 (∀ X : World, Below w4.heap.size w4 X → Calls Tryd.prog 13 #[.slice (some ad) 0 0] X fun e w' => e = .returned (.string ⟨#[]⟩) ∧ Below X.heap.size X w') := ⟨fun X hX => K_TextS [] (some ad) 0 0 X (by have h := (HL4.out.drop l.length (Nat.le_refl _)).below hX; rw [if_pos rfl, List.drop_length, Nat.sub_self] at h; exact h) (by simp) (HG4.out.of hX)⟩
        have hcat0 : (ByteArray.mk (textL l).toArray ++ ByteArray.mk #[]) = ByteArray.mk (textL l).toArray := by have h := ba_append (textL l) []; rw [List.append_nil] at h; exact h
        have m0 : ¬ 9223372036854775807 < (textL l).length := by have := ht.out; omega
        have m2 : (textL l).length ≤ 9223372036854775807 := by have := ht.out; omega
        clear HT HD hcat hcat'
        go_region_held3 (fun _ => True) (trivial) (first | (go_at_call 13; (with_reducible refine (HD0.out _ ?_).mono ?_); exact (by with_reducible repeat (first | exact Below.refl _ _ | assumption | exact Aside0.out (by assumption) | apply below_alloc | apply below_drew1 | apply pw_below_drewN)); rintro en wz ⟨rfl, hb⟩; have BZ := Aside0.mk (below_step (w := w4) (by with_reducible repeat (first | exact Below.refl _ _ | assumption | exact Aside0.out (by assumption) | apply below_alloc | apply below_drew1 | apply pw_below_drewN)) hb); clear hb) | (go_at_call 13; (with_reducible refine (HT0.out _ ?_).mono ?_); exact (by with_reducible repeat (first | exact Below.refl _ _ | assumption | exact Aside0.out (by assumption) | apply below_alloc | apply below_drew1 | apply pw_below_drewN)); rintro en wz ⟨rfl, hb⟩; have BZ := Aside0.mk (below_step (w := w4) (by with_reducible repeat (first | exact Below.refl _ _ | assumption | exact Aside0.out (by assumption) | apply below_alloc | apply below_drew1 | apply pw_below_drewN)) hb); clear hb))
        all_goals
          go_wp2_with (fail)
          go_meet
          exact ⟨by rw [hwrap.out, Hq1.out], BZ⟩
      · have HD' := HD.out
        rw [if_neg hck] at HD'
        have hD2 := Aside0.mk HD'
        clear HD' HD
        go_region_held3 (fun _ => True) (trivial) (first | (go_at_call 13; (with_reducible refine (hD2.out _ ?_).mono ?_); exact (by with_reducible repeat (first | exact Below.refl _ _ | assumption | exact Aside0.out (by assumption) | apply below_alloc | apply below_drew1 | apply pw_below_drewN)); rintro en wz ⟨rfl, hb⟩; have BZ := Aside0.mk (below_step (w := w4) (by with_reducible repeat (first | exact Below.refl _ _ | assumption | exact Aside0.out (by assumption) | apply below_alloc | apply below_drew1 | apply pw_below_drewN)) hb); clear hb) | (go_at_call 13; (with_reducible refine (HT.out _ ?_).mono ?_); exact (by with_reducible repeat (first | exact Below.refl _ _ | assumption | exact Aside0.out (by assumption) | apply below_alloc | apply below_drew1 | apply pw_below_drewN)); rintro en wz ⟨rfl, hb⟩; have BZ := Aside0.mk (below_step (w := w4) (by with_reducible repeat (first | exact Below.refl _ _ | assumption | exact Aside0.out (by assumption) | apply below_alloc | apply below_drew1 | apply pw_below_drewN)) hb); clear hb))
        all_goals
          go_wp2_with (fail)
          go_meet
          exact ⟨by rw [hwrap.out, Hq1.out], BZ⟩
    case rest =>
      obtain ⟨rfl, BW⟩ := hcut
      go_wp2_with (fail)
      go_loopg [9] l.length (fun gg s9 wr => ∃ kk : Nat, kk ≤ l.length ∧ l.length - kk ≤ gg ∧ s9 = .int .i64 kk ∧ Aside0 (Below w4.heap.size w4 wr))
      case atStart => exact ⟨0, by omega, by omega, rfl, BW⟩
      case round =>
        obtain ⟨kk, hkk, hg, rfl, BR⟩ := hrel
        obtain ⟨WR, rfl⟩ : ∃ WR, WR = wr := ⟨_, rfl⟩
        by_cases hlt : kk < l.length
        · have hltb : decide ((kk : Int) < (l.length : Int)) = true := decide_eq_true (by omega)
          have hq0 : (0 : Int) ≤ (kk : Int) := by omega
          have hqn : (kk : Int) < (l.length : Int) := by omega
          have hqw : (kk : Int) < (Wd.length : Int) := by have := hwl.out; omega
          have hn1 : (l.length : Int) ≤ 100 := by omega
          have hok := Aside0.mk (HL4.out.ok kk hlt)
          obtain ⟨ad', had, y0, y1, y2, y3, y4, y5, y6, y7, y8, y9⟩ := (HL4.out.below BR.out).at kk hlt
          cases had
          have cw : WR.cell? ⟨w2.heap.size, kk, none⟩ = some (.string ⟨(lineL (evAt l kk)).toArray⟩) := by
            rw [blk_cell (blk_below D4.out BR.out) kk, hWs.out]
            simp [strV, evAt_lt hlt, List.getElem?_append_left, hlt]
          have BR0 := BR
          go_upto_region 12 with (fail)
          go_region_held3 (fun w' => w'.cell? ⟨w2.heap.size, kk, none⟩ = some (.string ⟨(lineL (evAt l kk)).toArray⟩) ∧ w'.cell? (ad.add (kk * 10)) = some (.int .i64 (evAt l kk).wh) ∧ w'.cell? ⟨(ad.add (kk * 10)).block, (ad.add (kk * 10)).off + 1, none⟩ = some (.int .i64 (evAt l kk).th) ∧ w'.cell? ⟨(ad.add (kk * 10)).block, (ad.add (kk * 10)).off + 2, none⟩ = some (.int .i64 (evAt l kk).kd) ∧ w'.cell? ⟨(ad.add (kk * 10)).block, (ad.add (kk * 10)).off + 3, none⟩ = some (.int .i64 (evAt l kk).ck) ∧ w'.cell? ⟨(ad.add (kk * 10)).block, (ad.add (kk * 10)).off + 4, none⟩ = some (.int .i64 (evAt l kk).cv) ∧ w'.cell? ⟨(ad.add (kk * 10)).block, (ad.add (kk * 10)).off + 5, none⟩ = some (.int .i64 (evAt l kk).cn) ∧ w'.cell? ⟨(ad.add (kk * 10)).block, (ad.add (kk * 10)).off + 6, none⟩ = some (.int .i64 (evAt l kk).er) ∧ w'.cell? ⟨(ad.add (kk * 10)).block, (ad.add (kk * 10)).off + 7, none⟩ = some (.int .i64 (evAt l kk).an) ∧ w'.cell? ⟨(ad.add (kk * 10)).block, (ad.add (kk * 10)).off + 8, none⟩ = some (.bool (evAt l kk).ex) ∧ w'.cell? ⟨(ad.add (kk * 10)).block, (ad.add (kk * 10)).off + 9, none⟩ = some (.int .i64 (evAt l kk).nd)) ((go_split_ands; (repeat' apply And.intro); all_goals (exact below_cell_of (W := WR) (by with_reducible repeat (first | exact Below.refl _ _ | assumption | exact Aside0.out (by assumption) | apply below_alloc | apply below_drew1 | apply pw_below_drewN)) (by assumption)))) ((go_at_call 11; (with_reducible refine (K_LineS (evAt l kk) hok.out _ (HG4.out.of ?_)).mono ?_); (refine below_step BR0.out ?_; exact (by with_reducible repeat (first | exact Below.refl _ _ | assumption | exact Aside0.out (by assumption) | apply below_alloc | apply below_drew1 | apply pw_below_drewN))); rintro en wz ⟨rfl, hb⟩; have BZ := Aside0.mk (below_step (w := WR) (by with_reducible repeat (first | exact Below.refl _ _ | assumption | exact Aside0.out (by assumption) | apply below_alloc | apply below_drew1 | apply pw_below_drewN)) hb); clear hb))
          all_goals
            go_wp2_with (fail)
            skip
            go_roundg (l.length - (kk + 1))
            case measure => omega
            case rel => exact ⟨kk + 1, by omega, by omega, by go_num, ⟨below_step BR0.out BZ.out⟩⟩
        · have hkl2 : kk = l.length := by omega
          subst hkl2
          have hlnb : decide (l.length < l.length) = false := decide_eq_false (by omega)
          go_wp2_with (fail)
          go_ret
          exact ⟨rfl, below_step B4.out BR.out⟩
  · have d2 : decide ((100 : Int) < (l.length : Int)) = true := decide_eq_true (by omega)
    clear h2
    go_enter Tryd.func6, Tryd.ntmps6
    go_wp2_with (first | (go_at_call 8; (with_reducible refine (K_head23 _ (HG.out.of (by with_reducible repeat (first | exact Below.refl _ _ | exact Below.refl _ _ | apply below_alloc | apply below_drew1 | apply pw_below_drewN)))).mono ?_); rintro en w1 ⟨he, hb⟩; obtain rfl : en = .returned (.bool true) := he; have HN : Aside0 (Below w.heap.size w w1) := ⟨below_step (by with_reducible repeat (first | exact Below.refl _ _ | exact Below.refl _ _ | apply below_alloc | apply below_drew1 | apply pw_below_drewN)) hb⟩; clear hb; have HB := HN; clear HN))
    go_ret
    exact ⟨rfl, (by with_reducible repeat (first | exact HB.out | exact Below.refl _ _ | apply below_alloc | apply below_drew1 | apply pw_below_drewN))⟩
set_option maxHeartbeats 4000000 in
set_option maxRecDepth 100000 in
theorem W_TextNil (at_ : Int) (ha0 : 0 ≤ at_) (ha1 : at_ ≤ 255) (w : World) (hG : GW w) : Calls Tryd.prog 6 #[.slice none 0 0, .int .u8 at_] w fun e w' => e = .returned (.bool true) ∧ Below w.heap.size w w' := by
  have HG := Aside0.mk hG
  have hue := Tryd.underlying28
  have hua := Tryd.underlying26
  have huc := Tryd.underlying23
  clear hG
  have HT0 : Aside0 (∀ X : World, GW X → Calls Tryd.prog 13 #[.slice none 0 0] X fun e w' => e = .returned (.string ⟨#[]⟩) ∧ Below X.heap.size X w') := ⟨fun X hX => K_TextS [] none 0 0 X ⟨none, 0, rfl, Nat.le_refl _, Kd.C_nil _ _, fun x hx => by cases hx⟩ (by simp) hX⟩
  have hk : at_ % 1 = 0 := by omega
  have hcat0 : (ByteArray.mk #[] ++ ByteArray.mk #[]) = ByteArray.mk #[] := rfl
  have hw0 : wordsL [] 10 = [[]] := by rfl
  go_enter Tryd.func6, Tryd.ntmps6
  go_upto_region 7 with (first | (go_at_call 15; (with_reducible refine (K_Split [] 10 (by decide) _ (HG.out.of (by with_reducible repeat (first | exact HB.out | exact Below.refl _ _ | apply below_alloc | apply below_drew1 | apply pw_below_drewN)))).mono ?_); rintro en w3 ⟨rfl, rfl⟩) | (go_at_call 13; (with_reducible refine (HT0.out _ (HG.out.of (by with_reducible repeat (first | exact HB.out | exact Below.refl _ _ | apply below_alloc | apply below_drew1 | apply pw_below_drewN)))).mono ?_); rintro en w2 ⟨he, hb⟩; obtain rfl : en = .returned (.string ⟨#[]⟩) := he; have HN : Aside0 (Below w.heap.size w w2) := ⟨below_step (by with_reducible repeat (first | exact HB.out | exact Below.refl _ _ | apply below_alloc | apply below_drew1 | apply pw_below_drewN)) hb⟩; clear hb HB; have HB := HN; clear HN) | (go_at_call 8; (with_reducible refine (K_head23 _ (HG.out.of (by with_reducible repeat (first | exact Below.refl _ _ | exact Below.refl _ _ | apply below_alloc | apply below_drew1 | apply pw_below_drewN)))).mono ?_); rintro en w1 ⟨he, hb⟩; obtain rfl : en = .returned (.bool true) := he; have HN : Aside0 (Below w.heap.size w w1) := ⟨below_step (by with_reducible repeat (first | exact Below.refl _ _ | exact Below.refl _ _ | apply below_alloc | apply below_drew1 | apply pw_below_drewN)) hb⟩; clear hb; have HB := HN; clear HN))
  obtain ⟨w4, hw⟩ : ∃ X, w2.alloc (.cells #[strV []] 9) = X := ⟨_, rfl⟩
  have B4 : Aside0 (Below w.heap.size w w4) := ⟨by rw [← hw]; exact below_alloc HB.out _⟩
  rw [hw]
  clear hw HB
  have HG4 := Aside0.mk (HG.out.of B4.out)
  go_region_held3 (fun _ => True) (trivial) ((go_at_call 13; (with_reducible refine (HT0.out _ (HG4.out.of ?_)).mono ?_); exact (by with_reducible repeat (first | exact Below.refl _ _ | assumption | exact Aside0.out (by assumption) | apply below_alloc | apply below_drew1 | apply pw_below_drewN)); rintro en wz ⟨rfl, hb⟩; have BZ := Aside0.mk (below_step (w := w4) (by with_reducible repeat (first | exact Below.refl _ _ | assumption | exact Aside0.out (by assumption) | apply below_alloc | apply below_drew1 | apply pw_below_drewN)) hb); clear hb))
  go_wp2_with (fail)
  go_loopg [9] 0 (fun gg s9 wr => s9 = .int .i64 0 ∧ Aside0 (Below w.heap.size w wr))
  case atStart => exact ⟨rfl, ⟨below_step B4.out BZ.out⟩⟩
  case round =>
    obtain ⟨rfl, BR⟩ := hrel
    go_wp2_with (fail)
    go_ret
    exact ⟨rfl, BR.out⟩
end Go.Proofs.YtfolhicnbabldaaDoor.PR
