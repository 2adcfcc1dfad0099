import Derived.Test.YtfolhicnbabldaaDoorREv
import Derived.RangeFuncNested
import Derived.RangeFuncBound
import Derived.RangeFuncCalls
import Derived.RangeFuncLeaves
import Derived.RangeFuncBox
import Derived.Shelf.Abstract
import Derived.Shelf.RegionOpen
import Derived.OwnWalkIn
import Derived.TacticsInMore
import Derived.LoopNIn
import Derived.LoopIn
import Derived.Deep.RegionHeld3
import Derived.Deep.RegionLaw
import Derived.Laws.CopyOwn
import Derived.Laws.EntriesVeiled
import Derived.WalkKit
import Derived.BigCall
import Derived.Lib.ItoaLen
namespace Go.Proofs.YtfolhicnbabldaaDoor.PR
open Go.RowKit Go.Shelf Go.Proofs.YtfolhicnbabldaaDoorW.PrintWords Go.Proofs.YtfolhicnbabldaaDoorW.PrintLast Go.Proofs.YtfolhicnbabldaaDoorW.PrintMore
attribute [local go_sem] max2_int min2_int max_two min_two max_three min_three max_four min_four
set_option linter.unusedVariables false
set_option linter.unusedSimpArgs false
theorem wlen {l s : Bytes} (hl : l.length ≤ 100000) (hs : s.length ≤ 10) : l.length + s.length ≤ 1000000 := by omega
theorem LineAt.lt {W w : World} {b : Nat} {l : Bytes} (h : LineAt W w b l) : b < w.heap.size := by
  rcases h.1 with ⟨_, v, hb, _⟩ | ⟨_, v, hb, _⟩ <;> exact blk_lt hb
theorem KL.blk {w w' : World} {b g t : Nat} {cs : Array Value} (h : KL w w' b) (hg : w.heap[g]? = some (.cells cs t (0, 0))) (ht : t ≠ 5) (hne : g ≠ b) : w'.heap[g]? = some (.cells cs t (0, 0)) := h.same g cs t _ hg ht hne
theorem K_num_call (W w : World) (b : Nat) (l : Bytes) (n : Int) (hn : I64 n) (hG : GW W) (h : LineAt W w b l) (hl : l.length ≤ 100000) : Calls Tryd.prog 24 #[.pointer (some ⟨b, 0, none⟩), .string ⟨#[99, 97, 108, 108]⟩, .int .i64 n] w fun e w' => e = .returned (.tuple #[]) ∧ LineAt W w' b (addW (addW l wCall) (Lib.itoa n)) ∧ KL w w' b := K_number W w b l wCall n (by decide) (by decide) hn.1 hn.2 hG h hl
theorem K_num_node (W w : World) (b : Nat) (l : Bytes) (n : Int) (hn : I64 n) (hG : GW W) (h : LineAt W w b l) (hl : l.length ≤ 100000) : Calls Tryd.prog 24 #[.pointer (some ⟨b, 0, none⟩), .string ⟨#[110, 111, 100, 101]⟩, .int .i64 n] w fun e w' => e = .returned (.tuple #[]) ∧ LineAt W w' b (addW (addW l wNode) (Lib.itoa n)) ∧ KL w w' b := K_number W w b l wNode n (by decide) (by decide) hn.1 hn.2 hG h hl
theorem K_num_n (W w : World) (b : Nat) (l : Bytes) (n : Int) (hn : I64 n) (hG : GW W) (h : LineAt W w b l) (hl : l.length ≤ 100000) : Calls Tryd.prog 24 #[.pointer (some ⟨b, 0, none⟩), .string ⟨#[110]⟩, .int .i64 n] w fun e w' => e = .returned (.tuple #[]) ∧ LineAt W w' b (addW (addW l wN) (Lib.itoa n)) ∧ KL w w' b := K_number W w b l wN n (by decide) (by decide) hn.1 hn.2 hG h hl
theorem K_num_err (W w : World) (b : Nat) (l : Bytes) (n : Int) (hn : I64 n) (hG : GW W) (h : LineAt W w b l) (hl : l.length ≤ 100000) : Calls Tryd.prog 24 #[.pointer (some ⟨b, 0, none⟩), .string ⟨#[101, 114, 114]⟩, .int .i64 n] w fun e w' => e = .returned (.tuple #[]) ∧ LineAt W w' b (addW (addW l wErr) (Lib.itoa n)) ∧ KL w w' b := K_number W w b l wErr n (by decide) (by decide) hn.1 hn.2 hG h hl
theorem K_num_ok (W w : World) (b : Nat) (l : Bytes) (n : Int) (hn : I64 n) (hG : GW W) (h : LineAt W w b l) (hl : l.length ≤ 100000) : Calls Tryd.prog 24 #[.pointer (some ⟨b, 0, none⟩), .string ⟨#[111, 107]⟩, .int .i64 n] w fun e w' => e = .returned (.tuple #[]) ∧ LineAt W w' b (addW (addW l wOk) (Lib.itoa n)) ∧ KL w w' b := K_number W w b l wOk n (by decide) (by decide) hn.1 hn.2 hG h hl
theorem K_num_at (W w : World) (b : Nat) (l : Bytes) (n : Int) (hn : I64 n) (hG : GW W) (h : LineAt W w b l) (hl : l.length ≤ 100000) : Calls Tryd.prog 24 #[.pointer (some ⟨b, 0, none⟩), .string ⟨#[97, 116]⟩, .int .i64 n] w fun e w' => e = .returned (.tuple #[]) ∧ LineAt W w' b (addW (addW l wAt) (Lib.itoa n)) ∧ KL w w' b := K_number W w b l wAt n (by decide) (by decide) hn.1 hn.2 hG h hl
theorem K_num_thread (W w : World) (b : Nat) (l : Bytes) (n : Int) (hn : I64 n) (hG : GW W) (h : LineAt W w b l) (hl : l.length ≤ 100000) : Calls Tryd.prog 24 #[.pointer (some ⟨b, 0, none⟩), .string ⟨#[116, 104, 114, 101, 97, 100]⟩, .int .i64 n] w fun e w' => e = .returned (.tuple #[]) ∧ LineAt W w' b (addW (addW l wThread) (Lib.itoa n)) ∧ KL w w' b := K_number W w b l wThread n (by decide) (by decide) hn.1 hn.2 hG h hl
theorem K_w_begin (W w : World) (b : Nat) (l : Bytes) (h : LineAt W w b l) (hl : l.length ≤ 100000) : Calls Tryd.prog 25 #[.pointer (some ⟨b, 0, none⟩), .string ⟨#[98, 101, 103, 105, 110]⟩] w fun e w' => e = .returned (.tuple #[]) ∧ LineAt W w' b (addW l wBegin) ∧ KL w w' b := K_word W w b l wBegin h (wlen hl (by decide))
theorem K_w_end (W w : World) (b : Nat) (l : Bytes) (h : LineAt W w b l) (hl : l.length ≤ 100000) : Calls Tryd.prog 25 #[.pointer (some ⟨b, 0, none⟩), .string ⟨#[101, 110, 100]⟩] w fun e w' => e = .returned (.tuple #[]) ∧ LineAt W w' b (addW l wEnd) ∧ KL w w' b := K_word W w b l wEnd h (wlen hl (by decide))
theorem K_w_exact (W w : World) (b : Nat) (l : Bytes) (h : LineAt W w b l) (hl : l.length ≤ 100000) : Calls Tryd.prog 25 #[.pointer (some ⟨b, 0, none⟩), .string ⟨#[101, 120, 97, 99, 116]⟩] w fun e w' => e = .returned (.tuple #[]) ∧ LineAt W w' b (addW l wExact) ∧ KL w w' b := K_word W w b l wExact h (wlen hl (by decide))
theorem K_w_near (W w : World) (b : Nat) (l : Bytes) (h : LineAt W w b l) (hl : l.length ≤ 100000) : Calls Tryd.prog 25 #[.pointer (some ⟨b, 0, none⟩), .string ⟨#[110, 101, 97, 114]⟩] w fun e w' => e = .returned (.tuple #[]) ∧ LineAt W w' b (addW l wNear) ∧ KL w w' b := K_word W w b l wNear h (wlen hl (by decide))
theorem K_num_none (W w : World) (b : Nat) (l : Bytes) (n : Int) (hn : I64 n) (hG : GW W) (h : LineAt W w b l) (hl : l.length ≤ 100000) : Calls Tryd.prog 24 #[.pointer (some ⟨b, 0, none⟩), .string ⟨#[]⟩, .int .i64 n] w fun e w' => e = .returned (.tuple #[]) ∧ LineAt W w' b (addW l (Lib.itoa n)) ∧ KL w w' b := K_number0 W w b l n hn.1 hn.2 hG h hl
theorem addN_len (l s : Bytes) (n : Int) (hn : I64 n) (hs : s.length ≤ 10) : (addW (addW l s) (Lib.itoa n)).length ≤ l.length + 40 := by
  have h1 := addW_len l s
  have h2 := addW_len (addW l s) (Lib.itoa n)
  have h3 := itoa_len n hn.1 hn.2
  omega
theorem addB_len (l s : Bytes) (hs : s.length ≤ 10) : (addW l s).length ≤ l.length + 40 := by
  have h1 := addW_len l s
  omega
theorem nameW_len (k : Int) : (nameW k).length ≤ 10 := by
  unfold nameW
  (repeat' split) <;> decide
theorem kindW_len (l : Bytes) (k : Int) (hk : I64 k) : (kindW l k).length ≤ l.length + 40 := by
  unfold kindW
  split
  · exact addB_len _ _ (nameW_len k)
  · exact addN_len _ _ _ hk (by decide)

def namesA : Array Value := #[strV [], strV wAdmit, strV wRelease, strV wRaise, strV wLower, strV wUsage, strV wPeek]
theorem box3 {W : World} {g t : Nat} {x0 x1 x2 : Value} (h : W.heap[g]? = some (.cells #[x0, x1, x2] t (0, 0))) :
    W.cell? ⟨g, 0, none⟩ = some x0 ∧ W.cell? ⟨g, 1, none⟩ = some x1 ∧ W.cell? ⟨g, 2, none⟩ = some x2 :=
  ⟨(blk_cell h 0).trans rfl, (blk_cell h 1).trans rfl, (blk_cell h 2).trans rfl⟩
theorem names_cell (w : World) (k : Int) (h0 : 0 < k) (h7 : k < 7) : (w.alloc (.cells #[.string ⟨#[]⟩, .string ⟨#[97, 100, 109, 105, 116]⟩, .string ⟨#[114, 101, 108, 101, 97, 115, 101]⟩, .string ⟨#[114, 97, 105, 115, 101]⟩, .string ⟨#[108, 111, 119, 101, 114]⟩, .string ⟨#[117, 115, 97, 103, 101]⟩, .string ⟨#[112, 101, 101, 107]⟩] 69)).cell? ⟨w.heap.size, k.toNat, none⟩ = some (strV (nameW k)) := by
  rw [blk_cell (blk_new w _)]
  obtain ⟨m, rfl⟩ : ∃ m : Nat, k = (m : Int) := ⟨k.toNat, by omega⟩
  have hm : m < 7 := by omega
  have hp : 0 < m := by omega
  match m, hm, hp with
  | 1, _, _ => rfl
  | 2, _, _ => rfl
  | 3, _, _ => rfl
  | 4, _, _ => rfl
  | 5, _, _ => rfl
  | 6, _, _ => rfl
set_option maxHeartbeats 4000000 in
set_option maxRecDepth 100000 in
theorem K_call (W w : World) (b : Nat) (l : Bytes) (k v n : Int) (hk : I64 k) (hv : I64 v) (hn : I64 n) (hG : GW W) (h : LineAt W w b l) (hl : l.length ≤ 1000) :
    Calls Tryd.prog 26 #[.pointer (some ⟨b, 0, none⟩), .agg #[.int .i64 k, .int .i64 v, .int .i64 n]] w fun e w' => e = .returned (.tuple #[]) ∧ LineAt W w' b (callW l k v n) ∧ KL w w' b := by
  have H := Aside0.mk h
  have HL := Aside0.mk hl
  have HG := Aside0.mk hG
  have HK := Aside0.mk hk
  have HV := Aside0.mk hv
  have HN := Aside0.mk hn
  have huc := Tryd.underlying23
  have hus := Tryd.underlying69
  have hqb : Aside0 (w.heap.size ≠ b) := ⟨Nat.ne_of_gt h.lt⟩
  clear h hl hG hk hv hn
  by_cases hin : 0 < k ∧ k < 7
  · obtain ⟨hk0, hk7⟩ := hin
    have hkd : Aside0 (addW l (nameW k) = kindW l k) := ⟨by unfold kindW; rw [if_pos ⟨hk0, hk7⟩]⟩
    have hk0b : decide (0 < k) = true := decide_eq_true hk0
    have hk7b : decide (k < 7) = true := decide_eq_true hk7
    have hk0' : 0 ≤ k := by omega
    go_enter Tryd.func26, Tryd.ntmps26
    go_wp2_with (go_at_call 36; (with_reducible refine (K_names _).mono ?_); rintro e w1 ⟨he, hb⟩; obtain rfl : e = .returned (.agg #[.string ⟨#[]⟩, .string ⟨#[97, 100, 109, 105, 116]⟩, .string ⟨#[114, 101, 108, 101, 97, 115, 101]⟩, .string ⟨#[114, 97, 105, 115, 101]⟩, .string ⟨#[108, 111, 119, 101, 114]⟩, .string ⟨#[117, 115, 97, 103, 101]⟩, .string ⟨#[112, 101, 101, 107]⟩]) := he; have HX1 := Aside0.mk (blk_below (g := w.heap.size) (blk_new w (.cells #[.int .i64 k, .int .i64 v, .int .i64 n] 23)) hb); have H1 : Aside0 (LineAt W w1 b l) := ⟨H.out.grow ((below_alloc (Below.refl _ _) _).trans (hb.mono (by simp)))⟩; have HK1 : Aside0 (KL w w1 b) := ⟨KL.of_below ((below_alloc (Below.refl _ _) _).trans (hb.mono (by simp))) b⟩; have hq1 : Aside0 (w.heap.size < w1.heap.size) := ⟨by have := hb.size; simp at this; omega⟩; clear hb; obtain ⟨x0, x1, x2⟩ := box3 (blk_alloc HX1.out (.cells #[.string ⟨#[]⟩, .string ⟨#[97, 100, 109, 105, 116]⟩, .string ⟨#[114, 101, 108, 101, 97, 115, 101]⟩, .string ⟨#[114, 97, 105, 115, 101]⟩, .string ⟨#[108, 111, 119, 101, 114]⟩, .string ⟨#[117, 115, 97, 103, 101]⟩, .string ⟨#[112, 101, 101, 107]⟩] 69)); have nk := names_cell w1 k hk0 hk7)
    obtain ⟨kd, hres'⟩ : ∃ kd, kindW l k = kd := ⟨_, rfl⟩
    have hres := Aside0.mk hres'
    rw [hres'] at hkd
    clear hres'
    go_wp2_with (first | (go_at_call 24; (with_reducible refine (K_num_node W _ b _ v HV.out HG.out H2.out ?_).mono ?_); (have := HL.out; have := kindW_len l k HK.out; rw [hres.out] at this; omega); rintro e w3 ⟨rfl, h, hk⟩; have H3 := Aside0.mk h; have HX3 := Aside0.mk (hk.blk HX2.out (by decide) hqb.out); have HK3 := Aside0.mk hk; clear h hk x0 x1 x2 H2 HX2; obtain ⟨x0, x1, x2⟩ := box3 HX3.out) | (go_at_call 24; (with_reducible refine (K_num_n W _ b _ n HN.out HG.out H3.out ?_).mono ?_); (have := HL.out; have h1 := kindW_len l k HK.out; rw [hres.out] at h1; have := addN_len kd wNode v HV.out (by decide); omega); rintro e w4 ⟨rfl, h, hk⟩; have H4 := Aside0.mk h; have HK4 := Aside0.mk hk; clear h hk) | (go_at_call 25; (with_reducible refine (K_word W _ b l (nameW k) (H1.out.grow (below_alloc (Below.refl _ _) _)) ?_).mono ?_); (have := HL.out; have := nameW_len k; omega); rintro e w2 ⟨rfl, h, hk⟩; have H2 : Aside0 (LineAt W w2 b kd) := ⟨by rw [← hkd.out]; exact h⟩; have HX2 := Aside0.mk (hk.blk (blk_alloc HX1.out _) (by decide) hqb.out); have HK2 := Aside0.mk hk; clear h hk x0 x1 x2 nk H1 HX1; obtain ⟨x0, x1, x2⟩ := box3 HX2.out))
    go_end0
    refine ⟨rfl, ?_, ((HK1.out.trans (KL.of_below (below_alloc (Below.refl _ _) _) b)).trans HK2.out).trans (HK3.out.trans HK4.out)⟩
    unfold callW
    rw [hres.out]
    exact H4.out
  · have hkd : Aside0 (addW (addW l wCall) (Lib.itoa k) = kindW l k) := ⟨by unfold kindW; rw [if_neg hin]⟩
    obtain ⟨kd, hres'⟩ : ∃ kd, kindW l k = kd := ⟨_, rfl⟩
    have hres := Aside0.mk hres'
    rw [hres'] at hkd
    clear hres'
    by_cases hk0 : 0 < k
    · have hk0b : decide (0 < k) = true := decide_eq_true hk0
      have hk7b : decide (k < 7) = false := decide_eq_false (by omega)
      clear hin
      go_enter Tryd.func26, Tryd.ntmps26
      go_wp2_with (go_at_call 36; (with_reducible refine (K_names _).mono ?_); rintro e w1 ⟨he, hb⟩; obtain rfl : e = .returned (.agg #[.string ⟨#[]⟩, .string ⟨#[97, 100, 109, 105, 116]⟩, .string ⟨#[114, 101, 108, 101, 97, 115, 101]⟩, .string ⟨#[114, 97, 105, 115, 101]⟩, .string ⟨#[108, 111, 119, 101, 114]⟩, .string ⟨#[117, 115, 97, 103, 101]⟩, .string ⟨#[112, 101, 101, 107]⟩]) := he; have HX1 := Aside0.mk (blk_below (g := w.heap.size) (blk_new w (.cells #[.int .i64 k, .int .i64 v, .int .i64 n] 23)) hb); have H1 : Aside0 (LineAt W w1 b l) := ⟨H.out.grow ((below_alloc (Below.refl _ _) _).trans (hb.mono (by simp)))⟩; have HK1 : Aside0 (KL w w1 b) := ⟨KL.of_below ((below_alloc (Below.refl _ _) _).trans (hb.mono (by simp))) b⟩; have hq1 : Aside0 (w.heap.size < w1.heap.size) := ⟨by have := hb.size; simp at this; omega⟩; clear hb; obtain ⟨x0, x1, x2⟩ := box3 (blk_alloc HX1.out (.cells #[.string ⟨#[]⟩, .string ⟨#[97, 100, 109, 105, 116]⟩, .string ⟨#[114, 101, 108, 101, 97, 115, 101]⟩, .string ⟨#[114, 97, 105, 115, 101]⟩, .string ⟨#[108, 111, 119, 101, 114]⟩, .string ⟨#[117, 115, 97, 103, 101]⟩, .string ⟨#[112, 101, 101, 107]⟩] 69)))
      go_wp2_with (first | (go_at_call 24; (with_reducible refine (K_num_node W _ b _ v HV.out HG.out H2.out ?_).mono ?_); (have := HL.out; have := kindW_len l k HK.out; rw [hres.out] at this; omega); rintro e w3 ⟨rfl, h, hk⟩; have H3 := Aside0.mk h; have HX3 := Aside0.mk (hk.blk HX2.out (by decide) hqb.out); have HK3 := Aside0.mk hk; clear h hk x0 x1 x2 H2 HX2; obtain ⟨x0, x1, x2⟩ := box3 HX3.out) | (go_at_call 24; (with_reducible refine (K_num_n W _ b _ n HN.out HG.out H3.out ?_).mono ?_); (have := HL.out; have h1 := kindW_len l k HK.out; rw [hres.out] at h1; have := addN_len kd wNode v HV.out (by decide); omega); rintro e w4 ⟨rfl, h, hk⟩; have H4 := Aside0.mk h; have HK4 := Aside0.mk hk; clear h hk) | (go_at_call 24; (with_reducible refine (K_num_call W _ b l k HK.out HG.out (H1.out.grow (below_alloc (Below.refl _ _) _)) ?_).mono ?_); (have := HL.out; omega); rintro e w2 ⟨rfl, h, hk⟩; have H2 : Aside0 (LineAt W w2 b kd) := ⟨by rw [← hkd.out]; exact h⟩; have HX2 := Aside0.mk (hk.blk (blk_alloc HX1.out _) (by decide) hqb.out); have HK2 := Aside0.mk hk; clear h hk x0 x1 x2 H1 HX1; obtain ⟨x0, x1, x2⟩ := box3 HX2.out))
      go_end0
      refine ⟨rfl, ?_, ((HK1.out.trans (KL.of_below (below_alloc (Below.refl _ _) _) b)).trans HK2.out).trans (HK3.out.trans HK4.out)⟩
      unfold callW
      rw [hres.out]
      exact H4.out
    · have hk0b : decide (0 < k) = false := decide_eq_false hk0
      clear hin
      go_enter Tryd.func26, Tryd.ntmps26
      go_wp2_with (go_at_call 36; (with_reducible refine (K_names _).mono ?_); rintro e w1 ⟨he, hb⟩; obtain rfl : e = .returned (.agg #[.string ⟨#[]⟩, .string ⟨#[97, 100, 109, 105, 116]⟩, .string ⟨#[114, 101, 108, 101, 97, 115, 101]⟩, .string ⟨#[114, 97, 105, 115, 101]⟩, .string ⟨#[108, 111, 119, 101, 114]⟩, .string ⟨#[117, 115, 97, 103, 101]⟩, .string ⟨#[112, 101, 101, 107]⟩]) := he; have HX1 := Aside0.mk (blk_below (g := w.heap.size) (blk_new w (.cells #[.int .i64 k, .int .i64 v, .int .i64 n] 23)) hb); have H1 : Aside0 (LineAt W w1 b l) := ⟨H.out.grow ((below_alloc (Below.refl _ _) _).trans (hb.mono (by simp)))⟩; have HK1 : Aside0 (KL w w1 b) := ⟨KL.of_below ((below_alloc (Below.refl _ _) _).trans (hb.mono (by simp))) b⟩; have hq1 : Aside0 (w.heap.size < w1.heap.size) := ⟨by have := hb.size; simp at this; omega⟩; clear hb; obtain ⟨x0, x1, x2⟩ := box3 (blk_alloc HX1.out (.cells #[.string ⟨#[]⟩, .string ⟨#[97, 100, 109, 105, 116]⟩, .string ⟨#[114, 101, 108, 101, 97, 115, 101]⟩, .string ⟨#[114, 97, 105, 115, 101]⟩, .string ⟨#[108, 111, 119, 101, 114]⟩, .string ⟨#[117, 115, 97, 103, 101]⟩, .string ⟨#[112, 101, 101, 107]⟩] 69)))
      go_wp2_with (first | (go_at_call 24; (with_reducible refine (K_num_node W _ b _ v HV.out HG.out H2.out ?_).mono ?_); (have := HL.out; have := kindW_len l k HK.out; rw [hres.out] at this; omega); rintro e w3 ⟨rfl, h, hk⟩; have H3 := Aside0.mk h; have HX3 := Aside0.mk (hk.blk HX2.out (by decide) hqb.out); have HK3 := Aside0.mk hk; clear h hk x0 x1 x2 H2 HX2; obtain ⟨x0, x1, x2⟩ := box3 HX3.out) | (go_at_call 24; (with_reducible refine (K_num_n W _ b _ n HN.out HG.out H3.out ?_).mono ?_); (have := HL.out; have h1 := kindW_len l k HK.out; rw [hres.out] at h1; have := addN_len kd wNode v HV.out (by decide); omega); rintro e w4 ⟨rfl, h, hk⟩; have H4 := Aside0.mk h; have HK4 := Aside0.mk hk; clear h hk) | (go_at_call 24; (with_reducible refine (K_num_call W _ b l k HK.out HG.out (H1.out.grow (below_alloc (Below.refl _ _) _)) ?_).mono ?_); (have := HL.out; omega); rintro e w2 ⟨rfl, h, hk⟩; have H2 : Aside0 (LineAt W w2 b kd) := ⟨by rw [← hkd.out]; exact h⟩; have HX2 := Aside0.mk (hk.blk (blk_alloc HX1.out _) (by decide) hqb.out); have HK2 := Aside0.mk hk; clear h hk x0 x1 x2 H1 HX1; obtain ⟨x0, x1, x2⟩ := box3 HX2.out))
      go_end0
      refine ⟨rfl, ?_, ((HK1.out.trans (KL.of_below (below_alloc (Below.refl _ _) _) b)).trans HK2.out).trans (HK3.out.trans HK4.out)⟩
      unfold callW
      rw [hres.out]
      exact H4.out
theorem box4 {W : World} {g t : Nat} {x0 x1 x2 x3 : Value} (h : W.heap[g]? = some (.cells #[x0, x1, x2, x3] t (0, 0))) :
    W.cell? ⟨g, 0, none⟩ = some x0 ∧ W.cell? ⟨g, 1, none⟩ = some x1 ∧ W.cell? ⟨g, 2, none⟩ = some x2 ∧ W.cell? ⟨g, 3, none⟩ = some x3 :=
  ⟨(blk_cell h 0).trans rfl, (blk_cell h 1).trans rfl, (blk_cell h 2).trans rfl, (blk_cell h 3).trans rfl⟩
def okW (l : Bytes) (er n : Int) (ex : Bool) : Bytes := if er ≠ 0 then addW (addW l wErr) (Lib.itoa er) else addW (addW (addW l wOk) (Lib.itoa n)) (if ex = true then wExact else wNear)
theorem okW_len (l : Bytes) (er n : Int) (ex : Bool) (h1 : I64 er) (h2 : I64 n) : (okW l er n ex).length ≤ l.length + 80 := by
  unfold okW
  split
  · have := addN_len l wErr er h1 (by decide); omega
  · have := addN_len l wOk n h2 (by decide)
    have := addB_len (addW (addW l wOk) (Lib.itoa n)) (if ex = true then wExact else wNear) (by split <;> decide)
    omega
theorem ansW_ok (l : Bytes) (er n : Int) (ex : Bool) (nd : Int) : ansW l er n ex nd = addW (addW (okW l er n ex) wAt) (Lib.itoa nd) := rfl

set_option maxHeartbeats 4000000 in
set_option maxRecDepth 100000 in
theorem K_ans (W w : World) (b : Nat) (l : Bytes) (er n : Int) (ex : Bool) (nd : Int) (her : I64 er) (hn : I64 n) (hnd : I64 nd) (hG : GW W) (h : LineAt W w b l) (hl : l.length ≤ 1000) :
    Calls Tryd.prog 28 #[.pointer (some ⟨b, 0, none⟩), .agg #[.int .i64 er, .int .i64 n, .bool ex, .int .i64 nd]] w fun e w' => e = .returned (.tuple #[]) ∧ LineAt W w' b (ansW l er n ex nd) ∧ KL w w' b := by
  have H := Aside0.mk h
  have HL := Aside0.mk hl
  have HG := Aside0.mk hG
  have HER := Aside0.mk her
  have HN := Aside0.mk hn
  have HND := Aside0.mk hnd
  have hua := Tryd.underlying26
  have hqb : Aside0 (w.heap.size ≠ b) := ⟨Nat.ne_of_gt h.lt⟩
  clear h hl hG her hn hnd
  by_cases hne : er ≠ 0
  · have HX0 := Aside0.mk (blk_new w (.cells #[.int .i64 er, .int .i64 n, .bool ex, .int .i64 nd] 26))
    obtain ⟨x0, x1, x2, x3⟩ := box4 HX0.out
    have H0 : Aside0 (LineAt W (w.alloc (.cells #[.int .i64 er, .int .i64 n, .bool ex, .int .i64 nd] 26)) b l) := ⟨H.out.grow (below_alloc (Below.refl _ _) _)⟩
    obtain ⟨kd, hres'⟩ : ∃ kd, okW l er n ex = kd := ⟨_, rfl⟩
    have hres := Aside0.mk hres'
    have hkl := Aside0.mk (okW_len l er n ex HER.out HN.out)
    rw [hres'] at hkl
    unfold okW at hres'
    rw [if_pos hne] at hres'
    have hkd := Aside0.mk hres'
    have hnb : (er != 0) = true := by simpa using hne
    clear hres' hne
    go_enter Tryd.func28, Tryd.ntmps28
    go_wp2_with (first | (go_at_call 24; (with_reducible refine (K_num_at W _ b _ nd HND.out HG.out HZ.out ?_).mono ?_); (have := HL.out; have := hkl.out; omega); rintro e w9 ⟨rfl, h, hk⟩; have H9 := Aside0.mk h; have HK9 := Aside0.mk hk; clear h hk) | (go_at_call 24; (with_reducible refine (K_num_err W _ b l er HER.out HG.out H0.out ?_).mono ?_); (have := HL.out; omega); rintro e w1 ⟨rfl, h, hk⟩; have H1 := Aside0.mk h; have HK1 := Aside0.mk hk; have HX1 := Aside0.mk (hk.blk HX0.out (by decide) hqb.out); clear x0 x1 x2 x3 HX0; obtain ⟨x0, x1, x2, x3⟩ := box4 HX1.out; clear h hk; have HZ : Aside0 (LineAt W w1 b kd) := ⟨by rw [← hkd.out]; exact H1.out⟩; clear H0))
    go_end0
    refine ⟨rfl, ?_, (KL.of_below (below_alloc (Below.refl _ _) _) b).trans (HK1.out.trans HK9.out)⟩
    rw [ansW_ok, hres.out]
    exact H9.out
  · cases ex with
    | true =>
      have HX0 := Aside0.mk (blk_new w (.cells #[.int .i64 er, .int .i64 n, .bool true, .int .i64 nd] 26))
      obtain ⟨x0, x1, x2, x3⟩ := box4 HX0.out
      have H0 : Aside0 (LineAt W (w.alloc (.cells #[.int .i64 er, .int .i64 n, .bool true, .int .i64 nd] 26)) b l) := ⟨H.out.grow (below_alloc (Below.refl _ _) _)⟩
      obtain ⟨kd, hres'⟩ : ∃ kd, okW l er n true = kd := ⟨_, rfl⟩
      have hres := Aside0.mk hres'
      have hkl := Aside0.mk (okW_len l er n true HER.out HN.out)
      rw [hres'] at hkl
      unfold okW at hres'
      rw [if_neg hne] at hres'
      have hkd := Aside0.mk hres'
      obtain rfl : er = 0 := by simpa using hne
      clear hres' hne
      go_enter Tryd.func28, Tryd.ntmps28
      go_wp2_with (first | (go_at_call 24; (with_reducible refine (K_num_at W _ b _ nd HND.out HG.out HZ.out ?_).mono ?_); (have := HL.out; have := hkl.out; omega); rintro e w9 ⟨rfl, h, hk⟩; have H9 := Aside0.mk h; have HK9 := Aside0.mk hk; clear h hk) | (go_at_call 25; (with_reducible refine (K_w_exact W _ b _ H1.out ?_).mono ?_); (have := HL.out; have := addN_len l wOk n HN.out (by decide); omega); rintro e w2 ⟨rfl, h, hk⟩; have H2 := Aside0.mk h; have HK2 := Aside0.mk hk; have HX2 := Aside0.mk (hk.blk HX1.out (by decide) hqb.out); clear x0 x1 x2 x3 HX1; obtain ⟨x0, x1, x2, x3⟩ := box4 HX2.out; clear h hk; have HZ : Aside0 (LineAt W w2 b kd) := ⟨by rw [← hkd.out]; exact H2.out⟩; clear H1) | (go_at_call 24; (with_reducible refine (K_num_ok W _ b l n HN.out HG.out H0.out ?_).mono ?_); (have := HL.out; omega); rintro e w1 ⟨rfl, h, hk⟩; have H1 := Aside0.mk h; have HK1 := Aside0.mk hk; have HX1 := Aside0.mk (hk.blk HX0.out (by decide) hqb.out); clear x0 x1 x2 x3 HX0; obtain ⟨x0, x1, x2, x3⟩ := box4 HX1.out; clear h hk; clear H0))
      go_end0
      refine ⟨rfl, ?_, (KL.of_below (below_alloc (Below.refl _ _) _) b).trans ((HK1.out.trans HK2.out).trans HK9.out)⟩
      rw [ansW_ok, hres.out]
      exact H9.out
    | false =>
      have HX0 := Aside0.mk (blk_new w (.cells #[.int .i64 er, .int .i64 n, .bool false, .int .i64 nd] 26))
      obtain ⟨x0, x1, x2, x3⟩ := box4 HX0.out
      have H0 : Aside0 (LineAt W (w.alloc (.cells #[.int .i64 er, .int .i64 n, .bool false, .int .i64 nd] 26)) b l) := ⟨H.out.grow (below_alloc (Below.refl _ _) _)⟩
      obtain ⟨kd, hres'⟩ : ∃ kd, okW l er n false = kd := ⟨_, rfl⟩
      have hres := Aside0.mk hres'
      have hkl := Aside0.mk (okW_len l er n false HER.out HN.out)
      rw [hres'] at hkl
      unfold okW at hres'
      rw [if_neg hne] at hres'
      have hkd := Aside0.mk hres'
      obtain rfl : er = 0 := by simpa using hne
      clear hres' hne
      go_enter Tryd.func28, Tryd.ntmps28
      go_wp2_with (first | (go_at_call 24; (with_reducible refine (K_num_at W _ b _ nd HND.out HG.out HZ.out ?_).mono ?_); (have := HL.out; have := hkl.out; omega); rintro e w9 ⟨rfl, h, hk⟩; have H9 := Aside0.mk h; have HK9 := Aside0.mk hk; clear h hk) | (go_at_call 25; (with_reducible refine (K_w_near W _ b _ H1.out ?_).mono ?_); (have := HL.out; have := addN_len l wOk n HN.out (by decide); omega); rintro e w2 ⟨rfl, h, hk⟩; have H2 := Aside0.mk h; have HK2 := Aside0.mk hk; have HX2 := Aside0.mk (hk.blk HX1.out (by decide) hqb.out); clear x0 x1 x2 x3 HX1; obtain ⟨x0, x1, x2, x3⟩ := box4 HX2.out; clear h hk; have HZ : Aside0 (LineAt W w2 b kd) := ⟨by rw [← hkd.out]; exact H2.out⟩; clear H1) | (go_at_call 24; (with_reducible refine (K_num_ok W _ b l n HN.out HG.out H0.out ?_).mono ?_); (have := HL.out; omega); rintro e w1 ⟨rfl, h, hk⟩; have H1 := Aside0.mk h; have HK1 := Aside0.mk hk; have HX1 := Aside0.mk (hk.blk HX0.out (by decide) hqb.out); clear x0 x1 x2 x3 HX0; obtain ⟨x0, x1, x2, x3⟩ := box4 HX1.out; clear h hk; clear H0))
      go_end0
      refine ⟨rfl, ?_, (KL.of_below (below_alloc (Below.refl _ _) _) b).trans ((HK1.out.trans HK2.out).trans HK9.out)⟩
      rw [ansW_ok, hres.out]
      exact H9.out
end Go.Proofs.YtfolhicnbabldaaDoor.PR
