import Derived.Test.YtfolhicnbabldaaDoorRWords
import Derived.RangeFuncNested
import Derived.RangeFuncBound
import Derived.RangeFuncCalls
import Derived.RangeFuncLeaves
import Derived.RangeFuncBox
import Derived.Shelf.Abstract
import Derived.Shelf.RegionOpen
import Derived.OwnWalkIn
import Derived.TacticsInMore
import Derived.LoopNIn
import Derived.LoopIn
import Derived.Deep.RegionHeld3
import Derived.Deep.RegionLaw
import Derived.Laws.CopyOwn
import Derived.Laws.EntriesVeiled
import Derived.WalkKit
import Derived.BigCall
import Derived.Lib.ItoaLen
namespace Go.Proofs.YtfolhicnbabldaaDoor.PR
open Go.RowKit Go.Shelf Go.Proofs.YtfolhicnbabldaaDoorW.PrintWords Go.Proofs.YtfolhicnbabldaaDoorW.PrintLast Go.Proofs.YtfolhicnbabldaaDoorW.PrintMore
attribute [local go_sem] max2_int min2_int max_two min_two max_three min_three max_four min_four
set_option linter.unusedVariables false
set_option linter.unusedSimpArgs false
theorem KX.setNew {X Y : World} {b q : Nat} (h : KX X Y b) (hq : X.heap.size ≤ q) (i : Nat) (u : Value) : KX X (Y.setCell ⟨q, i, none⟩ u) b :=
  ⟨h.os, h.tape, h.out, by simpa [World.setCell] using h.size, fun j hj hb => (Below.heap_setCell Y ⟨q, i, none⟩ u j (by show j ≠ q; omega)).trans (h.same j hj hb)⟩
theorem WAt.far {w : World} {b g : Nat} {L : List Bytes} {k : Nat} (h : WAt w b g L k) {q : Nat} (hb : b ≠ q) (hg : g ≠ q) (i : Nat) (u : Value) : WAt (w.setCell ⟨q, i, none⟩ u) b g L k := by
  obtain ⟨hne, h1, o, h2, ho⟩ := h
  exact ⟨hne, (Below.heap_setCell w ⟨q, i, none⟩ u g hg).trans h1, o, (Below.heap_setCell w ⟨q, i, none⟩ u b hb).trans h2, ho⟩
theorem WAt.glt {w : World} {b g : Nat} {L : List Bytes} {k : Nat} (h : WAt w b g L k) : g < w.heap.size := blk_lt h.2.1
theorem two_new (w : World) (a b : Obj) : ((w.alloc a).alloc b).heap[w.heap.size]? = some a ∧ ((w.alloc a).alloc b).heap[w.heap.size + 1]? = some b := by
  refine ⟨blk_alloc (blk_new w a) b, ?_⟩
  have h := World.alloc_heap_new (w.alloc a) b
  have e : (w.alloc a).heap.size = w.heap.size + 1 := by simp
  rw [e] at h
  exact h
theorem blk_put4 {X : World} {g t : Nat} {a0 a1 a2 a3 : Value} (h : X.heap[g]? = some (.cells #[a0, a1, a2, a3] t (0, 0))) (v0 v1 v2 v3 : Value) :
    ((((X.setCell ⟨g, 0, none⟩ v0).setCell ⟨g, 1, none⟩ v1).setCell ⟨g, 2, none⟩ v2).setCell ⟨g, 3, none⟩ v3).heap[g]? = some (.cells #[v0, v1, v2, v3] t (0, 0)) :=
  blk_set (blk_set (blk_set (blk_set h 0 v0) 1 v1) 2 v2) 3 v3
set_option maxHeartbeats 4000000 in
set_option maxRecDepth 100000 in
theorem K_wans_err (W w : World) (b g : Nat) (L : List Bytes) (k : Nat) (hS : Short L) (hG : GW W) (hW : Below W.heap.size W w) (hb : W.heap.size ≤ b) (h : WAt w b g L k) (hE : wordAt L k = wErr) :
    Calls Tryd.prog 20 #[.pointer (some ⟨b, 0, none⟩)] w fun e w' => e = .returned (.agg #[.int .i64 (atoiV (wordAt L (k + 1))), .int .i64 0, .bool false, .int .i64 (atoiV (wordAt L (k + 3)))]) ∧ WAt w' b g L (k + 4) ∧ KX w w' b := by
  have H := Aside0.mk h
  have HS := Aside0.mk hS
  have HG := Aside0.mk hG
  have HW := Aside0.mk hW
  have HB := Aside0.mk hb
  have hbl := Aside0.mk h.lt
  have hgl := Aside0.mk h.glt
  have hua := Tryd.underlying26
  have hnx : Aside0 (∀ w, WAt w b g L k → Calls Tryd.prog 18 #[.pointer (some ⟨b, 0, none⟩)] w fun e w' => e = .returned (.string ⟨#[101, 114, 114]⟩) ∧ WAt w' b g L (k + 1) ∧ KX w w' b) := ⟨fun w hw => by have := K_next w b g L k hw HS.out.len; rw [hE] at this; exact this⟩
  clear h hS hG hW hb hE
  obtain ⟨n0, n1⟩ := two_new w (.cells #[.int .i64 0, .int .i64 0, .bool false, .int .i64 0] 26) (.cells #[.int .i64 0, .int .i64 0, .bool false, .int .i64 0] 26)
  have N0 := Aside0.mk n0
  have N1 := Aside0.mk n1
  clear n0 n1
  go_enter Tryd.func20, Tryd.ntmps20
  go_wp2_with (go_at_call 18; (with_reducible refine (hnx.out _ (H.out.below (by with_reducible repeat (first | exact Below.refl _ _ | apply below_alloc)))).mono ?_); rintro e w1 ⟨rfl, h, hk⟩; have H1 := Aside0.mk h; have K1 : Aside0 (KX w w1 b) := ⟨(KX.of_below (by with_reducible repeat (first | exact Below.refl _ _ | apply below_alloc)) b).trans hk⟩; have Q1 := Aside0.mk (hk.blk N1.out (by have := hbl.out; omega)); have R1 := Aside0.mk (hk.blk N0.out (by have := hbl.out; omega)); clear h hk N0 N1)
  have KN : Aside0 (∀ (X : World) (j : Nat) (sk : Bool), KX w X b → WAt X b g L j → Calls Tryd.prog 17 #[.pointer (some ⟨b, 0, none⟩), .bool sk] X fun e w' => e = .returned (.int .i64 (atoiV (wordAt L (if sk = true then j + 1 else j)))) ∧ WAt w' b g L (if sk = true then j + 2 else j + 1) ∧ KX X w' b) := ⟨fun X j sk hX hj => K_wnum W X b g L j sk HS.out HG.out (hX.below HW.out HB.out) HB.out hj⟩
  have hqb : Aside0 (w.heap.size + 1 ≠ b ∧ w.heap.size ≠ b ∧ b ≠ w.heap.size + 1 ∧ g ≠ w.heap.size + 1) := ⟨by have := hbl.out; have := hgl.out; omega⟩
  go_wp2_with (go_at_call 17; (with_reducible refine (KN.out _ (k + 1) false K1.out H1.out).mono ?_); rintro e w2 ⟨he, h, hk⟩; obtain rfl : e = .returned (.int .i64 (atoiV (wordAt L (k + 1)))) := he; have H2 : Aside0 (WAt w2 b g L (k + 2)) := ⟨h⟩; have K2 := Aside0.mk (K1.out.trans hk); have Q2 := Aside0.mk (hk.blk Q1.out hqb.out.1); have R2 := Aside0.mk (hk.blk R1.out hqb.out.2.1); clear h hk H1 K1 Q1 R1; have c0 := (box4 Q2.out).1; have f0 := blk_frozen Q2.out 0)
  obtain ⟨X2, hX2⟩ : ∃ X, w2.setCell ⟨w.heap.size + 1, 0, none⟩ (.int .i64 (atoiV (wordAt L (k + 1)))) = X := ⟨_, rfl⟩
  have HX : Aside0 (WAt X2 b g L (k + 2)) := ⟨by rw [← hX2]; exact H2.out.far hqb.out.2.2.1 hqb.out.2.2.2 _ _⟩
  have KXX : Aside0 (KX w X2 b) := ⟨by rw [← hX2]; exact K2.out.setNew (by omega) _ _⟩
  have QX : Aside0 (X2.heap[w.heap.size + 1]? = some (.cells #[.int .i64 (atoiV (wordAt L (k + 1))), .int .i64 0, .bool false, .int .i64 0] 26 (0, 0))) := ⟨by rw [← hX2, blk_set Q2.out 0]; rfl⟩
  have RX : Aside0 (X2.heap[w.heap.size]? = some (.cells #[.int .i64 0, .int .i64 0, .bool false, .int .i64 0] 26 (0, 0))) := ⟨by rw [← hX2]; exact (Below.heap_setCell w2 ⟨w.heap.size + 1, 0, none⟩ _ w.heap.size (by simp)).trans R2.out⟩
  rw [hX2]
  clear hX2 c0 f0 H2 K2 Q2 R2
  go_wp2_with (go_at_call 17; (with_reducible refine (KN.out _ (k + 2) true KXX.out HX.out).mono ?_); rintro e w3 ⟨he, h, hk⟩; obtain rfl : e = .returned (.int .i64 (atoiV (wordAt L (k + 3)))) := he; have H3 : Aside0 (WAt w3 b g L (k + 4)) := ⟨h⟩; have K3 := Aside0.mk (KXX.out.trans hk); have Q3 := Aside0.mk (hk.blk QX.out hqb.out.1); have R3 := Aside0.mk (hk.blk RX.out hqb.out.2.1); clear h hk; have c3 := (box4 Q3.out).2.2.2; have f3 := blk_frozen Q3.out 3; have g0 := (box4 Q3.out).1; have g1 := (box4 Q3.out).2.1; have g2 := (box4 Q3.out).2.2.1; have e0 := blk_frozen R3.out 0; have e1 := blk_frozen R3.out 1; have e2 := blk_frozen R3.out 2; have e3 := blk_frozen R3.out 3; obtain ⟨r0, r1, r2, r3⟩ := box4 R3.out)
  refine bodyPost_ret (results_cell_row rfl _ _ w.heap.size 26 #[.int .i64 (atoiV (wordAt L (k + 1))), .int .i64 0, .bool false, .int .i64 (atoiV (wordAt L (k + 3)))] (0, 0) _ rfl (blk_put4 ((Below.heap_setCell w3 ⟨w.heap.size + 1, 3, none⟩ _ w.heap.size (by simp)).trans R3.out) _ _ _ _) hua rfl (by kernel_rfl)) rfl ?_
  refine ⟨rfl, ?_, ?_⟩
  · exact ((((H3.out.far hqb.out.2.2.1 hqb.out.2.2.2 _ _).far (Ne.symm hqb.out.2.1) (by have := hgl.out; omega) _ _).far (Ne.symm hqb.out.2.1) (by have := hgl.out; omega) _ _).far (Ne.symm hqb.out.2.1) (by have := hgl.out; omega) _ _).far (Ne.symm hqb.out.2.1) (by have := hgl.out; omega) _ _
  · exact ((((K3.out.setNew (by omega) _ _).setNew (Nat.le_refl _) _ _).setNew (Nat.le_refl _) _ _).setNew (Nat.le_refl _) _ _).setNew (Nat.le_refl _) _ _
set_option maxHeartbeats 4000000 in
set_option maxRecDepth 100000 in
theorem K_wans_ok (W w : World) (b g : Nat) (L : List Bytes) (k : Nat) (hS : Short L) (hG : GW W) (hW : Below W.heap.size W w) (hb : W.heap.size ≤ b) (h : WAt w b g L k) (hE : wordAt L k ≠ wErr) :
    Calls Tryd.prog 20 #[.pointer (some ⟨b, 0, none⟩)] w fun e w' => e = .returned (.agg #[.int .i64 0, .int .i64 (atoiV (wordAt L (k + 1))), .bool (wordAt L (k + 2) == wExact), .int .i64 (atoiV (wordAt L (k + 4)))]) ∧ WAt w' b g L (k + 5) ∧ KX w w' b := by
  have H := Aside0.mk h
  have HS := Aside0.mk hS
  have HG := Aside0.mk hG
  have HW := Aside0.mk hW
  have HB := Aside0.mk hb
  have hbl := Aside0.mk h.lt
  have hgl := Aside0.mk h.glt
  have hua := Tryd.underlying26
  have hnb : (wordAt L k == [101, 114, 114]) = false := beq_eq_false_iff_ne.2 hE
  have hnx : Aside0 (∀ (j : Nat) w, WAt w b g L j → Calls Tryd.prog 18 #[.pointer (some ⟨b, 0, none⟩)] w fun e w' => e = .returned (.string ⟨(wordAt L j).toArray⟩) ∧ WAt w' b g L (j + 1) ∧ KX w w' b) := ⟨fun j w hw => K_next w b g L j hw HS.out.len⟩
  clear h hS hG hW hb hE
  obtain ⟨n0, n1⟩ := two_new w (.cells #[.int .i64 0, .int .i64 0, .bool false, .int .i64 0] 26) (.cells #[.int .i64 0, .int .i64 0, .bool false, .int .i64 0] 26)
  have N0 := Aside0.mk n0
  have N1 := Aside0.mk n1
  clear n0 n1
  have KN : Aside0 (∀ (X : World) (j : Nat) (sk : Bool), KX w X b → WAt X b g L j → Calls Tryd.prog 17 #[.pointer (some ⟨b, 0, none⟩), .bool sk] X fun e w' => e = .returned (.int .i64 (atoiV (wordAt L (if sk = true then j + 1 else j)))) ∧ WAt w' b g L (if sk = true then j + 2 else j + 1) ∧ KX X w' b) := ⟨fun X j sk hX hj => K_wnum W X b g L j sk HS.out HG.out (hX.below HW.out HB.out) HB.out hj⟩
  have hqb : Aside0 (w.heap.size + 1 ≠ b ∧ w.heap.size ≠ b ∧ b ≠ w.heap.size + 1 ∧ g ≠ w.heap.size + 1) := ⟨by have := hbl.out; have := hgl.out; omega⟩
  go_enter Tryd.func20, Tryd.ntmps20
  go_wp2_with (go_at_call 18; (with_reducible refine (hnx.out k _ (H.out.below (by with_reducible repeat (first | exact Below.refl _ _ | apply below_alloc)))).mono ?_); rintro e w1 ⟨rfl, h, hk⟩; have H1 := Aside0.mk h; have K1 : Aside0 (KX w w1 b) := ⟨(KX.of_below (by with_reducible repeat (first | exact Below.refl _ _ | apply below_alloc)) b).trans hk⟩; have Q1 := Aside0.mk (hk.blk N1.out (by have := hbl.out; omega)); have R1 := Aside0.mk (hk.blk N0.out (by have := hbl.out; omega)); clear h hk N0 N1)
  go_wp2_with (go_at_call 17; (with_reducible refine (KN.out _ (k + 1) false K1.out H1.out).mono ?_); rintro e w2 ⟨he, h, hk⟩; obtain rfl : e = .returned (.int .i64 (atoiV (wordAt L (k + 1)))) := he; have H2 : Aside0 (WAt w2 b g L (k + 2)) := ⟨h⟩; have K2 := Aside0.mk (K1.out.trans hk); have Q2 := Aside0.mk (hk.blk Q1.out hqb.out.1); have R2 := Aside0.mk (hk.blk R1.out hqb.out.2.1); clear h hk; clear H1 K1 Q1 R1; have c0 := (box4 Q2.out).2.1; have f0 := blk_frozen Q2.out 1)
  obtain ⟨X2, hX⟩ : ∃ X, w2.setCell ⟨w.heap.size + 1, 1, none⟩ (.int .i64 (atoiV (wordAt L (k + 1)))) = X := ⟨_, rfl⟩
  have HX2 : Aside0 (WAt X2 b g L (k + 2)) := ⟨by rw [← hX]; exact H2.out.far hqb.out.2.2.1 hqb.out.2.2.2 _ _⟩
  have KX2 : Aside0 (KX w X2 b) := ⟨by rw [← hX]; exact K2.out.setNew (by omega) _ _⟩
  have QX2 : Aside0 (X2.heap[w.heap.size + 1]? = some (.cells #[.int .i64 0, .int .i64 (atoiV (wordAt L (k + 1))), .bool false, .int .i64 0] 26 (0, 0))) := ⟨by rw [← hX, blk_set Q2.out 1]; rfl⟩
  have RX2 : Aside0 (X2.heap[w.heap.size]? = some (.cells #[.int .i64 0, .int .i64 0, .bool false, .int .i64 0] 26 (0, 0))) := ⟨by rw [← hX]; exact (Below.heap_setCell w2 ⟨w.heap.size + 1, 1, none⟩ _ w.heap.size (by simp)).trans R2.out⟩
  rw [hX]
  clear hX c0 f0 H2 K2 Q2 R2
  go_wp2_with (go_at_call 18; (with_reducible refine (hnx.out (k + 2) _ HX2.out).mono ?_); rintro e w3 ⟨rfl, h, hk⟩; have H3 : Aside0 (WAt w3 b g L (k + 3)) := ⟨h⟩; have K3 := Aside0.mk (KX2.out.trans hk); have Q3 := Aside0.mk (hk.blk QX2.out hqb.out.1); have R3 := Aside0.mk (hk.blk RX2.out hqb.out.2.1); clear h hk; clear HX2 KX2 QX2 RX2; have c0 := (box4 Q3.out).2.2.1; have f0 := blk_frozen Q3.out 2)
  obtain ⟨X3, hX⟩ : ∃ X, w3.setCell ⟨w.heap.size + 1, 2, none⟩ (.bool (wordAt L (k + 2) == [101, 120, 97, 99, 116])) = X := ⟨_, rfl⟩
  have HX3 : Aside0 (WAt X3 b g L (k + 3)) := ⟨by rw [← hX]; exact H3.out.far hqb.out.2.2.1 hqb.out.2.2.2 _ _⟩
  have KX3 : Aside0 (KX w X3 b) := ⟨by rw [← hX]; exact K3.out.setNew (by omega) _ _⟩
  have QX3 : Aside0 (X3.heap[w.heap.size + 1]? = some (.cells #[.int .i64 0, .int .i64 (atoiV (wordAt L (k + 1))), .bool (wordAt L (k + 2) == [101, 120, 97, 99, 116]), .int .i64 0] 26 (0, 0))) := ⟨by rw [← hX, blk_set Q3.out 2]; rfl⟩
  have RX3 : Aside0 (X3.heap[w.heap.size]? = some (.cells #[.int .i64 0, .int .i64 0, .bool false, .int .i64 0] 26 (0, 0))) := ⟨by rw [← hX]; exact (Below.heap_setCell w3 ⟨w.heap.size + 1, 2, none⟩ _ w.heap.size (by simp)).trans R3.out⟩
  rw [hX]
  clear hX c0 f0 H3 K3 Q3 R3
  go_wp2_with (go_at_call 17; (with_reducible refine (KN.out _ (k + 3) true KX3.out HX3.out).mono ?_); rintro e w4 ⟨he, h, hk⟩; obtain rfl : e = .returned (.int .i64 (atoiV (wordAt L (k + 4)))) := he; have H4 : Aside0 (WAt w4 b g L (k + 5)) := ⟨h⟩; have K4 := Aside0.mk (KX3.out.trans hk); have Q4 := Aside0.mk (hk.blk QX3.out hqb.out.1); have R4 := Aside0.mk (hk.blk RX3.out hqb.out.2.1); clear h hk; clear HX3 KX3 QX3 RX3; obtain ⟨g0, g1, g2, g3⟩ := box4 Q4.out; have f3 := blk_frozen Q4.out 3; have e0 := blk_frozen R4.out 0; have e1 := blk_frozen R4.out 1; have e2 := blk_frozen R4.out 2; have e3 := blk_frozen R4.out 3; obtain ⟨r0, r1, r2, r3⟩ := box4 R4.out)
  refine bodyPost_ret (results_cell_row rfl _ _ w.heap.size 26 #[.int .i64 0, .int .i64 (atoiV (wordAt L (k + 1))), .bool (wordAt L (k + 2) == [101, 120, 97, 99, 116]), .int .i64 (atoiV (wordAt L (k + 4)))] (0, 0) _ rfl (blk_put4 ((Below.heap_setCell w4 ⟨w.heap.size + 1, 3, none⟩ _ w.heap.size (by simp)).trans R4.out) _ _ _ _) hua rfl (by kernel_rfl)) rfl ?_
  refine ⟨rfl, ?_, ?_⟩
  · exact ((((H4.out.far hqb.out.2.2.1 hqb.out.2.2.2 _ _).far (Ne.symm hqb.out.2.1) (by have := hgl.out; omega) _ _).far (Ne.symm hqb.out.2.1) (by have := hgl.out; omega) _ _).far (Ne.symm hqb.out.2.1) (by have := hgl.out; omega) _ _).far (Ne.symm hqb.out.2.1) (by have := hgl.out; omega) _ _
  · exact ((((K4.out.setNew (by omega) _ _).setNew (Nat.le_refl _) _ _).setNew (Nat.le_refl _) _ _).setNew (Nat.le_refl _) _ _).setNew (Nat.le_refl _) _ _
end Go.Proofs.YtfolhicnbabldaaDoor.PR
