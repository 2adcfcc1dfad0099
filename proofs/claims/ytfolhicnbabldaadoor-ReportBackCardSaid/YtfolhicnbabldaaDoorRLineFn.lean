import Derived.Test.YtfolhicnbabldaaDoorRCall
import Derived.RangeFuncNested
import Derived.RangeFuncBound
import Derived.RangeFuncCalls
import Derived.RangeFuncLeaves
import Derived.RangeFuncBox
import Derived.Shelf.Abstract
import Derived.Shelf.RegionOpen
import Derived.OwnWalkIn
import Derived.TacticsInMore
import Derived.LoopNIn
import Derived.LoopIn
import Derived.Deep.RegionHeld3
import Derived.Deep.RegionLaw
import Derived.Laws.CopyOwn
import Derived.Laws.EntriesVeiled
import Derived.WalkKit
import Derived.BigCall
import Derived.Lib.ItoaLen
namespace Go.Proofs.YtfolhicnbabldaaDoor.PR
open Go.RowKit Go.Shelf Go.Proofs.YtfolhicnbabldaaDoorW.PrintWords Go.Proofs.YtfolhicnbabldaaDoorW.PrintLast Go.Proofs.YtfolhicnbabldaaDoorW.PrintMore
attribute [local go_sem] max2_int min2_int max_two min_two max_three min_three max_four min_four
set_option linter.unusedVariables false
set_option linter.unusedSimpArgs false
theorem itoa_ne (n : Int) : Lib.itoa n ≠ [] := by
  unfold Lib.itoa
  split
  · simp
  · rw [Lib.decDigits]
    split <;> simp
theorem addW_ne (l s : Bytes) (h : s ≠ []) : addW l s ≠ [] := by
  unfold addW
  split
  · exact h
  · simp
theorem callW_len (l : Bytes) (k v n : Int) (hk : I64 k) (hv : I64 v) (hn : I64 n) : (callW l k v n).length ≤ l.length + 120 := by
  have h1 := kindW_len l k hk
  have h2 := addN_len (kindW l k) wNode v hv (by decide)
  have h3 := addN_len (addW (addW (kindW l k) wNode) (Lib.itoa v)) wN n hn (by decide)
  unfold callW
  omega
theorem lineAt_fresh (w : World) : LineAt w (w.alloc (.cells #[.pointer none, .slice none 0 0] 56)) w.heap.size [] :=
  ⟨Lib.fresh_isBuilder 56 5 w, below_alloc (Below.refl _ _) _⟩
theorem K_LString (W w : World) (b : Nat) (l : Bytes) (h : LineAt W w b l) (hl : l ≠ []) : Calls Tryd.prog 27 #[.pointer (some ⟨b, 0, none⟩)] w fun e w' => e = .returned (strV l) ∧ Below W.heap.size w w' :=
  B_String _ _ b l w h.b hl
theorem box10 {W : World} {g t : Nat} {x0 x1 x2 x3 x4 x5 x6 x7 x8 x9 : Value} (h : W.heap[g]? = some (.cells #[x0, x1, x2, x3, x4, x5, x6, x7, x8, x9] t (0, 0))) :
    W.cell? ⟨g, 0, none⟩ = some x0 ∧ W.cell? ⟨g, 1, none⟩ = some x1 ∧ W.cell? ⟨g, 2, none⟩ = some x2 ∧ W.cell? ⟨g, 3, none⟩ = some x3 ∧ W.cell? ⟨g, 4, none⟩ = some x4 ∧ W.cell? ⟨g, 5, none⟩ = some x5 ∧ W.cell? ⟨g, 6, none⟩ = some x6 ∧ W.cell? ⟨g, 7, none⟩ = some x7 ∧ W.cell? ⟨g, 8, none⟩ = some x8 ∧ W.cell? ⟨g, 9, none⟩ = some x9 :=
  ⟨(blk_cell h 0).trans rfl, (blk_cell h 1).trans rfl, (blk_cell h 2).trans rfl, (blk_cell h 3).trans rfl, (blk_cell h 4).trans rfl, (blk_cell h 5).trans rfl, (blk_cell h 6).trans rfl, (blk_cell h 7).trans rfl, (blk_cell h 8).trans rfl, (blk_cell h 9).trans rfl⟩

set_option maxHeartbeats 4000000 in
set_option maxRecDepth 100000 in
theorem K_Line (e : Ev) (hok : EvOk e) (w : World) (hG : GW w) : Calls Tryd.prog 11 #[evV e] w fun x w' => x = .returned (strV (lineL e)) ∧ Below w.heap.size w w' := by
  have HG := Aside0.mk hG
  have HE := Aside0.mk hok
  have hue := Tryd.underlying28
  have hua := Tryd.underlying26
  have huc := Tryd.underlying23
  have hul := Tryd.underlying56
  clear hG hok
  cases hp : plainB e with
  | false =>
    have hpl : Aside0 (∀ w, Calls Tryd.prog 23 #[.agg #[.int .i64 e.wh, .int .i64 e.th, .int .i64 e.kd, .int .i64 e.ck, .int .i64 e.cv, .int .i64 e.cn, .int .i64 e.er, .int .i64 e.an, .bool e.ex, .int .i64 e.nd]] w fun x w' => x = .returned (.bool false) ∧ Below w.heap.size w w') := ⟨fun w => by have := K_plain e w; rw [hp] at this; exact this⟩
    have hres : Aside0 (strV (lineL e) = .string ⟨#[]⟩) := ⟨by unfold lineL; rw [if_pos hp]; rfl⟩
    rw [hres.out]
    unfold evV
    go_enter Tryd.func11, Tryd.ntmps11
    go_wp2_with (go_at_call 23; (with_reducible refine (hpl.out _).mono ?_); rintro e1 w1 ⟨rfl, hb⟩; have HX1 := Aside0.mk (blk_below (g := w.heap.size) (blk_new w (.cells #[.int .i64 e.wh, .int .i64 e.th, .int .i64 e.kd, .int .i64 e.ck, .int .i64 e.cv, .int .i64 e.cn, .int .i64 e.er, .int .i64 e.an, .bool e.ex, .int .i64 e.nd] 28)) hb); have HB1 : Aside0 (Below w.heap.size w w1) := ⟨(below_alloc (Below.refl _ _) _).trans (hb.mono (by simp))⟩; clear hb)
    go_ret
    exact ⟨rfl, HB1.out⟩
  | true =>
    by_cases h1 : e.kd = 1
    · skip
      have hres : Aside0 (lineL e = callW (addW (addW (addW (addW [] (Lib.itoa e.wh)) wThread) (Lib.itoa e.th)) wBegin) e.ck e.cv e.cn) := ⟨by unfold lineL; rw [if_neg (by rw [hp]; simp), if_pos h1]⟩
      have hpl : Aside0 (∀ w, Calls Tryd.prog 23 #[.agg #[.int .i64 e.wh, .int .i64 e.th, .int .i64 1, .int .i64 e.ck, .int .i64 e.cv, .int .i64 e.cn, .int .i64 e.er, .int .i64 e.an, .bool e.ex, .int .i64 e.nd]] w fun x w' => x = .returned (.bool true) ∧ Below w.heap.size w w') := ⟨fun w => by have := K_plain e w; rw [hp] at this; unfold evV at this; rw [h1] at this; exact this⟩
      have hev : evV e = .agg #[.int .i64 e.wh, .int .i64 e.th, .int .i64 1, .int .i64 e.ck, .int .i64 e.cv, .int .i64 e.cn, .int .i64 e.er, .int .i64 e.an, .bool e.ex, .int .i64 e.nd] := by unfold evV; rw [h1]
      rw [hev, hres.out]
      clear hev hp h1 hres
      have z1 := Aside0.mk (itoa_len e.wh HE.out.wh.1 HE.out.wh.2)
      have z2 := Aside0.mk (addN_len (addW [] (Lib.itoa e.wh)) wThread e.th HE.out.th (by decide))
      have z0 := Aside0.mk (addW_len [] (Lib.itoa e.wh))
      have z3 := Aside0.mk (addB_len (addW (addW (addW [] (Lib.itoa e.wh)) wThread) (Lib.itoa e.th)) wBegin (by decide))
      have z4 := Aside0.mk (callW_len (addW (addW (addW (addW [] (Lib.itoa e.wh)) wThread) (Lib.itoa e.th)) wBegin) e.ck e.cv e.cn HE.out.ck HE.out.cv HE.out.cn)
      go_enter Tryd.func11, Tryd.ntmps11
      go_wp2_with (first | (go_at_call 27; (with_reducible refine (K_LString w1 _ _ _ HL5.out ?_).mono ?_); exact addW_ne _ _ (itoa_ne _); rintro e9 w9 ⟨rfl, hb⟩; have HB9 := Aside0.mk (HB1.out.trans ((HL5.out.below.trans hb).mono HB1.out.size)); clear hb) | (go_at_call 26; (with_reducible refine (K_call w1 _ _ _ e.ck e.cv e.cn HE.out.ck HE.out.cv HE.out.cn HG1.out HL4.out ?_).mono ?_); (have := z0.out; have := z1.out; have := z2.out; have := z3.out; have := z4.out; simp only [List.length_nil] at *; omega); rintro e5 w5 ⟨rfl, h, -⟩; have HL5 := Aside0.mk h; clear x0 x1 x2 x3 x4 x5 x6 x7 x8 x9; obtain ⟨x0, x1, x2, x3, x4, x5, x6, x7, x8, x9⟩ := box10 (blk_below HX1.out h.below); clear h HL4) | (go_at_call 25; (with_reducible refine (K_w_begin w1 _ _ _ HL3.out ?_).mono ?_); (have := z0.out; have := z1.out; have := z2.out; have := z3.out; have := z4.out; simp only [List.length_nil] at *; omega); rintro e4 w4 ⟨rfl, h, -⟩; have HL4 := Aside0.mk h; clear x0 x1 x2 x3 x4 x5 x6 x7 x8 x9; obtain ⟨x0, x1, x2, x3, x4, x5, x6, x7, x8, x9⟩ := box10 (blk_below HX1.out h.below); clear h HL3) | (go_at_call 24; (with_reducible refine (K_num_thread w1 _ _ _ e.th HE.out.th HG1.out HL2.out ?_).mono ?_); (have := z0.out; have := z1.out; have := z2.out; have := z3.out; have := z4.out; simp only [List.length_nil] at *; omega); rintro e3 w3 ⟨rfl, h, -⟩; have HL3 := Aside0.mk h; clear x0 x1 x2 x3 x4 x5 x6 x7 x8 x9; obtain ⟨x0, x1, x2, x3, x4, x5, x6, x7, x8, x9⟩ := box10 (blk_below HX1.out h.below); clear h HL2) | (go_at_call 24; (with_reducible refine (K_num_none w1 _ _ [] e.wh HE.out.wh HG1.out HL1.out ?_).mono ?_); (simp); rintro e2 w2 ⟨rfl, h, -⟩; have HL2 := Aside0.mk h; clear x0 x1 x2 x3 x4 x5 x6 x7 x8 x9; obtain ⟨x0, x1, x2, x3, x4, x5, x6, x7, x8, x9⟩ := box10 (blk_below HX1.out h.below); clear h HL1) | (go_at_call 23; (with_reducible refine (hpl.out _).mono ?_); rintro e1 w1 ⟨rfl, hb⟩; have HX1 := Aside0.mk (blk_below (g := w.heap.size) (blk_new w (.cells #[.int .i64 e.wh, .int .i64 e.th, .int .i64 1, .int .i64 e.ck, .int .i64 e.cv, .int .i64 e.cn, .int .i64 e.er, .int .i64 e.an, .bool e.ex, .int .i64 e.nd] 28)) hb); have HB1 : Aside0 (Below w.heap.size w w1) := ⟨(below_alloc (Below.refl _ _) _).trans (hb.mono (by simp))⟩; clear hb; have HL1 := Aside0.mk (lineAt_fresh w1); have HG1 : Aside0 (GW w1) := ⟨HG.out.of HB1.out⟩; obtain ⟨x0, x1, x2, x3, x4, x5, x6, x7, x8, x9⟩ := box10 (blk_alloc HX1.out (.cells #[.pointer none, .slice none 0 0] 56))))
      go_ret
      exact ⟨rfl, HB9.out⟩
    · have h2 : e.kd = 2 := by
        unfold plainB at hp
        rw [if_neg h1] at hp
        by_cases h2 : e.kd = 2
        · exact h2
        · rw [if_neg h2] at hp; cases hp
      have hres : Aside0 (lineL e = ansW (callW (addW (addW (addW (addW [] (Lib.itoa e.wh)) wThread) (Lib.itoa e.th)) wEnd) e.ck e.cv e.cn) e.er e.an e.ex e.nd) := ⟨by unfold lineL; rw [if_neg (by rw [hp]; simp), if_neg h1]⟩
      have hpl : Aside0 (∀ w, Calls Tryd.prog 23 #[.agg #[.int .i64 e.wh, .int .i64 e.th, .int .i64 2, .int .i64 e.ck, .int .i64 e.cv, .int .i64 e.cn, .int .i64 e.er, .int .i64 e.an, .bool e.ex, .int .i64 e.nd]] w fun x w' => x = .returned (.bool true) ∧ Below w.heap.size w w') := ⟨fun w => by have := K_plain e w; rw [hp] at this; unfold evV at this; rw [h2] at this; exact this⟩
      have hev : evV e = .agg #[.int .i64 e.wh, .int .i64 e.th, .int .i64 2, .int .i64 e.ck, .int .i64 e.cv, .int .i64 e.cn, .int .i64 e.er, .int .i64 e.an, .bool e.ex, .int .i64 e.nd] := by unfold evV; rw [h2]
      rw [hev, hres.out]
      clear hev hp h1 h2 hres
      have z1 := Aside0.mk (itoa_len e.wh HE.out.wh.1 HE.out.wh.2)
      have z2 := Aside0.mk (addN_len (addW [] (Lib.itoa e.wh)) wThread e.th HE.out.th (by decide))
      have z0 := Aside0.mk (addW_len [] (Lib.itoa e.wh))
      have z3 := Aside0.mk (addB_len (addW (addW (addW [] (Lib.itoa e.wh)) wThread) (Lib.itoa e.th)) wEnd (by decide))
      have z4 := Aside0.mk (callW_len (addW (addW (addW (addW [] (Lib.itoa e.wh)) wThread) (Lib.itoa e.th)) wEnd) e.ck e.cv e.cn HE.out.ck HE.out.cv HE.out.cn)
      go_enter Tryd.func11, Tryd.ntmps11
      go_wp2_with (first | (go_at_call 27; (with_reducible refine (K_LString w1 _ _ _ HL6.out ?_).mono ?_); exact addW_ne _ _ (itoa_ne _); rintro e9 w9 ⟨rfl, hb⟩; have HB9 := Aside0.mk (HB1.out.trans ((HL6.out.below.trans hb).mono HB1.out.size)); clear hb) | (go_at_call 28; (with_reducible refine (K_ans w1 _ _ _ e.er e.an e.ex e.nd HE.out.er HE.out.an HE.out.nd HG1.out HL5.out ?_).mono ?_); (have := z0.out; have := z1.out; have := z2.out; have := z3.out; have := z4.out; simp only [List.length_nil] at *; omega); rintro e6 w6 ⟨rfl, h, -⟩; have HL6 := Aside0.mk h; clear x0 x1 x2 x3 x4 x5 x6 x7 x8 x9; obtain ⟨x0, x1, x2, x3, x4, x5, x6, x7, x8, x9⟩ := box10 (blk_below HX1.out h.below); clear h HL5) | (go_at_call 26; (with_reducible refine (K_call w1 _ _ _ e.ck e.cv e.cn HE.out.ck HE.out.cv HE.out.cn HG1.out HL4.out ?_).mono ?_); (have := z0.out; have := z1.out; have := z2.out; have := z3.out; have := z4.out; simp only [List.length_nil] at *; omega); rintro e5 w5 ⟨rfl, h, -⟩; have HL5 := Aside0.mk h; clear x0 x1 x2 x3 x4 x5 x6 x7 x8 x9; obtain ⟨x0, x1, x2, x3, x4, x5, x6, x7, x8, x9⟩ := box10 (blk_below HX1.out h.below); clear h HL4) | (go_at_call 25; (with_reducible refine (K_w_end w1 _ _ _ HL3.out ?_).mono ?_); (have := z0.out; have := z1.out; have := z2.out; have := z3.out; have := z4.out; simp only [List.length_nil] at *; omega); rintro e4 w4 ⟨rfl, h, -⟩; have HL4 := Aside0.mk h; clear x0 x1 x2 x3 x4 x5 x6 x7 x8 x9; obtain ⟨x0, x1, x2, x3, x4, x5, x6, x7, x8, x9⟩ := box10 (blk_below HX1.out h.below); clear h HL3) | (go_at_call 24; (with_reducible refine (K_num_thread w1 _ _ _ e.th HE.out.th HG1.out HL2.out ?_).mono ?_); (have := z0.out; have := z1.out; have := z2.out; have := z3.out; have := z4.out; simp only [List.length_nil] at *; omega); rintro e3 w3 ⟨rfl, h, -⟩; have HL3 := Aside0.mk h; clear x0 x1 x2 x3 x4 x5 x6 x7 x8 x9; obtain ⟨x0, x1, x2, x3, x4, x5, x6, x7, x8, x9⟩ := box10 (blk_below HX1.out h.below); clear h HL2) | (go_at_call 24; (with_reducible refine (K_num_none w1 _ _ [] e.wh HE.out.wh HG1.out HL1.out ?_).mono ?_); (simp); rintro e2 w2 ⟨rfl, h, -⟩; have HL2 := Aside0.mk h; clear x0 x1 x2 x3 x4 x5 x6 x7 x8 x9; obtain ⟨x0, x1, x2, x3, x4, x5, x6, x7, x8, x9⟩ := box10 (blk_below HX1.out h.below); clear h HL1) | (go_at_call 23; (with_reducible refine (hpl.out _).mono ?_); rintro e1 w1 ⟨rfl, hb⟩; have HX1 := Aside0.mk (blk_below (g := w.heap.size) (blk_new w (.cells #[.int .i64 e.wh, .int .i64 e.th, .int .i64 2, .int .i64 e.ck, .int .i64 e.cv, .int .i64 e.cn, .int .i64 e.er, .int .i64 e.an, .bool e.ex, .int .i64 e.nd] 28)) hb); have HB1 : Aside0 (Below w.heap.size w w1) := ⟨(below_alloc (Below.refl _ _) _).trans (hb.mono (by simp))⟩; clear hb; have HL1 := Aside0.mk (lineAt_fresh w1); have HG1 : Aside0 (GW w1) := ⟨HG.out.of HB1.out⟩; obtain ⟨x0, x1, x2, x3, x4, x5, x6, x7, x8, x9⟩ := box10 (blk_alloc HX1.out (.cells #[.pointer none, .slice none 0 0] 56))))
      go_ret
      exact ⟨rfl, HB9.out⟩
end Go.Proofs.YtfolhicnbabldaaDoor.PR
