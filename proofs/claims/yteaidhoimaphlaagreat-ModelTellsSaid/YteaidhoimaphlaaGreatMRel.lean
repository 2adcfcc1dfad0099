import Derived.Test.YteaidhoimaphlaaGreatMAdm
import Derived.RangeFuncNested
import Derived.RangeFuncBound
import Derived.RangeFuncCalls
import Derived.RangeFuncLeaves
import Derived.RangeFuncBox
import Derived.Shelf.Abstract
import Derived.Shelf.RegionOpen
import Derived.OwnWalkIn
import Derived.TacticsInMore
import Derived.LoopNIn
import Derived.LoopIn
import Derived.Deep.RegionHeld3
import Derived.Deep.RegionLaw
import Derived.Laws.CopyOwn
import Derived.Laws.EntriesVeiled
namespace Go.Proofs.YteaidhoimaphlaaGreat.PM
open Go.RowKit Go.Shelf Go.Proofs.YteaidhoimaphlaaGreatW.PrintWords Go.Proofs.YteaidhoimaphlaaGreatW.PrintLast Go.Proofs.YteaidhoimaphlaaGreatW.PrintMore
attribute [local go_sem] max2_int min2_int max_two min_two max_three min_three max_four min_four
set_option linter.unusedVariables false
set_option linter.unusedSimpArgs false
def releaseM (M : ML) (n : Int) : ML × LAns :=
  if isFree (tkAt M.tk (tkOf n M.c.ti).toNat) = true ∨ (tkAt M.tk (tkOf n M.c.ti).toNat).ver ≠ verOf n M.c.ti then (M, ⟨5, 0, false, 0⟩)
  else ({ M with use := addUses M.use (pathL M.c.ps (tkAt M.tk (tkOf n M.c.ti).toNat).node) (wrap64 (-(tkAt M.tk (tkOf n M.c.ti).toNat).n)), tk := M.tk.set (tkOf n M.c.ti).toNat (turnT (tkAt M.tk (tkOf n M.c.ti).toNat) 0 0) }, ⟨0, (tkAt M.tk (tkOf n M.c.ti).toNat).n, false, (tkAt M.tk (tkOf n M.c.ti).toNat).node⟩)
theorem tkOf_range (n ti : Int) : 0 ≤ tkOf n ti ∧ tkOf n ti < 16 := by
  unfold tkOf
  split <;> omega
theorem box3 {W : World} {g t : Nat} {x0 x1 x2 : Value} (h : W.heap[g]? = some (.cells #[x0, x1, x2] t (0, 0))) :
    W.cell? ⟨g, 0, none⟩ = some x0 ∧ W.cell? ⟨g, 1, none⟩ = some x1 ∧ W.cell? ⟨g, 2, none⟩ = some x2 :=
  ⟨(blk_cell h 0).trans rfl, (blk_cell h 1).trans rfl, (blk_cell h 2).trans rfl⟩
theorem MAt.b_ge {W0 W : World} {b : Nat} {M : ML} (h : MAt W0 W b M) : W0.heap.size ≤ b := by
  obtain ⟨_, _, _, _, _, _, _, _, _, _, _, _, h⟩ := h; exact h
theorem MAt.b_lt {W0 W : World} {b : Nat} {M : ML} (h : MAt W0 W b M) : b < W.heap.size := by
  obtain ⟨_, _, _, _, _, _, h, _⟩ := h; exact blk_lt h
set_option maxHeartbeats 4000000 in
set_option maxRecDepth 100000 in
theorem K_release (W0 W : World) (b : Nat) (M : ML) (hW : Below W0.heap.size W0 W) (h : MAt W0 W b M) (hok : MOk M) (node n : Int) (hn : n ≤ 9223372036854775807) : Calls Tryz.prog 27 #[.pointer (some ⟨b, 0, none⟩), .agg #[.int .i64 2, .int .i64 node, .int .i64 n]] W fun e w' => e = .returned (ansV (releaseM M n).2) ∧ KB W w' b ∧ MAt W0 w' b (releaseM M n).1 := by
  have HOK := Aside0.mk hok
  have HM := Aside0.mk h
  have HW := Aside0.mk hW
  have hus := Tryz.underlying24
  have hua := Tryz.underlying35
  have huc := Tryz.underlying38
  have hut := Tryz.underlying54
  have huh := Tryz.underlying52
  have hsz := Aside0.mk h.b_lt
  have HN := Aside0.mk hn
  obtain ⟨A6, n6, d6, A7, n7, d7, ⟨q0, q1, q2, q3, q4, q5, q6, q7⟩, h6, h7⟩ := h.cells
  have H6 := Aside0.mk (h6.below hW)
  have H7 := Aside0.mk (h7.below hW)
  have Q := Aside0.mk (show (W.cell? ⟨b, 0, none⟩ = some (.int .i64 M.c.th) ∧ W.cell? ⟨b, 1, none⟩ = some (.int .i64 M.c.st) ∧ W.cell? ⟨b, 2, none⟩ = some (.int .i64 M.c.ga) ∧ W.cell? ⟨b, 3, none⟩ = some (.int .i64 M.c.le) ∧ W.cell? ⟨b, 4, none⟩ = some (.int .i64 M.c.re) ∧ W.cell? ⟨b, 5, none⟩ = some (.int .i64 M.c.ti) ∧ W.cell? ⟨b, 6, none⟩ = some (.slice A6 n6 d6) ∧ W.cell? ⟨b, 7, none⟩ = some (.slice A7 n7 d7)) from ⟨q0, q1, q2, q3, q4, q5, q6, q7⟩)
  have qb : (⟨b, 5, none⟩ : Addr).block < W.heap.size := h.b_lt
  obtain ⟨k, hk⟩ : ∃ k : Nat, tkOf n M.c.ti = (k : Int) := ⟨(tkOf n M.c.ti).toNat, by have := tkOf_range n M.c.ti; omega⟩
  have hk16 : Aside0 (k < 16) := ⟨by have := tkOf_range n M.c.ti; omega⟩
  clear h hok hW hn h6 h7 q0 q1 q2 q3 q4 q6 q7
  have hnamed : Aside0 (∀ w, Calls Tryz.prog 20 #[.int .i64 n, .int .i64 M.c.ti] w fun e w' => e = .returned (.tuple #[.int .i64 k, .int .i64 (verOf n M.c.ti), .bool (namedOk n M.c.ti)]) ∧ Below w.heap.size w w') := ⟨fun w => by rw [← hk]; exact K_Named n M.c.ti HN.out w⟩
  have hrel : Aside0 (releaseM M n = if isFree (tkAt M.tk k) = true ∨ (tkAt M.tk k).ver ≠ verOf n M.c.ti then (M, ⟨5, 0, false, 0⟩) else ({ M with use := addUses M.use (pathL M.c.ps (tkAt M.tk k).node) (wrap64 (-(tkAt M.tk k).n)), tk := M.tk.set k (turnT (tkAt M.tk k) 0 0) }, ⟨0, (tkAt M.tk k).n, false, (tkAt M.tk k).node⟩)) := ⟨by unfold releaseM; rw [hk, Int.toNat_natCast]⟩
  clear hk
  go_enter Tryz.func27, Tryz.ntmps27
  go_wp2_with (fail)
  obtain ⟨W1, hW1⟩ : ∃ W1, (W.alloc (.cells #[.int .i64 2, .int .i64 node, .int .i64 n] 38)).alloc (.cells #[.int .i64 0, .int .i64 0, .bool false, .int .i64 0] 35) = W1 := ⟨_, rfl⟩
  have hB1 : Aside0 (Below W.heap.size W W1) := ⟨by rw [← hW1]; exact below_alloc (below_alloc (Below.refl _ _) _) _⟩
  have HB1 : Aside0 (W1.heap[W.heap.size]? = some (.cells #[.int .i64 2, .int .i64 node, .int .i64 n] 38 (0, 0)) ∧ W1.heap[W.heap.size + 1]? = some (.cells #[.int .i64 0, .int .i64 0, .bool false, .int .i64 0] 35 (0, 0)) ∧ W.heap.size + 2 ≤ W1.heap.size) := ⟨by rw [← hW1]; exact two_box (Below.refl _ _)⟩
  rw [hW1]
  clear hW1
  have cn : W1.cell? ⟨W.heap.size, 2, none⟩ = some (.int .i64 n) := (blk_cell HB1.out.1 2).trans rfl
  have cti : W1.cell? ⟨b, 5, none⟩ = some (.int .i64 M.c.ti) := below_cell_of hB1.out Q.out.2.2.2.2.2.1
  go_region_held3 (fun w3 => w3.cell? ⟨W.heap.size, 2, none⟩ = some (.int .i64 n) ∧ w3.cell? ⟨b, 5, none⟩ = some (.int .i64 M.c.ti)) (first | go_keep | (go_split_ands; (repeat' apply And.intro); all_goals (refine below_cell_of hb2 ?_; assumption))) ((go_at_call 20; refine (hnamed.out _).mono ?_; rintro e w2 ⟨rfl, hb2⟩))
  rename_i hHeld
  clear hHeld cn cti
  have hB2 : Aside0 (Below W1.heap.size W1 w2) := ⟨(Below.refl W1.heap.size W1).drew.trans hb2⟩
  have HB2 : Aside0 (w2.heap[W.heap.size]? = some (.cells #[.int .i64 2, .int .i64 node, .int .i64 n] 38 (0, 0)) ∧ w2.heap[W.heap.size + 1]? = some (.cells #[.int .i64 0, .int .i64 0, .bool false, .int .i64 0] 35 (0, 0)) ∧ W.heap.size + 2 ≤ w2.heap.size) := ⟨blk_below HB1.out.1 hB2.out, blk_below HB1.out.2.1 hB2.out, Nat.le_trans HB1.out.2.2 hB2.out.size⟩
  have HM2 : Aside0 (MAt W0 w2 b M) := ⟨(HM.out.below hB1.out).below hB2.out⟩
  have HK2 : Aside0 (KB W w2 b) := ⟨(KB.of_below hB1.out b).trans (KB.of_below hB2.out b)⟩
  have hBB : Aside0 (Below W.heap.size W w2) := ⟨hB1.out.trans (hB2.out.mono hB1.out.size)⟩
  have tq : Aside0 (w2.cell? ⟨b, 32 + k * 3, none⟩ = some (.int .u32 (tkAt M.tk k).ver) ∧ w2.cell? ⟨b, 32 + k * 3 + 1, none⟩ = some (.int .i64 (tkAt M.tk k).node) ∧ w2.cell? ⟨b, 32 + k * 3 + 2, none⟩ = some (.int .i64 (tkAt M.tk k).n)) := ⟨by
    obtain ⟨_, _, _, _, _, _, hbr, _, _, hl, hu, ht, _⟩ := HM2.out
    exact mc_tk hbr rfl hl hu k (by rw [ht]; exact hk16.out)⟩
  obtain ⟨t0, t1, t2⟩ := tq.out
  have hk0 : (0 : Int) ≤ (k : Int) := by omega
  have hk1 : (k : Int) < 16 := by have := hk16.out; omega
  clear hb2
  have hvw : wrap64 (tkAt M.tk k).ver = (tkAt M.tk k).ver := by have := HOK.out.vers k hk16.out; exact w64 (by omega) (by omega)
  by_cases hv : (tkAt M.tk k).ver = verOf n M.c.ti
  · by_cases hnd : (tkAt M.tk k).node = 0
    · by_cases hnn : (tkAt M.tk k).n = 0
      · have hcase : Aside0 (isFree (tkAt M.tk k) = true ∨ (tkAt M.tk k).ver ≠ verOf n M.c.ti) := ⟨.inl (by simp [isFree, hnd, hnn])⟩
        have hvb : (wrap64 (tkAt M.tk k).ver != verOf n M.c.ti) = false := by rw [hvw, hv]; simp
        clear hv hvw
        go_wp2_with (go_at_call 25; refine (K_refused _ _ _).mono ?_; rintro e w5 ⟨rfl, hb5⟩; have hb5' := Aside0.mk (below_step (below_alloc (Below.refl _ _) _) hb5); obtain ⟨r0, r1, r2, r3, f0, f1, f2, f3⟩ := box4 (blk_below HB2.out.2.1 hb5'.out); clear hb5)
        refine bodyPost_ret (results_cell_row rfl _ _ (W.heap.size + 1) 35 #[.int .i64 5, .int .i64 0, .bool false, .int .i64 0] (0, 0) _ rfl (blk_put4 (blk_below HB2.out.2.1 hb5'.out) _ _ _ _) hua rfl (by kernel_rfl)) rfl ?_
        have hne : b ≠ W.heap.size + 1 := by have := hsz.out; omega
        rw [hrel.out, if_pos hcase.out]
        exact ⟨rfl, (HK2.out.trans (KB.of_below hb5'.out b)).put4 (by omega) _ _ _ _, (HM2.out.below hb5'.out).put4 hne _ _ _ _⟩
      · have hcase : Aside0 (¬ (isFree (tkAt M.tk k) = true ∨ (tkAt M.tk k).ver ≠ verOf n M.c.ti)) := ⟨by simp [isFree, hnd, hnn, hv]⟩
        have hvb : (wrap64 (tkAt M.tk k).ver != verOf n M.c.ti) = false := by rw [hvw, hv]; simp
        clear hv hvw
        go_wp2_with (fail)
        obtain ⟨W3, hW3⟩ : ∃ W3, w2.alloc (.cells #[.int .u32 (tkAt M.tk k).ver, .int .i64 (0), .int .i64 (tkAt M.tk k).n] 54) = W3 := ⟨_, rfl⟩
        have hB3 : Aside0 (Below w2.heap.size w2 W3) := ⟨by rw [← hW3]; exact below_alloc (Below.refl _ _) _⟩
        have hT3 : Aside0 (W3.heap[w2.heap.size]? = some (.cells #[.int .u32 (tkAt M.tk k).ver, .int .i64 (0), .int .i64 (tkAt M.tk k).n] 54 (0, 0))) := ⟨by rw [← hW3]; exact blk_new _ _⟩
        rw [hW3]
        clear hW3 t0 t1 t2
        have hBB3 : Aside0 (Below W.heap.size W W3) := ⟨hBB.out.trans (hB3.out.mono hBB.out.size)⟩
        have HM3 : Aside0 (MAt W0 W3 b M) := ⟨HM2.out.below hB3.out⟩
        have HK3 : Aside0 (KB W W3 b) := ⟨HK2.out.trans (KB.of_below hB3.out b)⟩
        have HR3 : Aside0 (W3.heap[W.heap.size + 1]? = some (.cells #[.int .i64 0, .int .i64 0, .bool false, .int .i64 0] 35 (0, 0))) := ⟨blk_below HB2.out.2.1 hB3.out⟩
        obtain ⟨q0, q1, q2, q3, q4, q5, q6, q7⟩ := Q.out
        replace q0 := below_cell_of hBB3.out q0
        replace q1 := below_cell_of hBB3.out q1
        replace q2 := below_cell_of hBB3.out q2
        replace q3 := below_cell_of hBB3.out q3
        replace q4 := below_cell_of hBB3.out q4
        replace q5 := below_cell_of hBB3.out q5
        replace q6 := below_cell_of hBB3.out q6
        replace q7 := below_cell_of hBB3.out q7
        obtain ⟨-, t1, t2⟩ := box3 hT3.out
        have hgb : Aside0 (w2.heap.size ≠ b) := ⟨by have := HB2.out.2.2; have := hsz.out; omega⟩
        have hp12 : Aside0 (∀ x ∈ (pathL M.c.ps (0)), 0 ≤ x ∧ x < 12) := ⟨fun x hx => by have := pathL_range HOK.out.falls _ x hx; have := HOK.out.nodes; omega⟩
        go_region_held3 (fun w3 => (w3.cell? ⟨b, 0, none⟩ = some (.int .i64 M.c.th) ∧ w3.cell? ⟨b, 1, none⟩ = some (.int .i64 M.c.st) ∧ w3.cell? ⟨b, 2, none⟩ = some (.int .i64 M.c.ga) ∧ w3.cell? ⟨b, 3, none⟩ = some (.int .i64 M.c.le) ∧ w3.cell? ⟨b, 4, none⟩ = some (.int .i64 M.c.re) ∧ w3.cell? ⟨b, 5, none⟩ = some (.int .i64 M.c.ti) ∧ w3.cell? ⟨b, 6, none⟩ = some (.slice A6 n6 d6) ∧ w3.cell? ⟨b, 7, none⟩ = some (.slice A7 n7 d7)) ∧ w3.cell? ⟨w2.heap.size, 1, none⟩ = some (.int .i64 (0)) ∧ w3.cell? ⟨w2.heap.size, 2, none⟩ = some (.int .i64 (tkAt M.tk k).n)) (first | go_keep | (go_split_ands; (repeat' apply And.intro); all_goals (refine below_cell_of hb4 ?_; assumption)) | (go_split_ands; (repeat' apply And.intro); all_goals (first | (refine (hc5 _ (by omega)).trans ?_; assumption) | (refine hk5.cell ?_ hgb.out; assumption)))) ((first | (go_at_call 35; refine (K_path2 M.c _ _ (0) _ (H6.out.below (by repeat (first | exact hBB3.out | apply below_alloc | apply below_drew1 | apply pw_below_drewN))) (H7.out.below (by repeat (first | exact hBB3.out | apply below_alloc | apply below_drew1 | apply pw_below_drewN))) HOK.out.falls HOK.out.nodes).mono ?_; rintro e w4 ⟨A, c, rfl, hP, hPn, hb4⟩; have hB4 : Aside0 (Below W3.heap.size W3 w4) := ⟨(Below.refl W3.heap.size W3).drew.trans hb4⟩; have HP := Aside0.mk hP; have hPne : Aside0 (∀ a, A = some a → a.block ≠ b) := ⟨fun a ha => by have h0 : W3.heap.size ≤ a.block := hPn a ha; have h1 := hBB3.out.size; have h2 := hsz.out; omega⟩; clear hP hPn) | (go_at_call 37; refine (K_move W0 _ b M (HM3.out.below hB4.out) A c (pathL M.c.ps (0)) _ HP.out hp12.out hPne.out).mono ?_; rintro e w5 ⟨rfl, hk5, hm5, hc5⟩)))
        rename_i hHeld
        clear hHeld q0 q1 q2 q3 q4 q5 q6 q7
        have hw4 := Aside0.mk (((Below.refl W3.heap.size W3).drew).trans hb4)
        have HM5 := Aside0.mk hm5
        have HK5 : Aside0 (KB W w5 b) := ⟨(HK3.out.trans (KB.of_below hB4.out b)).trans hk5⟩
        have HR5 := Aside0.mk (hk5.blk (blk_below HR3.out hB4.out) (by have := hsz.out; omega))
        have HT5 := Aside0.mk (hk5.blk (blk_below hT3.out hB4.out) hgb.out)
        clear hw4 hk5 hm5 hc5 hb4 t1 t2
        go_wp2_with (go_at_call 36; refine (K_turn W0 _ b _ HM5.out k hk16.out 0 0).mono ?_; rintro e w6 ⟨rfl, hk6, hm6⟩; have HM6 := Aside0.mk hm6; have HK6 := Aside0.mk (HK5.out.trans hk6); have HR6 := Aside0.mk (hk6.blk HR5.out (by have := hsz.out; omega)); have HT6 := Aside0.mk (hk6.blk HT5.out hgb.out); clear hk6 hm6; obtain ⟨-, t1, t2⟩ := box3 HT6.out; obtain ⟨r0, r1, r2, r3, f0, f1, f2, f3⟩ := box4 HR6.out)
        refine bodyPost_ret (results_cell_row rfl _ _ (W.heap.size + 1) 35 #[.int .i64 0, .int .i64 (tkAt M.tk k).n, .bool false, .int .i64 (0)] (0, 0) _ rfl (blk_put4 HR6.out _ _ _ _) hua rfl (by kernel_rfl)) rfl ?_
        have hne : b ≠ W.heap.size + 1 := by have := hsz.out; omega
        have HM7 := HM6.out
        simp only [i64w] at HM7
        rw [hrel.out, if_neg hcase.out, hnd]
        exact ⟨rfl, HK6.out.put4 (by omega) _ _ _ _, HM7.put4 hne _ _ _ _⟩
    · have hcase : Aside0 (¬ (isFree (tkAt M.tk k) = true ∨ (tkAt M.tk k).ver ≠ verOf n M.c.ti)) := ⟨by simp [isFree, hnd, hv]⟩
      have hvb : (wrap64 (tkAt M.tk k).ver != verOf n M.c.ti) = false := by rw [hvw, hv]; simp
      clear hv hvw
      go_wp2_with (fail)
      obtain ⟨W3, hW3⟩ : ∃ W3, w2.alloc (.cells #[.int .u32 (tkAt M.tk k).ver, .int .i64 ((tkAt M.tk k).node), .int .i64 (tkAt M.tk k).n] 54) = W3 := ⟨_, rfl⟩
      have hB3 : Aside0 (Below w2.heap.size w2 W3) := ⟨by rw [← hW3]; exact below_alloc (Below.refl _ _) _⟩
      have hT3 : Aside0 (W3.heap[w2.heap.size]? = some (.cells #[.int .u32 (tkAt M.tk k).ver, .int .i64 ((tkAt M.tk k).node), .int .i64 (tkAt M.tk k).n] 54 (0, 0))) := ⟨by rw [← hW3]; exact blk_new _ _⟩
      rw [hW3]
      clear hW3 t0 t1 t2
      have hBB3 : Aside0 (Below W.heap.size W W3) := ⟨hBB.out.trans (hB3.out.mono hBB.out.size)⟩
      have HM3 : Aside0 (MAt W0 W3 b M) := ⟨HM2.out.below hB3.out⟩
      have HK3 : Aside0 (KB W W3 b) := ⟨HK2.out.trans (KB.of_below hB3.out b)⟩
      have HR3 : Aside0 (W3.heap[W.heap.size + 1]? = some (.cells #[.int .i64 0, .int .i64 0, .bool false, .int .i64 0] 35 (0, 0))) := ⟨blk_below HB2.out.2.1 hB3.out⟩
      obtain ⟨q0, q1, q2, q3, q4, q5, q6, q7⟩ := Q.out
      replace q0 := below_cell_of hBB3.out q0
      replace q1 := below_cell_of hBB3.out q1
      replace q2 := below_cell_of hBB3.out q2
      replace q3 := below_cell_of hBB3.out q3
      replace q4 := below_cell_of hBB3.out q4
      replace q5 := below_cell_of hBB3.out q5
      replace q6 := below_cell_of hBB3.out q6
      replace q7 := below_cell_of hBB3.out q7
      obtain ⟨-, t1, t2⟩ := box3 hT3.out
      have hgb : Aside0 (w2.heap.size ≠ b) := ⟨by have := HB2.out.2.2; have := hsz.out; omega⟩
      have hp12 : Aside0 (∀ x ∈ (pathL M.c.ps ((tkAt M.tk k).node)), 0 ≤ x ∧ x < 12) := ⟨fun x hx => by have := pathL_range HOK.out.falls _ x hx; have := HOK.out.nodes; omega⟩
      go_region_held3 (fun w3 => (w3.cell? ⟨b, 0, none⟩ = some (.int .i64 M.c.th) ∧ w3.cell? ⟨b, 1, none⟩ = some (.int .i64 M.c.st) ∧ w3.cell? ⟨b, 2, none⟩ = some (.int .i64 M.c.ga) ∧ w3.cell? ⟨b, 3, none⟩ = some (.int .i64 M.c.le) ∧ w3.cell? ⟨b, 4, none⟩ = some (.int .i64 M.c.re) ∧ w3.cell? ⟨b, 5, none⟩ = some (.int .i64 M.c.ti) ∧ w3.cell? ⟨b, 6, none⟩ = some (.slice A6 n6 d6) ∧ w3.cell? ⟨b, 7, none⟩ = some (.slice A7 n7 d7)) ∧ w3.cell? ⟨w2.heap.size, 1, none⟩ = some (.int .i64 ((tkAt M.tk k).node)) ∧ w3.cell? ⟨w2.heap.size, 2, none⟩ = some (.int .i64 (tkAt M.tk k).n)) (first | go_keep | (go_split_ands; (repeat' apply And.intro); all_goals (refine below_cell_of hb4 ?_; assumption)) | (go_split_ands; (repeat' apply And.intro); all_goals (first | (refine (hc5 _ (by omega)).trans ?_; assumption) | (refine hk5.cell ?_ hgb.out; assumption)))) ((first | (go_at_call 35; refine (K_path2 M.c _ _ ((tkAt M.tk k).node) _ (H6.out.below (by repeat (first | exact hBB3.out | apply below_alloc | apply below_drew1 | apply pw_below_drewN))) (H7.out.below (by repeat (first | exact hBB3.out | apply below_alloc | apply below_drew1 | apply pw_below_drewN))) HOK.out.falls HOK.out.nodes).mono ?_; rintro e w4 ⟨A, c, rfl, hP, hPn, hb4⟩; have hB4 : Aside0 (Below W3.heap.size W3 w4) := ⟨(Below.refl W3.heap.size W3).drew.trans hb4⟩; have HP := Aside0.mk hP; have hPne : Aside0 (∀ a, A = some a → a.block ≠ b) := ⟨fun a ha => by have h0 : W3.heap.size ≤ a.block := hPn a ha; have h1 := hBB3.out.size; have h2 := hsz.out; omega⟩; clear hP hPn) | (go_at_call 37; refine (K_move W0 _ b M (HM3.out.below hB4.out) A c (pathL M.c.ps ((tkAt M.tk k).node)) _ HP.out hp12.out hPne.out).mono ?_; rintro e w5 ⟨rfl, hk5, hm5, hc5⟩)))
      rename_i hHeld
      clear hHeld q0 q1 q2 q3 q4 q5 q6 q7
      have hw4 := Aside0.mk (((Below.refl W3.heap.size W3).drew).trans hb4)
      have HM5 := Aside0.mk hm5
      have HK5 : Aside0 (KB W w5 b) := ⟨(HK3.out.trans (KB.of_below hB4.out b)).trans hk5⟩
      have HR5 := Aside0.mk (hk5.blk (blk_below HR3.out hB4.out) (by have := hsz.out; omega))
      have HT5 := Aside0.mk (hk5.blk (blk_below hT3.out hB4.out) hgb.out)
      clear hw4 hk5 hm5 hc5 hb4 t1 t2
      go_wp2_with (go_at_call 36; refine (K_turn W0 _ b _ HM5.out k hk16.out 0 0).mono ?_; rintro e w6 ⟨rfl, hk6, hm6⟩; have HM6 := Aside0.mk hm6; have HK6 := Aside0.mk (HK5.out.trans hk6); have HR6 := Aside0.mk (hk6.blk HR5.out (by have := hsz.out; omega)); have HT6 := Aside0.mk (hk6.blk HT5.out hgb.out); clear hk6 hm6; obtain ⟨-, t1, t2⟩ := box3 HT6.out; obtain ⟨r0, r1, r2, r3, f0, f1, f2, f3⟩ := box4 HR6.out)
      refine bodyPost_ret (results_cell_row rfl _ _ (W.heap.size + 1) 35 #[.int .i64 0, .int .i64 (tkAt M.tk k).n, .bool false, .int .i64 ((tkAt M.tk k).node)] (0, 0) _ rfl (blk_put4 HR6.out _ _ _ _) hua rfl (by kernel_rfl)) rfl ?_
      have hne : b ≠ W.heap.size + 1 := by have := hsz.out; omega
      have HM7 := HM6.out
      simp only [i64w] at HM7
      rw [hrel.out, if_neg hcase.out]
      exact ⟨rfl, HK6.out.put4 (by omega) _ _ _ _, HM7.put4 hne _ _ _ _⟩
  · have hcase : Aside0 (isFree (tkAt M.tk k) = true ∨ (tkAt M.tk k).ver ≠ verOf n M.c.ti) := ⟨.inr hv⟩
    have hvb : (wrap64 (tkAt M.tk k).ver != verOf n M.c.ti) = true := by rw [hvw]; simpa using hv
    clear hv hvw
    by_cases hnd : (tkAt M.tk k).node = 0
    · by_cases hnn : (tkAt M.tk k).n = 0
      · skip
        go_wp2_with (go_at_call 25; refine (K_refused _ _ _).mono ?_; rintro e w5 ⟨rfl, hb5⟩; have hb5' := Aside0.mk (below_step (below_alloc (Below.refl _ _) _) hb5); obtain ⟨r0, r1, r2, r3, f0, f1, f2, f3⟩ := box4 (blk_below HB2.out.2.1 hb5'.out); clear hb5)
        refine bodyPost_ret (results_cell_row rfl _ _ (W.heap.size + 1) 35 #[.int .i64 5, .int .i64 0, .bool false, .int .i64 0] (0, 0) _ rfl (blk_put4 (blk_below HB2.out.2.1 hb5'.out) _ _ _ _) hua rfl (by kernel_rfl)) rfl ?_
        have hne : b ≠ W.heap.size + 1 := by have := hsz.out; omega
        rw [hrel.out, if_pos hcase.out]
        exact ⟨rfl, (HK2.out.trans (KB.of_below hb5'.out b)).put4 (by omega) _ _ _ _, (HM2.out.below hb5'.out).put4 hne _ _ _ _⟩
      · skip
        go_wp2_with (go_at_call 25; refine (K_refused _ _ _).mono ?_; rintro e w5 ⟨rfl, hb5⟩; have hb5' := Aside0.mk (below_step (below_alloc (Below.refl _ _) _) hb5); obtain ⟨r0, r1, r2, r3, f0, f1, f2, f3⟩ := box4 (blk_below HB2.out.2.1 hb5'.out); clear hb5)
        refine bodyPost_ret (results_cell_row rfl _ _ (W.heap.size + 1) 35 #[.int .i64 5, .int .i64 0, .bool false, .int .i64 0] (0, 0) _ rfl (blk_put4 (blk_below HB2.out.2.1 hb5'.out) _ _ _ _) hua rfl (by kernel_rfl)) rfl ?_
        have hne : b ≠ W.heap.size + 1 := by have := hsz.out; omega
        rw [hrel.out, if_pos hcase.out]
        exact ⟨rfl, (HK2.out.trans (KB.of_below hb5'.out b)).put4 (by omega) _ _ _ _, (HM2.out.below hb5'.out).put4 hne _ _ _ _⟩
    · skip
      go_wp2_with (go_at_call 25; refine (K_refused _ _ _).mono ?_; rintro e w5 ⟨rfl, hb5⟩; have hb5' := Aside0.mk (below_step (below_alloc (Below.refl _ _) _) hb5); obtain ⟨r0, r1, r2, r3, f0, f1, f2, f3⟩ := box4 (blk_below HB2.out.2.1 hb5'.out); clear hb5)
      refine bodyPost_ret (results_cell_row rfl _ _ (W.heap.size + 1) 35 #[.int .i64 5, .int .i64 0, .bool false, .int .i64 0] (0, 0) _ rfl (blk_put4 (blk_below HB2.out.2.1 hb5'.out) _ _ _ _) hua rfl (by kernel_rfl)) rfl ?_
      have hne : b ≠ W.heap.size + 1 := by have := hsz.out; omega
      rw [hrel.out, if_pos hcase.out]
      exact ⟨rfl, (HK2.out.trans (KB.of_below hb5'.out b)).put4 (by omega) _ _ _ _, (HM2.out.below hb5'.out).put4 hne _ _ _ _⟩
end Go.Proofs.YteaidhoimaphlaaGreat.PM
