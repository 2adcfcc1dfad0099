import Derived.Test.YteaidhoimaphlaaGreatMRefB
import Derived.RangeFuncNested
import Derived.RangeFuncBound
import Derived.RangeFuncCalls
import Derived.RangeFuncLeaves
import Derived.RangeFuncBox
import Derived.Shelf.Abstract
import Derived.Shelf.RegionOpen
import Derived.OwnWalkIn
import Derived.TacticsInMore
import Derived.LoopNIn
import Derived.LoopIn
import Derived.Deep.RegionHeld3
import Derived.Deep.RegionLaw
import Derived.Laws.CopyOwn
import Derived.Laws.EntriesVeiled
import Derived.Deep.DeepCutAuto
namespace Go.Proofs.YteaidhoimaphlaaGreat.PM
open Go.RowKit Go.Shelf Go.Proofs.YteaidhoimaphlaaGreatW.PrintWords Go.Proofs.YteaidhoimaphlaaGreatW.PrintLast Go.Proofs.YteaidhoimaphlaaGreatW.PrintMore
attribute [local go_sem] max2_int min2_int max_two min_two max_three min_three max_four min_four
set_option linter.unusedVariables false
set_option linter.unusedSimpArgs false
theorem results_free (M : ML) (n : Int) (k : Nat) (hk : tkOf n M.c.ti = (k : Int)) (h : isFree (tkAt M.tk k) = true ∨ (tkAt M.tk k).ver ≠ verOf n M.c.ti) : releaseM M n = (M, ⟨5, 0, false, 0⟩) := by
  unfold releaseM
  rw [hk, Int.toNat_natCast, if_pos h]
theorem results_live (M : ML) (n : Int) (k : Nat) (hk : tkOf n M.c.ti = (k : Int)) (h : ¬ (isFree (tkAt M.tk k) = true ∨ (tkAt M.tk k).ver ≠ verOf n M.c.ti)) : releaseM M n = ({ M with use := addUses M.use (pathL M.c.ps (tkAt M.tk k).node) (wrap64 (-(tkAt M.tk k).n)), tk := M.tk.set k (turnT (tkAt M.tk k) 0 0) }, ⟨0, (tkAt M.tk k).n, false, (tkAt M.tk k).node⟩) := by
  unfold releaseM
  rw [hk, Int.toNat_natCast, if_neg h]
theorem first_below {w w' : World} (hb : Below w.heap.size w w') : Below w.heap.size w w' := hb
theorem keep_set {w3 w9 : World} {b q : Nat} {i j : Nat} {u v : Value} (h : Below w3.heap.size w3 w9) (hc : w3.cell? ⟨q, j, none⟩ = some v) (hne : j ≠ i ∨ q ≠ b) : (w9.setCell ⟨b, i, none⟩ u).cell? ⟨q, j, none⟩ = some v := by
  rw [World.cell?_setCell_other]
  · exact below_cell_of h hc
  · intro e
    cases hne with
    | inl hn => exact hn (congrArg (fun p => p.off) e).symm
    | inr hn => exact hn (congrArg (fun p => p.block) e).symm
set_option maxHeartbeats 4000000 in
set_option maxRecDepth 100000 in
theorem K_rrelease (B : Nat) (G : Nat → Prop) (W : World) (b : Nat) (M : ML) (h : RAt B G W b M) (hG : ∀ x, G x → x < W.heap.size) (hi : Inv M) (v n : Int) (hn : n ≤ 9223372036854775807) (hok : namedOk n M.c.ti = true) : Calls Tryz.prog 30 #[.pointer (some ⟨b, 0, none⟩), .agg #[.int .i64 2, .int .i64 v, .int .i64 n]] W fun e w' => e = .returned (ansV (releaseM M n).2) ∧ KB W w' b ∧ RAt B G w' b (releaseM M n).1 := by
  have HI := Aside0.mk hi
  have HN := Aside0.mk hn
  have hua := Tryz.underlying35
  have huc := Tryz.underlying38
  have hum := Tryz.underlying61
  have hut := Tryz.underlying81
  have hus := Tryz.underlying24
  have hsz := Aside0.mk h.lt
  have HGL := Aside0.mk hG
  clear hG
  obtain ⟨k, hk⟩ : ∃ k : Nat, tkOf n M.c.ti = (k : Int) := ⟨(tkOf n M.c.ti).toNat, by have := tkOf_range n M.c.ti; omega⟩
  have hkt : k < M.c.ti.toNat := by
    unfold tkOf at hk
    rw [if_pos hok] at hk
    unfold namedOk at hok
    simp only [decide_eq_true_eq] at hok
    omega
  have HK := Aside0.mk hk
  have HKT := Aside0.mk hkt
  have hge : B ≤ b := h.1
  have hB := Aside0.mk hge
  have HR := Aside0.mk h
  have hvr : Aside0 (0 ≤ (tkAt M.tk k).ver ∧ (tkAt M.tk k).ver < 4294967296) := ⟨hi.ok.vers k (by have := hi.ok.ti; omega)⟩
  have hok2 := Aside0.mk hok
  clear h hi hn hk hge hok hkt
  go_enter Tryz.func30, Tryz.ntmps30
  go_wp2_with (fail)
  generalize hX : (W.alloc (.cells #[.int .i64 2, .int .i64 v, .int .i64 n] 38)).alloc (.cells #[.int .i64 0, .int .i64 0, .bool false, .int .i64 0] 35) = w1
  have B1 : Aside0 (Below W.heap.size W w1) := ⟨by rw [← hX]; exact below_alloc (below_alloc (Below.refl _ _) _) _⟩
  have X1 : Aside0 (w1.heap[W.heap.size]? = some (.cells #[.int .i64 2, .int .i64 v, .int .i64 n] 38 (0, 0))) := ⟨by rw [← hX]; exact blk_alloc (blk_new _ _) _⟩
  have Y1 : Aside0 (w1.heap[W.heap.size + 1]? = some (.cells #[.int .i64 0, .int .i64 0, .bool false, .int .i64 0] 35 (0, 0))) := ⟨by rw [← hX]; have h := blk_new (W.alloc (.cells #[.int .i64 2, .int .i64 v, .int .i64 n] 38)) (.cells #[.int .i64 0, .int .i64 0, .bool false, .int .i64 0] 35); rw [show (W.alloc (.cells #[.int .i64 2, .int .i64 v, .int .i64 n] 38)).heap.size = W.heap.size + 1 by simp] at h; exact h⟩
  clear hX
  have HR1 := Aside0.mk ((HR.out.hole (HO W G) HO.new).below B1.out)
  have hbn : Aside0 (b ≠ W.heap.size + 1 ∧ b ≠ W.heap.size) := ⟨by have := hsz.out; omega⟩
  have z2 : w1.cell? ⟨W.heap.size, 2, none⟩ = some (.int .i64 n) := (blk_cell X1.out 2).trans rfl
  obtain ⟨_, A6, n6, d6, A7, n7, d7, A8, n8, d8, A9, n9, d9, A10, n10, d10, hh, h6, h7, h8, h9, h10⟩ := HR1.out
  have HH := Aside0.mk hh
  have H6 := Aside0.mk h6
  have H7 := Aside0.mk h7
  have H9 := Aside0.mk h9
  have H10 := Aside0.mk h10
  have x5 : w1.cell? ⟨b, 5, none⟩ = some (.int .i64 M.c.ti) := (blk_cell hh 5).trans rfl
  clear hh h6 h7 h8 h9 h10
  go_cut [5, 6, 7] (fun s5 s6 s7 wx => s5 = .int .i64 k ∧ s6 = .int .i64 (verOf n M.c.ti) ∧ s7 = .bool true ∧ Aside0 (Below w1.heap.size w1 wx))
  case first =>
    go_region_held3 (fun w' => w'.cell? ⟨W.heap.size, 2, none⟩ = some (.int .i64 n) ∧ w'.cell? ⟨b, 5, none⟩ = some (.int .i64 M.c.ti)) ((go_split_ands; (repeat' apply And.intro); all_goals (exact below_cell_of (w := w1) (by with_reducible repeat (first | exact Below.refl _ _ | assumption | exact Aside0.out (by assumption) | apply below_alloc | apply below_drew1 | apply pw_below_drewN)) (by assumption)))) ((go_at_call 40; refine (K_rNamed n M.c.ti HN.out _).mono ?_; rintro e wz ⟨rfl, hb⟩; have BZ := Aside0.mk (below_step (w := w1) (by with_reducible repeat (first | exact Below.refl _ _ | assumption | exact Aside0.out (by assumption) | apply below_alloc | apply below_drew1 | apply pw_below_drewN)) hb); rw [HK.out, hok2.out]; clear hb))
    all_goals
      go_wp2_with (fail)
      go_meet
      exact ⟨rfl, rfl, rfl, BZ⟩
  case rest =>
    obtain ⟨rfl, rfl, rfl, B2⟩ := hcut
    obtain ⟨w2, rfl⟩ : ∃ X, X = wc := ⟨_, rfl⟩
    clear z2 x5
    have x10 : w2.cell? ⟨b, 10, none⟩ = some (.slice A10 n10 d10) := (blk_cell (blk_below HH.out B2.out) 10).trans rfl
    have hlen := H10.out.1.len
    have hkl : k < (tksR M).length := by rw [tksR_len HI.out]; exact HKT.out
    have hget := tksR_get HI.out k HKT.out
    obtain ⟨tad, rfl, c0, c1, c2, c3⟩ := (H10.out.1.below B2.out).at k hkl _ hget
    have q0 : (0 : Int) ≤ (k : Int) := by omega
    have q1 : (k : Int) < (n10 : Int) := by rw [hlen]; exact Int.ofNat_lt.2 hkl
    have e0 : (rtk (tkAt M.tk k)).f0 = (tkAt M.tk k).ver := rfl
    have e1 : (rtk (tkAt M.tk k)).f1 = !isFree (tkAt M.tk k) := rfl
    have e2 : (rtk (tkAt M.tk k)).f2 = (tkAt M.tk k).node := rfl
    have e3 : (rtk (tkAt M.tk k)).f3 = (tkAt M.tk k).n := rfl
    rw [e0] at c0
    rw [e1] at c1
    rw [e2] at c2
    rw [e3] at c3
    clear e0 e1 e2 e3 hget hkl hlen
    go_upto_region 3 with (fail)
    obtain ⟨w3, hX⟩ : ∃ X, w2.alloc (.cells #[.int .i64 (tkAt M.tk k).ver, .bool (!isFree (tkAt M.tk k)), .int .i64 (tkAt M.tk k).node, .int .i64 (tkAt M.tk k).n] 81) = X := ⟨_, rfl⟩
    have B3 : Aside0 (Below w1.heap.size w1 w3) := ⟨by rw [← hX]; exact below_alloc B2.out _⟩
    have T3 : Aside0 (w3.heap[w2.heap.size]? = some (.cells #[.int .i64 (tkAt M.tk k).ver, .bool (!isFree (tkAt M.tk k)), .int .i64 (tkAt M.tk k).node, .int .i64 (tkAt M.tk k).n] 81 (0, 0))) := ⟨by rw [← hX]; exact blk_new _ _⟩
    rw [hX]
    clear hX c0 c1 c2 c3 x10
    obtain ⟨t0, t1, t2, t3, _, _, _, _⟩ := box4 T3.out
    obtain ⟨r0, r1, r2, r3, f0, f1, f2, f3⟩ := box4 (blk_below Y1.out B3.out)
    by_cases hfr : isFree (tkAt M.tk k) = true ∨ (tkAt M.tk k).ver ≠ verOf n M.c.ti
    · have hres := Aside0.mk (results_free M n k HK.out hfr)
      have FIN : Aside0 (KB W ((((w3.setCell ⟨W.heap.size + 1, 0, none⟩ (.int .i64 5)).setCell ⟨W.heap.size + 1, 1, none⟩ (.int .i64 0)).setCell ⟨W.heap.size + 1, 2, none⟩ (.bool false)).setCell ⟨W.heap.size + 1, 3, none⟩ (.int .i64 0)) b ∧ RAt B G ((((w3.setCell ⟨W.heap.size + 1, 0, none⟩ (.int .i64 5)).setCell ⟨W.heap.size + 1, 1, none⟩ (.int .i64 0)).setCell ⟨W.heap.size + 1, 2, none⟩ (.bool false)).setCell ⟨W.heap.size + 1, 3, none⟩ (.int .i64 0)) b M) :=
        ⟨(KB.of_below (B1.out.trans (B3.out.mono B1.out.size)) b).put4 (by omega) _ _ _ _, (HR1.out.below B3.out).put4 hbn.out.1 _ _ _ _⟩
      cases hf : isFree (tkAt M.tk k) with
      | true =>
        rw [hf] at t1
        have HF := Aside0.mk hf
        clear hfr hf
        go_wp2_with (fail)
        refine bodyPost_ret (results_cell_row rfl _ _ (W.heap.size + 1) 35 #[.int .i64 5, .int .i64 0, .bool false, .int .i64 0] (0, 0) _ rfl (blk_put4 (blk_below Y1.out B3.out) _ _ _ _) hua rfl (by kernel_rfl)) rfl ?_
        rw [hres.out]
        exact ⟨rfl, FIN.out⟩
      | false =>
        rw [hf] at t1
        have hne : (tkAt M.tk k).ver ≠ verOf n M.c.ti := by
          rcases hfr with h | h
          · rw [hf] at h; cases h
          · exact h
        have hneb : ((tkAt M.tk k).ver != verOf n M.c.ti) = true := by simpa using hne
        have HF := Aside0.mk hf
        clear hfr hf hne
        go_wp2_with (fail)
        refine bodyPost_ret (results_cell_row rfl _ _ (W.heap.size + 1) 35 #[.int .i64 5, .int .i64 0, .bool false, .int .i64 0] (0, 0) _ rfl (blk_put4 (blk_below Y1.out B3.out) _ _ _ _) hua rfl (by kernel_rfl)) rfl ?_
        rw [hres.out]
        exact ⟨rfl, FIN.out⟩
    · have hres := Aside0.mk (results_live M n k HK.out hfr)
      have hf : isFree (tkAt M.tk k) = false := by cases h : isFree (tkAt M.tk k) with | true => exact absurd (.inl h) hfr | false => rfl
      have hv : (tkAt M.tk k).ver = verOf n M.c.ti := by
        by_cases h : (tkAt M.tk k).ver = verOf n M.c.ti
        · exact h
        · exact absurd (.inr h) hfr
      have hneb : ((tkAt M.tk k).ver != verOf n M.c.ti) = false := by simpa using hv
      rw [hf] at t1
      have HF := Aside0.mk hf
      have hk16 : Aside0 (k < 16) := ⟨by have h1 := HI.out.ok.ti; have h2 := HKT.out; omega⟩
      have hnb := HI.out.tks k hk16.out
      obtain ⟨V, hV⟩ : ∃ V, tkAt M.tk k = V := ⟨_, rfl⟩
      rw [hV] at t0 t2 t3 hneb hnb hres
      have HV := Aside0.mk hV
      clear hfr hf hv hV
      have n0 : 0 ≤ V.n := hnb.1
      have n1 : V.n ≤ 1048576 := hnb.2.1
      have hneg : Aside0 (wrap64 (-V.n) = -V.n) := ⟨w64 (by omega) (by omega)⟩
      rw [hneg.out] at hres
      have hUlen : Aside0 ((useR M).length = M.c.ps.length) := ⟨by unfold useR; rw [List.length_take]; have := HI.out.l2; have := HI.out.ok.nodes; omega⟩
      have hPlen := Aside0.mk (pathL_len12 HI.out.ok.falls HI.out.ok.nodes V.node)
      have hrg := Aside0.mk (pathL_range HI.out.ok.falls V.node)
      have hps := Aside0.mk HI.out.ok.nodes
      have HRU := Aside0.mk (fun by' tk' => useR_add HI.out V.node by' tk')
      obtain ⟨P, hPdef⟩ : ∃ P, pathL M.c.ps V.node = P := ⟨_, rfl⟩
      have HPD := Aside0.mk hPdef
      rw [hPdef] at hres hrg HRU hPlen
      clear hnb hPdef
      obtain ⟨x0, x1, x2, x3, x4, x5, x6, x7, x8, x9, x10, fr⟩ := box11 (blk_below HH.out B3.out)
      clear x8 x10 fr
      go_upto_region 5 with (fail)
      go_cut [5] (fun s5 wx => s5 = .int .i64 k ∧ ∃ w9 A m c, wx = w9.setCell ⟨b, 9, none⟩ (.slice A m c) ∧ Aside0 (IsInts w9 (.slice A m c) (addUses (useR M) P (-V.n))) ∧ Aside0 (NB B b (HO W G) w9.heap.size A) ∧ Aside0 (Below w3.heap.size w3 w9))
      case first =>
        have hbq : Aside0 (w2.heap.size ≠ b) := ⟨by have h1 := hsz.out; have h2 := B1.out.size; have h3 := B2.out.size; omega⟩
        have hwr : Aside0 (IntKind.i64.wrap (-V.n) = -V.n) := ⟨IntWalk.i64_in _ (by omega)⟩
        refine wp_region_noPanic ?_
        refine wp_region_held_drew (S := (fun w' => w'.cell? ⟨b, 0, none⟩ = some (.int .i64 M.c.th) ∧ w'.cell? ⟨b, 1, none⟩ = some (.int .i64 M.c.st) ∧ w'.cell? ⟨b, 2, none⟩ = some (.int .i64 M.c.ga) ∧ w'.cell? ⟨b, 3, none⟩ = some (.int .i64 M.c.le) ∧ w'.cell? ⟨b, 4, none⟩ = some (.int .i64 M.c.re) ∧ w'.cell? ⟨b, 5, none⟩ = some (.int .i64 M.c.ti) ∧ w'.cell? ⟨b, 6, none⟩ = some (.slice A6 n6 d6) ∧ w'.cell? ⟨b, 7, none⟩ = some (.slice A7 n7 d7) ∧ w'.cell? ⟨w2.heap.size, 2, none⟩ = some (.int .i64 V.node) ∧ w'.cell? ⟨w2.heap.size, 3, none⟩ = some (.int .i64 V.n))) (by kernel_rfl) ?_ (fun hHeld => ?_)
        · (try dsimp only)
          ((go_split_ands; (repeat' apply And.intro); all_goals (first | (with_reducible refine keep_set B9.out ?_ ?_; assumption; (first | (left; decide) | (right; exact hbq.out))) | exact below_cell_of (w := w3) (by with_reducible repeat (first | exact Below.refl _ _ | assumption | exact Aside0.out (by assumption) | apply below_alloc | apply below_drew1 | apply pw_below_drewN)) (by assumption))))
        refine wpAnyH_take (i := 0) (oi := _) (v := ?_) ((List.getElem?_toArray ..).trans rfl) (by kernel_rfl) (by kernel_rfl) (by kernel_rfl) (fun _ _ _ h => h) (Or.inl ⟨by rfl, ?_⟩) (by assumption) ?_
        rotate_left
        · (intro w hSw; (try dsimp only at hSw); go_simp; (try with_reducible rfl))
        (try simp only [Act.put, List.setIfInBounds_toArray, List.set_cons_zero, List.set_cons_succ])
        refine wpAnyH_take (i := 1) (oi := _) (v := ?_) ((List.getElem?_toArray ..).trans rfl) (by kernel_rfl) (by kernel_rfl) (by kernel_rfl) (fun _ _ _ h => h) (Or.inl ⟨by rfl, ?_⟩) (by assumption) ?_
        rotate_left
        · (intro w hSw; (try dsimp only at hSw); go_simp; (try with_reducible rfl))
        (try simp only [Act.put, List.setIfInBounds_toArray, List.set_cons_zero, List.set_cons_succ])
        refine wpAnyH_take (i := 2) (oi := _) (v := ?_) ((List.getElem?_toArray ..).trans rfl) (by kernel_rfl) (by kernel_rfl) (by kernel_rfl) (fun _ _ _ h => h) (Or.inl ⟨by rfl, ?_⟩) (by assumption) ?_
        rotate_left
        · (intro w hSw; (try dsimp only at hSw); go_simp; (try with_reducible rfl))
        (try simp only [Act.put, List.setIfInBounds_toArray, List.set_cons_zero, List.set_cons_succ])
        refine wpAnyH_take (i := 3) (oi := _) (v := ?_) ((List.getElem?_toArray ..).trans rfl) (by kernel_rfl) (by kernel_rfl) (by kernel_rfl) (fun _ _ _ h => h) (Or.inl ⟨by rfl, ?_⟩) (by assumption) ?_
        rotate_left
        · (intro w hSw; (try dsimp only at hSw); go_simp; (try with_reducible rfl))
        (try simp only [Act.put, List.setIfInBounds_toArray, List.set_cons_zero, List.set_cons_succ])
        refine wpAnyH_take (i := 5) (oi := _) (v := ?_) ((List.getElem?_toArray ..).trans rfl) (by kernel_rfl) (by kernel_rfl) (by kernel_rfl) (fun _ _ _ h => h) (Or.inl ⟨by rfl, ?_⟩) (by assumption) ?_
        rotate_left
        · (intro w hSw; (try dsimp only at hSw); go_simp; (try with_reducible rfl))
        (try simp only [Act.put, List.setIfInBounds_toArray, List.set_cons_zero, List.set_cons_succ])
        refine wpAnyH_take (i := 6) (oi := _) (v := ?_) ((List.getElem?_toArray ..).trans rfl) (by kernel_rfl) (by kernel_rfl) (by kernel_rfl) (fun _ _ _ h => h) (Or.inl ⟨by rfl, ?_⟩) (by assumption) ?_
        rotate_left
        · (intro w hSw; (try dsimp only at hSw); go_simp; (try with_reducible rfl))
        (try simp only [Act.put, List.setIfInBounds_toArray, List.set_cons_zero, List.set_cons_succ])
        refine wpAnyH_take (i := 7) (oi := _) (v := ?_) ((List.getElem?_toArray ..).trans rfl) (by kernel_rfl) (by kernel_rfl) (by kernel_rfl) (fun _ _ _ h => h) (Or.inl ⟨by rfl, ?_⟩) (by assumption) ?_
        rotate_left
        · (intro w hSw; (try dsimp only at hSw); go_simp; (try with_reducible rfl))
        (try simp only [Act.put, List.setIfInBounds_toArray, List.set_cons_zero, List.set_cons_succ])
        refine wpAnyH_take (i := 8) (oi := _) (v := ?_) ((List.getElem?_toArray ..).trans rfl) (by kernel_rfl) (by kernel_rfl) (by kernel_rfl) (fun _ _ _ h => h) (Or.inl ⟨by rfl, ?_⟩) (by assumption) ?_
        rotate_left
        · (intro w hSw; (try dsimp only at hSw); go_simp; (try with_reducible rfl))
        (try simp only [Act.put, List.setIfInBounds_toArray, List.set_cons_zero, List.set_cons_succ])
        refine wpAnyH_take (i := 9) (oi := _) (v := ?_) ((List.getElem?_toArray ..).trans rfl) (by kernel_rfl) (by kernel_rfl) (by kernel_rfl) (fun _ _ _ h => h) (Or.inl ⟨by rfl, ?_⟩) (by assumption) ?_
        rotate_left
        · (intro w hSw; (try dsimp only at hSw); go_simp; (try with_reducible rfl))
        (try simp only [Act.put, List.setIfInBounds_toArray, List.set_cons_zero, List.set_cons_succ])
        refine wpAnyH_take (i := 10) (oi := _) (v := ?_) ((List.getElem?_toArray ..).trans rfl) (by kernel_rfl) (by kernel_rfl) (by kernel_rfl) (fun _ _ _ h => h) (Or.inl ⟨by rfl, ?_⟩) (by assumption) ?_
        rotate_left
        · (intro w hSw; (try dsimp only at hSw); go_simp; (try with_reducible rfl))
        (try simp only [Act.put, List.setIfInBounds_toArray, List.set_cons_zero, List.set_cons_succ])
        refine wpAnyH_take (i := 12) (oi := _) (v := ?_) ((List.getElem?_toArray ..).trans rfl) (by kernel_rfl) (by kernel_rfl) (by kernel_rfl) (fun _ _ _ h => h) (Or.inl ⟨by rfl, ?_⟩) (by assumption) ?_
        rotate_left
        · (intro w hSw; (try dsimp only at hSw); go_simp; (try with_reducible rfl))
        (try simp only [Act.put, List.setIfInBounds_toArray, List.set_cons_zero, List.set_cons_succ])
        refine wpAnyH_take (i := 13) (oi := _) (v := ?_) ((List.getElem?_toArray ..).trans rfl) (by kernel_rfl) (by kernel_rfl) (by kernel_rfl) (fun _ _ _ h => h) (Or.inl ⟨by rfl, ?_⟩) (by assumption) ?_
        rotate_left
        · (intro w hSw; (try dsimp only at hSw); go_simp; (try with_reducible rfl))
        (try simp only [Act.put, List.setIfInBounds_toArray, List.set_cons_zero, List.set_cons_succ])
        refine wpAnyH_take (i := 14) (oi := _) (v := ?_) ((List.getElem?_toArray ..).trans rfl) (by kernel_rfl) (by kernel_rfl) (by kernel_rfl) (fun _ _ _ h => h) (Or.inl ⟨by rfl, ?_⟩) (by assumption) ?_
        rotate_left
        · (intro w hSw; (try dsimp only at hSw); go_simp; (try with_reducible rfl))
        (try simp only [Act.put, List.setIfInBounds_toArray, List.set_cons_zero, List.set_cons_succ])
        refine wpAnyH_ready (rs := [4, 11]) (by kernel_rfl) (by simp) ?_
        refine AllReadyH.cons (i := 4) (o := _) ((List.getElem?_toArray ..).trans rfl) (fun K hK => ?_) ?_
        · go_simp
          refine hK.out _ _ ?_ (fun hHeld => ?_)
          · (try dsimp only)
            ((go_split_ands; (repeat' apply And.intro); all_goals (first | (with_reducible refine keep_set B9.out ?_ ?_; assumption; (first | (left; decide) | (right; exact hbq.out))) | exact below_cell_of (w := w3) (by with_reducible repeat (first | exact Below.refl _ _ | assumption | exact Aside0.out (by assumption) | apply below_alloc | apply below_drew1 | apply pw_below_drewN)) (by assumption))))
          clear hK K
          (try simp only [Act.put, List.setIfInBounds_toArray, List.set_cons_zero, List.set_cons_succ])
          refine wpAnyH_ready (rs := [11]) (by kernel_rfl) (by simp) ?_
          refine AllReadyH.cons (i := 11) (o := _) ((List.getElem?_toArray ..).trans rfl) (fun K hK => ?_) ?_
          · go_simp
            (go_at_call 41; (with_reducible refine (K_ref_path2 M.c _ _ V.node _ ?_ ?_ HI.out.ok.falls HI.out.ok.nodes).mono ?_); exact H6.out.1.below B3.out.drew; exact H7.out.1.below B3.out.drew; rintro e w4 ⟨PA, Pn, Pc, rfl, hP, hpn, hb⟩; rw [HPD.out] at hP; have B4 : Aside0 (Below w3.heap.size w3 w4) := ⟨below_step (Below.refl _ _).drew hb⟩; have HP := Aside0.mk hP; clear hb hP hpn; have x9 := below_cell_of B4.out x9; have t3 := below_cell_of B4.out t3)
            refine hK.out _ _ ?_ (fun hHeld => ?_)
            · (try dsimp only)
              ((go_split_ands; (repeat' apply And.intro); all_goals (first | (with_reducible refine keep_set B9.out ?_ ?_; assumption; (first | (left; decide) | (right; exact hbq.out))) | exact below_cell_of (w := w3) (by with_reducible repeat (first | exact Below.refl _ _ | assumption | exact Aside0.out (by assumption) | apply below_alloc | apply below_drew1 | apply pw_below_drewN)) (by assumption))))
            clear hK K
            (try simp only [Act.put, List.setIfInBounds_toArray, List.set_cons_zero, List.set_cons_succ])
            refine wpAnyH_ready (rs := [15]) (by kernel_rfl) (by simp) ?_
            refine AllReadyH.cons (i := 15) (o := _) ((List.getElem?_toArray ..).trans rfl) (fun K hK => ?_) ?_
            · go_simp
              (go_at_call 31; (with_reducible refine (K_rmoved (useR M) P (IntKind.i64.wrap (-V.n)) _ _ _ _ _ _ _ ?_ ?_ ?_ ?_ ?_).mono ?_); exact H9.out.1.below (B3.out.trans (B4.out.mono B3.out.size)); exact HP.out; (have := hPlen.out; omega); (have := hUlen.out; have := hps.out; omega); (intro y hy; have := hrg.out y hy; have := hUlen.out; omega); rintro e w9 ⟨UA, Un, Uc, rfl, hU, hnb, hb9⟩; rw [hwr.out] at hU; have HU := Aside0.mk hU; have B9 : Aside0 (Below w3.heap.size w3 w9) := ⟨below_step B4.out hb9⟩; have HNB : Aside0 (NB B b (HO W G) w9.heap.size UA) := ⟨NB.of_new hnb (by have h1 := hsz.out; have h2 := hB.out; have h3 := B1.out.size; have h4 := B3.out.size; have h5 := B4.out.size; omega) ((HR1.out.below B3.out).below B4.out).lt (HO.lt HGL.out (blk_lt (blk_below (blk_below Y1.out B3.out) B4.out)))⟩; clear hU hnb hb9; obtain ⟨x0, x1, x2, x3, x4, x5, x6, x7, x8, x9', x10, fr⟩ := box11 (blk_below (blk_below HH.out B3.out) B9.out))
              refine hK.out _ _ ?_ (fun hHeld => ?_)
              · (try dsimp only)
                ((go_split_ands; (repeat' apply And.intro); all_goals (first | (with_reducible refine keep_set B9.out ?_ ?_; assumption; (first | (left; decide) | (right; exact hbq.out))) | exact below_cell_of (w := w3) (by with_reducible repeat (first | exact Below.refl _ _ | assumption | exact Aside0.out (by assumption) | apply below_alloc | apply below_drew1 | apply pw_below_drewN)) (by assumption))))
              clear hK K
              (try simp only [Act.put, List.setIfInBounds_toArray, List.set_cons_zero, List.set_cons_succ])
              refine wpAnyH_take (i := 16) (oi := _) (v := ?_) ((List.getElem?_toArray ..).trans rfl) (by kernel_rfl) (by kernel_rfl) (by kernel_rfl) (fun _ _ _ h => h) (Or.inl ⟨by rfl, ?_⟩) (by assumption) ?_
              rotate_left
              · (intro w hSw; (try dsimp only at hSw); go_simp; (try with_reducible rfl))
              (try simp only [Act.put, List.setIfInBounds_toArray, List.set_cons_zero, List.set_cons_succ])
              refine wpAnyH_take (i := 17) (oi := _) (v := ?_) ((List.getElem?_toArray ..).trans rfl) (by kernel_rfl) (by kernel_rfl) (by kernel_rfl) (fun _ _ _ h => h) (Or.inl ⟨by rfl, ?_⟩) (by assumption) ?_
              rotate_left
              · (intro w hSw; (try dsimp only at hSw); go_simp; (try with_reducible rfl))
              (try simp only [Act.put, List.setIfInBounds_toArray, List.set_cons_zero, List.set_cons_succ])
              refine wpAnyH_ready (rs := [18]) (by kernel_rfl) (by simp) ?_
              refine AllReadyH.cons (i := 18) (o := _) ((List.getElem?_toArray ..).trans rfl) (fun K hK => ?_) ?_
              · go_simp
                refine hK.out _ _ ?_ (fun hHeld => ?_)
                · (try dsimp only)
                  ((go_split_ands; (repeat' apply And.intro); all_goals (first | (with_reducible refine keep_set B9.out ?_ ?_; assumption; (first | (left; decide) | (right; exact hbq.out))) | exact below_cell_of (w := w3) (by with_reducible repeat (first | exact Below.refl _ _ | assumption | exact Aside0.out (by assumption) | apply below_alloc | apply below_drew1 | apply pw_below_drewN)) (by assumption))))
                clear hK K
                (try simp only [Act.put, List.setIfInBounds_toArray, List.set_cons_zero, List.set_cons_succ])
                refine wpAnyH_done (by kernel_rfl) ?_ _
                refine NoPanic.normal ?_
                go_wp2_with (fail)
                go_meet
                exact ⟨rfl, w9, _, _, _, rfl, HU, HNB, B9⟩
              exact AllReadyH.nil
            exact AllReadyH.nil
          exact AllReadyH.nil
        refine AllReadyH.cons (i := 11) (o := _) ((List.getElem?_toArray ..).trans rfl) (fun K hK => ?_) ?_
        · go_simp
          (go_at_call 41; (with_reducible refine (K_ref_path2 M.c _ _ V.node _ ?_ ?_ HI.out.ok.falls HI.out.ok.nodes).mono ?_); exact H6.out.1.below B3.out.drew; exact H7.out.1.below B3.out.drew; rintro e w4 ⟨PA, Pn, Pc, rfl, hP, hpn, hb⟩; rw [HPD.out] at hP; have B4 : Aside0 (Below w3.heap.size w3 w4) := ⟨below_step (Below.refl _ _).drew hb⟩; have HP := Aside0.mk hP; clear hb hP hpn; have x9 := below_cell_of B4.out x9; have t3 := below_cell_of B4.out t3)
          refine hK.out _ _ ?_ (fun hHeld => ?_)
          · (try dsimp only)
            ((go_split_ands; (repeat' apply And.intro); all_goals (first | (with_reducible refine keep_set B9.out ?_ ?_; assumption; (first | (left; decide) | (right; exact hbq.out))) | exact below_cell_of (w := w3) (by with_reducible repeat (first | exact Below.refl _ _ | assumption | exact Aside0.out (by assumption) | apply below_alloc | apply below_drew1 | apply pw_below_drewN)) (by assumption))))
          clear hK K
          (try simp only [Act.put, List.setIfInBounds_toArray, List.set_cons_zero, List.set_cons_succ])
          refine wpAnyH_ready (rs := [4]) (by kernel_rfl) (by simp) ?_
          refine AllReadyH.cons (i := 4) (o := _) ((List.getElem?_toArray ..).trans rfl) (fun K hK => ?_) ?_
          · go_simp
            refine hK.out _ _ ?_ (fun hHeld => ?_)
            · (try dsimp only)
              ((go_split_ands; (repeat' apply And.intro); all_goals (first | (with_reducible refine keep_set B9.out ?_ ?_; assumption; (first | (left; decide) | (right; exact hbq.out))) | exact below_cell_of (w := w3) (by with_reducible repeat (first | exact Below.refl _ _ | assumption | exact Aside0.out (by assumption) | apply below_alloc | apply below_drew1 | apply pw_below_drewN)) (by assumption))))
            clear hK K
            (try simp only [Act.put, List.setIfInBounds_toArray, List.set_cons_zero, List.set_cons_succ])
            refine wpAnyH_ready (rs := [15]) (by kernel_rfl) (by simp) ?_
            refine AllReadyH.cons (i := 15) (o := _) ((List.getElem?_toArray ..).trans rfl) (fun K hK => ?_) ?_
            · go_simp
              (go_at_call 31; (with_reducible refine (K_rmoved (useR M) P (IntKind.i64.wrap (-V.n)) _ _ _ _ _ _ _ ?_ ?_ ?_ ?_ ?_).mono ?_); exact H9.out.1.below (B3.out.trans (B4.out.mono B3.out.size)); exact HP.out; (have := hPlen.out; omega); (have := hUlen.out; have := hps.out; omega); (intro y hy; have := hrg.out y hy; have := hUlen.out; omega); rintro e w9 ⟨UA, Un, Uc, rfl, hU, hnb, hb9⟩; rw [hwr.out] at hU; have HU := Aside0.mk hU; have B9 : Aside0 (Below w3.heap.size w3 w9) := ⟨below_step B4.out hb9⟩; have HNB : Aside0 (NB B b (HO W G) w9.heap.size UA) := ⟨NB.of_new hnb (by have h1 := hsz.out; have h2 := hB.out; have h3 := B1.out.size; have h4 := B3.out.size; have h5 := B4.out.size; omega) ((HR1.out.below B3.out).below B4.out).lt (HO.lt HGL.out (blk_lt (blk_below (blk_below Y1.out B3.out) B4.out)))⟩; clear hU hnb hb9; obtain ⟨x0, x1, x2, x3, x4, x5, x6, x7, x8, x9', x10, fr⟩ := box11 (blk_below (blk_below HH.out B3.out) B9.out))
              refine hK.out _ _ ?_ (fun hHeld => ?_)
              · (try dsimp only)
                ((go_split_ands; (repeat' apply And.intro); all_goals (first | (with_reducible refine keep_set B9.out ?_ ?_; assumption; (first | (left; decide) | (right; exact hbq.out))) | exact below_cell_of (w := w3) (by with_reducible repeat (first | exact Below.refl _ _ | assumption | exact Aside0.out (by assumption) | apply below_alloc | apply below_drew1 | apply pw_below_drewN)) (by assumption))))
              clear hK K
              (try simp only [Act.put, List.setIfInBounds_toArray, List.set_cons_zero, List.set_cons_succ])
              refine wpAnyH_take (i := 16) (oi := _) (v := ?_) ((List.getElem?_toArray ..).trans rfl) (by kernel_rfl) (by kernel_rfl) (by kernel_rfl) (fun _ _ _ h => h) (Or.inl ⟨by rfl, ?_⟩) (by assumption) ?_
              rotate_left
              · (intro w hSw; (try dsimp only at hSw); go_simp; (try with_reducible rfl))
              (try simp only [Act.put, List.setIfInBounds_toArray, List.set_cons_zero, List.set_cons_succ])
              refine wpAnyH_take (i := 17) (oi := _) (v := ?_) ((List.getElem?_toArray ..).trans rfl) (by kernel_rfl) (by kernel_rfl) (by kernel_rfl) (fun _ _ _ h => h) (Or.inl ⟨by rfl, ?_⟩) (by assumption) ?_
              rotate_left
              · (intro w hSw; (try dsimp only at hSw); go_simp; (try with_reducible rfl))
              (try simp only [Act.put, List.setIfInBounds_toArray, List.set_cons_zero, List.set_cons_succ])
              refine wpAnyH_ready (rs := [18]) (by kernel_rfl) (by simp) ?_
              refine AllReadyH.cons (i := 18) (o := _) ((List.getElem?_toArray ..).trans rfl) (fun K hK => ?_) ?_
              · go_simp
                refine hK.out _ _ ?_ (fun hHeld => ?_)
                · (try dsimp only)
                  ((go_split_ands; (repeat' apply And.intro); all_goals (first | (with_reducible refine keep_set B9.out ?_ ?_; assumption; (first | (left; decide) | (right; exact hbq.out))) | exact below_cell_of (w := w3) (by with_reducible repeat (first | exact Below.refl _ _ | assumption | exact Aside0.out (by assumption) | apply below_alloc | apply below_drew1 | apply pw_below_drewN)) (by assumption))))
                clear hK K
                (try simp only [Act.put, List.setIfInBounds_toArray, List.set_cons_zero, List.set_cons_succ])
                refine wpAnyH_done (by kernel_rfl) ?_ _
                refine NoPanic.normal ?_
                go_wp2_with (fail)
                go_meet
                exact ⟨rfl, w9, _, _, _, rfl, HU, HNB, B9⟩
              exact AllReadyH.nil
            exact AllReadyH.nil
          exact AllReadyH.nil
        exact AllReadyH.nil
      case rest =>
        obtain ⟨rfl, w9, UA, Un, Uc, rfl, HU, HNB, B9⟩ := hcut
        clear x0 x1 x2 x3 x4 x5 x6 x7 x9 t0 t1 t2 t3 r0 r1 r2 r3 f0 f1 f2 f3
        obtain ⟨w10, hX⟩ : ∃ X, w9.setCell ⟨b, 9, none⟩ (.slice UA Un Uc) = X := ⟨_, rfl⟩
        have R10 : Aside0 (RAt B (HO W G) w10 b { M with use := addUses M.use P (-V.n) }) := ⟨by rw [← hX]; exact ((HR1.out.below B3.out).below B9.out).setU _ (by rw [HRU.out (-V.n) M.tk]; exact HU.out) HNB.out⟩
        have K10 : Aside0 (KB W w10 b) := ⟨by rw [← hX]; exact (KB.of_below (B1.out.trans ((B3.out.trans (B9.out.mono B3.out.size)).mono B1.out.size)) b).set 9 _⟩
        have Y10 : Aside0 (w10.heap[W.heap.size + 1]? = some (.cells #[.int .i64 0, .int .i64 0, .bool false, .int .i64 0] 35 (0, 0))) := ⟨by rw [← hX]; exact (Below.heap_setCell w9 ⟨b, 9, none⟩ _ (W.heap.size + 1) (Ne.symm hbn.out.1)).trans (blk_below (blk_below Y1.out B3.out) B9.out)⟩
        have T10 : Aside0 (w10.heap[w2.heap.size]? = some (.cells #[.int .i64 V.ver, .bool (!isFree V), .int .i64 V.node, .int .i64 V.n] 81 (0, 0))) := ⟨by rw [← hX]; exact (Below.heap_setCell w9 ⟨b, 9, none⟩ _ w2.heap.size (by have h1 := hsz.out; have h2 := B1.out.size; have h3 := B2.out.size; show w2.heap.size ≠ b; omega)).trans (blk_below (by rw [← HV.out]; exact T3.out) B9.out)⟩
        rw [hX]
        clear hX
        obtain ⟨_, C6, m6, e6, C7, m7, e7, C8, m8, e8, C9, m9, e9, C10, m10, e10, kh, k6, k7, k8, k9, k10⟩ := R10.out
        have x10 : w10.cell? ⟨b, 10, none⟩ = some (.slice C10 m10 e10) := (blk_cell kh 10).trans rfl
        have KH := Aside0.mk kh
        have K10T := Aside0.mk k10.1
        clear kh k6 k7 k8 k9 k10
        have hlv : Aside0 (false = !(((0 : Int) == 0) && ((0 : Int) == 0))) := ⟨by simp⟩
        go_upto_region 6 with (fail)
        go_cut [5] (fun s5 wx => ∃ w11 A m c, wx = w11.setCell ⟨b, 10, none⟩ (.slice A m c) ∧ Aside0 (IsTks w11 (.slice A m c) (tksR { M with tk := M.tk.set k (turnT (tkAt M.tk k) 0 0) })) ∧ Aside0 (NB B b (HO W G) w11.heap.size A) ∧ Aside0 (Below w10.heap.size w10 w11))
        case first =>
          go_wp2_with ((go_at_call 42; refine (K_rturn (B := B) (g := HO W G) (b := b) HI.out k ?_ 0 0 false hlv.out _ _ _ _ (K10T.out.below ?_) ?_ ?_ ?_).mono ?_; exact HKT.out; (first | exact Below.refl _ _ | exact (Below.refl _ _).drew); (have h1 := hsz.out; have h2 := hB.out; have h3 := K10.out.size; show B ≤ w10.heap.size; omega); exact R10.out.lt; exact HO.lt HGL.out (blk_lt Y10.out); rintro e w11 ⟨TA, Tn, Tc, rfl, hT, hnb, hb11⟩; have HT := Aside0.mk hT; have HNB2 := Aside0.mk hnb; have B11 : Aside0 (Below w10.heap.size w10 w11) := ⟨first_below hb11⟩; clear hT hnb hb11; obtain ⟨x0, x1, x2, x3, x4, x5, x6, x7, x8, x9', x10', fr⟩ := box11 (blk_below KH.out B11.out)))
          all_goals
            go_wp2_with (fail)
            go_meet
            exact ⟨w11, _, _, _, rfl, HT, HNB2, B11⟩
        case rest =>
          obtain ⟨w11, TA, Tn, Tc, rfl, HT, HNB2, B11⟩ := hcut
          clear x10
          obtain ⟨w12, hX⟩ : ∃ X, w11.setCell ⟨b, 10, none⟩ (.slice TA Tn Tc) = X := ⟨_, rfl⟩
          have R12 : Aside0 (RAt B (HO W G) w12 b { M with use := addUses M.use P (-V.n), tk := M.tk.set k (turnT (tkAt M.tk k) 0 0) }) := ⟨by rw [← hX]; exact (R10.out.below B11.out).setL _ HT.out HNB2.out⟩
          have K12 : Aside0 (KB W w12 b) := ⟨by rw [← hX]; exact (K10.out.trans (KB.of_below B11.out b)).set 10 _⟩
          have Y12 : Aside0 (w12.heap[W.heap.size + 1]? = some (.cells #[.int .i64 0, .int .i64 0, .bool false, .int .i64 0] 35 (0, 0))) := ⟨by rw [← hX]; exact (Below.heap_setCell w11 ⟨b, 10, none⟩ _ (W.heap.size + 1) (Ne.symm hbn.out.1)).trans (blk_below Y10.out B11.out)⟩
          have T12 : Aside0 (w12.heap[w2.heap.size]? = some (.cells #[.int .i64 V.ver, .bool (!isFree V), .int .i64 V.node, .int .i64 V.n] 81 (0, 0))) := ⟨by rw [← hX]; exact (Below.heap_setCell w11 ⟨b, 10, none⟩ _ w2.heap.size (by have h1 := hsz.out; have h2 := B1.out.size; have h3 := B2.out.size; show w2.heap.size ≠ b; omega)).trans (blk_below T10.out B11.out)⟩
          rw [hX]
          clear hX
          obtain ⟨r0, r1, r2, r3, f0', f1', f2', f3'⟩ := box4 Y12.out
          obtain ⟨t0, t1, t2, t3, _, _, _, _⟩ := box4 T12.out
          go_wp2_with (fail)
          refine bodyPost_ret (results_cell_row rfl _ _ (W.heap.size + 1) 35 #[.int .i64 0, .int .i64 V.n, .bool false, .int .i64 V.node] (0, 0) _ rfl (blk_put4 Y12.out _ _ _ _) hua rfl (by kernel_rfl)) rfl ?_
          have R13 := R12.out
          rw [HV.out] at R13
          rw [hres.out]
          exact ⟨rfl, K12.out.put4 (by omega) _ _ _ _, R13.put4 hbn.out.1 _ _ _ _⟩
end Go.Proofs.YteaidhoimaphlaaGreat.PM
