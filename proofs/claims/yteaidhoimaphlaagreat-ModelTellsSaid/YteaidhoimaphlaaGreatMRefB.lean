import Derived.Test.YteaidhoimaphlaaGreatMRefA
import Derived.RangeFuncNested
import Derived.RangeFuncBound
import Derived.RangeFuncCalls
import Derived.RangeFuncLeaves
import Derived.RangeFuncBox
import Derived.Shelf.Abstract
import Derived.Shelf.RegionOpen
import Derived.OwnWalkIn
import Derived.TacticsInMore
import Derived.LoopNIn
import Derived.LoopIn
import Derived.Deep.RegionHeld3
import Derived.Deep.RegionLaw
import Derived.Laws.CopyOwn
import Derived.Laws.EntriesVeiled
import Derived.Deep.DeepCutAuto
namespace Go.Proofs.YteaidhoimaphlaaGreat.PM
open Go.RowKit Go.Shelf Go.Proofs.YteaidhoimaphlaaGreatW.PrintWords Go.Proofs.YteaidhoimaphlaaGreatW.PrintLast Go.Proofs.YteaidhoimaphlaaGreatW.PrintMore
attribute [local go_sem] max2_int min2_int max_two min_two max_three min_three max_four min_four
set_option linter.unusedVariables false
set_option linter.unusedSimpArgs false
set_option maxHeartbeats 4000000 in
set_option maxRecDepth 100000 in
theorem K_radmit (B : Nat) (G : Nat → Prop) (W : World) (b : Nat) (M : ML) (h : RAt B G W b M) (hG : ∀ x, G x → x < W.heap.size) (hi : Inv M) (v n : Int) (hv : 0 ≤ v ∧ v < (M.c.ps.length : Int)) (hn : 1 ≤ n ∧ n ≤ 1048576) : Calls Tryz.prog 29 #[.pointer (some ⟨b, 0, none⟩), .agg #[.int .i64 1, .int .i64 v, .int .i64 n]] W fun e w' => e = .returned (ansV (admitM M v n).2) ∧ KB W w' b ∧ RAt B G w' b (admitM M v n).1 := by
  have HI := Aside0.mk hi
  have HV := Aside0.mk hv
  have HN := Aside0.mk hn
  have hus := Tryz.underlying24
  have hua := Tryz.underlying35
  have huc := Tryz.underlying38
  have hum := Tryz.underlying61
  have hut := Tryz.underlying81
  have hsz := Aside0.mk h.lt
  have HGL := Aside0.mk hG
  clear hG
  obtain ⟨ti, hti⟩ : ∃ ti : Nat, M.c.ti = (ti : Int) := ⟨M.c.ti.toNat, by have := hi.ok.ti; omega⟩
  have HTI := Aside0.mk hti
  have hti16 : ti ≤ 16 := by have := hi.ok.ti; omega
  have hge : B ≤ b := h.1
  have hB := Aside0.mk hge
  have HR := Aside0.mk h
  have hn0 : (1 : Int) ≤ n := hn.1
  have hn1 : n ≤ 1048576 := hn.2
  clear h hi hv hn hti hge
  go_enter Tryz.func29, Tryz.ntmps29
  go_wp2_with (fail)
  generalize hX : (W.alloc (.cells #[.int .i64 1, .int .i64 v, .int .i64 n] 38)).alloc (.cells #[.int .i64 0, .int .i64 0, .bool false, .int .i64 0] 35) = w1
  have B1 : Aside0 (Below W.heap.size W w1) := ⟨by rw [← hX]; exact below_alloc (below_alloc (Below.refl _ _) _) _⟩
  have X1 : Aside0 (w1.heap[W.heap.size]? = some (.cells #[.int .i64 1, .int .i64 v, .int .i64 n] 38 (0, 0))) := ⟨by rw [← hX]; exact blk_alloc (blk_new _ _) _⟩
  have Y1 : Aside0 (w1.heap[W.heap.size + 1]? = some (.cells #[.int .i64 0, .int .i64 0, .bool false, .int .i64 0] 35 (0, 0))) := ⟨by rw [← hX]; have h := blk_new (W.alloc (.cells #[.int .i64 1, .int .i64 v, .int .i64 n] 38)) (.cells #[.int .i64 0, .int .i64 0, .bool false, .int .i64 0] 35); rw [show (W.alloc (.cells #[.int .i64 1, .int .i64 v, .int .i64 n] 38)).heap.size = W.heap.size + 1 by simp] at h; exact h⟩
  clear hX
  have HR1 := Aside0.mk ((HR.out.hole (HO W G) HO.new).below B1.out)
  have hbn : Aside0 (b ≠ W.heap.size + 1 ∧ b ≠ W.heap.size) := ⟨by have := hsz.out; omega⟩
  obtain ⟨_, A6, n6, d6, A7, n7, d7, A8, n8, d8, A9, n9, d9, A10, n10, d10, hh, h6, h7, h8, h9, h10⟩ := HR1.out
  have HH := Aside0.mk hh
  have H6 := Aside0.mk h6
  have H7 := Aside0.mk h7
  have H8 := Aside0.mk h8
  have H9 := Aside0.mk h9
  have H10 := Aside0.mk h10
  have hn10 : n10 = ti := by have h1 := h10.1.len; rw [tksR_len HI.out, HTI.out] at h1; simpa using h1
  subst hn10
  have hx10 : w1.cell? ⟨b, 10, none⟩ = some (.slice A10 n10 d10) := (blk_cell hh 10).trans rfl
  clear hh h6 h7 h8 h9 h10
  go_loopg [5] n10 (fun gg s5 wr => ∃ kk : Nat, kk ≤ n10 ∧ n10 - kk ≤ gg ∧ s5 = .int .i64 kk ∧ Aside0 (∀ j, j < kk → isFree (tkAt M.tk j) = false) ∧ w1 = wr)
  case atStart => exact ⟨0, by omega, by omega, rfl, ⟨fun j hj => by omega⟩, rfl⟩
  case round =>
    obtain ⟨kk, hkk, hg, rfl, HL, rfl⟩ := hrel
    have hk0 : (0 : Int) ≤ (kk : Int) := by omega
    by_cases hlt : kk < n10
    · have hlt0 := Aside0.mk hlt
      have hlti : (kk : Int) < (n10 : Int) := by omega
      have hltb : decide ((kk : Int) < (n10 : Int)) = true := decide_eq_true (by omega)
      obtain ⟨ad, rfl, c0, c1, c2, c3⟩ := H10.out.1.at kk (by rw [tksR_len HI.out, HTI.out]; simpa using hlt) _ (tksR_get HI.out kk (by rw [HTI.out]; simpa using hlt))
      cases hfr : isFree (tkAt M.tk kk) with
      | false =>
        have e1 : (rtk (tkAt M.tk kk)).f1 = true := by unfold rtk; simp [hfr]
        rw [e1] at c1
        have HF := Aside0.mk hfr
        clear e1 hfr c0 c2 c3
        go_wp2_with (fail)
        go_roundg (n10 - (kk + 1))
        case measure => omega
        case rel => exact ⟨kk + 1, by omega, by omega, by go_num, ⟨fun j hj => if h : j < kk then HL.out j h else (show j = kk by omega) ▸ HF.out⟩, rfl⟩
      | true =>
        have e1 : (rtk (tkAt M.tk kk)).f1 = false := by unfold rtk; simp [hfr]
        rw [e1] at c1
        have HF := Aside0.mk hfr
        clear e1 hfr c0 c2 c3
        have hnek : ((kk : Int) == (n10 : Int)) = false := by simp; omega
        have hfk : Aside0 (freeK M.tk M.c.ti.toNat 0 = some kk) := ⟨by rw [HTI.out, Int.toNat_natCast]; exact freeK_some _ kk HF.out _ 0 (by omega) (by omega) (fun j _ hj => HL.out j hj)⟩
        go_upto_region 6 with (fail)
        have hres : Aside0 (admitM M v n = match overV M.lim M.use n (pathL M.c.ps v) with
          | some u => ({ M with tk := M.tk.set kk (turnT (tkAt M.tk kk) 0 0) }, ⟨4, 0, false, u⟩)
          | none => ({ M with use := addUses M.use (pathL M.c.ps v) n, tk := M.tk.set kk (turnT (tkAt M.tk kk) v n) }, ⟨0, (turnT (tkAt M.tk kk) v n).ver * 16 + kk, false, 0⟩)) := ⟨by unfold admitM; rw [hfk.out]; rfl⟩
        obtain ⟨x0, x1, x2, x3, x4, x5, x6, x7, x8, x9, x10, fr⟩ := box11 HH.out
        obtain ⟨z0, z1, z2⟩ := box3 X1.out
        clear x8 x9 x10 fr z0 c1
        go_cut [6] (fun s6 wx => ∃ A n c, s6 = .slice A n c ∧ Aside0 (IsInts wx (.slice A n c) (pathL M.c.ps v)) ∧ Aside0 (∀ a, A = some a → a.block ≠ b) ∧ Aside0 (Below w1.heap.size w1 wx))
        case first =>
          go_region_held3 (fun w' => w'.cell? ⟨b, 0, none⟩ = some (.int .i64 M.c.th) ∧ w'.cell? ⟨b, 1, none⟩ = some (.int .i64 M.c.st) ∧ w'.cell? ⟨b, 2, none⟩ = some (.int .i64 M.c.ga) ∧ w'.cell? ⟨b, 3, none⟩ = some (.int .i64 M.c.le) ∧ w'.cell? ⟨b, 4, none⟩ = some (.int .i64 M.c.re) ∧ w'.cell? ⟨b, 5, none⟩ = some (.int .i64 M.c.ti) ∧ w'.cell? ⟨b, 6, none⟩ = some (.slice A6 n6 d6) ∧ w'.cell? ⟨b, 7, none⟩ = some (.slice A7 n7 d7) ∧ w'.cell? ⟨W.heap.size, 1, none⟩ = some (.int .i64 v)) ((go_split_ands; (repeat' apply And.intro); all_goals (exact below_cell_of (w := w1) (by with_reducible repeat (first | exact Below.refl _ _ | assumption | exact Aside0.out (by assumption) | apply below_alloc | apply below_drew1 | apply pw_below_drewN)) (by assumption)))) ((go_at_call 41; refine (K_ref_path2 M.c _ _ v _ (H6.out.1.below ?_) (H7.out.1.below ?_) HI.out.ok.falls HI.out.ok.nodes).mono ?_; exact (by with_reducible repeat (first | exact Below.refl _ _ | assumption | exact Aside0.out (by assumption) | apply below_alloc | apply below_drew1 | apply pw_below_drewN)); exact (by with_reducible repeat (first | exact Below.refl _ _ | assumption | exact Aside0.out (by assumption) | apply below_alloc | apply below_drew1 | apply pw_below_drewN)); rintro e wz ⟨PA, Pn, Pc, rfl, hP, hpn, hb⟩; have BZ := Aside0.mk (below_step (w := w1) (by with_reducible repeat (first | exact Below.refl _ _ | assumption | exact Aside0.out (by assumption) | apply below_alloc | apply below_drew1 | apply pw_below_drewN)) hb); have HP := Aside0.mk hP; have HPN : Aside0 (∀ a, PA = some a → a.block ≠ b) := ⟨fun a ha => by have h1 := (hpn a ha).1; have h2 := hsz.out; have h3 := B1.out.size; have h4 : w1.heap.size ≤ w1.drew.heap.size := Nat.le_refl _; omega⟩; clear hb hP hpn))
          all_goals
            go_wp2_with (fail)
            go_meet
            exact ⟨_, _, _, rfl, HP, HPN, BZ⟩
        case rest =>
          obtain ⟨PA, Pn, Pc, rfl, HP, HPN, B6⟩ := hcut
          obtain ⟨w6, rfl⟩ : ∃ X, X = wc := ⟨_, rfl⟩
          clear x0 x1 x2 x3 x4 x5 x6 x7 z1 z2 hltb hlti hk0 hx10
          have hrg := Aside0.mk (pathL_range HI.out.ok.falls v)
          have hps := Aside0.mk HI.out.ok.nodes
          have HRU := Aside0.mk (fun by' tk' => useR_add HI.out v by' tk')
          have hPlen : Aside0 ((pathL M.c.ps v).length ≤ 12) := ⟨by exact pathL_len12 HI.out.ok.falls HI.out.ok.nodes v⟩
          have hUlen : Aside0 ((useR M).length = M.c.ps.length) := ⟨by unfold useR; rw [List.length_take]; have := HI.out.l2; have := hps.out; omega⟩
          obtain ⟨P, hPdef⟩ : ∃ P, pathL M.c.ps v = P := ⟨_, rfl⟩
          have HPD := Aside0.mk hPdef
          rw [hPdef] at HP hres hrg HRU hPlen
          clear hPdef
          have hPn : Pn = P.length := HP.out.len
          subst hPn
          go_wp2_with (fail)
          go_loopg [7] P.length (fun gg s7 wr => ∃ jj : Nat, jj ≤ P.length ∧ P.length - jj ≤ gg ∧ s7 = .int .i64 jj ∧ Aside0 (Below w6.heap.size w6 wr) ∧ Aside0 (overV M.lim M.use n (P.drop jj) = overV M.lim M.use n P))
          case atStart => exact ⟨0, by omega, by omega, rfl, ⟨Below.refl _ _⟩, ⟨rfl⟩⟩
          case round =>
            obtain ⟨jj, hjj, hg2, rfl, BL, HOV⟩ := hrel
            obtain ⟨w7, rfl⟩ : ∃ X, X = wr := ⟨_, rfl⟩
            have B7 : Aside0 (Below w1.heap.size w1 w7) := ⟨B6.out.trans (BL.out.mono B6.out.size)⟩
            have hj0 : (0 : Int) ≤ (jj : Int) := by omega
            have hPb : (P.length : Int) ≤ 9223372036854775807 := by have := HP.out.bound; omega
            by_cases hlt : jj < P.length
            · have hlti : (jj : Int) < (P.length : Int) := by omega
              have hltb : decide ((jj : Int) < (P.length : Int)) = true := decide_eq_true (by omega)
              obtain ⟨pad, rfl, cp⟩ := (HP.out.below BL.out).get jj hlt
              have hm := hrg.out (rd P (jj : Int)) (by rw [rd_lt hlt]; exact List.getElem_mem hlt)
              obtain ⟨u, hu⟩ : ∃ u : Nat, rd P (jj : Int) = (u : Int) := ⟨(rd P (jj : Int)).toNat, by omega⟩
              have hul : u < M.c.ps.length := by omega
              have hLl : u < (limR M).length := by unfold limR; rw [List.length_take]; have := HI.out.l1; have := hps.out; omega
              have hUl : u < (useR M).length := by unfold useR; rw [List.length_take]; have := HI.out.l2; have := hps.out; omega
              obtain ⟨lad, rfl, cl⟩ := (H8.out.1.below B7.out).get u hLl
              obtain ⟨uad, rfl, cu⟩ := (H9.out.1.below B7.out).get u hUl
              have hn8 := H8.out.1.len
              have hn9 := H9.out.1.len
              have e8 : rd (limR M) (u : Int) = rd M.lim (u : Int) := rd_take _ _ _ hul
              have e9 : rd (useR M) (u : Int) = rd M.use (u : Int) := rd_take _ _ _ hul
              rw [e8] at cl
              rw [e9] at cu
              rw [hu] at cp
              have hb1 := HI.out.bound u (by have := hps.out; omega)
              have hb2 := HI.out.lims u hul
              have hstep := overV_drop M.lim M.use n P jj hlt
              rw [hu, w64 (by omega) (by omega)] at hstep
              have HST := Aside0.mk hstep
              have HU := Aside0.mk hu
              obtain ⟨LU, hLU⟩ : ∃ LU, rd M.lim (u : Int) = LU := ⟨_, rfl⟩
              obtain ⟨UU, hUU⟩ : ∃ UU, rd M.use (u : Int) = UU := ⟨_, rfl⟩
              rw [hLU] at cl hb2 HST
              rw [hUU] at cu hb1 hb2 HST
              have u0 : (0 : Int) ≤ (u : Int) := by omega
              have u8 : (u : Int) < (n8 : Int) := by omega
              have u9 : (u : Int) < (n9 : Int) := by omega
              have l1 : UU ≤ LU := hb2.1
              have l2 : LU ≤ 1099511627776 := hb2.2
              have l3 : 0 ≤ UU := hb1.1
              have l4 : UU ≤ 16777216 := hb1.2
              have z2 : w7.cell? ⟨W.heap.size, 2, none⟩ = some (.int .i64 n) := (blk_cell (blk_below X1.out B7.out) 2).trans rfl
              have x8 : w7.cell? ⟨b, 8, none⟩ = some (.slice (some lad) n8 d8) := (blk_cell (blk_below HH.out B7.out) 8).trans rfl
              have x9 : w7.cell? ⟨b, 9, none⟩ = some (.slice (some uad) n9 d9) := (blk_cell (blk_below HH.out B7.out) 9).trans rfl
              clear hu hm hLl hUl hn8 hn9 e8 e9 hb1 hb2 hstep hLU hUU hul
              by_cases hov : LU - UU < n
              · have d0 : decide (LU - UU < n) = true := decide_eq_true hov
                have hov2 : Aside0 (overV M.lim M.use n P = some (u : Int)) := ⟨by rw [← HOV.out, HST.out, if_pos (by omega)]⟩
                rw [hov2.out] at hres
                have hwr : IntKind.i64.wrap (LU - UU) = LU - UU := IntWalk.i64_in _ (by omega)
                clear hov
                go_upto_region 10 with (fail)
                go_cut [71] (fun s71 wx => s71 = .bool true ∧ w7.drew = wx)
                case first =>
                  go_region_held3 (fun w' => w'.cell? ⟨W.heap.size, 2, none⟩ = some (.int .i64 n) ∧ w'.cell? ⟨b, 8, none⟩ = some (.slice (some lad) n8 d8) ∧ w'.cell? ⟨b, 9, none⟩ = some (.slice (some uad) n9 d9) ∧ w'.cell? (pad.add jj) = some (.int .i64 u) ∧ w'.cell? (lad.add u) = some (.int .i64 LU) ∧ w'.cell? (uad.add u) = some (.int .i64 UU)) (go_keep) (fail)
                  go_wp2_with (fail)
                  go_meet
                  exact ⟨rfl, rfl⟩
                case rest =>
                  obtain ⟨rfl, rfl⟩ := hcut
                  clear hwr
                  obtain ⟨w8, hw8⟩ : ∃ X, w7.drew = X := ⟨_, rfl⟩
                  rw [hw8]
                  have B8 : Aside0 (Below w1.heap.size w1 w8) := ⟨by rw [← hw8]; exact B7.out.drew⟩
                  have cp8 : w8.cell? (pad.add jj) = some (.int .i64 u) := by rw [← hw8]; exact cp
                  clear hw8 z2 x8 x9 cl cu cp
                  have x10 : w8.cell? ⟨b, 10, none⟩ = some (.slice (some ad) n10 d10) := (blk_cell (blk_below HH.out B8.out) 10).trans rfl
                  go_wp2_with ((go_at_call 42; (with_reducible refine (K_rturn (B := B) (g := HO W G) (b := b) HI.out kk ?_ 0 0 false rfl _ _ _ _ (H10.out.1.below B8.out) ?_ ?_ ?_).mono ?_); (rw [HTI.out]; simpa using hlt0.out); (have := hsz.out; have := hB.out; have := B1.out.size; have := B8.out.size; omega); exact (HR1.out.below B8.out).lt; exact HO.lt HGL.out (blk_lt (blk_below Y1.out B8.out)); rintro e w9 ⟨TA, Tn, Tc, rfl, hT, hnb, hb9⟩; have HT := Aside0.mk hT; have HNB := Aside0.mk hnb; have B9 : Aside0 (Below w1.heap.size w1 w9) := ⟨below_step B8.out hb9⟩; have cp9 := below_cell_of hb9 cp8; clear hT hnb hb9; obtain ⟨x0, x1, x2, x3, x4, x5, x6, x7, x8, x9, x10, fr⟩ := box11 (blk_below HH.out B9.out); obtain ⟨r0, r1, r2, r3, f0, f1, f2, f3⟩ := box4 (blk_below Y1.out B9.out); have hpb := HPN.out _ rfl; have cp10 : (w9.setCell ⟨b, 10, none⟩ (.slice TA Tn Tc)).cell? (pad.add jj) = some (.int .i64 u) := ((KB.refl w9 b).set 10 _).cell cp9 (by rw [add_blk]; exact hpb)))
                  refine bodyPost_ret (results_cell_row rfl _ _ (W.heap.size + 1) 35 #[.int .i64 4, .int .i64 0, .bool false, .int .i64 u] (0, 0) _ rfl (blk_put4 ((Below.heap_setCell w9 ⟨b, 10, none⟩ _ (W.heap.size + 1) (Ne.symm hbn.out.1)).trans (blk_below Y1.out B9.out)) _ _ _ _) hua rfl (by kernel_rfl)) rfl ?_
                  rw [hres.out]
                  exact ⟨rfl, (((KB.of_below (B1.out.trans (B9.out.mono B1.out.size)) b).set 10 _).put4 (by omega) _ _ _ _), (((HR1.out.below B9.out).setL _ HT.out HNB.out).put4 hbn.out.1 _ _ _ _)⟩
              · have d0 : decide (LU - UU < n) = false := decide_eq_false hov
                have HOV2 : Aside0 (overV M.lim M.use n (P.drop (jj + 1)) = overV M.lim M.use n P) := ⟨by rw [← HOV.out, HST.out, if_neg (by omega)]⟩
                have hwr : IntKind.i64.wrap (LU - UU) = LU - UU := IntWalk.i64_in _ (by omega)
                clear hov
                go_wp2_with (fail)
                go_region_held3 (fun w' => w'.cell? ⟨W.heap.size, 2, none⟩ = some (.int .i64 n) ∧ w'.cell? ⟨b, 8, none⟩ = some (.slice (some lad) n8 d8) ∧ w'.cell? ⟨b, 9, none⟩ = some (.slice (some uad) n9 d9) ∧ w'.cell? (pad.add jj) = some (.int .i64 u) ∧ w'.cell? (lad.add u) = some (.int .i64 LU) ∧ w'.cell? (uad.add u) = some (.int .i64 UU)) (go_keep) (fail)
                clear hwr
                go_wp2_with (fail)
                go_roundg (P.length - (jj + 1))
                case measure => omega
                case rel => exact ⟨jj + 1, by omega, by omega, by go_num, ⟨BL.out.trans (below_drew1 (Below.refl _ _))⟩, HOV2⟩
            · obtain rfl : jj = P.length := by omega
              have hltb : decide (P.length < P.length) = false := decide_eq_false (by omega)
              have hov2 : Aside0 (overV M.lim M.use n P = none) := ⟨by rw [← HOV.out, List.drop_length]; rfl⟩
              rw [hov2.out] at hres
              have x9 : w7.cell? ⟨b, 9, none⟩ = some (.slice A9 n9 d9) := (blk_cell (blk_below HH.out B7.out) 9).trans rfl
              have z2 : w7.cell? ⟨W.heap.size, 2, none⟩ = some (.int .i64 n) := (blk_cell (blk_below X1.out B7.out) 2).trans rfl
              go_upto_region 13 with (fail)
              go_cut [5] (fun s5 wx => s5 = .int .i64 kk ∧ ∃ w9 A m c, wx = w9.setCell ⟨b, 9, none⟩ (.slice A m c) ∧ Aside0 (IsInts w9 (.slice A m c) (addUses (useR M) P n)) ∧ Aside0 (NB B b (HO W G) w9.heap.size A) ∧ Aside0 (Below w1.heap.size w1 w9))
              case first =>
                go_region_with ((go_at_call 31; refine (K_rmoved (useR M) P n _ _ _ _ _ _ _ (H9.out.1.below ?_) (HP.out.below ?_) ?_ ?_ ?_).mono ?_; exact B7.out.drew; exact BL.out.drew; (have := hPlen.out; omega); (have := hUlen.out; have := hps.out; omega); (intro y hy; have := hrg.out y hy; have := hUlen.out; omega); rintro e w9 ⟨UA, Un, Uc, rfl, hU, hnb, hb9⟩; have HU := Aside0.mk hU; have B9 : Aside0 (Below w1.heap.size w1 w9) := ⟨below_step B7.out.drew hb9⟩; have HNB : Aside0 (NB B b (HO W G) w9.heap.size UA) := ⟨NB.of_new hnb (by have h1 := hsz.out; have h2 := hB.out; have h3 := B1.out.size; have h4 := B7.out.size; show B ≤ w7.heap.size; omega) (HR1.out.below B7.out).lt (HO.lt HGL.out (blk_lt (blk_below Y1.out B7.out.drew)))⟩; clear hU hnb; obtain ⟨x0, x1, x2, x3, x4, x5, x6, x7, x8, x9', x10, fr⟩ := box11 (blk_below HH.out B9.out)))
                all_goals
                  go_wp2_with (fail)
                  go_meet
                  exact ⟨rfl, w9, _, _, _, rfl, HU, HNB, B9⟩
              case rest =>
                obtain ⟨rfl, w9, UA, Un, Uc, rfl, HU, HNB, B9⟩ := hcut
                clear x9 z2
                obtain ⟨w10, hX⟩ : ∃ X, w9.setCell ⟨b, 9, none⟩ (.slice UA Un Uc) = X := ⟨_, rfl⟩
                have R10 : Aside0 (RAt B (HO W G) w10 b { M with use := addUses M.use P n }) := ⟨by rw [← hX]; exact (HR1.out.below B9.out).setU _ (by rw [HRU.out n M.tk]; exact HU.out) HNB.out⟩
                have K10 : Aside0 (KB W w10 b) := ⟨by rw [← hX]; exact (KB.of_below (B1.out.trans (B9.out.mono B1.out.size)) b).set 9 _⟩
                have X10 : Aside0 (w10.heap[W.heap.size]? = some (.cells #[.int .i64 1, .int .i64 v, .int .i64 n] 38 (0, 0))) := ⟨by rw [← hX]; exact (Below.heap_setCell w9 ⟨b, 9, none⟩ _ W.heap.size (Ne.symm hbn.out.2)).trans (blk_below X1.out B9.out)⟩
                have Y10 : Aside0 (w10.heap[W.heap.size + 1]? = some (.cells #[.int .i64 0, .int .i64 0, .bool false, .int .i64 0] 35 (0, 0))) := ⟨by rw [← hX]; exact (Below.heap_setCell w9 ⟨b, 9, none⟩ _ (W.heap.size + 1) (Ne.symm hbn.out.1)).trans (blk_below Y1.out B9.out)⟩
                rw [hX]
                clear hX
                obtain ⟨_, C6, m6, e6, C7, m7, e7, C8, m8, e8, C9, m9, e9, C10, m10, e10, kh, k6, k7, k8, k9, k10⟩ := R10.out
                have x10 : w10.cell? ⟨b, 10, none⟩ = some (.slice C10 m10 e10) := (blk_cell kh 10).trans rfl
                have KH := Aside0.mk kh
                have K10T := Aside0.mk k10.1
                have z1 : w10.cell? ⟨W.heap.size, 1, none⟩ = some (.int .i64 v) := (blk_cell X10.out 1).trans rfl
                have z2 : w10.cell? ⟨W.heap.size, 2, none⟩ = some (.int .i64 n) := (blk_cell X10.out 2).trans rfl
                clear kh k6 k7 k8 k9 k10
                have hlv : Aside0 (true = !((v == 0) && (n == 0))) := ⟨by have h1 := HN.out.1; have : (n == 0) = false := by simp; omega
                                                                          rw [this]; simp⟩
                go_upto_region 14 with (fail)
                go_cut [5] (fun s5 wx => s5 = .int .i64 kk ∧ ∃ w11 A m c, wx = w11.setCell ⟨b, 10, none⟩ (.slice A m c) ∧ Aside0 (IsTks w11 (.slice A m c) (tksR { M with tk := M.tk.set kk (turnT (tkAt M.tk kk) v n) })) ∧ Aside0 (NB B b (HO W G) w11.heap.size A) ∧ Aside0 (Below w10.heap.size w10 w11))
                case first =>
                  go_region_with ((go_at_call 42; refine (K_rturn (B := B) (g := HO W G) (b := b) HI.out kk ?_ v n true hlv.out _ _ _ _ (K10T.out.below ?_) ?_ ?_ ?_).mono ?_; (rw [HTI.out]; simpa using hlt0.out); exact (Below.refl _ _).drew; (have h1 := hsz.out; have h2 := hB.out; have h3 := K10.out.size; show B ≤ w10.heap.size; omega); exact R10.out.lt; exact HO.lt HGL.out (blk_lt Y10.out); rintro e w11 ⟨TA, Tn, Tc, rfl, hT, hnb, hb11⟩; have HT := Aside0.mk hT; have HNB2 := Aside0.mk hnb; have B11 : Aside0 (Below w10.heap.size w10 w11) := ⟨below_step (Below.refl _ _).drew hb11⟩; clear hT hnb hb11; obtain ⟨x0, x1, x2, x3, x4, x5, x6, x7, x8, x9', x10', fr⟩ := box11 (blk_below KH.out B11.out)))
                  all_goals
                    go_wp2_with (fail)
                    go_meet
                    exact ⟨rfl, w11, _, _, _, rfl, HT, HNB2, B11⟩
                case rest =>
                  obtain ⟨rfl, w11, TA, Tn, Tc, rfl, HT, HNB2, B11⟩ := hcut
                  clear x10 z1 z2
                  obtain ⟨w12, hX⟩ : ∃ X, w11.setCell ⟨b, 10, none⟩ (.slice TA Tn Tc) = X := ⟨_, rfl⟩
                  have R12 : Aside0 (RAt B (HO W G) w12 b { M with use := addUses M.use P n, tk := M.tk.set kk (turnT (tkAt M.tk kk) v n) }) := ⟨by rw [← hX]; exact (R10.out.below B11.out).setL _ HT.out HNB2.out⟩
                  have K12 : Aside0 (KB W w12 b) := ⟨by rw [← hX]; exact (K10.out.trans (KB.of_below B11.out b)).set 10 _⟩
                  have Y12 : Aside0 (w12.heap[W.heap.size + 1]? = some (.cells #[.int .i64 0, .int .i64 0, .bool false, .int .i64 0] 35 (0, 0))) := ⟨by rw [← hX]; exact (Below.heap_setCell w11 ⟨b, 10, none⟩ _ (W.heap.size + 1) (Ne.symm hbn.out.1)).trans (blk_below Y10.out B11.out)⟩
                  rw [hX]
                  clear hX
                  obtain ⟨_, D6, a6, f6, D7, a7, f7, D8, a8, f8, D9, a9, f9, D10, a10, f10, kh2, k6, k7, k8, k9, k10⟩ := R12.out
                  have x10 : w12.cell? ⟨b, 10, none⟩ = some (.slice D10 a10 f10) := (blk_cell kh2 10).trans rfl
                  have hget := tksR_at M kk (turnT (tkAt M.tk kk) v n) (by rw [HTI.out]; simpa using hlt0.out) (by have h1 := HI.out.l3; have h2 := hlt0.out; omega)
                  have hlen := k10.1.len
                  obtain ⟨tad, rfl, c0, c1, c2, c3⟩ := k10.1.at kk (List.getElem?_eq_some_iff.1 hget).1 _ hget
                  have hver := HI.out.ok.vers kk (by have h2 := hlt0.out; omega)
                  have hV0 : 0 ≤ (turnT (tkAt M.tk kk) v n).ver ∧ (turnT (tkAt M.tk kk) v n).ver < 4294967296 := by unfold turnT; simp only; omega
                  have ev : (rtk (turnT (tkAt M.tk kk) v n)).f0 = (turnT (tkAt M.tk kk) v n).ver := rfl
                  rw [ev] at c0
                  obtain ⟨V, hV⟩ : ∃ V, (turnT (tkAt M.tk kk) v n).ver = V := ⟨_, rfl⟩
                  rw [hV] at c0 hV0
                  have HVV := Aside0.mk hV
                  have v0 : 0 ≤ V := hV0.1
                  have v1 : V < 4294967296 := hV0.2
                  have q0 : (0 : Int) ≤ (kk : Int) := by omega
                  have q1 : (kk : Int) < (a10 : Int) := by rw [hlen]; exact Int.ofNat_lt.2 (List.getElem?_eq_some_iff.1 hget).1
                  have q2 : (kk : Int) ≤ 16 := by have h2 := hlt0.out; omega
                  obtain ⟨r0, r1, r2, r3, f0', f1', f2', f3'⟩ := box4 Y12.out
                  clear kh2 k6 k7 k8 k9 k10 hget hlen c1 c2 c3 hver hV0 ev hV
                  go_wp2_with (fail)
                  refine bodyPost_ret (results_cell_row rfl _ _ (W.heap.size + 1) 35 #[.int .i64 0, .int .i64 (V * 16 + kk), .bool false, .int .i64 0] (0, 0) _ rfl (blk_put4 Y12.out _ _ _ _) hua rfl (by kernel_rfl)) rfl ?_
                  rw [hres.out, ← HVV.out]
                  exact ⟨rfl, K12.out.put4 (by omega) _ _ _ _, R12.out.put4 hbn.out.1 _ _ _ _⟩
    · obtain rfl : kk = n10 := by omega
      have hltb : decide (kk < kk) = false := decide_eq_false (by omega)
      have hfk : Aside0 (freeK M.tk M.c.ti.toNat 0 = none) := ⟨freeK_none _ _ _ (fun j _ hj => HL.out j (by have := HTI.out; omega))⟩
      have hres : Aside0 (admitM M v n = (M, ⟨3, 0, false, 0⟩)) := ⟨by simp only [admitM, hfk.out]⟩
      obtain ⟨r0, r1, r2, r3, f0, f1, f2, f3⟩ := box4 Y1.out
      go_wp2_with (fail)
      refine bodyPost_ret (results_cell_row rfl _ _ (W.heap.size + 1) 35 #[.int .i64 3, .int .i64 0, .bool false, .int .i64 0] (0, 0) _ rfl (blk_put4 Y1.out _ _ _ _) hua rfl (by kernel_rfl)) rfl ?_
      rw [hres.out]
      exact ⟨rfl, (KB.of_below B1.out b).put4 (by omega) _ _ _ _, HR1.out.put4 hbn.out.1 _ _ _ _⟩
end Go.Proofs.YteaidhoimaphlaaGreat.PM
