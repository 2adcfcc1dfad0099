import Derived.Test.YteaidhoimaphlaaGreatMRep
import Derived.RangeFuncNested
import Derived.RangeFuncBound
import Derived.RangeFuncCalls
import Derived.RangeFuncLeaves
import Derived.RangeFuncBox
import Derived.Shelf.Abstract
import Derived.Shelf.RegionOpen
import Derived.OwnWalkIn
import Derived.TacticsInMore
import Derived.LoopNIn
import Derived.LoopIn
import Derived.Deep.RegionHeld3
import Derived.Deep.RegionLaw
import Derived.Laws.CopyOwn
import Derived.Laws.EntriesVeiled
namespace Go.Proofs.YteaidhoimaphlaaGreat.PM
open Go.RowKit Go.Shelf Go.Proofs.YteaidhoimaphlaaGreatW.PrintWords Go.Proofs.YteaidhoimaphlaaGreatW.PrintLast Go.Proofs.YteaidhoimaphlaaGreatW.PrintMore
attribute [local go_sem] max2_int min2_int max_two min_two max_three min_three max_four min_four
set_option linter.unusedVariables false
set_option linter.unusedSimpArgs false
structure LAns where
  err : Int
  n : Int
  ex : Bool
  node : Int
def ansV (a : LAns) : Value := .agg #[.int .i64 a.err, .int .i64 a.n, .bool a.ex, .int .i64 a.node]
def turnT (t : TK) (nd n : Int) : TK := ⟨(t.ver + 2) % 4294967296, nd, n⟩
def overV (lim use : List Int) (n : Int) : List Int → Option Int
  | [] => none
  | v :: vs => if rd lim v < wrap64 (rd use v + n) then some v else overV lim use n vs
def admitM (M : ML) (node n : Int) : ML × LAns :=
  match freeK M.tk M.c.ti.toNat 0 with
  | none => (M, ⟨3, 0, false, 0⟩)
  | some k => match overV M.lim M.use n (pathL M.c.ps node) with
    | some v => ({ M with tk := M.tk.set k (turnT (tkAt M.tk k) 0 0) }, ⟨4, 0, false, v⟩)
    | none => ({ M with use := addUses M.use (pathL M.c.ps node) n, tk := M.tk.set k (turnT (tkAt M.tk k) node n) }, ⟨0, (turnT (tkAt M.tk k) node n).ver * 16 + k, false, 0⟩)
theorem K_path2 (c : LConf) (v6 v7 : Value) (a : Int) (W : World) (h6 : IsInts W v6 c.ps) (h7 : IsInts W v7 c.ls) (hf : Falls c.ps) (hn : c.ps.length ≤ 12) :
    Calls Tryz.prog 35 #[.agg #[.int .i64 c.th, .int .i64 c.st, .int .i64 c.ga, .int .i64 c.le, .int .i64 c.re, .int .i64 c.ti, v6, v7], .int .i64 a] W fun e w' => ∃ A n, e = .returned (.slice A (pathL c.ps a).length n) ∧ IsInts w' (.slice A (pathL c.ps a).length n) (pathL c.ps a) ∧ (∀ x, A = some x → W.heap.size ≤ x.block) ∧ Below W.heap.size W w' := by
  obtain ⟨A6, c6, rfl, hc6, hr6⟩ := h6
  obtain ⟨A7, c7, rfl, hc7, hr7⟩ := h7
  refine (tree_Path.calls _ _ _ _ _ _ A6 c6 c.ps A7 c7 c.ls a _ W hr6 hc6 hr7 hc7 (path_f hf (by omega) a)).mono fun _ _ ⟨v, he, hR, hb⟩ => ?_
  have hI := IsInts.of_R hR
  obtain ⟨A, n, rfl, h1, h2⟩ := hI
  have hB := Kd.R_bound hR
  exact ⟨A, n, he, ⟨A, n, rfl, h1, h2⟩, fun x hx => (hB.1 x.block (by rw [hx]; rfl)).2.1, hb⟩
theorem MAt.cells {W0 W : World} {b : Nat} {M : ML} (h : MAt W0 W b M) : ∃ A6 n6 d6 A7 n7 d7, (W.cell? ⟨b, 0, none⟩ = some (.int .i64 M.c.th) ∧ W.cell? ⟨b, 1, none⟩ = some (.int .i64 M.c.st) ∧ W.cell? ⟨b, 2, none⟩ = some (.int .i64 M.c.ga) ∧ W.cell? ⟨b, 3, none⟩ = some (.int .i64 M.c.le) ∧ W.cell? ⟨b, 4, none⟩ = some (.int .i64 M.c.re) ∧ W.cell? ⟨b, 5, none⟩ = some (.int .i64 M.c.ti) ∧ W.cell? ⟨b, 6, none⟩ = some (.slice A6 n6 d6) ∧ W.cell? ⟨b, 7, none⟩ = some (.slice A7 n7 d7)) ∧ IsInts W0 (.slice A6 n6 d6) M.c.ps ∧ IsInts W0 (.slice A7 n7 d7) M.c.ls := by
  obtain ⟨A6, n6, d6, A7, n7, d7, hb, h6, h7, _⟩ := h
  exact ⟨A6, n6, d6, A7, n7, d7, ⟨mc_conf hb 0 (by simp [confV]), mc_conf hb 1 (by simp [confV]), mc_conf hb 2 (by simp [confV]), mc_conf hb 3 (by simp [confV]), mc_conf hb 4 (by simp [confV]), mc_conf hb 5 (by simp [confV]), mc_conf hb 6 (by simp [confV]), mc_conf hb 7 (by simp [confV])⟩, h6, h7⟩
theorem K_refused (e nd : Int) (W : World) : Calls Tryz.prog 25 #[.int .i64 e, .int .i64 nd] W fun e' w' => e' = .returned (.agg #[.int .i64 e, .int .i64 0, .bool false, .int .i64 nd]) ∧ Below W.heap.size W w' := model_refused.calls e nd _ _ _ _ W rfl
theorem two_box {W w' : World} {o1 o2 : Obj} (hb : Below ((W.alloc o1).alloc o2).heap.size ((W.alloc o1).alloc o2) w') : w'.heap[W.heap.size]? = some o1 ∧ w'.heap[W.heap.size + 1]? = some o2 ∧ W.heap.size + 2 ≤ w'.heap.size := by
  refine ⟨blk_below (blk_alloc (blk_new W o1) o2) hb, blk_below (by simpa using blk_new (W.alloc o1) o2) hb, by have := hb.size; simp at this; omega⟩
theorem box4 {W : World} {g t : Nat} {x0 x1 x2 x3 : Value} (h : W.heap[g]? = some (.cells #[x0, x1, x2, x3] t (0, 0))) :
    W.cell? ⟨g, 0, none⟩ = some x0 ∧ W.cell? ⟨g, 1, none⟩ = some x1 ∧ W.cell? ⟨g, 2, none⟩ = some x2 ∧ W.cell? ⟨g, 3, none⟩ = some x3 ∧ W.frozen? ⟨g, 0, none⟩ = false ∧ W.frozen? ⟨g, 1, none⟩ = false ∧ W.frozen? ⟨g, 2, none⟩ = false ∧ W.frozen? ⟨g, 3, none⟩ = false :=
  ⟨(blk_cell h 0).trans rfl, (blk_cell h 1).trans rfl, (blk_cell h 2).trans rfl, (blk_cell h 3).trans rfl, blk_frozen h 0, blk_frozen h 1, blk_frozen h 2, blk_frozen h 3⟩
theorem blk_put4 {W : World} {g t : Nat} {x0 x1 x2 x3 : Value} (h : W.heap[g]? = some (.cells #[x0, x1, x2, x3] t (0, 0))) (y0 y1 y2 y3 : Value) :
    ((((W.setCell ⟨g, 0, none⟩ y0).setCell ⟨g, 1, none⟩ y1).setCell ⟨g, 2, none⟩ y2).setCell ⟨g, 3, none⟩ y3).heap[g]? = some (.cells #[y0, y1, y2, y3] t (0, 0)) :=
  blk_put (blk_put (blk_put (blk_put h 0 y0 rfl) 1 y1 rfl) 2 y2 rfl) 3 y3 rfl
theorem KB.put4 {X Y : World} {b : Nat} (h : KB X Y b) {g : Nat} (hg : X.heap.size ≤ g) (y0 y1 y2 y3 : Value) : KB X ((((Y.setCell ⟨g, 0, none⟩ y0).setCell ⟨g, 1, none⟩ y1).setCell ⟨g, 2, none⟩ y2).setCell ⟨g, 3, none⟩ y3) b :=
  (((h.setNew (p := ⟨g, 0, none⟩) hg _).setNew (p := ⟨g, 1, none⟩) hg _).setNew (p := ⟨g, 2, none⟩) hg _).setNew (p := ⟨g, 3, none⟩) hg _
theorem MAt.put4 {W0 Y : World} {b : Nat} {M : ML} (h : MAt W0 Y b M) {g : Nat} (hg : b ≠ g) (y0 y1 y2 y3 : Value) : MAt W0 ((((Y.setCell ⟨g, 0, none⟩ y0).setCell ⟨g, 1, none⟩ y1).setCell ⟨g, 2, none⟩ y2).setCell ⟨g, 3, none⟩ y3) b M :=
  h.keep (by
    have s : ∀ (Z : World) (i : Nat) (u : Value), (Z.setCell ⟨g, i, none⟩ u).heap[b]? = Z.heap[b]? := fun Z i u => Below.heap_setCell Z _ u b hg
    rw [s, s, s, s])
theorem freeK_lt (tk : List TK) : ∀ (n i k : Nat), freeK tk n i = some k → i ≤ k ∧ k < i + n ∧ isFree (tkAt tk k) = true
  | 0, i, k, h => by simp [freeK] at h
  | n + 1, i, k, h => by
    unfold freeK at h
    split at h
    · cases h; exact ⟨Nat.le_refl _, by omega, by assumption⟩
    · have := freeK_lt tk n (i + 1) k h; exact ⟨by omega, by omega, this.2.2⟩
theorem below_cell_of {w w' : World} {p : Addr} {v : Value} (h : Below w.heap.size w w') (hp : w.cell? p = some v) : w'.cell? p = some v := (KB.of_below h (p.block + 1)).cell hp (by omega)
theorem isUp_range {ps : List Int} : ∀ {xs : List Int} {v : Int}, IsUp ps v xs → ∀ x ∈ xs, 0 ≤ x ∧ x < (ps.length : Int)
  | [], _, _, x, hx => by cases hx
  | y :: xs, v, ⟨h1, h2, h3, _, h5⟩, x, hx => by
    rcases List.mem_cons.1 hx with rfl | hx
    · subst h1; exact ⟨h2, h3⟩
    · exact isUp_range h5 x hx
theorem pathL_range {ps : List Int} (hf : Falls ps) (v : Int) : ∀ x ∈ pathL ps v, 0 ≤ x ∧ x < (ps.length : Int) := by
  by_cases h : v < (ps.length : Int)
  · exact isUp_range (pathL_is hf h)
  · rw [pathL_out (by omega)]; intro x hx; cases hx
theorem overV_drop (lim use : List Int) (n : Int) (l : List Int) (k : Nat) (h : k < l.length) : overV lim use n (l.drop k) = if rd lim (rd l (k : Int)) < wrap64 (rd use (rd l (k : Int)) + n) then some (rd l (k : Int)) else overV lim use n (l.drop (k + 1)) := by
  rw [List.drop_eq_getElem_cons h, rd_lt h]
  rfl
theorem tkAt_set (tk : List TK) (k : Nat) (t : TK) (h : k < tk.length) : tkAt (tk.set k t) k = t := by simp [tkAt, List.getD, h]
theorem tkAt_set_ne (tk : List TK) (k j : Nat) (t : TK) (h : j ≠ k) : tkAt (tk.set k t) j = tkAt tk j := by simp [tkAt, List.getD, List.getElem?_set, Ne.symm h]
theorem i64w (x : Int) : IntKind.i64.wrap x = wrap64 x := by rw [IntKind.wrap_i64]; unfold wrap64; rfl
/-- what a walk needs of a model. -/
structure MOk (M : ML) : Prop where
  ti : 0 ≤ M.c.ti ∧ M.c.ti ≤ 16
  falls : Falls M.c.ps
  nodes : M.c.ps.length ≤ 12
  vers : ∀ k, k < 16 → 0 ≤ (tkAt M.tk k).ver ∧ (tkAt M.tk k).ver < 4294967296
set_option maxHeartbeats 4000000 in
set_option maxRecDepth 100000 in
theorem K_admit (W0 W : World) (b : Nat) (M : ML) (hW : Below W0.heap.size W0 W) (h : MAt W0 W b M) (hok : MOk M) (node n : Int) : Calls Tryz.prog 26 #[.pointer (some ⟨b, 0, none⟩), .agg #[.int .i64 1, .int .i64 node, .int .i64 n]] W fun e w' => e = .returned (ansV (admitM M node n).2) ∧ KB W w' b ∧ MAt W0 w' b (admitM M node n).1 := by
  have HOK := Aside0.mk hok
  have HM := Aside0.mk h
  have HW := Aside0.mk hW
  have hus := Tryz.underlying24
  have hua := Tryz.underlying35
  have huc := Tryz.underlying38
  have hti := Aside0.mk (show M.c.ti = (M.c.ti.toNat : Int) by have := hok.ti; omega)
  have hsz := Aside0.mk (show b < W.heap.size by obtain ⟨_, _, _, _, _, _, hb, _⟩ := h; exact blk_lt hb)
  clear h hok hW
  go_enter Tryz.func26, Tryz.ntmps26
  cases hfk : freeK M.tk M.c.ti.toNat 0 with
  | none =>
    have hfree : Aside0 (∀ w, MAt W0 w b M → Calls Tryz.prog 34 #[.pointer (some ⟨b, 0, none⟩)] w fun e w' => e = .returned (.tuple #[.int .i64 0, .bool false]) ∧ Below w.heap.size w w') := ⟨fun w hw => by
      have := K_free W0 w b M hw M.c.ti.toNat hti.out (by have := HOK.out.ti; omega)
      rw [hfk] at this
      exact this⟩
    have hres : Aside0 (admitM M node n = (M, ⟨3, 0, false, 0⟩)) := ⟨by simp only [admitM, hfk]⟩
    clear hfk
    go_wp2_with (go_at_call 34; refine (hfree.out _ (HM.out.below (by repeat (first | exact Below.refl _ _ | apply below_alloc)))).mono ?_; rintro e w' ⟨rfl, hb'⟩; have HB' := Aside0.mk (two_box hb'); have HK' := Aside0.mk ((((KB.refl W b).alloc _).alloc _).trans (KB.of_below hb' b)); have HM' := Aside0.mk ((HM.out.below (by repeat (first | exact Below.refl _ _ | apply below_alloc))).below hb'); clear hb')
    go_wp2_with (go_at_call 25; refine (K_refused _ _ _).mono ?_; rintro e w2 ⟨rfl, hb2⟩; obtain ⟨r0, r1, r2, r3, f0, f1, f2, f3⟩ := box4 (blk_below HB'.out.2.1 hb2); have hb2' := Aside0.mk hb2; clear hb2)
    refine bodyPost_ret (results_cell_row rfl _ _ (W.heap.size + 1) 35 #[.int .i64 3, .int .i64 0, .bool false, .int .i64 0] (0, 0) _ rfl (blk_put4 (blk_below HB'.out.2.1 hb2'.out) _ _ _ _) hua rfl (by kernel_rfl)) rfl ?_
    have hne : b ≠ W.heap.size + 1 := by have := hsz.out; omega
    rw [hres.out]
    exact ⟨rfl, (HK'.out.trans (KB.of_below hb2'.out b)).put4 (by omega) _ _ _ _, (HM'.out.below hb2'.out).put4 hne _ _ _ _⟩
  | some k =>
    have hfree : Aside0 (∀ w, MAt W0 w b M → Calls Tryz.prog 34 #[.pointer (some ⟨b, 0, none⟩)] w fun e w' => e = .returned (.tuple #[.int .i64 k, .bool true]) ∧ Below w.heap.size w w') := ⟨fun w hw => by
      have := K_free W0 w b M hw M.c.ti.toNat hti.out (by have := HOK.out.ti; omega)
      rw [hfk] at this
      exact this⟩
    have hk : Aside0 (k < 16) := ⟨by have := freeK_lt _ _ _ _ hfk; have := HOK.out.ti; omega⟩
    have hres : Aside0 (admitM M node n = match overV M.lim M.use n (pathL M.c.ps node) with
      | some v => ({ M with tk := M.tk.set k (turnT (tkAt M.tk k) 0 0) }, ⟨4, 0, false, v⟩)
      | none => ({ M with use := addUses M.use (pathL M.c.ps node) n, tk := M.tk.set k (turnT (tkAt M.tk k) node n) }, ⟨0, (turnT (tkAt M.tk k) node n).ver * 16 + k, false, 0⟩)) := ⟨by simp only [admitM, hfk]⟩
    clear hfk
    go_wp2_with (go_at_call 34; refine (hfree.out _ (HM.out.below (by repeat (first | exact Below.refl _ _ | apply below_alloc)))).mono ?_; rintro e w' ⟨rfl, hb'⟩; have HB' := Aside0.mk (two_box hb'); have HK' := Aside0.mk ((((KB.refl W b).alloc _).alloc _).trans (KB.of_below hb' b)); have HM' := Aside0.mk ((HM.out.below (by repeat (first | exact Below.refl _ _ | apply below_alloc))).below hb'); clear hb')
    obtain ⟨A6, n6, d6, A7, n7, d7, ⟨q0, q1, q2, q3, q4, q5, q6, q7⟩, h6, h7⟩ := HM'.out.cells
    have qn : w'.cell? ⟨W.heap.size, 1, none⟩ = some (.int .i64 node) := (blk_cell HB'.out.1 1).trans rfl
    have HW' := Aside0.mk (HK'.out.below HW.out (by obtain ⟨_, _, _, _, _, _, _, _, _, _, _, _, h⟩ := HM.out; exact h))
    have H6 := Aside0.mk (h6.below HW'.out)
    have H7 := Aside0.mk (h7.below HW'.out)
    clear h6 h7
    go_region_held3 (fun w2 => (w2.cell? ⟨b, 0, none⟩ = some (.int .i64 M.c.th) ∧ w2.cell? ⟨b, 1, none⟩ = some (.int .i64 M.c.st) ∧ w2.cell? ⟨b, 2, none⟩ = some (.int .i64 M.c.ga) ∧ w2.cell? ⟨b, 3, none⟩ = some (.int .i64 M.c.le) ∧ w2.cell? ⟨b, 4, none⟩ = some (.int .i64 M.c.re) ∧ w2.cell? ⟨b, 5, none⟩ = some (.int .i64 M.c.ti) ∧ w2.cell? ⟨b, 6, none⟩ = some (.slice A6 n6 d6) ∧ w2.cell? ⟨b, 7, none⟩ = some (.slice A7 n7 d7)) ∧ w2.cell? ⟨W.heap.size, 1, none⟩ = some (.int .i64 node)) (first | go_keep | (go_split_ands; (repeat' apply And.intro); all_goals (refine below_cell_of hb2 ?_; assumption))) ((go_at_call 35; refine (K_path2 M.c _ _ node _ (H6.out.below (by repeat (first | exact Below.refl _ _ | apply below_alloc | apply below_drew1 | apply pw_below_drewN))) (H7.out.below (by repeat (first | exact Below.refl _ _ | apply below_alloc | apply below_drew1 | apply pw_below_drewN))) HOK.out.falls HOK.out.nodes).mono ?_; rintro e w2 ⟨A, c, rfl, hP, hPn, hb2⟩))
    have HB2 : Aside0 (w2.heap[W.heap.size]? = some (.cells #[.int .i64 1, .int .i64 node, .int .i64 n] 38 (0, 0)) ∧ w2.heap[W.heap.size + 1]? = some (.cells #[.int .i64 0, .int .i64 0, .bool false, .int .i64 0] 35 (0, 0)) ∧ W.heap.size + 2 ≤ w2.heap.size) := ⟨blk_below (blk_drew HB'.out.1) hb2, blk_below (blk_drew HB'.out.2.1) hb2, Nat.le_trans HB'.out.2.2 hb2.size⟩
    have HK2 : Aside0 (KB W w2 b) := ⟨HK'.out.drew.trans (KB.of_below hb2 b)⟩
    have HM2 : Aside0 (MAt W0 w2 b M) := ⟨(HM'.out.keep (W' := w'.drew) rfl).below hb2⟩
    have HP := Aside0.mk hP
    have hPne : Aside0 (∀ a, A = some a → a.block ≠ b) := ⟨fun a ha => by have h0 : w'.heap.size ≤ a.block := hPn a ha; have h1 := HB'.out.2.2; have h2 := hsz.out; omega⟩
    clear hP hPn hb2 q0 q1 q2 q3 q4 q5 q6 q7 qn H6 H7 HW' HM' HK' HB'
    rename_i hHeld
    clear hHeld
    have hrg := Aside0.mk (pathL_range HOK.out.falls node)
    have hnd := Aside0.mk HOK.out.nodes
    obtain ⟨P, hPdef⟩ : ∃ P, pathL M.c.ps node = P := ⟨_, rfl⟩
    rw [hPdef] at HP hres hrg
    rw [hPdef]
    clear hPdef
    go_wp2_with (fail)
    go_loopg [27] P.length (fun gg s27 wr => ∃ kk : Nat, kk ≤ P.length ∧ P.length - kk ≤ gg ∧ s27 = .int .i64 kk ∧ Aside0 (Below w2.heap.size w2 wr) ∧ Aside0 (overV M.lim M.use n (P.drop kk) = overV M.lim M.use n P))
    case atStart => exact ⟨0, Nat.zero_le _, by omega, rfl, ⟨Below.refl _ _⟩, ⟨rfl⟩⟩
    case round =>
      obtain ⟨kk, hkk, hg, rfl, BW, HA⟩ := hrel
      by_cases hlt : kk < P.length
      · have hltb : decide ((kk : Int) < (P.length : Int)) = true := decide_eq_true (by omega)
        obtain ⟨A', c', e', hc', hC⟩ := HP.out
        cases e'
        obtain ⟨ad, hA, hcell⟩ := Kd.at_int hC (kk : Int) (by omega) (by omega)
        have hcell' := below_cell_of BW.out hcell
        simp only [Int.toNat_natCast] at hcell'
        have hlen : P.length ≤ 9223372036854775807 := by have := hC.2.1; omega
        have hq := Aside0.mk (overV_drop M.lim M.use n P kk hlt)
        have hin := hrg.out (rd P (kk : Int)) (by rw [rd_lt hlt]; exact List.getElem_mem _)
        subst hA
        clear hcell hC hc'
        obtain ⟨v, hv⟩ : ∃ v : Nat, rd P (kk : Int) = (v : Int) := ⟨(rd P (kk : Int)).toNat, by omega⟩
        have hv12 : v < 12 := by have := hnd.out; omega
        have hv0 : (0 : Int) ≤ (v : Int) := by omega
        have hv1 : (v : Int) < 12 := by omega
        rw [hv] at hcell' hq
        have hMr := Aside0.mk (HM2.out.below BW.out)
        obtain ⟨_, _, _, _, _, _, hbr, _, _, hl, hu, _, _⟩ := hMr.out
        have cu := mc_use hbr rfl hl v (by omega)
        have cl := mc_lim hbr rfl v (by omega)
        have cn : wr.cell? ⟨W.heap.size, 2, none⟩ = some (.int .i64 n) := (blk_cell (blk_below HB2.out.1 BW.out) 2).trans rfl
        clear hbr hl hu hin hv
        go_wp2_with (fail)
        go_region_held3 (fun w3 => w3.cell? ⟨b, 20 + v, none⟩ = some (.int .i64 (rd M.use (v : Int))) ∧ w3.cell? ⟨b, 8 + v, none⟩ = some (.int .i64 (rd M.lim (v : Int))) ∧ w3.cell? ⟨W.heap.size, 2, none⟩ = some (.int .i64 n)) (first | go_keep) (fail)
        have hwr : IntKind.i64.wrap (rd M.use (v : Int) + n) = wrap64 (rd M.use (v : Int) + n) := i64w _
        by_cases hov : rd M.lim (v : Int) < wrap64 (rd M.use (v : Int) + n)
        · have hovb : decide (rd M.lim (v : Int) < IntKind.i64.wrap (rd M.use (v : Int) + n)) = true := by rw [hwr]; exact decide_eq_true hov
          have hov' : ¬ IntKind.i64.wrap (rd M.use (v : Int) + n) ≤ rd M.lim (v : Int) := by rw [hwr]; omega
          clear hwr
          have hq' : Aside0 (overV M.lim M.use n P = some (v : Int)) := ⟨by rw [← HA.out, hq.out, if_pos hov]⟩
          clear hov
          go_wp2_with (go_at_call 36; refine (K_turn W0 _ b M (HM2.out.below BW.out.drew) k hk.out 0 0).mono ?_; rintro e w4 ⟨rfl, hk4, hm4⟩; have HM4 := Aside0.mk hm4; have HK4 := Aside0.mk (((HK2.out.trans (KB.of_below BW.out b)).drew).trans hk4); have HR4 := Aside0.mk (hk4.blk (blk_drew (blk_below HB2.out.2.1 BW.out)) (by have := hsz.out; omega)); clear hk4 hm4)
          go_wp2_with (go_at_call 25; refine (K_refused _ _ _).mono ?_; rintro e w5 ⟨rfl, hb5⟩; obtain ⟨r0, r1, r2, r3, f0, f1, f2, f3⟩ := box4 (blk_below HR4.out hb5); have hb5' := Aside0.mk hb5; clear hb5)
          refine bodyPost_ret (results_cell_row rfl _ _ (W.heap.size + 1) 35 #[.int .i64 4, .int .i64 0, .bool false, .int .i64 (v : Int)] (0, 0) _ rfl (blk_put4 (blk_below HR4.out hb5'.out) _ _ _ _) hua rfl (by kernel_rfl)) rfl ?_
          have hne : b ≠ W.heap.size + 1 := by have := hsz.out; omega
          rw [hres.out, hq'.out]
          exact ⟨rfl, (HK4.out.trans (KB.of_below hb5'.out b)).put4 (by omega) _ _ _ _, (HM4.out.below hb5'.out).put4 hne _ _ _ _⟩
        · have hovb : decide (rd M.lim (v : Int) < IntKind.i64.wrap (rd M.use (v : Int) + n)) = false := by rw [hwr]; exact decide_eq_false hov
          have hov' : ¬ rd M.lim (v : Int) < IntKind.i64.wrap (rd M.use (v : Int) + n) := by rw [hwr]; omega
          clear hwr
          have hq' : Aside0 (overV M.lim M.use n (P.drop (kk + 1)) = overV M.lim M.use n P) := ⟨by rw [← HA.out, hq.out, if_neg hov]⟩
          clear hov
          go_wp2_with (fail)
          go_roundg (P.length - (kk + 1))
          case measure => omega
          case rel => exact ⟨kk + 1, by omega, by omega, by go_num, ⟨BW.out.drew⟩, hq'⟩
      · have hltb : decide ((kk : Int) < (P.length : Int)) = false := decide_eq_false (by omega)
        have cn : wr.cell? ⟨W.heap.size, 2, none⟩ = some (.int .i64 n) := (blk_cell (blk_below HB2.out.1 BW.out) 2).trans rfl
        have cv : wr.cell? ⟨W.heap.size, 1, none⟩ = some (.int .i64 node) := (blk_cell (blk_below HB2.out.1 BW.out) 1).trans rfl
        have hno : Aside0 (overV M.lim M.use n P = none) := ⟨by rw [← HA.out, List.drop_eq_nil_of_le (by omega)]; rfl⟩
        have hr12 : Aside0 (∀ x ∈ P, 0 ≤ x ∧ x < 12) := ⟨fun x hx => by have := hrg.out x hx; have := hnd.out; omega⟩
        go_wp2_with (go_at_call 37; refine (K_move W0 _ b M (HM2.out.below BW.out) A c P n (HP.out.below BW.out) hr12.out hPne.out).mono ?_; rintro e w3 ⟨rfl, hk3, hm3, -⟩; have HM3 := Aside0.mk hm3; have HK3 := Aside0.mk (((HK2.out.trans (KB.of_below BW.out b))).trans hk3); have HR3 := Aside0.mk (hk3.blk (blk_below HB2.out.2.1 BW.out) (by have := hsz.out; omega)); have HX3 := Aside0.mk (hk3.blk (blk_below HB2.out.1 BW.out) (by have := hsz.out; omega)); clear hk3 hm3; have cn3 := (blk_cell HX3.out 2).trans rfl; have cv3 := (blk_cell HX3.out 1).trans rfl)
        have hlen16 : Aside0 (M.tk.length = 16) := ⟨by obtain ⟨_, _, _, _, _, _, _, _, _, _, _, h, _⟩ := HM2.out; exact h⟩
        have hvb : Aside0 (0 ≤ (turnT (tkAt M.tk k) node n).ver ∧ (turnT (tkAt M.tk k) node n).ver < 4294967296) := ⟨by unfold turnT; simp only; omega⟩
        go_wp2_with (go_at_call 36; refine (K_turn W0 _ b _ HM3.out k hk.out node n).mono ?_; rintro e w4 ⟨rfl, hk4, hm4⟩; have HM4 := Aside0.mk hm4; have HK4 := Aside0.mk (HK3.out.trans hk4); have HR4 := Aside0.mk (hk4.blk HR3.out (by have := hsz.out; omega)); clear hk4 hm4)
        have hhand : Aside0 (∀ w, MAt W0 w b { M with use := addUses M.use P n, tk := M.tk.set k (turnT (tkAt M.tk k) node n) } → Calls Tryz.prog 38 #[.pointer (some ⟨b, 0, none⟩), .int .i64 k] w fun e w' => e = .returned (.int .i64 ((turnT (tkAt M.tk k) node n).ver * 16 + k)) ∧ Below w.heap.size w w') := ⟨fun w hw => by
          have e := tkAt_set M.tk k (turnT (tkAt M.tk k) node n) (by rw [hlen16.out]; exact hk.out)
          have := K_handle W0 w b _ hw k hk.out (by simp only [e]; exact hvb.out.1) (by simp only [e]; exact hvb.out.2)
          simp only [e] at this
          exact this⟩
        go_wp2_with (go_at_call 38; refine (hhand.out _ HM4.out).mono ?_; rintro e w5 ⟨rfl, hb5⟩; obtain ⟨r0, r1, r2, r3, f0, f1, f2, f3⟩ := box4 (blk_below HR4.out hb5); have hb5' := Aside0.mk hb5; clear hb5)
        refine bodyPost_ret (results_cell_row rfl _ _ (W.heap.size + 1) 35 #[.int .i64 0, .int .i64 ((turnT (tkAt M.tk k) node n).ver * 16 + k), .bool false, .int .i64 0] (0, 0) _ rfl (blk_put4 (blk_below HR4.out hb5'.out) _ _ _ _) hua rfl (by kernel_rfl)) rfl ?_
        have hne : b ≠ W.heap.size + 1 := by have := hsz.out; omega
        rw [hres.out, hno.out]
        exact ⟨rfl, (HK4.out.trans (KB.of_below hb5'.out b)).put4 (by omega) _ _ _ _, (HM4.out.below hb5'.out).put4 hne _ _ _ _⟩
end Go.Proofs.YteaidhoimaphlaaGreat.PM
