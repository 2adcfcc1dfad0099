import Derived.Test.YteaidhoimaphlaaGreatMRefD
import Derived.RangeFuncNested
import Derived.RangeFuncBound
import Derived.RangeFuncCalls
import Derived.RangeFuncLeaves
import Derived.RangeFuncBox
import Derived.Shelf.Abstract
import Derived.Shelf.RegionOpen
import Derived.OwnWalkIn
import Derived.TacticsInMore
import Derived.LoopNIn
import Derived.LoopIn
import Derived.Deep.RegionHeld3
import Derived.Deep.RegionLaw
import Derived.Laws.CopyOwn
import Derived.Laws.EntriesVeiled
import Derived.Deep.DeepCutAuto
import Derived.Deep.AppendSrc
namespace Go.Proofs.YteaidhoimaphlaaGreat.PM
open Go.RowKit Go.Shelf Go.Proofs.YteaidhoimaphlaaGreatW.PrintWords Go.Proofs.YteaidhoimaphlaaGreatW.PrintLast Go.Proofs.YteaidhoimaphlaaGreatW.PrintMore
attribute [local go_sem] max2_int min2_int max_two min_two max_three min_three max_four min_four
set_option linter.unusedVariables false
set_option linter.unusedSimpArgs false
section
variable {P : Program} {ops : Array Oper} {o : Oper} {a : Act} {Q : Exit → Act → World → Prop} {Kc : Act → World → Prop} {W : World}
/-- an empty row that is made. -/
theorem step_lit0 (hw : Region.wanted o (yielded ops a.tmps) = true) {e : TypeId}
    (hrun : (execOp a.eval o).run P W = .ok (.value (.slice (some ⟨W.heap.size, 0, none⟩) 0 0)) (W.alloc (.cells #[] e)))
    (h : ∀ B w1, Below W.heap.size W w1 → Kc (a.put o.dst (.slice B 0 0)) w1) : if Region.wanted o (yielded ops a.tmps) = true then Oper.wp P o a W Kc Q else Kc (a.put o.dst undef) W :=
  event_step hw hrun (h _ _ (below_alloc (Below.refl _ _) _))
/-- a row of ints behind an empty row without room: a row of its own. -/
theorem step_append0 (hw : Region.wanted o (yielded ops a.tmps) = true) (s x : Operand) (t e : TypeId)
    (ho : o.op = .call { callee := .builtin .append, args := #[s, x], argTypes := #[t, t] })
    (ht : P.underlying t = some (.slice e)) (hinfo : (P.info? e).map (fun i => (i.zero, i.size, i.bytes)) = some (some (.int .i64 0), 1, 8))
    (B A : Option Addr) (m c : Nat) (xs : List Int) (hs : a.eval s = .slice B 0 0) (hx : a.eval x = .slice A m c) (h0 : IsInts W (.slice A m c) xs) (hm : 0 < xs.length) (hl : xs.length ≤ 1000)
    (h : ∀ A1 n1 c1 w1, IsInts w1 (.slice A1 n1 c1) xs → (∀ a, A1 = some a → W.heap.size ≤ a.block ∧ a.block < w1.heap.size) → Below W.heap.size W w1 → Kc (a.put o.dst (.slice A1 n1 c1)) w1) :
    if Region.wanted o (yielded ops a.tmps) = true then Oper.wp P o a W Kc Q else Kc (a.put o.dst undef) W := by
  obtain ⟨i, hi, hzz⟩ := Option.map_eq_some_iff.1 hinfo
  simp only [Prod.mk.injEq] at hzz
  obtain ⟨hz, hsz, hby⟩ := hzz
  have hlen := h0.len
  obtain ⟨ad, rfl, _⟩ := h0.get 0 hm
  have hcell : ∀ j u, (xs.map (Value.int .i64))[j]? = some u → W.cell? (ad.add j) = some u := fun j u hj => by
    rw [List.getElem?_map] at hj
    obtain ⟨p, hp, rfl⟩ := Option.map_eq_some_iff.1 hj
    have hjl : j < xs.length := (List.getElem?_eq_some_iff.1 hp).1
    obtain ⟨ad', e', hc⟩ := h0.get j hjl
    cases e'
    rw [rd_lt hjl] at hc
    rw [List.getElem?_eq_getElem hjl] at hp
    cases hp
    exact hc
  have hsrc : Src P i.size t (.slice (some ad) m c) m (xs.map (Value.int .i64)) W := Src.ofSlice W ht ad m c _ (by rw [hsz, List.length_map]; omega) hcell (fun u hu => by
    obtain ⟨p, _, rfl⟩ := List.mem_map.1 hu
    rfl)
  have hold : (Builtin.firstCells i.size 0 (.slice B 0 0)).run P W.drew = .ok ([] : List Value).toArray W.drew := by
    cases B with
    | none => exact run_firstCells_none _ _ _ _ _
    | some b => exact run_firstCells_some _ _ _ _ _ _ [] (by simp) (fun j v hj => by simp at hj)
  have hcap : Builtin.nextslicecap (0 + m) 0 = m := by
    unfold Builtin.nextslicecap
    rw [if_pos (by omega), Nat.zero_add]
  have hr := run_append_grow_src (P := P) W t t o.type e i (.int .i64 0) ht hi hz B 0 0 [] hold (.slice (some ad) m c) m _ hsrc (by omega) (by omega) (by rw [hcap, hby]; omega)
  obtain ⟨w1, hw1⟩ : ∃ X, W.drew.alloc (.cells (([] ++ xs.map (Value.int .i64)).toArray ++ Builtin.zeroCells (Value.int .i64 0).cells (grownCap W (0 + m) 0 e - (0 + m))) e) = X := ⟨_, rfl⟩
  have K : Kc (a.put o.dst (.slice (some ⟨W.heap.size, 0, none⟩) (0 + m) (grownCap W (0 + m) 0 e))) w1 := by
    rw [← hw1]
    refine h _ _ _ _ ?_ ?_ ?_
    · refine ⟨_, _, by rw [show 0 + m = xs.length by omega], grownCap_ge W _ 0 e, rfl, by omega, fun _ => ⟨_, rfl, ?_⟩⟩
      intro j p hj
      refine ⟨[.int .i64 p], rfl, rfl, ?_⟩
      intro q u hq
      obtain ⟨rfl, rfl⟩ : q = 0 ∧ u = .int .i64 p := by
        cases q with
        | zero => simpa using hq.symm
        | succ q => simp at hq
      have hjl : j < xs.length := (List.getElem?_eq_some_iff.1 hj).1
      have hb := blk_new W.drew (.cells (([] ++ xs.map (Value.int .i64)).toArray ++ Builtin.zeroCells (Value.int .i64 0).cells (grownCap W (0 + m) 0 e - (0 + m))) e)
      rw [Addr.add_lit]
      refine (blk_cell hb _).trans ?_
      simp only [show (Kd.int .i64).sz = 1 from rfl, Nat.mul_one, Nat.add_zero, Nat.zero_add, List.nil_append]
      rw [Array.getElem?_append_left (by simpa using hjl), List.getElem?_toArray, List.getElem?_map, hj]
      rfl
    · intro x hx
      cases hx
      exact ⟨Nat.le_refl _, by simp⟩
    · exact below_alloc (Below.refl _ _).drew _
  rw [hw1] at hr
  rw [if_pos hw]
  unfold Oper.wp execOp
  simp only [ho, resolve, invoke, builtin, Sem.run_bind, Sem.run_pure, Result.andThen_ok, List.map_toArray, List.map_cons, List.map_nil, hs, hx, hr]
  exact K
end
/-- a row of ints that is a call's own: new since W. -/
def OI (W w : World) (A : Option Addr) (n c : Nat) (xs : List Int) : Prop := IsInts w (.slice A n c) xs ∧ ∀ a, A = some a → W.heap.size ≤ a.block ∧ a.block < w.heap.size
theorem OI.below {W w w' : World} {A : Option Addr} {n c : Nat} {xs : List Int} (h : OI W w A n c xs) (hb : Below w.heap.size w w') : OI W w' A n c xs :=
  ⟨h.1.below hb, fun a ha => ⟨(h.2 a ha).1, Nat.lt_of_lt_of_le (h.2 a ha).2 hb.size⟩⟩
def OT (W w : World) (A : Option Addr) (n c : Nat) (xs : List S81) : Prop := IsTks w (.slice A n c) xs ∧ ∀ a, A = some a → W.heap.size ≤ a.block ∧ a.block < w.heap.size
theorem OT.below {W w w' : World} {A : Option Addr} {n c : Nat} {xs : List S81} (h : OT W w A n c xs) (hb : Below w.heap.size w w') : OT W w' A n c xs :=
  ⟨h.1.below hb, fun a ha => ⟨(h.2 a ha).1, Nat.lt_of_lt_of_le (h.2 a ha).2 hb.size⟩⟩
theorem OI.from {W X w : World} {A : Option Addr} {n c : Nat} {xs : List Int} (h : OI X w A n c xs) (hs : W.heap.size ≤ X.heap.size) : OI W w A n c xs := ⟨h.1, fun a ha => ⟨Nat.le_trans hs (h.2 a ha).1, (h.2 a ha).2⟩⟩
theorem own_f (c : LConf) (hp : c.ps.length ≤ 1000) (hl : c.ls.length ≤ 1000) : breadlineref04_Own.f c.th c.st c.ga c.le c.re c.ti c.ps c.ls = some (c.th, c.st, c.ga, c.le, c.re, c.ti, c.ps, c.ls) := by
  unfold breadlineref04_Own.f
  simp only [Option.bind_some, List.length_nil, List.nil_append]
  rw [if_pos (by omega), if_pos (by omega)]
theorem K_rOwn (c : LConf) (A6 : Option Addr) (n6 d6 : Nat) (A7 : Option Addr) (n7 d7 : Nat) (W : World) (h6 : IsInts W (.slice A6 n6 d6) c.ps) (h7 : IsInts W (.slice A7 n7 d7) c.ls) (hp : c.ps.length ≤ 1000) (hl : c.ls.length ≤ 1000) :
    Calls Tryz.prog 24 #[.agg #[.int .i64 c.th, .int .i64 c.st, .int .i64 c.ga, .int .i64 c.le, .int .i64 c.re, .int .i64 c.ti, .slice A6 n6 d6, .slice A7 n7 d7]] W fun e w' => ∃ C6 m6 e6 C7 m7 e7, e = .returned (.agg #[.int .i64 c.th, .int .i64 c.st, .int .i64 c.ga, .int .i64 c.le, .int .i64 c.re, .int .i64 c.ti, .slice C6 m6 e6, .slice C7 m7 e7]) ∧ OI W w' C6 m6 e6 c.ps ∧ OI W w' C7 m7 e7 c.ls ∧ Below W.heap.size W w' := by
  obtain ⟨_, _, e0, hc0, hC0⟩ := h6
  obtain ⟨_, _, e1, hc1, hC1⟩ := h7
  cases e0
  cases e1
  refine (breadlineref04_Own.calls _ _ _ _ _ _ A6 d6 c.ps A7 d7 c.ls _ _ _ _ _ _ _ _ W hC0 hc0 hC1 hc1 (own_f c hp hl)).mono ?_
  rintro e w' ⟨v6, v7, rfl, hR6, hR7, hb⟩
  have hI6 := IsInts.of_R hR6
  have hI7 := IsInts.of_R hR7
  obtain ⟨C6, m6, e6, rfl⟩ := hI6.slice
  obtain ⟨C7, m7, e7, rfl⟩ := hI7.slice
  have hB6 := Kd.R_bound hR6
  have hB7 := Kd.R_bound hR7
  exact ⟨C6, m6, e6, C7, m7, e7, rfl, ⟨hI6, fun x hx => ⟨(hB6.1 x.block (by rw [hx]; rfl)).2.1, (hB6.1 x.block (by rw [hx]; rfl)).2.2.1⟩⟩, ⟨hI7, fun x hx => ⟨(hB7.1 x.block (by rw [hx]; rfl)).2.1, (hB7.1 x.block (by rw [hx]; rfl)).2.2.1⟩⟩, hb⟩
theorem OI.of_R {X w : World} {e : Nat} {ok : Nat → Prop} {v : Value} {xs : List Int} (h : (Kd.int .i64).R e w X.heap.size ok v xs) : ∃ A n c, v = .slice A n c ∧ OI X w A n c xs := by
  have hI := IsInts.of_R h
  obtain ⟨A, n, c, rfl⟩ := hI.slice
  have hB := Kd.R_bound h
  exact ⟨A, n, c, rfl, hI, fun x hx => ⟨(hB.1 x.block (by rw [hx]; rfl)).2.1, (hB.1 x.block (by rw [hx]; rfl)).2.2.1⟩⟩
theorem OT.of_R {X w : World} {e : Nat} {ok : Nat → Prop} {v : Value} {xs : List S81} (h : Kd.R k81 e w X.heap.size ok v xs) : ∃ A n c, v = .slice A n c ∧ OT X w A n c xs := by
  have hI := IsTks.of_R h
  obtain ⟨A, n, c, rfl⟩ := hI.slice
  have hB := Kd.R_bound h
  exact ⟨A, n, c, rfl, hI, fun x hx => ⟨(hB.1 x.block (by rw [hx]; rfl)).2.1, (hB.1 x.block (by rw [hx]; rfl)).2.2.1⟩⟩
theorem OT.from {W X w : World} {A : Option Addr} {n c : Nat} {xs : List S81} (h : OT X w A n c xs) (hs : W.heap.size ≤ X.heap.size) : OT W w A n c xs := ⟨h.1, fun a ha => ⟨Nat.le_trans hs (h.2 a ha).1, (h.2 a ha).2⟩⟩
theorem NB.of_own {W w1 X w' : World} {b : Nat} {A : Option Addr} (h : ∀ a, A = some a → w1.heap.size ≤ a.block ∧ a.block < X.heap.size) (hW : W.heap.size ≤ w1.heap.size) (hb : b = X.heap.size) (hs : X.heap.size ≤ w'.heap.size) : NB W.heap.size b (fun _ => False) w'.heap.size A := fun a ha => by
  have := h a ha
  exact ⟨by omega, by omega, fun h => h, by omega⟩
theorem limR_new {c : LConf} (hr : Right c) : limR (newM c) = c.ls := by
  have h := hr.1.2.2.2.2.2.2.2
  show (c.ls ++ List.replicate (12 - c.ls.length) 0).take c.ps.length = c.ls
  rw [List.take_append_of_le_length (by omega), ← h, List.take_length]
theorem useR_new {c : LConf} (hr : Right c) : useR (newM c) = List.replicate c.ps.length 0 := by
  have h := hr.1.2.2.2.2.2.2.1
  unfold useR newM
  rw [List.take_replicate, Nat.min_eq_left h.2]
theorem tksR_new {c : LConf} (hr : Right c) : tksR (newM c) = List.replicate c.ti.toNat ⟨0, false, 0, 0⟩ := by
  have h := hr.1.2.2.2.2.2.1
  unfold tksR newM
  rw [List.take_replicate, Nat.min_eq_left (by show c.ti.toNat ≤ 16; omega), List.map_replicate]
  rfl
theorem RAt_new {W w1 X X' : World} {g : Nat} {c : LConf} {C6 C7 C8 C9 C10 : Option Addr} {m6 e6 m7 e7 m8 e8 m9 e9 m10 e10 : Nat} (hr : Right c) (hW : W.heap.size ≤ w1.heap.size) (hX : w1.heap.size ≤ X.heap.size) (hg : g = X.heap.size) (hb : Below X.heap.size X X')
    (hbox : X'.heap[g]? = some (.cells #[.int .i64 c.th, .int .i64 c.st, .int .i64 c.ga, .int .i64 c.le, .int .i64 c.re, .int .i64 c.ti, .slice C6 m6 e6, .slice C7 m7 e7, .slice C8 m8 e8, .slice C9 m9 e9, .slice C10 m10 e10] 61 (0, 0))) (O6 : OI w1 X C6 m6 e6 c.ps) (O7 : OI w1 X C7 m7 e7 c.ls) (O8 : OI w1 X C8 m8 e8 c.ls) (O9 : OI w1 X C9 m9 e9 (List.replicate c.ps.length 0)) (O10 : OT w1 X C10 m10 e10 (List.replicate c.ti.toNat ⟨0, false, 0, 0⟩)) : RAt W.heap.size (fun _ => False) X' g (newM c) :=
  ⟨by omega, C6, m6, e6, C7, m7, e7, C8, m8, e8, C9, m9, e9, C10, m10, e10, hbox, ⟨O6.1.below hb, NB.of_own O6.2 hW hg hb.size⟩, ⟨O7.1.below hb, NB.of_own O7.2 hW hg hb.size⟩, ⟨by rw [limR_new hr]; exact O8.1.below hb, NB.of_own O8.2 hW hg hb.size⟩, ⟨by rw [useR_new hr]; exact O9.1.below hb, NB.of_own O9.2 hW hg hb.size⟩, ⟨by rw [tksR_new hr]; exact O10.1.below hb, NB.of_own O10.2 hW hg hb.size⟩⟩
set_option maxHeartbeats 8000000 in
set_option maxRecDepth 100000 in
theorem K_rNew (W : World) (c : LConf) (A6 : Option Addr) (n6 d6 : Nat) (A7 : Option Addr) (n7 d7 : Nat) (h6 : IsInts W (.slice A6 n6 d6) c.ps) (h7 : IsInts W (.slice A7 n7 d7) c.ls) (hr : Right c) :
    Calls Tryz.prog 12 #[.agg #[.int .i64 c.th, .int .i64 c.st, .int .i64 c.ga, .int .i64 c.le, .int .i64 c.re, .int .i64 c.ti, .slice A6 n6 d6, .slice A7 n7 d7]] W fun e w' => ∃ b, e = .returned (.pointer (some ⟨b, 0, none⟩)) ∧ W.heap.size ≤ b ∧ RAt W.heap.size (fun _ => False) w' b (newM c) ∧ Below W.heap.size W w' := by
  have hus := Tryz.underlying24
  have hum := Tryz.underlying61
  have hut := Tryz.underlying81
  have HRR := Aside0.mk hr
  have hh := hr.1.2.2.2.2.2
  have HP : Aside0 (c.ps.length ≤ 1000 ∧ c.ls.length ≤ 1000) := ⟨by omega⟩
  have HL : Aside0 (0 < c.ls.length ∧ c.ls.length ≤ 1000) := ⟨by omega⟩
  have hn6 := h6.len
  have HN6 : Aside0 ((n6 : Int).toNat = c.ps.length) := ⟨by omega⟩
  have HN : Aside0 ((0 : Int) ≤ (n6 : Int) ∧ (n6 : Int).toNat * 8 ≤ 281474976710656) := ⟨by omega⟩
  have HT : Aside0 ((0 : Int) ≤ c.ti ∧ c.ti.toNat * 32 ≤ 281474976710656) := ⟨by omega⟩
  clear hh hr hn6
  have H6' := Aside0.mk h6
  have H7' := Aside0.mk h7
  clear h6 h7
  go_enter Tryz.func12, Tryz.ntmps12
  go_wp2_with (fail)
  obtain ⟨w1, hX⟩ : ∃ X, W.alloc (.cells #[.int .i64 c.th, .int .i64 c.st, .int .i64 c.ga, .int .i64 c.le, .int .i64 c.re, .int .i64 c.ti, .slice A6 n6 d6, .slice A7 n7 d7] 24) = X := ⟨_, rfl⟩
  have B1 : Aside0 (Below W.heap.size W w1) := ⟨by rw [← hX]; exact below_alloc (Below.refl _ _) _⟩
  have HW1 := Aside0.mk B1.out.size
  have X1 : Aside0 (w1.heap[W.heap.size]? = some (.cells #[.int .i64 c.th, .int .i64 c.st, .int .i64 c.ga, .int .i64 c.le, .int .i64 c.re, .int .i64 c.ti, .slice A6 n6 d6, .slice A7 n7 d7] 24 (0, 0))) := ⟨by rw [← hX]; exact blk_new _ _⟩
  rw [hX]
  clear hX
  have H6 := Aside0.mk (H6'.out.below B1.out)
  have H7 := Aside0.mk (H7'.out.below B1.out)
  clear H6' H7'
  have z0 : w1.cell? ⟨W.heap.size, 0, none⟩ = some (.int .i64 c.th) := (blk_cell X1.out 0).trans rfl
  have z1 : w1.cell? ⟨W.heap.size, 1, none⟩ = some (.int .i64 c.st) := (blk_cell X1.out 1).trans rfl
  have z2 : w1.cell? ⟨W.heap.size, 2, none⟩ = some (.int .i64 c.ga) := (blk_cell X1.out 2).trans rfl
  have z3 : w1.cell? ⟨W.heap.size, 3, none⟩ = some (.int .i64 c.le) := (blk_cell X1.out 3).trans rfl
  have z4 : w1.cell? ⟨W.heap.size, 4, none⟩ = some (.int .i64 c.re) := (blk_cell X1.out 4).trans rfl
  have z5 : w1.cell? ⟨W.heap.size, 5, none⟩ = some (.int .i64 c.ti) := (blk_cell X1.out 5).trans rfl
  have z6 : w1.cell? ⟨W.heap.size, 6, none⟩ = some (.slice A6 n6 d6) := (blk_cell X1.out 6).trans rfl
  have z7 : w1.cell? ⟨W.heap.size, 7, none⟩ = some (.slice A7 n7 d7) := (blk_cell X1.out 7).trans rfl
  have BB : Aside0 (Below w1.heap.size w1 w1.drew) := ⟨(Below.refl _ _).drew⟩
  refine wp_region_noPanic ?_
  refine wp_region_held_drew (S := (fun w' => w'.cell? ⟨W.heap.size, 0, none⟩ = some (.int .i64 c.th) ∧ w'.cell? ⟨W.heap.size, 1, none⟩ = some (.int .i64 c.st) ∧ w'.cell? ⟨W.heap.size, 2, none⟩ = some (.int .i64 c.ga) ∧ w'.cell? ⟨W.heap.size, 3, none⟩ = some (.int .i64 c.le) ∧ w'.cell? ⟨W.heap.size, 4, none⟩ = some (.int .i64 c.re) ∧ w'.cell? ⟨W.heap.size, 5, none⟩ = some (.int .i64 c.ti) ∧ w'.cell? ⟨W.heap.size, 6, none⟩ = some (.slice A6 n6 d6) ∧ w'.cell? ⟨W.heap.size, 7, none⟩ = some (.slice A7 n7 d7))) (by kernel_rfl) ?_ (fun hHeld => ?_)
  · (try dsimp only)
    (go_split_ands; (repeat' apply And.intro); all_goals (exact below_cell_of (w := w1) (by with_reducible repeat (first | exact Below.refl _ _ | assumption | exact Aside0.out (by assumption) | apply below_alloc | apply below_drew1 | apply pw_below_drewN)) (by assumption)))
  refine wpAnyH_take (i := 0) (oi := _) (v := ?_) ((List.getElem?_toArray ..).trans rfl) (by kernel_rfl) (by kernel_rfl) (by kernel_rfl) (fun _ _ _ h => h) (Or.inl ⟨by rfl, ?_⟩) (by assumption) ?_
  rotate_left
  · (intro w hSw; (try dsimp only at hSw); go_simp; (try with_reducible rfl))
  (try simp only [Act.put, List.setIfInBounds_toArray, List.set_cons_zero, List.set_cons_succ])
  refine wpAnyH_take (i := 3) (oi := _) (v := ?_) ((List.getElem?_toArray ..).trans rfl) (by kernel_rfl) (by kernel_rfl) (by kernel_rfl) (fun _ _ _ h => h) (Or.inl ⟨by rfl, ?_⟩) (by assumption) ?_
  rotate_left
  · (intro w hSw; (try dsimp only at hSw); go_simp; (try with_reducible rfl))
  (try simp only [Act.put, List.setIfInBounds_toArray, List.set_cons_zero, List.set_cons_succ])
  refine wpAnyH_take (i := 4) (oi := _) (v := ?_) ((List.getElem?_toArray ..).trans rfl) (by kernel_rfl) (by kernel_rfl) (by kernel_rfl) (fun _ _ _ h => h) (Or.inl ⟨by rfl, ?_⟩) (by assumption) ?_
  rotate_left
  · (intro w hSw; (try dsimp only at hSw); go_simp; (try with_reducible rfl))
  (try simp only [Act.put, List.setIfInBounds_toArray, List.set_cons_zero, List.set_cons_succ])
  refine wpAnyH_take (i := 6) (oi := _) (v := ?_) ((List.getElem?_toArray ..).trans rfl) (by kernel_rfl) (by kernel_rfl) (by kernel_rfl) (fun _ _ _ h => h) (Or.inl ⟨by rfl, ?_⟩) (by assumption) ?_
  rotate_left
  · (intro w hSw; (try dsimp only at hSw); go_simp; (try with_reducible rfl))
  (try simp only [Act.put, List.setIfInBounds_toArray, List.set_cons_zero, List.set_cons_succ])
  refine wpAnyH_take (i := 7) (oi := _) (v := ?_) ((List.getElem?_toArray ..).trans rfl) (by kernel_rfl) (by kernel_rfl) (by kernel_rfl) (fun _ _ _ h => h) (Or.inl ⟨by rfl, ?_⟩) (by assumption) ?_
  rotate_left
  · (intro w hSw; (try dsimp only at hSw); go_simp; (try with_reducible rfl))
  (try simp only [Act.put, List.setIfInBounds_toArray, List.set_cons_zero, List.set_cons_succ])
  refine wpAnyH_take (i := 8) (oi := _) (v := ?_) ((List.getElem?_toArray ..).trans rfl) (by kernel_rfl) (by kernel_rfl) (by kernel_rfl) (fun _ _ _ h => h) (Or.inl ⟨by rfl, ?_⟩) (by assumption) ?_
  rotate_left
  · (intro w hSw; (try dsimp only at hSw); go_simp; (try with_reducible rfl))
  (try simp only [Act.put, List.setIfInBounds_toArray, List.set_cons_zero, List.set_cons_succ])
  refine wpAnyH_take (i := 10) (oi := _) (v := ?_) ((List.getElem?_toArray ..).trans rfl) (by kernel_rfl) (by kernel_rfl) (by kernel_rfl) (fun _ _ _ h => h) (Or.inl ⟨by rfl, ?_⟩) (by assumption) ?_
  rotate_left
  · (intro w hSw; (try dsimp only at hSw); go_simp; (try with_reducible rfl))
  (try simp only [Act.put, List.setIfInBounds_toArray, List.set_cons_zero, List.set_cons_succ])
  refine wpAnyH_take (i := 11) (oi := _) (v := ?_) ((List.getElem?_toArray ..).trans rfl) (by kernel_rfl) (by kernel_rfl) (by kernel_rfl) (fun _ _ _ h => h) (Or.inl ⟨by rfl, ?_⟩) (by assumption) ?_
  rotate_left
  · (intro w hSw; (try dsimp only at hSw); go_simp; (try with_reducible rfl))
  (try simp only [Act.put, List.setIfInBounds_toArray, List.set_cons_zero, List.set_cons_succ])
  refine wpAnyH_ready (rs := [1, 2, 9, 12]) (by kernel_rfl) (by simp) ?_
  refine AllReadyH.cons (i := 1) (o := _) ((List.getElem?_toArray ..).trans rfl) (fun K hK => ?_) ?_
  · go_simp
    (go_at_call 24; (with_reducible refine (K_rOwn c _ _ _ _ _ _ _ ?_ ?_ ?_ ?_).mono ?_); exact H6.out.below BB.out; exact H7.out.below BB.out; exact HP.out.1; exact HP.out.2; rintro e X ⟨C6, m6, e6, C7, m7, e7, rfl, o6, o7, hb⟩; have O6 := Aside0.mk (o6.from BB.out.size); have O7 := Aside0.mk (o7.from BB.out.size); clear o6 o7; replace BB := Aside0.mk (below_step BB.out hb); clear hb)
    refine hK.out _ _ ?_ (fun hHeld => ?_)
    · (try dsimp only)
      (go_split_ands; (repeat' apply And.intro); all_goals (exact below_cell_of (w := w1) (by with_reducible repeat (first | exact Below.refl _ _ | assumption | exact Aside0.out (by assumption) | apply below_alloc | apply below_drew1 | apply pw_below_drewN)) (by assumption)))
    clear hK K
    (try simp only [Act.put, List.setIfInBounds_toArray, List.set_cons_zero, List.set_cons_succ])
    refine wpAnyH_ready (rs := [2, 9, 12]) (by kernel_rfl) (by simp) ?_
    refine AllReadyH.cons (i := 2) (o := _) ((List.getElem?_toArray ..).trans rfl) (fun K hK => ?_) ?_
    · refine step_lit0 (e := 3) (by rfl) (by first | (go_simp; done) | (go_simp; rfl)) ?_
      intro B5 X hb; replace O6 := Aside0.mk (O6.out.below hb); replace O7 := Aside0.mk (O7.out.below hb); replace BB := Aside0.mk (below_step BB.out hb); clear hb
      refine hK.out _ _ ?_ (fun hHeld => ?_)
      · (try dsimp only)
        (go_split_ands; (repeat' apply And.intro); all_goals (exact below_cell_of (w := w1) (by with_reducible repeat (first | exact Below.refl _ _ | assumption | exact Aside0.out (by assumption) | apply below_alloc | apply below_drew1 | apply pw_below_drewN)) (by assumption)))
      clear hK K
      (try simp only [Act.put, List.setIfInBounds_toArray, List.set_cons_zero, List.set_cons_succ])
      refine wpAnyH_ready (rs := [5, 9, 12]) (by kernel_rfl) (by simp) ?_
      refine AllReadyH.cons (i := 5) (o := _) ((List.getElem?_toArray ..).trans rfl) (fun K hK => ?_) ?_
      · refine step_append0 (by rfl) (.tmp 5) (.tmp 7) 22 3 rfl Tryz.underlying22 info3 B5 A7 n7 d7 c.ls rfl rfl (H7.out.below BB.out) HL.out.1 HL.out.2 ?_
        intro C8 m8 e8 X o8 o8' hb; have O8 : Aside0 (OI w1 X C8 m8 e8 c.ls) := ⟨OI.from ⟨o8, o8'⟩ BB.out.size⟩; clear o8 o8'; replace O6 := Aside0.mk (O6.out.below hb); replace O7 := Aside0.mk (O7.out.below hb); replace BB := Aside0.mk (below_step BB.out hb); clear hb
        refine hK.out _ _ ?_ (fun hHeld => ?_)
        · (try dsimp only)
          (go_split_ands; (repeat' apply And.intro); all_goals (exact below_cell_of (w := w1) (by with_reducible repeat (first | exact Below.refl _ _ | assumption | exact Aside0.out (by assumption) | apply below_alloc | apply below_drew1 | apply pw_below_drewN)) (by assumption)))
        clear hK K
        (try simp only [Act.put, List.setIfInBounds_toArray, List.set_cons_zero, List.set_cons_succ])
        refine wpAnyH_ready (rs := [9, 12]) (by kernel_rfl) (by simp) ?_
        refine AllReadyH.cons (i := 9) (o := _) ((List.getElem?_toArray ..).trans rfl) (fun K hK => ?_) ?_
        · refine Kd.R_make_step (Kd.int .i64) _ 3 (by rfl) (N := 12) rfl 22 (.tmp 11) (.tmp 11) rfl (n6 : Int) rfl rfl Tryz.underlying22 (.int .i64 0) 8 info3 rfl (by decide) (by decide) 0 (ok := fun _ => True) (okp := fun _ => False) rfl (fun _ h => h.elim) trivial HN.out.1 HN.out.2 (Below.refl _ _) (Nat.le_refl _) ?_
          intro v1 X hR hb _ _; obtain ⟨C9, m9, e9, rfl, o9⟩ := OI.of_R hR; rw [HN6.out] at o9; have O9 := Aside0.mk (o9.from BB.out.size); clear o9 hR; replace O6 := Aside0.mk (O6.out.below hb); replace O7 := Aside0.mk (O7.out.below hb); replace O8 := Aside0.mk (O8.out.below hb); replace BB := Aside0.mk (below_step BB.out hb); clear hb
          refine hK.out _ _ ?_ (fun hHeld => ?_)
          · (try dsimp only)
            (go_split_ands; (repeat' apply And.intro); all_goals (exact below_cell_of (w := w1) (by with_reducible repeat (first | exact Below.refl _ _ | assumption | exact Aside0.out (by assumption) | apply below_alloc | apply below_drew1 | apply pw_below_drewN)) (by assumption)))
          clear hK K
          (try simp only [Act.put, List.setIfInBounds_toArray, List.set_cons_zero, List.set_cons_succ])
          refine wpAnyH_ready (rs := [12]) (by kernel_rfl) (by simp) ?_
          refine AllReadyH.cons (i := 12) (o := _) ((List.getElem?_toArray ..).trans rfl) (fun K hK => ?_) ?_
          · refine Kd.R_make_step k81 _ 81 (by rfl) (N := 15) rfl 59 (.tmp 14) (.tmp 14) rfl c.ti rfl rfl Tryz.underlying59 (.agg #[.int .i64 0, .bool false, .int .i64 0, .int .i64 0]) 32 info81 rfl (by decide) (by decide) ⟨0, false, 0, 0⟩ (ok := fun _ => True) (okp := fun _ => False) (k81_mkM _ _ _ ⟨0, false, 0, 0⟩) (fun _ h => h.elim) trivial HT.out.1 HT.out.2 (Below.refl _ _) (Nat.le_refl _) ?_
            intro v1 X hR hb _ _; obtain ⟨C10, m10, e10, rfl, o10⟩ := OT.of_R hR; have O10 := Aside0.mk (o10.from BB.out.size); clear o10 hR; replace O6 := Aside0.mk (O6.out.below hb); replace O7 := Aside0.mk (O7.out.below hb); replace O8 := Aside0.mk (O8.out.below hb); replace O9 := Aside0.mk (O9.out.below hb); replace BB := Aside0.mk (below_step BB.out hb); clear hb
            refine hK.out _ _ ?_ (fun hHeld => ?_)
            · (try dsimp only)
              (go_split_ands; (repeat' apply And.intro); all_goals (exact below_cell_of (w := w1) (by with_reducible repeat (first | exact Below.refl _ _ | assumption | exact Aside0.out (by assumption) | apply below_alloc | apply below_drew1 | apply pw_below_drewN)) (by assumption)))
            clear hK K
            (try simp only [Act.put, List.setIfInBounds_toArray, List.set_cons_zero, List.set_cons_succ])
            refine wpAnyH_take (i := 13) (oi := _) (v := ?_) ((List.getElem?_toArray ..).trans rfl) (by kernel_rfl) (by kernel_rfl) (by kernel_rfl) (fun _ _ _ h => h) (Or.inl ⟨by rfl, ?_⟩) (by assumption) ?_
            rotate_left
            · (intro w hSw; (try dsimp only at hSw); go_simp; (try with_reducible rfl))
            (try simp only [Act.put, List.setIfInBounds_toArray, List.set_cons_zero, List.set_cons_succ])
            refine wpAnyH_ready (rs := [14]) (by kernel_rfl) (by simp) ?_
            refine AllReadyH.cons (i := 14) (o := _) ((List.getElem?_toArray ..).trans rfl) (fun K hK => ?_) ?_
            · refine box_step (by rfl) rfl (cs := #[.int .i64 c.th, .int .i64 c.st, .int .i64 c.ga, .int .i64 c.le, .int .i64 c.re, .int .i64 c.ti, .slice C6 m6 e6, .slice C7 m7 e7, .slice C8 m8 e8, .slice C9 m9 e9, .slice C10 m10 e10]) (t := 61) (by first | (go_simp; done) | (go_simp; rfl)) ?_
              intro g hg X hbox hb; have HX := Aside0.mk (RAt_new HRR.out HW1.out BB.out.size hg hb hbox O6.out O7.out O8.out O9.out O10.out); have HGE := Aside0.mk (show W.heap.size ≤ g by have h1 := HW1.out; have h2 := BB.out.size; omega); clear hg hbox; replace BB := Aside0.mk (below_step BB.out hb); clear hb O6 O7 O8 O9 O10
              refine hK.out _ _ ?_ (fun hHeld => ?_)
              · (try dsimp only)
                (go_split_ands; (repeat' apply And.intro); all_goals (exact below_cell_of (w := w1) (by with_reducible repeat (first | exact Below.refl _ _ | assumption | exact Aside0.out (by assumption) | apply below_alloc | apply below_drew1 | apply pw_below_drewN)) (by assumption)))
              clear hK K
              (try simp only [Act.put, List.setIfInBounds_toArray, List.set_cons_zero, List.set_cons_succ])
              refine wpAnyH_take (i := 15) (oi := _) (v := ?_) ((List.getElem?_toArray ..).trans rfl) (by kernel_rfl) (by kernel_rfl) (by kernel_rfl) (fun _ _ _ h => h) (Or.inl ⟨by rfl, ?_⟩) (by assumption) ?_
              rotate_left
              · (intro w hSw; (try dsimp only at hSw); go_simp; (try with_reducible rfl))
              (try simp only [Act.put, List.setIfInBounds_toArray, List.set_cons_zero, List.set_cons_succ])
              refine wpAnyH_done (by kernel_rfl) ?_ _
              refine NoPanic.normal ?_
              go_wp2_with (fail)
              go_ret
              exact ⟨g, rfl, HGE.out, HX.out, B1.out.trans (BB.out.mono HW1.out)⟩
            exact AllReadyH.nil
          exact AllReadyH.nil
        refine AllReadyH.cons (i := 12) (o := _) ((List.getElem?_toArray ..).trans rfl) (fun K hK => ?_) ?_
        · refine Kd.R_make_step k81 _ 81 (by rfl) (N := 15) rfl 59 (.tmp 14) (.tmp 14) rfl c.ti rfl rfl Tryz.underlying59 (.agg #[.int .i64 0, .bool false, .int .i64 0, .int .i64 0]) 32 info81 rfl (by decide) (by decide) ⟨0, false, 0, 0⟩ (ok := fun _ => True) (okp := fun _ => False) (k81_mkM _ _ _ ⟨0, false, 0, 0⟩) (fun _ h => h.elim) trivial HT.out.1 HT.out.2 (Below.refl _ _) (Nat.le_refl _) ?_
          intro v1 X hR hb _ _; obtain ⟨C10, m10, e10, rfl, o10⟩ := OT.of_R hR; have O10 := Aside0.mk (o10.from BB.out.size); clear o10 hR; replace O6 := Aside0.mk (O6.out.below hb); replace O7 := Aside0.mk (O7.out.below hb); replace O8 := Aside0.mk (O8.out.below hb); replace BB := Aside0.mk (below_step BB.out hb); clear hb
          refine hK.out _ _ ?_ (fun hHeld => ?_)
          · (try dsimp only)
            (go_split_ands; (repeat' apply And.intro); all_goals (exact below_cell_of (w := w1) (by with_reducible repeat (first | exact Below.refl _ _ | assumption | exact Aside0.out (by assumption) | apply below_alloc | apply below_drew1 | apply pw_below_drewN)) (by assumption)))
          clear hK K
          (try simp only [Act.put, List.setIfInBounds_toArray, List.set_cons_zero, List.set_cons_succ])
          refine wpAnyH_ready (rs := [9]) (by kernel_rfl) (by simp) ?_
          refine AllReadyH.cons (i := 9) (o := _) ((List.getElem?_toArray ..).trans rfl) (fun K hK => ?_) ?_
          · refine Kd.R_make_step (Kd.int .i64) _ 3 (by rfl) (N := 12) rfl 22 (.tmp 11) (.tmp 11) rfl (n6 : Int) rfl rfl Tryz.underlying22 (.int .i64 0) 8 info3 rfl (by decide) (by decide) 0 (ok := fun _ => True) (okp := fun _ => False) rfl (fun _ h => h.elim) trivial HN.out.1 HN.out.2 (Below.refl _ _) (Nat.le_refl _) ?_
            intro v1 X hR hb _ _; obtain ⟨C9, m9, e9, rfl, o9⟩ := OI.of_R hR; rw [HN6.out] at o9; have O9 := Aside0.mk (o9.from BB.out.size); clear o9 hR; replace O6 := Aside0.mk (O6.out.below hb); replace O7 := Aside0.mk (O7.out.below hb); replace O8 := Aside0.mk (O8.out.below hb); replace O10 := Aside0.mk (O10.out.below hb); replace BB := Aside0.mk (below_step BB.out hb); clear hb
            refine hK.out _ _ ?_ (fun hHeld => ?_)
            · (try dsimp only)
              (go_split_ands; (repeat' apply And.intro); all_goals (exact below_cell_of (w := w1) (by with_reducible repeat (first | exact Below.refl _ _ | assumption | exact Aside0.out (by assumption) | apply below_alloc | apply below_drew1 | apply pw_below_drewN)) (by assumption)))
            clear hK K
            (try simp only [Act.put, List.setIfInBounds_toArray, List.set_cons_zero, List.set_cons_succ])
            refine wpAnyH_take (i := 13) (oi := _) (v := ?_) ((List.getElem?_toArray ..).trans rfl) (by kernel_rfl) (by kernel_rfl) (by kernel_rfl) (fun _ _ _ h => h) (Or.inl ⟨by rfl, ?_⟩) (by assumption) ?_
            rotate_left
            · (intro w hSw; (try dsimp only at hSw); go_simp; (try with_reducible rfl))
            (try simp only [Act.put, List.setIfInBounds_toArray, List.set_cons_zero, List.set_cons_succ])
            refine wpAnyH_ready (rs := [14]) (by kernel_rfl) (by simp) ?_
            refine AllReadyH.cons (i := 14) (o := _) ((List.getElem?_toArray ..).trans rfl) (fun K hK => ?_) ?_
            · refine box_step (by rfl) rfl (cs := #[.int .i64 c.th, .int .i64 c.st, .int .i64 c.ga, .int .i64 c.le, .int .i64 c.re, .int .i64 c.ti, .slice C6 m6 e6, .slice C7 m7 e7, .slice C8 m8 e8, .slice C9 m9 e9, .slice C10 m10 e10]) (t := 61) (by first | (go_simp; done) | (go_simp; rfl)) ?_
              intro g hg X hbox hb; have HX := Aside0.mk (RAt_new HRR.out HW1.out BB.out.size hg hb hbox O6.out O7.out O8.out O9.out O10.out); have HGE := Aside0.mk (show W.heap.size ≤ g by have h1 := HW1.out; have h2 := BB.out.size; omega); clear hg hbox; replace BB := Aside0.mk (below_step BB.out hb); clear hb O6 O7 O8 O9 O10
              refine hK.out _ _ ?_ (fun hHeld => ?_)
              · (try dsimp only)
                (go_split_ands; (repeat' apply And.intro); all_goals (exact below_cell_of (w := w1) (by with_reducible repeat (first | exact Below.refl _ _ | assumption | exact Aside0.out (by assumption) | apply below_alloc | apply below_drew1 | apply pw_below_drewN)) (by assumption)))
              clear hK K
              (try simp only [Act.put, List.setIfInBounds_toArray, List.set_cons_zero, List.set_cons_succ])
              refine wpAnyH_take (i := 15) (oi := _) (v := ?_) ((List.getElem?_toArray ..).trans rfl) (by kernel_rfl) (by kernel_rfl) (by kernel_rfl) (fun _ _ _ h => h) (Or.inl ⟨by rfl, ?_⟩) (by assumption) ?_
              rotate_left
              · (intro w hSw; (try dsimp only at hSw); go_simp; (try with_reducible rfl))
              (try simp only [Act.put, List.setIfInBounds_toArray, List.set_cons_zero, List.set_cons_succ])
              refine wpAnyH_done (by kernel_rfl) ?_ _
              refine NoPanic.normal ?_
              go_wp2_with (fail)
              go_ret
              exact ⟨g, rfl, HGE.out, HX.out, B1.out.trans (BB.out.mono HW1.out)⟩
            exact AllReadyH.nil
          exact AllReadyH.nil
        exact AllReadyH.nil
      refine AllReadyH.cons (i := 9) (o := _) ((List.getElem?_toArray ..).trans rfl) (fun K hK => ?_) ?_
      · refine Kd.R_make_step (Kd.int .i64) _ 3 (by rfl) (N := 12) rfl 22 (.tmp 11) (.tmp 11) rfl (n6 : Int) rfl rfl Tryz.underlying22 (.int .i64 0) 8 info3 rfl (by decide) (by decide) 0 (ok := fun _ => True) (okp := fun _ => False) rfl (fun _ h => h.elim) trivial HN.out.1 HN.out.2 (Below.refl _ _) (Nat.le_refl _) ?_
        intro v1 X hR hb _ _; obtain ⟨C9, m9, e9, rfl, o9⟩ := OI.of_R hR; rw [HN6.out] at o9; have O9 := Aside0.mk (o9.from BB.out.size); clear o9 hR; replace O6 := Aside0.mk (O6.out.below hb); replace O7 := Aside0.mk (O7.out.below hb); replace BB := Aside0.mk (below_step BB.out hb); clear hb
        refine hK.out _ _ ?_ (fun hHeld => ?_)
        · (try dsimp only)
          (go_split_ands; (repeat' apply And.intro); all_goals (exact below_cell_of (w := w1) (by with_reducible repeat (first | exact Below.refl _ _ | assumption | exact Aside0.out (by assumption) | apply below_alloc | apply below_drew1 | apply pw_below_drewN)) (by assumption)))
        clear hK K
        (try simp only [Act.put, List.setIfInBounds_toArray, List.set_cons_zero, List.set_cons_succ])
        refine wpAnyH_ready (rs := [5, 12]) (by kernel_rfl) (by simp) ?_
        refine AllReadyH.cons (i := 5) (o := _) ((List.getElem?_toArray ..).trans rfl) (fun K hK => ?_) ?_
        · refine step_append0 (by rfl) (.tmp 5) (.tmp 7) 22 3 rfl Tryz.underlying22 info3 B5 A7 n7 d7 c.ls rfl rfl (H7.out.below BB.out) HL.out.1 HL.out.2 ?_
          intro C8 m8 e8 X o8 o8' hb; have O8 : Aside0 (OI w1 X C8 m8 e8 c.ls) := ⟨OI.from ⟨o8, o8'⟩ BB.out.size⟩; clear o8 o8'; replace O6 := Aside0.mk (O6.out.below hb); replace O7 := Aside0.mk (O7.out.below hb); replace O9 := Aside0.mk (O9.out.below hb); replace BB := Aside0.mk (below_step BB.out hb); clear hb
          refine hK.out _ _ ?_ (fun hHeld => ?_)
          · (try dsimp only)
            (go_split_ands; (repeat' apply And.intro); all_goals (exact below_cell_of (w := w1) (by with_reducible repeat (first | exact Below.refl _ _ | assumption | exact Aside0.out (by assumption) | apply below_alloc | apply below_drew1 | apply pw_below_drewN)) (by assumption)))
          clear hK K
          (try simp only [Act.put, List.setIfInBounds_toArray, List.set_cons_zero, List.set_cons_succ])
          refine wpAnyH_ready (rs := [12]) (by kernel_rfl) (by simp) ?_
          refine AllReadyH.cons (i := 12) (o := _) ((List.getElem?_toArray ..).trans rfl) (fun K hK => ?_) ?_
          · refine Kd.R_make_step k81 _ 81 (by rfl) (N := 15) rfl 59 (.tmp 14) (.tmp 14) rfl c.ti rfl rfl Tryz.underlying59 (.agg #[.int .i64 0, .bool false, .int .i64 0, .int .i64 0]) 32 info81 rfl (by decide) (by decide) ⟨0, false, 0, 0⟩ (ok := fun _ => True) (okp := fun _ => False) (k81_mkM _ _ _ ⟨0, false, 0, 0⟩) (fun _ h => h.elim) trivial HT.out.1 HT.out.2 (Below.refl _ _) (Nat.le_refl _) ?_
            intro v1 X hR hb _ _; obtain ⟨C10, m10, e10, rfl, o10⟩ := OT.of_R hR; have O10 := Aside0.mk (o10.from BB.out.size); clear o10 hR; replace O6 := Aside0.mk (O6.out.below hb); replace O7 := Aside0.mk (O7.out.below hb); replace O8 := Aside0.mk (O8.out.below hb); replace O9 := Aside0.mk (O9.out.below hb); replace BB := Aside0.mk (below_step BB.out hb); clear hb
            refine hK.out _ _ ?_ (fun hHeld => ?_)
            · (try dsimp only)
              (go_split_ands; (repeat' apply And.intro); all_goals (exact below_cell_of (w := w1) (by with_reducible repeat (first | exact Below.refl _ _ | assumption | exact Aside0.out (by assumption) | apply below_alloc | apply below_drew1 | apply pw_below_drewN)) (by assumption)))
            clear hK K
            (try simp only [Act.put, List.setIfInBounds_toArray, List.set_cons_zero, List.set_cons_succ])
            refine wpAnyH_take (i := 13) (oi := _) (v := ?_) ((List.getElem?_toArray ..).trans rfl) (by kernel_rfl) (by kernel_rfl) (by kernel_rfl) (fun _ _ _ h => h) (Or.inl ⟨by rfl, ?_⟩) (by assumption) ?_
            rotate_left
            · (intro w hSw; (try dsimp only at hSw); go_simp; (try with_reducible rfl))
            (try simp only [Act.put, List.setIfInBounds_toArray, List.set_cons_zero, List.set_cons_succ])
            refine wpAnyH_ready (rs := [14]) (by kernel_rfl) (by simp) ?_
            refine AllReadyH.cons (i := 14) (o := _) ((List.getElem?_toArray ..).trans rfl) (fun K hK => ?_) ?_
            · refine box_step (by rfl) rfl (cs := #[.int .i64 c.th, .int .i64 c.st, .int .i64 c.ga, .int .i64 c.le, .int .i64 c.re, .int .i64 c.ti, .slice C6 m6 e6, .slice C7 m7 e7, .slice C8 m8 e8, .slice C9 m9 e9, .slice C10 m10 e10]) (t := 61) (by first | (go_simp; done) | (go_simp; rfl)) ?_
              intro g hg X hbox hb; have HX := Aside0.mk (RAt_new HRR.out HW1.out BB.out.size hg hb hbox O6.out O7.out O8.out O9.out O10.out); have HGE := Aside0.mk (show W.heap.size ≤ g by have h1 := HW1.out; have h2 := BB.out.size; omega); clear hg hbox; replace BB := Aside0.mk (below_step BB.out hb); clear hb O6 O7 O8 O9 O10
              refine hK.out _ _ ?_ (fun hHeld => ?_)
              · (try dsimp only)
                (go_split_ands; (repeat' apply And.intro); all_goals (exact below_cell_of (w := w1) (by with_reducible repeat (first | exact Below.refl _ _ | assumption | exact Aside0.out (by assumption) | apply below_alloc | apply below_drew1 | apply pw_below_drewN)) (by assumption)))
              clear hK K
              (try simp only [Act.put, List.setIfInBounds_toArray, List.set_cons_zero, List.set_cons_succ])
              refine wpAnyH_take (i := 15) (oi := _) (v := ?_) ((List.getElem?_toArray ..).trans rfl) (by kernel_rfl) (by kernel_rfl) (by kernel_rfl) (fun _ _ _ h => h) (Or.inl ⟨by rfl, ?_⟩) (by assumption) ?_
              rotate_left
              · (intro w hSw; (try dsimp only at hSw); go_simp; (try with_reducible rfl))
              (try simp only [Act.put, List.setIfInBounds_toArray, List.set_cons_zero, List.set_cons_succ])
              refine wpAnyH_done (by kernel_rfl) ?_ _
              refine NoPanic.normal ?_
              go_wp2_with (fail)
              go_ret
              exact ⟨g, rfl, HGE.out, HX.out, B1.out.trans (BB.out.mono HW1.out)⟩
            exact AllReadyH.nil
          exact AllReadyH.nil
        refine AllReadyH.cons (i := 12) (o := _) ((List.getElem?_toArray ..).trans rfl) (fun K hK => ?_) ?_
        · refine Kd.R_make_step k81 _ 81 (by rfl) (N := 15) rfl 59 (.tmp 14) (.tmp 14) rfl c.ti rfl rfl Tryz.underlying59 (.agg #[.int .i64 0, .bool false, .int .i64 0, .int .i64 0]) 32 info81 rfl (by decide) (by decide) ⟨0, false, 0, 0⟩ (ok := fun _ => True) (okp := fun _ => False) (k81_mkM _ _ _ ⟨0, false, 0, 0⟩) (fun _ h => h.elim) trivial HT.out.1 HT.out.2 (Below.refl _ _) (Nat.le_refl _) ?_
          intro v1 X hR hb _ _; obtain ⟨C10, m10, e10, rfl, o10⟩ := OT.of_R hR; have O10 := Aside0.mk (o10.from BB.out.size); clear o10 hR; replace O6 := Aside0.mk (O6.out.below hb); replace O7 := Aside0.mk (O7.out.below hb); replace O9 := Aside0.mk (O9.out.below hb); replace BB := Aside0.mk (below_step BB.out hb); clear hb
          refine hK.out _ _ ?_ (fun hHeld => ?_)
          · (try dsimp only)
            (go_split_ands; (repeat' apply And.intro); all_goals (exact below_cell_of (w := w1) (by with_reducible repeat (first | exact Below.refl _ _ | assumption | exact Aside0.out (by assumption) | apply below_alloc | apply below_drew1 | apply pw_below_drewN)) (by assumption)))
          clear hK K
          (try simp only [Act.put, List.setIfInBounds_toArray, List.set_cons_zero, List.set_cons_succ])
          refine wpAnyH_ready (rs := [5]) (by kernel_rfl) (by simp) ?_
          refine AllReadyH.cons (i := 5) (o := _) ((List.getElem?_toArray ..).trans rfl) (fun K hK => ?_) ?_
          · refine step_append0 (by rfl) (.tmp 5) (.tmp 7) 22 3 rfl Tryz.underlying22 info3 B5 A7 n7 d7 c.ls rfl rfl (H7.out.below BB.out) HL.out.1 HL.out.2 ?_
            intro C8 m8 e8 X o8 o8' hb; have O8 : Aside0 (OI w1 X C8 m8 e8 c.ls) := ⟨OI.from ⟨o8, o8'⟩ BB.out.size⟩; clear o8 o8'; replace O6 := Aside0.mk (O6.out.below hb); replace O7 := Aside0.mk (O7.out.below hb); replace O9 := Aside0.mk (O9.out.below hb); replace O10 := Aside0.mk (O10.out.below hb); replace BB := Aside0.mk (below_step BB.out hb); clear hb
            refine hK.out _ _ ?_ (fun hHeld => ?_)
            · (try dsimp only)
              (go_split_ands; (repeat' apply And.intro); all_goals (exact below_cell_of (w := w1) (by with_reducible repeat (first | exact Below.refl _ _ | assumption | exact Aside0.out (by assumption) | apply below_alloc | apply below_drew1 | apply pw_below_drewN)) (by assumption)))
            clear hK K
            (try simp only [Act.put, List.setIfInBounds_toArray, List.set_cons_zero, List.set_cons_succ])
            refine wpAnyH_take (i := 13) (oi := _) (v := ?_) ((List.getElem?_toArray ..).trans rfl) (by kernel_rfl) (by kernel_rfl) (by kernel_rfl) (fun _ _ _ h => h) (Or.inl ⟨by rfl, ?_⟩) (by assumption) ?_
            rotate_left
            · (intro w hSw; (try dsimp only at hSw); go_simp; (try with_reducible rfl))
            (try simp only [Act.put, List.setIfInBounds_toArray, List.set_cons_zero, List.set_cons_succ])
            refine wpAnyH_ready (rs := [14]) (by kernel_rfl) (by simp) ?_
            refine AllReadyH.cons (i := 14) (o := _) ((List.getElem?_toArray ..).trans rfl) (fun K hK => ?_) ?_
            · refine box_step (by rfl) rfl (cs := #[.int .i64 c.th, .int .i64 c.st, .int .i64 c.ga, .int .i64 c.le, .int .i64 c.re, .int .i64 c.ti, .slice C6 m6 e6, .slice C7 m7 e7, .slice C8 m8 e8, .slice C9 m9 e9, .slice C10 m10 e10]) (t := 61) (by first | (go_simp; done) | (go_simp; rfl)) ?_
              intro g hg X hbox hb; have HX := Aside0.mk (RAt_new HRR.out HW1.out BB.out.size hg hb hbox O6.out O7.out O8.out O9.out O10.out); have HGE := Aside0.mk (show W.heap.size ≤ g by have h1 := HW1.out; have h2 := BB.out.size; omega); clear hg hbox; replace BB := Aside0.mk (below_step BB.out hb); clear hb O6 O7 O8 O9 O10
              refine hK.out _ _ ?_ (fun hHeld => ?_)
              · (try dsimp only)
                (go_split_ands; (repeat' apply And.intro); all_goals (exact below_cell_of (w := w1) (by with_reducible repeat (first | exact Below.refl _ _ | assumption | exact Aside0.out (by assumption) | apply below_alloc | apply below_drew1 | apply pw_below_drewN)) (by assumption)))
              clear hK K
              (try simp only [Act.put, List.setIfInBounds_toArray, List.set_cons_zero, List.set_cons_succ])
              refine wpAnyH_take (i := 15) (oi := _) (v := ?_) ((List.getElem?_toArray ..).trans rfl) (by kernel_rfl) (by kernel_rfl) (by kernel_rfl) (fun _ _ _ h => h) (Or.inl ⟨by rfl, ?_⟩) (by assumption) ?_
              rotate_left
              · (intro w hSw; (try dsimp only at hSw); go_simp; (try with_reducible rfl))
              (try simp only [Act.put, List.setIfInBounds_toArray, List.set_cons_zero, List.set_cons_succ])
              refine wpAnyH_done (by kernel_rfl) ?_ _
              refine NoPanic.normal ?_
              go_wp2_with (fail)
              go_ret
              exact ⟨g, rfl, HGE.out, HX.out, B1.out.trans (BB.out.mono HW1.out)⟩
            exact AllReadyH.nil
          exact AllReadyH.nil
        exact AllReadyH.nil
      refine AllReadyH.cons (i := 12) (o := _) ((List.getElem?_toArray ..).trans rfl) (fun K hK => ?_) ?_
      · refine Kd.R_make_step k81 _ 81 (by rfl) (N := 15) rfl 59 (.tmp 14) (.tmp 14) rfl c.ti rfl rfl Tryz.underlying59 (.agg #[.int .i64 0, .bool false, .int .i64 0, .int .i64 0]) 32 info81 rfl (by decide) (by decide) ⟨0, false, 0, 0⟩ (ok := fun _ => True) (okp := fun _ => False) (k81_mkM _ _ _ ⟨0, false, 0, 0⟩) (fun _ h => h.elim) trivial HT.out.1 HT.out.2 (Below.refl _ _) (Nat.le_refl _) ?_
        intro v1 X hR hb _ _; obtain ⟨C10, m10, e10, rfl, o10⟩ := OT.of_R hR; have O10 := Aside0.mk (o10.from BB.out.size); clear o10 hR; replace O6 := Aside0.mk (O6.out.below hb); replace O7 := Aside0.mk (O7.out.below hb); replace BB := Aside0.mk (below_step BB.out hb); clear hb
        refine hK.out _ _ ?_ (fun hHeld => ?_)
        · (try dsimp only)
          (go_split_ands; (repeat' apply And.intro); all_goals (exact below_cell_of (w := w1) (by with_reducible repeat (first | exact Below.refl _ _ | assumption | exact Aside0.out (by assumption) | apply below_alloc | apply below_drew1 | apply pw_below_drewN)) (by assumption)))
        clear hK K
        (try simp only [Act.put, List.setIfInBounds_toArray, List.set_cons_zero, List.set_cons_succ])
        refine wpAnyH_ready (rs := [5, 9]) (by kernel_rfl) (by simp) ?_
        refine AllReadyH.cons (i := 5) (o := _) ((List.getElem?_toArray ..).trans rfl) (fun K hK => ?_) ?_
        · refine step_append0 (by rfl) (.tmp 5) (.tmp 7) 22 3 rfl Tryz.underlying22 info3 B5 A7 n7 d7 c.ls rfl rfl (H7.out.below BB.out) HL.out.1 HL.out.2 ?_
          intro C8 m8 e8 X o8 o8' hb; have O8 : Aside0 (OI w1 X C8 m8 e8 c.ls) := ⟨OI.from ⟨o8, o8'⟩ BB.out.size⟩; clear o8 o8'; replace O6 := Aside0.mk (O6.out.below hb); replace O7 := Aside0.mk (O7.out.below hb); replace O10 := Aside0.mk (O10.out.below hb); replace BB := Aside0.mk (below_step BB.out hb); clear hb
          refine hK.out _ _ ?_ (fun hHeld => ?_)
          · (try dsimp only)
            (go_split_ands; (repeat' apply And.intro); all_goals (exact below_cell_of (w := w1) (by with_reducible repeat (first | exact Below.refl _ _ | assumption | exact Aside0.out (by assumption) | apply below_alloc | apply below_drew1 | apply pw_below_drewN)) (by assumption)))
          clear hK K
          (try simp only [Act.put, List.setIfInBounds_toArray, List.set_cons_zero, List.set_cons_succ])
          refine wpAnyH_ready (rs := [9]) (by kernel_rfl) (by simp) ?_
          refine AllReadyH.cons (i := 9) (o := _) ((List.getElem?_toArray ..).trans rfl) (fun K hK => ?_) ?_
          · refine Kd.R_make_step (Kd.int .i64) _ 3 (by rfl) (N := 12) rfl 22 (.tmp 11) (.tmp 11) rfl (n6 : Int) rfl rfl Tryz.underlying22 (.int .i64 0) 8 info3 rfl (by decide) (by decide) 0 (ok := fun _ => True) (okp := fun _ => False) rfl (fun _ h => h.elim) trivial HN.out.1 HN.out.2 (Below.refl _ _) (Nat.le_refl _) ?_
            intro v1 X hR hb _ _; obtain ⟨C9, m9, e9, rfl, o9⟩ := OI.of_R hR; rw [HN6.out] at o9; have O9 := Aside0.mk (o9.from BB.out.size); clear o9 hR; replace O6 := Aside0.mk (O6.out.below hb); replace O7 := Aside0.mk (O7.out.below hb); replace O8 := Aside0.mk (O8.out.below hb); replace O10 := Aside0.mk (O10.out.below hb); replace BB := Aside0.mk (below_step BB.out hb); clear hb
            refine hK.out _ _ ?_ (fun hHeld => ?_)
            · (try dsimp only)
              (go_split_ands; (repeat' apply And.intro); all_goals (exact below_cell_of (w := w1) (by with_reducible repeat (first | exact Below.refl _ _ | assumption | exact Aside0.out (by assumption) | apply below_alloc | apply below_drew1 | apply pw_below_drewN)) (by assumption)))
            clear hK K
            (try simp only [Act.put, List.setIfInBounds_toArray, List.set_cons_zero, List.set_cons_succ])
            refine wpAnyH_take (i := 13) (oi := _) (v := ?_) ((List.getElem?_toArray ..).trans rfl) (by kernel_rfl) (by kernel_rfl) (by kernel_rfl) (fun _ _ _ h => h) (Or.inl ⟨by rfl, ?_⟩) (by assumption) ?_
            rotate_left
            · (intro w hSw; (try dsimp only at hSw); go_simp; (try with_reducible rfl))
            (try simp only [Act.put, List.setIfInBounds_toArray, List.set_cons_zero, List.set_cons_succ])
            refine wpAnyH_ready (rs := [14]) (by kernel_rfl) (by simp) ?_
            refine AllReadyH.cons (i := 14) (o := _) ((List.getElem?_toArray ..).trans rfl) (fun K hK => ?_) ?_
            · refine box_step (by rfl) rfl (cs := #[.int .i64 c.th, .int .i64 c.st, .int .i64 c.ga, .int .i64 c.le, .int .i64 c.re, .int .i64 c.ti, .slice C6 m6 e6, .slice C7 m7 e7, .slice C8 m8 e8, .slice C9 m9 e9, .slice C10 m10 e10]) (t := 61) (by first | (go_simp; done) | (go_simp; rfl)) ?_
              intro g hg X hbox hb; have HX := Aside0.mk (RAt_new HRR.out HW1.out BB.out.size hg hb hbox O6.out O7.out O8.out O9.out O10.out); have HGE := Aside0.mk (show W.heap.size ≤ g by have h1 := HW1.out; have h2 := BB.out.size; omega); clear hg hbox; replace BB := Aside0.mk (below_step BB.out hb); clear hb O6 O7 O8 O9 O10
              refine hK.out _ _ ?_ (fun hHeld => ?_)
              · (try dsimp only)
                (go_split_ands; (repeat' apply And.intro); all_goals (exact below_cell_of (w := w1) (by with_reducible repeat (first | exact Below.refl _ _ | assumption | exact Aside0.out (by assumption) | apply below_alloc | apply below_drew1 | apply pw_below_drewN)) (by assumption)))
              clear hK K
              (try simp only [Act.put, List.setIfInBounds_toArray, List.set_cons_zero, List.set_cons_succ])
              refine wpAnyH_take (i := 15) (oi := _) (v := ?_) ((List.getElem?_toArray ..).trans rfl) (by kernel_rfl) (by kernel_rfl) (by kernel_rfl) (fun _ _ _ h => h) (Or.inl ⟨by rfl, ?_⟩) (by assumption) ?_
              rotate_left
              · (intro w hSw; (try dsimp only at hSw); go_simp; (try with_reducible rfl))
              (try simp only [Act.put, List.setIfInBounds_toArray, List.set_cons_zero, List.set_cons_succ])
              refine wpAnyH_done (by kernel_rfl) ?_ _
              refine NoPanic.normal ?_
              go_wp2_with (fail)
              go_ret
              exact ⟨g, rfl, HGE.out, HX.out, B1.out.trans (BB.out.mono HW1.out)⟩
            exact AllReadyH.nil
          exact AllReadyH.nil
        refine AllReadyH.cons (i := 9) (o := _) ((List.getElem?_toArray ..).trans rfl) (fun K hK => ?_) ?_
        · refine Kd.R_make_step (Kd.int .i64) _ 3 (by rfl) (N := 12) rfl 22 (.tmp 11) (.tmp 11) rfl (n6 : Int) rfl rfl Tryz.underlying22 (.int .i64 0) 8 info3 rfl (by decide) (by decide) 0 (ok := fun _ => True) (okp := fun _ => False) rfl (fun _ h => h.elim) trivial HN.out.1 HN.out.2 (Below.refl _ _) (Nat.le_refl _) ?_
          intro v1 X hR hb _ _; obtain ⟨C9, m9, e9, rfl, o9⟩ := OI.of_R hR; rw [HN6.out] at o9; have O9 := Aside0.mk (o9.from BB.out.size); clear o9 hR; replace O6 := Aside0.mk (O6.out.below hb); replace O7 := Aside0.mk (O7.out.below hb); replace O10 := Aside0.mk (O10.out.below hb); replace BB := Aside0.mk (below_step BB.out hb); clear hb
          refine hK.out _ _ ?_ (fun hHeld => ?_)
          · (try dsimp only)
            (go_split_ands; (repeat' apply And.intro); all_goals (exact below_cell_of (w := w1) (by with_reducible repeat (first | exact Below.refl _ _ | assumption | exact Aside0.out (by assumption) | apply below_alloc | apply below_drew1 | apply pw_below_drewN)) (by assumption)))
          clear hK K
          (try simp only [Act.put, List.setIfInBounds_toArray, List.set_cons_zero, List.set_cons_succ])
          refine wpAnyH_ready (rs := [5]) (by kernel_rfl) (by simp) ?_
          refine AllReadyH.cons (i := 5) (o := _) ((List.getElem?_toArray ..).trans rfl) (fun K hK => ?_) ?_
          · refine step_append0 (by rfl) (.tmp 5) (.tmp 7) 22 3 rfl Tryz.underlying22 info3 B5 A7 n7 d7 c.ls rfl rfl (H7.out.below BB.out) HL.out.1 HL.out.2 ?_
            intro C8 m8 e8 X o8 o8' hb; have O8 : Aside0 (OI w1 X C8 m8 e8 c.ls) := ⟨OI.from ⟨o8, o8'⟩ BB.out.size⟩; clear o8 o8'; replace O6 := Aside0.mk (O6.out.below hb); replace O7 := Aside0.mk (O7.out.below hb); replace O9 := Aside0.mk (O9.out.below hb); replace O10 := Aside0.mk (O10.out.below hb); replace BB := Aside0.mk (below_step BB.out hb); clear hb
            refine hK.out _ _ ?_ (fun hHeld => ?_)
            · (try dsimp only)
              (go_split_ands; (repeat' apply And.intro); all_goals (exact below_cell_of (w := w1) (by with_reducible repeat (first | exact Below.refl _ _ | assumption | exact Aside0.out (by assumption) | apply below_alloc | apply below_drew1 | apply pw_below_drewN)) (by assumption)))
            clear hK K
            (try simp only [Act.put, List.setIfInBounds_toArray, List.set_cons_zero, List.set_cons_succ])
            refine wpAnyH_take (i := 13) (oi := _) (v := ?_) ((List.getElem?_toArray ..).trans rfl) (by kernel_rfl) (by kernel_rfl) (by kernel_rfl) (fun _ _ _ h => h) (Or.inl ⟨by rfl, ?_⟩) (by assumption) ?_
            rotate_left
            · (intro w hSw; (try dsimp only at hSw); go_simp; (try with_reducible rfl))
            (try simp only [Act.put, List.setIfInBounds_toArray, List.set_cons_zero, List.set_cons_succ])
            refine wpAnyH_ready (rs := [14]) (by kernel_rfl) (by simp) ?_
            refine AllReadyH.cons (i := 14) (o := _) ((List.getElem?_toArray ..).trans rfl) (fun K hK => ?_) ?_
            · refine box_step (by rfl) rfl (cs := #[.int .i64 c.th, .int .i64 c.st, .int .i64 c.ga, .int .i64 c.le, .int .i64 c.re, .int .i64 c.ti, .slice C6 m6 e6, .slice C7 m7 e7, .slice C8 m8 e8, .slice C9 m9 e9, .slice C10 m10 e10]) (t := 61) (by first | (go_simp; done) | (go_simp; rfl)) ?_
              intro g hg X hbox hb; have HX := Aside0.mk (RAt_new HRR.out HW1.out BB.out.size hg hb hbox O6.out O7.out O8.out O9.out O10.out); have HGE := Aside0.mk (show W.heap.size ≤ g by have h1 := HW1.out; have h2 := BB.out.size; omega); clear hg hbox; replace BB := Aside0.mk (below_step BB.out hb); clear hb O6 O7 O8 O9 O10
              refine hK.out _ _ ?_ (fun hHeld => ?_)
              · (try dsimp only)
                (go_split_ands; (repeat' apply And.intro); all_goals (exact below_cell_of (w := w1) (by with_reducible repeat (first | exact Below.refl _ _ | assumption | exact Aside0.out (by assumption) | apply below_alloc | apply below_drew1 | apply pw_below_drewN)) (by assumption)))
              clear hK K
              (try simp only [Act.put, List.setIfInBounds_toArray, List.set_cons_zero, List.set_cons_succ])
              refine wpAnyH_take (i := 15) (oi := _) (v := ?_) ((List.getElem?_toArray ..).trans rfl) (by kernel_rfl) (by kernel_rfl) (by kernel_rfl) (fun _ _ _ h => h) (Or.inl ⟨by rfl, ?_⟩) (by assumption) ?_
              rotate_left
              · (intro w hSw; (try dsimp only at hSw); go_simp; (try with_reducible rfl))
              (try simp only [Act.put, List.setIfInBounds_toArray, List.set_cons_zero, List.set_cons_succ])
              refine wpAnyH_done (by kernel_rfl) ?_ _
              refine NoPanic.normal ?_
              go_wp2_with (fail)
              go_ret
              exact ⟨g, rfl, HGE.out, HX.out, B1.out.trans (BB.out.mono HW1.out)⟩
            exact AllReadyH.nil
          exact AllReadyH.nil
        exact AllReadyH.nil
      exact AllReadyH.nil
    refine AllReadyH.cons (i := 9) (o := _) ((List.getElem?_toArray ..).trans rfl) (fun K hK => ?_) ?_
    · refine Kd.R_make_step (Kd.int .i64) _ 3 (by rfl) (N := 12) rfl 22 (.tmp 11) (.tmp 11) rfl (n6 : Int) rfl rfl Tryz.underlying22 (.int .i64 0) 8 info3 rfl (by decide) (by decide) 0 (ok := fun _ => True) (okp := fun _ => False) rfl (fun _ h => h.elim) trivial HN.out.1 HN.out.2 (Below.refl _ _) (Nat.le_refl _) ?_
      intro v1 X hR hb _ _; obtain ⟨C9, m9, e9, rfl, o9⟩ := OI.of_R hR; rw [HN6.out] at o9; have O9 := Aside0.mk (o9.from BB.out.size); clear o9 hR; replace O6 := Aside0.mk (O6.out.below hb); replace O7 := Aside0.mk (O7.out.below hb); replace BB := Aside0.mk (below_step BB.out hb); clear hb
      refine hK.out _ _ ?_ (fun hHeld => ?_)
      · (try dsimp only)
        (go_split_ands; (repeat' apply And.intro); all_goals (exact below_cell_of (w := w1) (by with_reducible repeat (first | exact Below.refl _ _ | assumption | exact Aside0.out (by assumption) | apply below_alloc | apply below_drew1 | apply pw_below_drewN)) (by assumption)))
      clear hK K
      (try simp only [Act.put, List.setIfInBounds_toArray, List.set_cons_zero, List.set_cons_succ])
      refine wpAnyH_ready (rs := [2, 12]) (by kernel_rfl) (by simp) ?_
      refine AllReadyH.cons (i := 2) (o := _) ((List.getElem?_toArray ..).trans rfl) (fun K hK => ?_) ?_
      · refine step_lit0 (e := 3) (by rfl) (by first | (go_simp; done) | (go_simp; rfl)) ?_
        intro B5 X hb; replace O6 := Aside0.mk (O6.out.below hb); replace O7 := Aside0.mk (O7.out.below hb); replace O9 := Aside0.mk (O9.out.below hb); replace BB := Aside0.mk (below_step BB.out hb); clear hb
        refine hK.out _ _ ?_ (fun hHeld => ?_)
        · (try dsimp only)
          (go_split_ands; (repeat' apply And.intro); all_goals (exact below_cell_of (w := w1) (by with_reducible repeat (first | exact Below.refl _ _ | assumption | exact Aside0.out (by assumption) | apply below_alloc | apply below_drew1 | apply pw_below_drewN)) (by assumption)))
        clear hK K
        (try simp only [Act.put, List.setIfInBounds_toArray, List.set_cons_zero, List.set_cons_succ])
        refine wpAnyH_ready (rs := [5, 12]) (by kernel_rfl) (by simp) ?_
        refine AllReadyH.cons (i := 5) (o := _) ((List.getElem?_toArray ..).trans rfl) (fun K hK => ?_) ?_
        · refine step_append0 (by rfl) (.tmp 5) (.tmp 7) 22 3 rfl Tryz.underlying22 info3 B5 A7 n7 d7 c.ls rfl rfl (H7.out.below BB.out) HL.out.1 HL.out.2 ?_
          intro C8 m8 e8 X o8 o8' hb; have O8 : Aside0 (OI w1 X C8 m8 e8 c.ls) := ⟨OI.from ⟨o8, o8'⟩ BB.out.size⟩; clear o8 o8'; replace O6 := Aside0.mk (O6.out.below hb); replace O7 := Aside0.mk (O7.out.below hb); replace O9 := Aside0.mk (O9.out.below hb); replace BB := Aside0.mk (below_step BB.out hb); clear hb
          refine hK.out _ _ ?_ (fun hHeld => ?_)
          · (try dsimp only)
            (go_split_ands; (repeat' apply And.intro); all_goals (exact below_cell_of (w := w1) (by with_reducible repeat (first | exact Below.refl _ _ | assumption | exact Aside0.out (by assumption) | apply below_alloc | apply below_drew1 | apply pw_below_drewN)) (by assumption)))
          clear hK K
          (try simp only [Act.put, List.setIfInBounds_toArray, List.set_cons_zero, List.set_cons_succ])
          refine wpAnyH_ready (rs := [12]) (by kernel_rfl) (by simp) ?_
          refine AllReadyH.cons (i := 12) (o := _) ((List.getElem?_toArray ..).trans rfl) (fun K hK => ?_) ?_
          · refine Kd.R_make_step k81 _ 81 (by rfl) (N := 15) rfl 59 (.tmp 14) (.tmp 14) rfl c.ti rfl rfl Tryz.underlying59 (.agg #[.int .i64 0, .bool false, .int .i64 0, .int .i64 0]) 32 info81 rfl (by decide) (by decide) ⟨0, false, 0, 0⟩ (ok := fun _ => True) (okp := fun _ => False) (k81_mkM _ _ _ ⟨0, false, 0, 0⟩) (fun _ h => h.elim) trivial HT.out.1 HT.out.2 (Below.refl _ _) (Nat.le_refl _) ?_
            intro v1 X hR hb _ _; obtain ⟨C10, m10, e10, rfl, o10⟩ := OT.of_R hR; have O10 := Aside0.mk (o10.from BB.out.size); clear o10 hR; replace O6 := Aside0.mk (O6.out.below hb); replace O7 := Aside0.mk (O7.out.below hb); replace O8 := Aside0.mk (O8.out.below hb); replace O9 := Aside0.mk (O9.out.below hb); replace BB := Aside0.mk (below_step BB.out hb); clear hb
            refine hK.out _ _ ?_ (fun hHeld => ?_)
            · (try dsimp only)
              (go_split_ands; (repeat' apply And.intro); all_goals (exact below_cell_of (w := w1) (by with_reducible repeat (first | exact Below.refl _ _ | assumption | exact Aside0.out (by assumption) | apply below_alloc | apply below_drew1 | apply pw_below_drewN)) (by assumption)))
            clear hK K
            (try simp only [Act.put, List.setIfInBounds_toArray, List.set_cons_zero, List.set_cons_succ])
            refine wpAnyH_take (i := 13) (oi := _) (v := ?_) ((List.getElem?_toArray ..).trans rfl) (by kernel_rfl) (by kernel_rfl) (by kernel_rfl) (fun _ _ _ h => h) (Or.inl ⟨by rfl, ?_⟩) (by assumption) ?_
            rotate_left
            · (intro w hSw; (try dsimp only at hSw); go_simp; (try with_reducible rfl))
            (try simp only [Act.put, List.setIfInBounds_toArray, List.set_cons_zero, List.set_cons_succ])
            refine wpAnyH_ready (rs := [14]) (by kernel_rfl) (by simp) ?_
            refine AllReadyH.cons (i := 14) (o := _) ((List.getElem?_toArray ..).trans rfl) (fun K hK => ?_) ?_
            · refine box_step (by rfl) rfl (cs := #[.int .i64 c.th, .int .i64 c.st, .int .i64 c.ga, .int .i64 c.le, .int .i64 c.re, .int .i64 c.ti, .slice C6 m6 e6, .slice C7 m7 e7, .slice C8 m8 e8, .slice C9 m9 e9, .slice C10 m10 e10]) (t := 61) (by first | (go_simp; done) | (go_simp; rfl)) ?_
              intro g hg X hbox hb; have HX := Aside0.mk (RAt_new HRR.out HW1.out BB.out.size hg hb hbox O6.out O7.out O8.out O9.out O10.out); have HGE := Aside0.mk (show W.heap.size ≤ g by have h1 := HW1.out; have h2 := BB.out.size; omega); clear hg hbox; replace BB := Aside0.mk (below_step BB.out hb); clear hb O6 O7 O8 O9 O10
              refine hK.out _ _ ?_ (fun hHeld => ?_)
              · (try dsimp only)
                (go_split_ands; (repeat' apply And.intro); all_goals (exact below_cell_of (w := w1) (by with_reducible repeat (first | exact Below.refl _ _ | assumption | exact Aside0.out (by assumption) | apply below_alloc | apply below_drew1 | apply pw_below_drewN)) (by assumption)))
              clear hK K
              (try simp only [Act.put, List.setIfInBounds_toArray, List.set_cons_zero, List.set_cons_succ])
              refine wpAnyH_take (i := 15) (oi := _) (v := ?_) ((List.getElem?_toArray ..).trans rfl) (by kernel_rfl) (by kernel_rfl) (by kernel_rfl) (fun _ _ _ h => h) (Or.inl ⟨by rfl, ?_⟩) (by assumption) ?_
              rotate_left
              · (intro w hSw; (try dsimp only at hSw); go_simp; (try with_reducible rfl))
              (try simp only [Act.put, List.setIfInBounds_toArray, List.set_cons_zero, List.set_cons_succ])
              refine wpAnyH_done (by kernel_rfl) ?_ _
              refine NoPanic.normal ?_
              go_wp2_with (fail)
              go_ret
              exact ⟨g, rfl, HGE.out, HX.out, B1.out.trans (BB.out.mono HW1.out)⟩
            exact AllReadyH.nil
          exact AllReadyH.nil
        refine AllReadyH.cons (i := 12) (o := _) ((List.getElem?_toArray ..).trans rfl) (fun K hK => ?_) ?_
        · refine Kd.R_make_step k81 _ 81 (by rfl) (N := 15) rfl 59 (.tmp 14) (.tmp 14) rfl c.ti rfl rfl Tryz.underlying59 (.agg #[.int .i64 0, .bool false, .int .i64 0, .int .i64 0]) 32 info81 rfl (by decide) (by decide) ⟨0, false, 0, 0⟩ (ok := fun _ => True) (okp := fun _ => False) (k81_mkM _ _ _ ⟨0, false, 0, 0⟩) (fun _ h => h.elim) trivial HT.out.1 HT.out.2 (Below.refl _ _) (Nat.le_refl _) ?_
          intro v1 X hR hb _ _; obtain ⟨C10, m10, e10, rfl, o10⟩ := OT.of_R hR; have O10 := Aside0.mk (o10.from BB.out.size); clear o10 hR; replace O6 := Aside0.mk (O6.out.below hb); replace O7 := Aside0.mk (O7.out.below hb); replace O9 := Aside0.mk (O9.out.below hb); replace BB := Aside0.mk (below_step BB.out hb); clear hb
          refine hK.out _ _ ?_ (fun hHeld => ?_)
          · (try dsimp only)
            (go_split_ands; (repeat' apply And.intro); all_goals (exact below_cell_of (w := w1) (by with_reducible repeat (first | exact Below.refl _ _ | assumption | exact Aside0.out (by assumption) | apply below_alloc | apply below_drew1 | apply pw_below_drewN)) (by assumption)))
          clear hK K
          (try simp only [Act.put, List.setIfInBounds_toArray, List.set_cons_zero, List.set_cons_succ])
          refine wpAnyH_ready (rs := [5]) (by kernel_rfl) (by simp) ?_
          refine AllReadyH.cons (i := 5) (o := _) ((List.getElem?_toArray ..).trans rfl) (fun K hK => ?_) ?_
          · refine step_append0 (by rfl) (.tmp 5) (.tmp 7) 22 3 rfl Tryz.underlying22 info3 B5 A7 n7 d7 c.ls rfl rfl (H7.out.below BB.out) HL.out.1 HL.out.2 ?_
            intro C8 m8 e8 X o8 o8' hb; have O8 : Aside0 (OI w1 X C8 m8 e8 c.ls) := ⟨OI.from ⟨o8, o8'⟩ BB.out.size⟩; clear o8 o8'; replace O6 := Aside0.mk (O6.out.below hb); replace O7 := Aside0.mk (O7.out.below hb); replace O9 := Aside0.mk (O9.out.below hb); replace O10 := Aside0.mk (O10.out.below hb); replace BB := Aside0.mk (below_step BB.out hb); clear hb
            refine hK.out _ _ ?_ (fun hHeld => ?_)
            · (try dsimp only)
              (go_split_ands; (repeat' apply And.intro); all_goals (exact below_cell_of (w := w1) (by with_reducible repeat (first | exact Below.refl _ _ | assumption | exact Aside0.out (by assumption) | apply below_alloc | apply below_drew1 | apply pw_below_drewN)) (by assumption)))
            clear hK K
            (try simp only [Act.put, List.setIfInBounds_toArray, List.set_cons_zero, List.set_cons_succ])
            refine wpAnyH_take (i := 13) (oi := _) (v := ?_) ((List.getElem?_toArray ..).trans rfl) (by kernel_rfl) (by kernel_rfl) (by kernel_rfl) (fun _ _ _ h => h) (Or.inl ⟨by rfl, ?_⟩) (by assumption) ?_
            rotate_left
            · (intro w hSw; (try dsimp only at hSw); go_simp; (try with_reducible rfl))
            (try simp only [Act.put, List.setIfInBounds_toArray, List.set_cons_zero, List.set_cons_succ])
            refine wpAnyH_ready (rs := [14]) (by kernel_rfl) (by simp) ?_
            refine AllReadyH.cons (i := 14) (o := _) ((List.getElem?_toArray ..).trans rfl) (fun K hK => ?_) ?_
            · refine box_step (by rfl) rfl (cs := #[.int .i64 c.th, .int .i64 c.st, .int .i64 c.ga, .int .i64 c.le, .int .i64 c.re, .int .i64 c.ti, .slice C6 m6 e6, .slice C7 m7 e7, .slice C8 m8 e8, .slice C9 m9 e9, .slice C10 m10 e10]) (t := 61) (by first | (go_simp; done) | (go_simp; rfl)) ?_
              intro g hg X hbox hb; have HX := Aside0.mk (RAt_new HRR.out HW1.out BB.out.size hg hb hbox O6.out O7.out O8.out O9.out O10.out); have HGE := Aside0.mk (show W.heap.size ≤ g by have h1 := HW1.out; have h2 := BB.out.size; omega); clear hg hbox; replace BB := Aside0.mk (below_step BB.out hb); clear hb O6 O7 O8 O9 O10
              refine hK.out _ _ ?_ (fun hHeld => ?_)
              · (try dsimp only)
                (go_split_ands; (repeat' apply And.intro); all_goals (exact below_cell_of (w := w1) (by with_reducible repeat (first | exact Below.refl _ _ | assumption | exact Aside0.out (by assumption) | apply below_alloc | apply below_drew1 | apply pw_below_drewN)) (by assumption)))
              clear hK K
              (try simp only [Act.put, List.setIfInBounds_toArray, List.set_cons_zero, List.set_cons_succ])
              refine wpAnyH_take (i := 15) (oi := _) (v := ?_) ((List.getElem?_toArray ..).trans rfl) (by kernel_rfl) (by kernel_rfl) (by kernel_rfl) (fun _ _ _ h => h) (Or.inl ⟨by rfl, ?_⟩) (by assumption) ?_
              rotate_left
              · (intro w hSw; (try dsimp only at hSw); go_simp; (try with_reducible rfl))
              (try simp only [Act.put, List.setIfInBounds_toArray, List.set_cons_zero, List.set_cons_succ])
              refine wpAnyH_done (by kernel_rfl) ?_ _
              refine NoPanic.normal ?_
              go_wp2_with (fail)
              go_ret
              exact ⟨g, rfl, HGE.out, HX.out, B1.out.trans (BB.out.mono HW1.out)⟩
            exact AllReadyH.nil
          exact AllReadyH.nil
        exact AllReadyH.nil
      refine AllReadyH.cons (i := 12) (o := _) ((List.getElem?_toArray ..).trans rfl) (fun K hK => ?_) ?_
      · refine Kd.R_make_step k81 _ 81 (by rfl) (N := 15) rfl 59 (.tmp 14) (.tmp 14) rfl c.ti rfl rfl Tryz.underlying59 (.agg #[.int .i64 0, .bool false, .int .i64 0, .int .i64 0]) 32 info81 rfl (by decide) (by decide) ⟨0, false, 0, 0⟩ (ok := fun _ => True) (okp := fun _ => False) (k81_mkM _ _ _ ⟨0, false, 0, 0⟩) (fun _ h => h.elim) trivial HT.out.1 HT.out.2 (Below.refl _ _) (Nat.le_refl _) ?_
        intro v1 X hR hb _ _; obtain ⟨C10, m10, e10, rfl, o10⟩ := OT.of_R hR; have O10 := Aside0.mk (o10.from BB.out.size); clear o10 hR; replace O6 := Aside0.mk (O6.out.below hb); replace O7 := Aside0.mk (O7.out.below hb); replace O9 := Aside0.mk (O9.out.below hb); replace BB := Aside0.mk (below_step BB.out hb); clear hb
        refine hK.out _ _ ?_ (fun hHeld => ?_)
        · (try dsimp only)
          (go_split_ands; (repeat' apply And.intro); all_goals (exact below_cell_of (w := w1) (by with_reducible repeat (first | exact Below.refl _ _ | assumption | exact Aside0.out (by assumption) | apply below_alloc | apply below_drew1 | apply pw_below_drewN)) (by assumption)))
        clear hK K
        (try simp only [Act.put, List.setIfInBounds_toArray, List.set_cons_zero, List.set_cons_succ])
        refine wpAnyH_ready (rs := [2]) (by kernel_rfl) (by simp) ?_
        refine AllReadyH.cons (i := 2) (o := _) ((List.getElem?_toArray ..).trans rfl) (fun K hK => ?_) ?_
        · refine step_lit0 (e := 3) (by rfl) (by first | (go_simp; done) | (go_simp; rfl)) ?_
          intro B5 X hb; replace O6 := Aside0.mk (O6.out.below hb); replace O7 := Aside0.mk (O7.out.below hb); replace O9 := Aside0.mk (O9.out.below hb); replace O10 := Aside0.mk (O10.out.below hb); replace BB := Aside0.mk (below_step BB.out hb); clear hb
          refine hK.out _ _ ?_ (fun hHeld => ?_)
          · (try dsimp only)
            (go_split_ands; (repeat' apply And.intro); all_goals (exact below_cell_of (w := w1) (by with_reducible repeat (first | exact Below.refl _ _ | assumption | exact Aside0.out (by assumption) | apply below_alloc | apply below_drew1 | apply pw_below_drewN)) (by assumption)))
          clear hK K
          (try simp only [Act.put, List.setIfInBounds_toArray, List.set_cons_zero, List.set_cons_succ])
          refine wpAnyH_ready (rs := [5]) (by kernel_rfl) (by simp) ?_
          refine AllReadyH.cons (i := 5) (o := _) ((List.getElem?_toArray ..).trans rfl) (fun K hK => ?_) ?_
          · refine step_append0 (by rfl) (.tmp 5) (.tmp 7) 22 3 rfl Tryz.underlying22 info3 B5 A7 n7 d7 c.ls rfl rfl (H7.out.below BB.out) HL.out.1 HL.out.2 ?_
            intro C8 m8 e8 X o8 o8' hb; have O8 : Aside0 (OI w1 X C8 m8 e8 c.ls) := ⟨OI.from ⟨o8, o8'⟩ BB.out.size⟩; clear o8 o8'; replace O6 := Aside0.mk (O6.out.below hb); replace O7 := Aside0.mk (O7.out.below hb); replace O9 := Aside0.mk (O9.out.below hb); replace O10 := Aside0.mk (O10.out.below hb); replace BB := Aside0.mk (below_step BB.out hb); clear hb
            refine hK.out _ _ ?_ (fun hHeld => ?_)
            · (try dsimp only)
              (go_split_ands; (repeat' apply And.intro); all_goals (exact below_cell_of (w := w1) (by with_reducible repeat (first | exact Below.refl _ _ | assumption | exact Aside0.out (by assumption) | apply below_alloc | apply below_drew1 | apply pw_below_drewN)) (by assumption)))
            clear hK K
            (try simp only [Act.put, List.setIfInBounds_toArray, List.set_cons_zero, List.set_cons_succ])
            refine wpAnyH_take (i := 13) (oi := _) (v := ?_) ((List.getElem?_toArray ..).trans rfl) (by kernel_rfl) (by kernel_rfl) (by kernel_rfl) (fun _ _ _ h => h) (Or.inl ⟨by rfl, ?_⟩) (by assumption) ?_
            rotate_left
            · (intro w hSw; (try dsimp only at hSw); go_simp; (try with_reducible rfl))
            (try simp only [Act.put, List.setIfInBounds_toArray, List.set_cons_zero, List.set_cons_succ])
            refine wpAnyH_ready (rs := [14]) (by kernel_rfl) (by simp) ?_
            refine AllReadyH.cons (i := 14) (o := _) ((List.getElem?_toArray ..).trans rfl) (fun K hK => ?_) ?_
            · refine box_step (by rfl) rfl (cs := #[.int .i64 c.th, .int .i64 c.st, .int .i64 c.ga, .int .i64 c.le, .int .i64 c.re, .int .i64 c.ti, .slice C6 m6 e6, .slice C7 m7 e7, .slice C8 m8 e8, .slice C9 m9 e9, .slice C10 m10 e10]) (t := 61) (by first | (go_simp; done) | (go_simp; rfl)) ?_
              intro g hg X hbox hb; have HX := Aside0.mk (RAt_new HRR.out HW1.out BB.out.size hg hb hbox O6.out O7.out O8.out O9.out O10.out); have HGE := Aside0.mk (show W.heap.size ≤ g by have h1 := HW1.out; have h2 := BB.out.size; omega); clear hg hbox; replace BB := Aside0.mk (below_step BB.out hb); clear hb O6 O7 O8 O9 O10
              refine hK.out _ _ ?_ (fun hHeld => ?_)
              · (try dsimp only)
                (go_split_ands; (repeat' apply And.intro); all_goals (exact below_cell_of (w := w1) (by with_reducible repeat (first | exact Below.refl _ _ | assumption | exact Aside0.out (by assumption) | apply below_alloc | apply below_drew1 | apply pw_below_drewN)) (by assumption)))
              clear hK K
              (try simp only [Act.put, List.setIfInBounds_toArray, List.set_cons_zero, List.set_cons_succ])
              refine wpAnyH_take (i := 15) (oi := _) (v := ?_) ((List.getElem?_toArray ..).trans rfl) (by kernel_rfl) (by kernel_rfl) (by kernel_rfl) (fun _ _ _ h => h) (Or.inl ⟨by rfl, ?_⟩) (by assumption) ?_
              rotate_left
              · (intro w hSw; (try dsimp only at hSw); go_simp; (try with_reducible rfl))
              (try simp only [Act.put, List.setIfInBounds_toArray, List.set_cons_zero, List.set_cons_succ])
              refine wpAnyH_done (by kernel_rfl) ?_ _
              refine NoPanic.normal ?_
              go_wp2_with (fail)
              go_ret
              exact ⟨g, rfl, HGE.out, HX.out, B1.out.trans (BB.out.mono HW1.out)⟩
            exact AllReadyH.nil
          exact AllReadyH.nil
        exact AllReadyH.nil
      exact AllReadyH.nil
    refine AllReadyH.cons (i := 12) (o := _) ((List.getElem?_toArray ..).trans rfl) (fun K hK => ?_) ?_
    · refine Kd.R_make_step k81 _ 81 (by rfl) (N := 15) rfl 59 (.tmp 14) (.tmp 14) rfl c.ti rfl rfl Tryz.underlying59 (.agg #[.int .i64 0, .bool false, .int .i64 0, .int .i64 0]) 32 info81 rfl (by decide) (by decide) ⟨0, false, 0, 0⟩ (ok := fun _ => True) (okp := fun _ => False) (k81_mkM _ _ _ ⟨0, false, 0, 0⟩) (fun _ h => h.elim) trivial HT.out.1 HT.out.2 (Below.refl _ _) (Nat.le_refl _) ?_
      intro v1 X hR hb _ _; obtain ⟨C10, m10, e10, rfl, o10⟩ := OT.of_R hR; have O10 := Aside0.mk (o10.from BB.out.size); clear o10 hR; replace O6 := Aside0.mk (O6.out.below hb); replace O7 := Aside0.mk (O7.out.below hb); replace BB := Aside0.mk (below_step BB.out hb); clear hb
      refine hK.out _ _ ?_ (fun hHeld => ?_)
      · (try dsimp only)
        (go_split_ands; (repeat' apply And.intro); all_goals (exact below_cell_of (w := w1) (by with_reducible repeat (first | exact Below.refl _ _ | assumption | exact Aside0.out (by assumption) | apply below_alloc | apply below_drew1 | apply pw_below_drewN)) (by assumption)))
      clear hK K
      (try simp only [Act.put, List.setIfInBounds_toArray, List.set_cons_zero, List.set_cons_succ])
      refine wpAnyH_ready (rs := [2, 9]) (by kernel_rfl) (by simp) ?_
      refine AllReadyH.cons (i := 2) (o := _) ((List.getElem?_toArray ..).trans rfl) (fun K hK => ?_) ?_
      · refine step_lit0 (e := 3) (by rfl) (by first | (go_simp; done) | (go_simp; rfl)) ?_
        intro B5 X hb; replace O6 := Aside0.mk (O6.out.below hb); replace O7 := Aside0.mk (O7.out.below hb); replace O10 := Aside0.mk (O10.out.below hb); replace BB := Aside0.mk (below_step BB.out hb); clear hb
        refine hK.out _ _ ?_ (fun hHeld => ?_)
        · (try dsimp only)
          (go_split_ands; (repeat' apply And.intro); all_goals (exact below_cell_of (w := w1) (by with_reducible repeat (first | exact Below.refl _ _ | assumption | exact Aside0.out (by assumption) | apply below_alloc | apply below_drew1 | apply pw_below_drewN)) (by assumption)))
        clear hK K
        (try simp only [Act.put, List.setIfInBounds_toArray, List.set_cons_zero, List.set_cons_succ])
        refine wpAnyH_ready (rs := [5, 9]) (by kernel_rfl) (by simp) ?_
        refine AllReadyH.cons (i := 5) (o := _) ((List.getElem?_toArray ..).trans rfl) (fun K hK => ?_) ?_
        · refine step_append0 (by rfl) (.tmp 5) (.tmp 7) 22 3 rfl Tryz.underlying22 info3 B5 A7 n7 d7 c.ls rfl rfl (H7.out.below BB.out) HL.out.1 HL.out.2 ?_
          intro C8 m8 e8 X o8 o8' hb; have O8 : Aside0 (OI w1 X C8 m8 e8 c.ls) := ⟨OI.from ⟨o8, o8'⟩ BB.out.size⟩; clear o8 o8'; replace O6 := Aside0.mk (O6.out.below hb); replace O7 := Aside0.mk (O7.out.below hb); replace O10 := Aside0.mk (O10.out.below hb); replace BB := Aside0.mk (below_step BB.out hb); clear hb
          refine hK.out _ _ ?_ (fun hHeld => ?_)
          · (try dsimp only)
            (go_split_ands; (repeat' apply And.intro); all_goals (exact below_cell_of (w := w1) (by with_reducible repeat (first | exact Below.refl _ _ | assumption | exact Aside0.out (by assumption) | apply below_alloc | apply below_drew1 | apply pw_below_drewN)) (by assumption)))
          clear hK K
          (try simp only [Act.put, List.setIfInBounds_toArray, List.set_cons_zero, List.set_cons_succ])
          refine wpAnyH_ready (rs := [9]) (by kernel_rfl) (by simp) ?_
          refine AllReadyH.cons (i := 9) (o := _) ((List.getElem?_toArray ..).trans rfl) (fun K hK => ?_) ?_
          · refine Kd.R_make_step (Kd.int .i64) _ 3 (by rfl) (N := 12) rfl 22 (.tmp 11) (.tmp 11) rfl (n6 : Int) rfl rfl Tryz.underlying22 (.int .i64 0) 8 info3 rfl (by decide) (by decide) 0 (ok := fun _ => True) (okp := fun _ => False) rfl (fun _ h => h.elim) trivial HN.out.1 HN.out.2 (Below.refl _ _) (Nat.le_refl _) ?_
            intro v1 X hR hb _ _; obtain ⟨C9, m9, e9, rfl, o9⟩ := OI.of_R hR; rw [HN6.out] at o9; have O9 := Aside0.mk (o9.from BB.out.size); clear o9 hR; replace O6 := Aside0.mk (O6.out.below hb); replace O7 := Aside0.mk (O7.out.below hb); replace O8 := Aside0.mk (O8.out.below hb); replace O10 := Aside0.mk (O10.out.below hb); replace BB := Aside0.mk (below_step BB.out hb); clear hb
            refine hK.out _ _ ?_ (fun hHeld => ?_)
            · (try dsimp only)
              (go_split_ands; (repeat' apply And.intro); all_goals (exact below_cell_of (w := w1) (by with_reducible repeat (first | exact Below.refl _ _ | assumption | exact Aside0.out (by assumption) | apply below_alloc | apply below_drew1 | apply pw_below_drewN)) (by assumption)))
            clear hK K
            (try simp only [Act.put, List.setIfInBounds_toArray, List.set_cons_zero, List.set_cons_succ])
            refine wpAnyH_take (i := 13) (oi := _) (v := ?_) ((List.getElem?_toArray ..).trans rfl) (by kernel_rfl) (by kernel_rfl) (by kernel_rfl) (fun _ _ _ h => h) (Or.inl ⟨by rfl, ?_⟩) (by assumption) ?_
            rotate_left
            · (intro w hSw; (try dsimp only at hSw); go_simp; (try with_reducible rfl))
            (try simp only [Act.put, List.setIfInBounds_toArray, List.set_cons_zero, List.set_cons_succ])
            refine wpAnyH_ready (rs := [14]) (by kernel_rfl) (by simp) ?_
            refine AllReadyH.cons (i := 14) (o := _) ((List.getElem?_toArray ..).trans rfl) (fun K hK => ?_) ?_
            · refine box_step (by rfl) rfl (cs := #[.int .i64 c.th, .int .i64 c.st, .int .i64 c.ga, .int .i64 c.le, .int .i64 c.re, .int .i64 c.ti, .slice C6 m6 e6, .slice C7 m7 e7, .slice C8 m8 e8, .slice C9 m9 e9, .slice C10 m10 e10]) (t := 61) (by first | (go_simp; done) | (go_simp; rfl)) ?_
              intro g hg X hbox hb; have HX := Aside0.mk (RAt_new HRR.out HW1.out BB.out.size hg hb hbox O6.out O7.out O8.out O9.out O10.out); have HGE := Aside0.mk (show W.heap.size ≤ g by have h1 := HW1.out; have h2 := BB.out.size; omega); clear hg hbox; replace BB := Aside0.mk (below_step BB.out hb); clear hb O6 O7 O8 O9 O10
              refine hK.out _ _ ?_ (fun hHeld => ?_)
              · (try dsimp only)
                (go_split_ands; (repeat' apply And.intro); all_goals (exact below_cell_of (w := w1) (by with_reducible repeat (first | exact Below.refl _ _ | assumption | exact Aside0.out (by assumption) | apply below_alloc | apply below_drew1 | apply pw_below_drewN)) (by assumption)))
              clear hK K
              (try simp only [Act.put, List.setIfInBounds_toArray, List.set_cons_zero, List.set_cons_succ])
              refine wpAnyH_take (i := 15) (oi := _) (v := ?_) ((List.getElem?_toArray ..).trans rfl) (by kernel_rfl) (by kernel_rfl) (by kernel_rfl) (fun _ _ _ h => h) (Or.inl ⟨by rfl, ?_⟩) (by assumption) ?_
              rotate_left
              · (intro w hSw; (try dsimp only at hSw); go_simp; (try with_reducible rfl))
              (try simp only [Act.put, List.setIfInBounds_toArray, List.set_cons_zero, List.set_cons_succ])
              refine wpAnyH_done (by kernel_rfl) ?_ _
              refine NoPanic.normal ?_
              go_wp2_with (fail)
              go_ret
              exact ⟨g, rfl, HGE.out, HX.out, B1.out.trans (BB.out.mono HW1.out)⟩
            exact AllReadyH.nil
          exact AllReadyH.nil
        refine AllReadyH.cons (i := 9) (o := _) ((List.getElem?_toArray ..).trans rfl) (fun K hK => ?_) ?_
        · refine Kd.R_make_step (Kd.int .i64) _ 3 (by rfl) (N := 12) rfl 22 (.tmp 11) (.tmp 11) rfl (n6 : Int) rfl rfl Tryz.underlying22 (.int .i64 0) 8 info3 rfl (by decide) (by decide) 0 (ok := fun _ => True) (okp := fun _ => False) rfl (fun _ h => h.elim) trivial HN.out.1 HN.out.2 (Below.refl _ _) (Nat.le_refl _) ?_
          intro v1 X hR hb _ _; obtain ⟨C9, m9, e9, rfl, o9⟩ := OI.of_R hR; rw [HN6.out] at o9; have O9 := Aside0.mk (o9.from BB.out.size); clear o9 hR; replace O6 := Aside0.mk (O6.out.below hb); replace O7 := Aside0.mk (O7.out.below hb); replace O10 := Aside0.mk (O10.out.below hb); replace BB := Aside0.mk (below_step BB.out hb); clear hb
          refine hK.out _ _ ?_ (fun hHeld => ?_)
          · (try dsimp only)
            (go_split_ands; (repeat' apply And.intro); all_goals (exact below_cell_of (w := w1) (by with_reducible repeat (first | exact Below.refl _ _ | assumption | exact Aside0.out (by assumption) | apply below_alloc | apply below_drew1 | apply pw_below_drewN)) (by assumption)))
          clear hK K
          (try simp only [Act.put, List.setIfInBounds_toArray, List.set_cons_zero, List.set_cons_succ])
          refine wpAnyH_ready (rs := [5]) (by kernel_rfl) (by simp) ?_
          refine AllReadyH.cons (i := 5) (o := _) ((List.getElem?_toArray ..).trans rfl) (fun K hK => ?_) ?_
          · refine step_append0 (by rfl) (.tmp 5) (.tmp 7) 22 3 rfl Tryz.underlying22 info3 B5 A7 n7 d7 c.ls rfl rfl (H7.out.below BB.out) HL.out.1 HL.out.2 ?_
            intro C8 m8 e8 X o8 o8' hb; have O8 : Aside0 (OI w1 X C8 m8 e8 c.ls) := ⟨OI.from ⟨o8, o8'⟩ BB.out.size⟩; clear o8 o8'; replace O6 := Aside0.mk (O6.out.below hb); replace O7 := Aside0.mk (O7.out.below hb); replace O9 := Aside0.mk (O9.out.below hb); replace O10 := Aside0.mk (O10.out.below hb); replace BB := Aside0.mk (below_step BB.out hb); clear hb
            refine hK.out _ _ ?_ (fun hHeld => ?_)
            · (try dsimp only)
              (go_split_ands; (repeat' apply And.intro); all_goals (exact below_cell_of (w := w1) (by with_reducible repeat (first | exact Below.refl _ _ | assumption | exact Aside0.out (by assumption) | apply below_alloc | apply below_drew1 | apply pw_below_drewN)) (by assumption)))
            clear hK K
            (try simp only [Act.put, List.setIfInBounds_toArray, List.set_cons_zero, List.set_cons_succ])
            refine wpAnyH_take (i := 13) (oi := _) (v := ?_) ((List.getElem?_toArray ..).trans rfl) (by kernel_rfl) (by kernel_rfl) (by kernel_rfl) (fun _ _ _ h => h) (Or.inl ⟨by rfl, ?_⟩) (by assumption) ?_
            rotate_left
            · (intro w hSw; (try dsimp only at hSw); go_simp; (try with_reducible rfl))
            (try simp only [Act.put, List.setIfInBounds_toArray, List.set_cons_zero, List.set_cons_succ])
            refine wpAnyH_ready (rs := [14]) (by kernel_rfl) (by simp) ?_
            refine AllReadyH.cons (i := 14) (o := _) ((List.getElem?_toArray ..).trans rfl) (fun K hK => ?_) ?_
            · refine box_step (by rfl) rfl (cs := #[.int .i64 c.th, .int .i64 c.st, .int .i64 c.ga, .int .i64 c.le, .int .i64 c.re, .int .i64 c.ti, .slice C6 m6 e6, .slice C7 m7 e7, .slice C8 m8 e8, .slice C9 m9 e9, .slice C10 m10 e10]) (t := 61) (by first | (go_simp; done) | (go_simp; rfl)) ?_
              intro g hg X hbox hb; have HX := Aside0.mk (RAt_new HRR.out HW1.out BB.out.size hg hb hbox O6.out O7.out O8.out O9.out O10.out); have HGE := Aside0.mk (show W.heap.size ≤ g by have h1 := HW1.out; have h2 := BB.out.size; omega); clear hg hbox; replace BB := Aside0.mk (below_step BB.out hb); clear hb O6 O7 O8 O9 O10
              refine hK.out _ _ ?_ (fun hHeld => ?_)
              · (try dsimp only)
                (go_split_ands; (repeat' apply And.intro); all_goals (exact below_cell_of (w := w1) (by with_reducible repeat (first | exact Below.refl _ _ | assumption | exact Aside0.out (by assumption) | apply below_alloc | apply below_drew1 | apply pw_below_drewN)) (by assumption)))
              clear hK K
              (try simp only [Act.put, List.setIfInBounds_toArray, List.set_cons_zero, List.set_cons_succ])
              refine wpAnyH_take (i := 15) (oi := _) (v := ?_) ((List.getElem?_toArray ..).trans rfl) (by kernel_rfl) (by kernel_rfl) (by kernel_rfl) (fun _ _ _ h => h) (Or.inl ⟨by rfl, ?_⟩) (by assumption) ?_
              rotate_left
              · (intro w hSw; (try dsimp only at hSw); go_simp; (try with_reducible rfl))
              (try simp only [Act.put, List.setIfInBounds_toArray, List.set_cons_zero, List.set_cons_succ])
              refine wpAnyH_done (by kernel_rfl) ?_ _
              refine NoPanic.normal ?_
              go_wp2_with (fail)
              go_ret
              exact ⟨g, rfl, HGE.out, HX.out, B1.out.trans (BB.out.mono HW1.out)⟩
            exact AllReadyH.nil
          exact AllReadyH.nil
        exact AllReadyH.nil
      refine AllReadyH.cons (i := 9) (o := _) ((List.getElem?_toArray ..).trans rfl) (fun K hK => ?_) ?_
      · refine Kd.R_make_step (Kd.int .i64) _ 3 (by rfl) (N := 12) rfl 22 (.tmp 11) (.tmp 11) rfl (n6 : Int) rfl rfl Tryz.underlying22 (.int .i64 0) 8 info3 rfl (by decide) (by decide) 0 (ok := fun _ => True) (okp := fun _ => False) rfl (fun _ h => h.elim) trivial HN.out.1 HN.out.2 (Below.refl _ _) (Nat.le_refl _) ?_
        intro v1 X hR hb _ _; obtain ⟨C9, m9, e9, rfl, o9⟩ := OI.of_R hR; rw [HN6.out] at o9; have O9 := Aside0.mk (o9.from BB.out.size); clear o9 hR; replace O6 := Aside0.mk (O6.out.below hb); replace O7 := Aside0.mk (O7.out.below hb); replace O10 := Aside0.mk (O10.out.below hb); replace BB := Aside0.mk (below_step BB.out hb); clear hb
        refine hK.out _ _ ?_ (fun hHeld => ?_)
        · (try dsimp only)
          (go_split_ands; (repeat' apply And.intro); all_goals (exact below_cell_of (w := w1) (by with_reducible repeat (first | exact Below.refl _ _ | assumption | exact Aside0.out (by assumption) | apply below_alloc | apply below_drew1 | apply pw_below_drewN)) (by assumption)))
        clear hK K
        (try simp only [Act.put, List.setIfInBounds_toArray, List.set_cons_zero, List.set_cons_succ])
        refine wpAnyH_ready (rs := [2]) (by kernel_rfl) (by simp) ?_
        refine AllReadyH.cons (i := 2) (o := _) ((List.getElem?_toArray ..).trans rfl) (fun K hK => ?_) ?_
        · refine step_lit0 (e := 3) (by rfl) (by first | (go_simp; done) | (go_simp; rfl)) ?_
          intro B5 X hb; replace O6 := Aside0.mk (O6.out.below hb); replace O7 := Aside0.mk (O7.out.below hb); replace O9 := Aside0.mk (O9.out.below hb); replace O10 := Aside0.mk (O10.out.below hb); replace BB := Aside0.mk (below_step BB.out hb); clear hb
          refine hK.out _ _ ?_ (fun hHeld => ?_)
          · (try dsimp only)
            (go_split_ands; (repeat' apply And.intro); all_goals (exact below_cell_of (w := w1) (by with_reducible repeat (first | exact Below.refl _ _ | assumption | exact Aside0.out (by assumption) | apply below_alloc | apply below_drew1 | apply pw_below_drewN)) (by assumption)))
          clear hK K
          (try simp only [Act.put, List.setIfInBounds_toArray, List.set_cons_zero, List.set_cons_succ])
          refine wpAnyH_ready (rs := [5]) (by kernel_rfl) (by simp) ?_
          refine AllReadyH.cons (i := 5) (o := _) ((List.getElem?_toArray ..).trans rfl) (fun K hK => ?_) ?_
          · refine step_append0 (by rfl) (.tmp 5) (.tmp 7) 22 3 rfl Tryz.underlying22 info3 B5 A7 n7 d7 c.ls rfl rfl (H7.out.below BB.out) HL.out.1 HL.out.2 ?_
            intro C8 m8 e8 X o8 o8' hb; have O8 : Aside0 (OI w1 X C8 m8 e8 c.ls) := ⟨OI.from ⟨o8, o8'⟩ BB.out.size⟩; clear o8 o8'; replace O6 := Aside0.mk (O6.out.below hb); replace O7 := Aside0.mk (O7.out.below hb); replace O9 := Aside0.mk (O9.out.below hb); replace O10 := Aside0.mk (O10.out.below hb); replace BB := Aside0.mk (below_step BB.out hb); clear hb
            refine hK.out _ _ ?_ (fun hHeld => ?_)
            · (try dsimp only)
              (go_split_ands; (repeat' apply And.intro); all_goals (exact below_cell_of (w := w1) (by with_reducible repeat (first | exact Below.refl _ _ | assumption | exact Aside0.out (by assumption) | apply below_alloc | apply below_drew1 | apply pw_below_drewN)) (by assumption)))
            clear hK K
            (try simp only [Act.put, List.setIfInBounds_toArray, List.set_cons_zero, List.set_cons_succ])
            refine wpAnyH_take (i := 13) (oi := _) (v := ?_) ((List.getElem?_toArray ..).trans rfl) (by kernel_rfl) (by kernel_rfl) (by kernel_rfl) (fun _ _ _ h => h) (Or.inl ⟨by rfl, ?_⟩) (by assumption) ?_
            rotate_left
            · (intro w hSw; (try dsimp only at hSw); go_simp; (try with_reducible rfl))
            (try simp only [Act.put, List.setIfInBounds_toArray, List.set_cons_zero, List.set_cons_succ])
            refine wpAnyH_ready (rs := [14]) (by kernel_rfl) (by simp) ?_
            refine AllReadyH.cons (i := 14) (o := _) ((List.getElem?_toArray ..).trans rfl) (fun K hK => ?_) ?_
            · refine box_step (by rfl) rfl (cs := #[.int .i64 c.th, .int .i64 c.st, .int .i64 c.ga, .int .i64 c.le, .int .i64 c.re, .int .i64 c.ti, .slice C6 m6 e6, .slice C7 m7 e7, .slice C8 m8 e8, .slice C9 m9 e9, .slice C10 m10 e10]) (t := 61) (by first | (go_simp; done) | (go_simp; rfl)) ?_
              intro g hg X hbox hb; have HX := Aside0.mk (RAt_new HRR.out HW1.out BB.out.size hg hb hbox O6.out O7.out O8.out O9.out O10.out); have HGE := Aside0.mk (show W.heap.size ≤ g by have h1 := HW1.out; have h2 := BB.out.size; omega); clear hg hbox; replace BB := Aside0.mk (below_step BB.out hb); clear hb O6 O7 O8 O9 O10
              refine hK.out _ _ ?_ (fun hHeld => ?_)
              · (try dsimp only)
                (go_split_ands; (repeat' apply And.intro); all_goals (exact below_cell_of (w := w1) (by with_reducible repeat (first | exact Below.refl _ _ | assumption | exact Aside0.out (by assumption) | apply below_alloc | apply below_drew1 | apply pw_below_drewN)) (by assumption)))
              clear hK K
              (try simp only [Act.put, List.setIfInBounds_toArray, List.set_cons_zero, List.set_cons_succ])
              refine wpAnyH_take (i := 15) (oi := _) (v := ?_) ((List.getElem?_toArray ..).trans rfl) (by kernel_rfl) (by kernel_rfl) (by kernel_rfl) (fun _ _ _ h => h) (Or.inl ⟨by rfl, ?_⟩) (by assumption) ?_
              rotate_left
              · (intro w hSw; (try dsimp only at hSw); go_simp; (try with_reducible rfl))
              (try simp only [Act.put, List.setIfInBounds_toArray, List.set_cons_zero, List.set_cons_succ])
              refine wpAnyH_done (by kernel_rfl) ?_ _
              refine NoPanic.normal ?_
              go_wp2_with (fail)
              go_ret
              exact ⟨g, rfl, HGE.out, HX.out, B1.out.trans (BB.out.mono HW1.out)⟩
            exact AllReadyH.nil
          exact AllReadyH.nil
        exact AllReadyH.nil
      exact AllReadyH.nil
    exact AllReadyH.nil
  refine AllReadyH.cons (i := 2) (o := _) ((List.getElem?_toArray ..).trans rfl) (fun K hK => ?_) ?_
  · refine step_lit0 (e := 3) (by rfl) (by first | (go_simp; done) | (go_simp; rfl)) ?_
    intro B5 X hb; replace BB := Aside0.mk (below_step BB.out hb); clear hb
    refine hK.out _ _ ?_ (fun hHeld => ?_)
    · (try dsimp only)
      (go_split_ands; (repeat' apply And.intro); all_goals (exact below_cell_of (w := w1) (by with_reducible repeat (first | exact Below.refl _ _ | assumption | exact Aside0.out (by assumption) | apply below_alloc | apply below_drew1 | apply pw_below_drewN)) (by assumption)))
    clear hK K
    (try simp only [Act.put, List.setIfInBounds_toArray, List.set_cons_zero, List.set_cons_succ])
    refine wpAnyH_ready (rs := [1, 9, 12]) (by kernel_rfl) (by simp) ?_
    refine AllReadyH.cons (i := 1) (o := _) ((List.getElem?_toArray ..).trans rfl) (fun K hK => ?_) ?_
    · go_simp
      (go_at_call 24; (with_reducible refine (K_rOwn c _ _ _ _ _ _ _ ?_ ?_ ?_ ?_).mono ?_); exact H6.out.below BB.out; exact H7.out.below BB.out; exact HP.out.1; exact HP.out.2; rintro e X ⟨C6, m6, e6, C7, m7, e7, rfl, o6, o7, hb⟩; have O6 := Aside0.mk (o6.from BB.out.size); have O7 := Aside0.mk (o7.from BB.out.size); clear o6 o7; replace BB := Aside0.mk (below_step BB.out hb); clear hb)
      refine hK.out _ _ ?_ (fun hHeld => ?_)
      · (try dsimp only)
        (go_split_ands; (repeat' apply And.intro); all_goals (exact below_cell_of (w := w1) (by with_reducible repeat (first | exact Below.refl _ _ | assumption | exact Aside0.out (by assumption) | apply below_alloc | apply below_drew1 | apply pw_below_drewN)) (by assumption)))
      clear hK K
      (try simp only [Act.put, List.setIfInBounds_toArray, List.set_cons_zero, List.set_cons_succ])
      refine wpAnyH_ready (rs := [5, 9, 12]) (by kernel_rfl) (by simp) ?_
      refine AllReadyH.cons (i := 5) (o := _) ((List.getElem?_toArray ..).trans rfl) (fun K hK => ?_) ?_
      · refine step_append0 (by rfl) (.tmp 5) (.tmp 7) 22 3 rfl Tryz.underlying22 info3 B5 A7 n7 d7 c.ls rfl rfl (H7.out.below BB.out) HL.out.1 HL.out.2 ?_
        intro C8 m8 e8 X o8 o8' hb; have O8 : Aside0 (OI w1 X C8 m8 e8 c.ls) := ⟨OI.from ⟨o8, o8'⟩ BB.out.size⟩; clear o8 o8'; replace O6 := Aside0.mk (O6.out.below hb); replace O7 := Aside0.mk (O7.out.below hb); replace BB := Aside0.mk (below_step BB.out hb); clear hb
        refine hK.out _ _ ?_ (fun hHeld => ?_)
        · (try dsimp only)
          (go_split_ands; (repeat' apply And.intro); all_goals (exact below_cell_of (w := w1) (by with_reducible repeat (first | exact Below.refl _ _ | assumption | exact Aside0.out (by assumption) | apply below_alloc | apply below_drew1 | apply pw_below_drewN)) (by assumption)))
        clear hK K
        (try simp only [Act.put, List.setIfInBounds_toArray, List.set_cons_zero, List.set_cons_succ])
        refine wpAnyH_ready (rs := [9, 12]) (by kernel_rfl) (by simp) ?_
        refine AllReadyH.cons (i := 9) (o := _) ((List.getElem?_toArray ..).trans rfl) (fun K hK => ?_) ?_
        · refine Kd.R_make_step (Kd.int .i64) _ 3 (by rfl) (N := 12) rfl 22 (.tmp 11) (.tmp 11) rfl (n6 : Int) rfl rfl Tryz.underlying22 (.int .i64 0) 8 info3 rfl (by decide) (by decide) 0 (ok := fun _ => True) (okp := fun _ => False) rfl (fun _ h => h.elim) trivial HN.out.1 HN.out.2 (Below.refl _ _) (Nat.le_refl _) ?_
          intro v1 X hR hb _ _; obtain ⟨C9, m9, e9, rfl, o9⟩ := OI.of_R hR; rw [HN6.out] at o9; have O9 := Aside0.mk (o9.from BB.out.size); clear o9 hR; replace O6 := Aside0.mk (O6.out.below hb); replace O7 := Aside0.mk (O7.out.below hb); replace O8 := Aside0.mk (O8.out.below hb); replace BB := Aside0.mk (below_step BB.out hb); clear hb
          refine hK.out _ _ ?_ (fun hHeld => ?_)
          · (try dsimp only)
            (go_split_ands; (repeat' apply And.intro); all_goals (exact below_cell_of (w := w1) (by with_reducible repeat (first | exact Below.refl _ _ | assumption | exact Aside0.out (by assumption) | apply below_alloc | apply below_drew1 | apply pw_below_drewN)) (by assumption)))
          clear hK K
          (try simp only [Act.put, List.setIfInBounds_toArray, List.set_cons_zero, List.set_cons_succ])
          refine wpAnyH_ready (rs := [12]) (by kernel_rfl) (by simp) ?_
          refine AllReadyH.cons (i := 12) (o := _) ((List.getElem?_toArray ..).trans rfl) (fun K hK => ?_) ?_
          · refine Kd.R_make_step k81 _ 81 (by rfl) (N := 15) rfl 59 (.tmp 14) (.tmp 14) rfl c.ti rfl rfl Tryz.underlying59 (.agg #[.int .i64 0, .bool false, .int .i64 0, .int .i64 0]) 32 info81 rfl (by decide) (by decide) ⟨0, false, 0, 0⟩ (ok := fun _ => True) (okp := fun _ => False) (k81_mkM _ _ _ ⟨0, false, 0, 0⟩) (fun _ h => h.elim) trivial HT.out.1 HT.out.2 (Below.refl _ _) (Nat.le_refl _) ?_
            intro v1 X hR hb _ _; obtain ⟨C10, m10, e10, rfl, o10⟩ := OT.of_R hR; have O10 := Aside0.mk (o10.from BB.out.size); clear o10 hR; replace O6 := Aside0.mk (O6.out.below hb); replace O7 := Aside0.mk (O7.out.below hb); replace O8 := Aside0.mk (O8.out.below hb); replace O9 := Aside0.mk (O9.out.below hb); replace BB := Aside0.mk (below_step BB.out hb); clear hb
            refine hK.out _ _ ?_ (fun hHeld => ?_)
            · (try dsimp only)
              (go_split_ands; (repeat' apply And.intro); all_goals (exact below_cell_of (w := w1) (by with_reducible repeat (first | exact Below.refl _ _ | assumption | exact Aside0.out (by assumption) | apply below_alloc | apply below_drew1 | apply pw_below_drewN)) (by assumption)))
            clear hK K
            (try simp only [Act.put, List.setIfInBounds_toArray, List.set_cons_zero, List.set_cons_succ])
            refine wpAnyH_take (i := 13) (oi := _) (v := ?_) ((List.getElem?_toArray ..).trans rfl) (by kernel_rfl) (by kernel_rfl) (by kernel_rfl) (fun _ _ _ h => h) (Or.inl ⟨by rfl, ?_⟩) (by assumption) ?_
            rotate_left
            · (intro w hSw; (try dsimp only at hSw); go_simp; (try with_reducible rfl))
            (try simp only [Act.put, List.setIfInBounds_toArray, List.set_cons_zero, List.set_cons_succ])
            refine wpAnyH_ready (rs := [14]) (by kernel_rfl) (by simp) ?_
            refine AllReadyH.cons (i := 14) (o := _) ((List.getElem?_toArray ..).trans rfl) (fun K hK => ?_) ?_
            · refine box_step (by rfl) rfl (cs := #[.int .i64 c.th, .int .i64 c.st, .int .i64 c.ga, .int .i64 c.le, .int .i64 c.re, .int .i64 c.ti, .slice C6 m6 e6, .slice C7 m7 e7, .slice C8 m8 e8, .slice C9 m9 e9, .slice C10 m10 e10]) (t := 61) (by first | (go_simp; done) | (go_simp; rfl)) ?_
              intro g hg X hbox hb; have HX := Aside0.mk (RAt_new HRR.out HW1.out BB.out.size hg hb hbox O6.out O7.out O8.out O9.out O10.out); have HGE := Aside0.mk (show W.heap.size ≤ g by have h1 := HW1.out; have h2 := BB.out.size; omega); clear hg hbox; replace BB := Aside0.mk (below_step BB.out hb); clear hb O6 O7 O8 O9 O10
              refine hK.out _ _ ?_ (fun hHeld => ?_)
              · (try dsimp only)
                (go_split_ands; (repeat' apply And.intro); all_goals (exact below_cell_of (w := w1) (by with_reducible repeat (first | exact Below.refl _ _ | assumption | exact Aside0.out (by assumption) | apply below_alloc | apply below_drew1 | apply pw_below_drewN)) (by assumption)))
              clear hK K
              (try simp only [Act.put, List.setIfInBounds_toArray, List.set_cons_zero, List.set_cons_succ])
              refine wpAnyH_take (i := 15) (oi := _) (v := ?_) ((List.getElem?_toArray ..).trans rfl) (by kernel_rfl) (by kernel_rfl) (by kernel_rfl) (fun _ _ _ h => h) (Or.inl ⟨by rfl, ?_⟩) (by assumption) ?_
              rotate_left
              · (intro w hSw; (try dsimp only at hSw); go_simp; (try with_reducible rfl))
              (try simp only [Act.put, List.setIfInBounds_toArray, List.set_cons_zero, List.set_cons_succ])
              refine wpAnyH_done (by kernel_rfl) ?_ _
              refine NoPanic.normal ?_
              go_wp2_with (fail)
              go_ret
              exact ⟨g, rfl, HGE.out, HX.out, B1.out.trans (BB.out.mono HW1.out)⟩
            exact AllReadyH.nil
          exact AllReadyH.nil
        refine AllReadyH.cons (i := 12) (o := _) ((List.getElem?_toArray ..).trans rfl) (fun K hK => ?_) ?_
        · refine Kd.R_make_step k81 _ 81 (by rfl) (N := 15) rfl 59 (.tmp 14) (.tmp 14) rfl c.ti rfl rfl Tryz.underlying59 (.agg #[.int .i64 0, .bool false, .int .i64 0, .int .i64 0]) 32 info81 rfl (by decide) (by decide) ⟨0, false, 0, 0⟩ (ok := fun _ => True) (okp := fun _ => False) (k81_mkM _ _ _ ⟨0, false, 0, 0⟩) (fun _ h => h.elim) trivial HT.out.1 HT.out.2 (Below.refl _ _) (Nat.le_refl _) ?_
          intro v1 X hR hb _ _; obtain ⟨C10, m10, e10, rfl, o10⟩ := OT.of_R hR; have O10 := Aside0.mk (o10.from BB.out.size); clear o10 hR; replace O6 := Aside0.mk (O6.out.below hb); replace O7 := Aside0.mk (O7.out.below hb); replace O8 := Aside0.mk (O8.out.below hb); replace BB := Aside0.mk (below_step BB.out hb); clear hb
          refine hK.out _ _ ?_ (fun hHeld => ?_)
          · (try dsimp only)
            (go_split_ands; (repeat' apply And.intro); all_goals (exact below_cell_of (w := w1) (by with_reducible repeat (first | exact Below.refl _ _ | assumption | exact Aside0.out (by assumption) | apply below_alloc | apply below_drew1 | apply pw_below_drewN)) (by assumption)))
          clear hK K
          (try simp only [Act.put, List.setIfInBounds_toArray, List.set_cons_zero, List.set_cons_succ])
          refine wpAnyH_ready (rs := [9]) (by kernel_rfl) (by simp) ?_
          refine AllReadyH.cons (i := 9) (o := _) ((List.getElem?_toArray ..).trans rfl) (fun K hK => ?_) ?_
          · refine Kd.R_make_step (Kd.int .i64) _ 3 (by rfl) (N := 12) rfl 22 (.tmp 11) (.tmp 11) rfl (n6 : Int) rfl rfl Tryz.underlying22 (.int .i64 0) 8 info3 rfl (by decide) (by decide) 0 (ok := fun _ => True) (okp := fun _ => False) rfl (fun _ h => h.elim) trivial HN.out.1 HN.out.2 (Below.refl _ _) (Nat.le_refl _) ?_
            intro v1 X hR hb _ _; obtain ⟨C9, m9, e9, rfl, o9⟩ := OI.of_R hR; rw [HN6.out] at o9; have O9 := Aside0.mk (o9.from BB.out.size); clear o9 hR; replace O6 := Aside0.mk (O6.out.below hb); replace O7 := Aside0.mk (O7.out.below hb); replace O8 := Aside0.mk (O8.out.below hb); replace O10 := Aside0.mk (O10.out.below hb); replace BB := Aside0.mk (below_step BB.out hb); clear hb
            refine hK.out _ _ ?_ (fun hHeld => ?_)
            · (try dsimp only)
              (go_split_ands; (repeat' apply And.intro); all_goals (exact below_cell_of (w := w1) (by with_reducible repeat (first | exact Below.refl _ _ | assumption | exact Aside0.out (by assumption) | apply below_alloc | apply below_drew1 | apply pw_below_drewN)) (by assumption)))
            clear hK K
            (try simp only [Act.put, List.setIfInBounds_toArray, List.set_cons_zero, List.set_cons_succ])
            refine wpAnyH_take (i := 13) (oi := _) (v := ?_) ((List.getElem?_toArray ..).trans rfl) (by kernel_rfl) (by kernel_rfl) (by kernel_rfl) (fun _ _ _ h => h) (Or.inl ⟨by rfl, ?_⟩) (by assumption) ?_
            rotate_left
            · (intro w hSw; (try dsimp only at hSw); go_simp; (try with_reducible rfl))
            (try simp only [Act.put, List.setIfInBounds_toArray, List.set_cons_zero, List.set_cons_succ])
            refine wpAnyH_ready (rs := [14]) (by kernel_rfl) (by simp) ?_
            refine AllReadyH.cons (i := 14) (o := _) ((List.getElem?_toArray ..).trans rfl) (fun K hK => ?_) ?_
            · refine box_step (by rfl) rfl (cs := #[.int .i64 c.th, .int .i64 c.st, .int .i64 c.ga, .int .i64 c.le, .int .i64 c.re, .int .i64 c.ti, .slice C6 m6 e6, .slice C7 m7 e7, .slice C8 m8 e8, .slice C9 m9 e9, .slice C10 m10 e10]) (t := 61) (by first | (go_simp; done) | (go_simp; rfl)) ?_
              intro g hg X hbox hb; have HX := Aside0.mk (RAt_new HRR.out HW1.out BB.out.size hg hb hbox O6.out O7.out O8.out O9.out O10.out); have HGE := Aside0.mk (show W.heap.size ≤ g by have h1 := HW1.out; have h2 := BB.out.size; omega); clear hg hbox; replace BB := Aside0.mk (below_step BB.out hb); clear hb O6 O7 O8 O9 O10
              refine hK.out _ _ ?_ (fun hHeld => ?_)
              · (try dsimp only)
                (go_split_ands; (repeat' apply And.intro); all_goals (exact below_cell_of (w := w1) (by with_reducible repeat (first | exact Below.refl _ _ | assumption | exact Aside0.out (by assumption) | apply below_alloc | apply below_drew1 | apply pw_below_drewN)) (by assumption)))
              clear hK K
              (try simp only [Act.put, List.setIfInBounds_toArray, List.set_cons_zero, List.set_cons_succ])
              refine wpAnyH_take (i := 15) (oi := _) (v := ?_) ((List.getElem?_toArray ..).trans rfl) (by kernel_rfl) (by kernel_rfl) (by kernel_rfl) (fun _ _ _ h => h) (Or.inl ⟨by rfl, ?_⟩) (by assumption) ?_
              rotate_left
              · (intro w hSw; (try dsimp only at hSw); go_simp; (try with_reducible rfl))
              (try simp only [Act.put, List.setIfInBounds_toArray, List.set_cons_zero, List.set_cons_succ])
              refine wpAnyH_done (by kernel_rfl) ?_ _
              refine NoPanic.normal ?_
              go_wp2_with (fail)
              go_ret
              exact ⟨g, rfl, HGE.out, HX.out, B1.out.trans (BB.out.mono HW1.out)⟩
            exact AllReadyH.nil
          exact AllReadyH.nil
        exact AllReadyH.nil
      refine AllReadyH.cons (i := 9) (o := _) ((List.getElem?_toArray ..).trans rfl) (fun K hK => ?_) ?_
      · refine Kd.R_make_step (Kd.int .i64) _ 3 (by rfl) (N := 12) rfl 22 (.tmp 11) (.tmp 11) rfl (n6 : Int) rfl rfl Tryz.underlying22 (.int .i64 0) 8 info3 rfl (by decide) (by decide) 0 (ok := fun _ => True) (okp := fun _ => False) rfl (fun _ h => h.elim) trivial HN.out.1 HN.out.2 (Below.refl _ _) (Nat.le_refl _) ?_
        intro v1 X hR hb _ _; obtain ⟨C9, m9, e9, rfl, o9⟩ := OI.of_R hR; rw [HN6.out] at o9; have O9 := Aside0.mk (o9.from BB.out.size); clear o9 hR; replace O6 := Aside0.mk (O6.out.below hb); replace O7 := Aside0.mk (O7.out.below hb); replace BB := Aside0.mk (below_step BB.out hb); clear hb
        refine hK.out _ _ ?_ (fun hHeld => ?_)
        · (try dsimp only)
          (go_split_ands; (repeat' apply And.intro); all_goals (exact below_cell_of (w := w1) (by with_reducible repeat (first | exact Below.refl _ _ | assumption | exact Aside0.out (by assumption) | apply below_alloc | apply below_drew1 | apply pw_below_drewN)) (by assumption)))
        clear hK K
        (try simp only [Act.put, List.setIfInBounds_toArray, List.set_cons_zero, List.set_cons_succ])
        refine wpAnyH_ready (rs := [5, 12]) (by kernel_rfl) (by simp) ?_
        refine AllReadyH.cons (i := 5) (o := _) ((List.getElem?_toArray ..).trans rfl) (fun K hK => ?_) ?_
        · refine step_append0 (by rfl) (.tmp 5) (.tmp 7) 22 3 rfl Tryz.underlying22 info3 B5 A7 n7 d7 c.ls rfl rfl (H7.out.below BB.out) HL.out.1 HL.out.2 ?_
          intro C8 m8 e8 X o8 o8' hb; have O8 : Aside0 (OI w1 X C8 m8 e8 c.ls) := ⟨OI.from ⟨o8, o8'⟩ BB.out.size⟩; clear o8 o8'; replace O6 := Aside0.mk (O6.out.below hb); replace O7 := Aside0.mk (O7.out.below hb); replace O9 := Aside0.mk (O9.out.below hb); replace BB := Aside0.mk (below_step BB.out hb); clear hb
          refine hK.out _ _ ?_ (fun hHeld => ?_)
          · (try dsimp only)
            (go_split_ands; (repeat' apply And.intro); all_goals (exact below_cell_of (w := w1) (by with_reducible repeat (first | exact Below.refl _ _ | assumption | exact Aside0.out (by assumption) | apply below_alloc | apply below_drew1 | apply pw_below_drewN)) (by assumption)))
          clear hK K
          (try simp only [Act.put, List.setIfInBounds_toArray, List.set_cons_zero, List.set_cons_succ])
          refine wpAnyH_ready (rs := [12]) (by kernel_rfl) (by simp) ?_
          refine AllReadyH.cons (i := 12) (o := _) ((List.getElem?_toArray ..).trans rfl) (fun K hK => ?_) ?_
          · refine Kd.R_make_step k81 _ 81 (by rfl) (N := 15) rfl 59 (.tmp 14) (.tmp 14) rfl c.ti rfl rfl Tryz.underlying59 (.agg #[.int .i64 0, .bool false, .int .i64 0, .int .i64 0]) 32 info81 rfl (by decide) (by decide) ⟨0, false, 0, 0⟩ (ok := fun _ => True) (okp := fun _ => False) (k81_mkM _ _ _ ⟨0, false, 0, 0⟩) (fun _ h => h.elim) trivial HT.out.1 HT.out.2 (Below.refl _ _) (Nat.le_refl _) ?_
            intro v1 X hR hb _ _; obtain ⟨C10, m10, e10, rfl, o10⟩ := OT.of_R hR; have O10 := Aside0.mk (o10.from BB.out.size); clear o10 hR; replace O6 := Aside0.mk (O6.out.below hb); replace O7 := Aside0.mk (O7.out.below hb); replace O8 := Aside0.mk (O8.out.below hb); replace O9 := Aside0.mk (O9.out.below hb); replace BB := Aside0.mk (below_step BB.out hb); clear hb
            refine hK.out _ _ ?_ (fun hHeld => ?_)
            · (try dsimp only)
              (go_split_ands; (repeat' apply And.intro); all_goals (exact below_cell_of (w := w1) (by with_reducible repeat (first | exact Below.refl _ _ | assumption | exact Aside0.out (by assumption) | apply below_alloc | apply below_drew1 | apply pw_below_drewN)) (by assumption)))
            clear hK K
            (try simp only [Act.put, List.setIfInBounds_toArray, List.set_cons_zero, List.set_cons_succ])
            refine wpAnyH_take (i := 13) (oi := _) (v := ?_) ((List.getElem?_toArray ..).trans rfl) (by kernel_rfl) (by kernel_rfl) (by kernel_rfl) (fun _ _ _ h => h) (Or.inl ⟨by rfl, ?_⟩) (by assumption) ?_
            rotate_left
            · (intro w hSw; (try dsimp only at hSw); go_simp; (try with_reducible rfl))
            (try simp only [Act.put, List.setIfInBounds_toArray, List.set_cons_zero, List.set_cons_succ])
            refine wpAnyH_ready (rs := [14]) (by kernel_rfl) (by simp) ?_
            refine AllReadyH.cons (i := 14) (o := _) ((List.getElem?_toArray ..).trans rfl) (fun K hK => ?_) ?_
            · refine box_step (by rfl) rfl (cs := #[.int .i64 c.th, .int .i64 c.st, .int .i64 c.ga, .int .i64 c.le, .int .i64 c.re, .int .i64 c.ti, .slice C6 m6 e6, .slice C7 m7 e7, .slice C8 m8 e8, .slice C9 m9 e9, .slice C10 m10 e10]) (t := 61) (by first | (go_simp; done) | (go_simp; rfl)) ?_
              intro g hg X hbox hb; have HX := Aside0.mk (RAt_new HRR.out HW1.out BB.out.size hg hb hbox O6.out O7.out O8.out O9.out O10.out); have HGE := Aside0.mk (show W.heap.size ≤ g by have h1 := HW1.out; have h2 := BB.out.size; omega); clear hg hbox; replace BB := Aside0.mk (below_step BB.out hb); clear hb O6 O7 O8 O9 O10
              refine hK.out _ _ ?_ (fun hHeld => ?_)
              · (try dsimp only)
                (go_split_ands; (repeat' apply And.intro); all_goals (exact below_cell_of (w := w1) (by with_reducible repeat (first | exact Below.refl _ _ | assumption | exact Aside0.out (by assumption) | apply below_alloc | apply below_drew1 | apply pw_below_drewN)) (by assumption)))
              clear hK K
              (try simp only [Act.put, List.setIfInBounds_toArray, List.set_cons_zero, List.set_cons_succ])
              refine wpAnyH_take (i := 15) (oi := _) (v := ?_) ((List.getElem?_toArray ..).trans rfl) (by kernel_rfl) (by kernel_rfl) (by kernel_rfl) (fun _ _ _ h => h) (Or.inl ⟨by rfl, ?_⟩) (by assumption) ?_
              rotate_left
              · (intro w hSw; (try dsimp only at hSw); go_simp; (try with_reducible rfl))
              (try simp only [Act.put, List.setIfInBounds_toArray, List.set_cons_zero, List.set_cons_succ])
              refine wpAnyH_done (by kernel_rfl) ?_ _
              refine NoPanic.normal ?_
              go_wp2_with (fail)
              go_ret
              exact ⟨g, rfl, HGE.out, HX.out, B1.out.trans (BB.out.mono HW1.out)⟩
            exact AllReadyH.nil
          exact AllReadyH.nil
        refine AllReadyH.cons (i := 12) (o := _) ((List.getElem?_toArray ..).trans rfl) (fun K hK => ?_) ?_
        · refine Kd.R_make_step k81 _ 81 (by rfl) (N := 15) rfl 59 (.tmp 14) (.tmp 14) rfl c.ti rfl rfl Tryz.underlying59 (.agg #[.int .i64 0, .bool false, .int .i64 0, .int .i64 0]) 32 info81 rfl (by decide) (by decide) ⟨0, false, 0, 0⟩ (ok := fun _ => True) (okp := fun _ => False) (k81_mkM _ _ _ ⟨0, false, 0, 0⟩) (fun _ h => h.elim) trivial HT.out.1 HT.out.2 (Below.refl _ _) (Nat.le_refl _) ?_
          intro v1 X hR hb _ _; obtain ⟨C10, m10, e10, rfl, o10⟩ := OT.of_R hR; have O10 := Aside0.mk (o10.from BB.out.size); clear o10 hR; replace O6 := Aside0.mk (O6.out.below hb); replace O7 := Aside0.mk (O7.out.below hb); replace O9 := Aside0.mk (O9.out.below hb); replace BB := Aside0.mk (below_step BB.out hb); clear hb
          refine hK.out _ _ ?_ (fun hHeld => ?_)
          · (try dsimp only)
            (go_split_ands; (repeat' apply And.intro); all_goals (exact below_cell_of (w := w1) (by with_reducible repeat (first | exact Below.refl _ _ | assumption | exact Aside0.out (by assumption) | apply below_alloc | apply below_drew1 | apply pw_below_drewN)) (by assumption)))
          clear hK K
          (try simp only [Act.put, List.setIfInBounds_toArray, List.set_cons_zero, List.set_cons_succ])
          refine wpAnyH_ready (rs := [5]) (by kernel_rfl) (by simp) ?_
          refine AllReadyH.cons (i := 5) (o := _) ((List.getElem?_toArray ..).trans rfl) (fun K hK => ?_) ?_
          · refine step_append0 (by rfl) (.tmp 5) (.tmp 7) 22 3 rfl Tryz.underlying22 info3 B5 A7 n7 d7 c.ls rfl rfl (H7.out.below BB.out) HL.out.1 HL.out.2 ?_
            intro C8 m8 e8 X o8 o8' hb; have O8 : Aside0 (OI w1 X C8 m8 e8 c.ls) := ⟨OI.from ⟨o8, o8'⟩ BB.out.size⟩; clear o8 o8'; replace O6 := Aside0.mk (O6.out.below hb); replace O7 := Aside0.mk (O7.out.below hb); replace O9 := Aside0.mk (O9.out.below hb); replace O10 := Aside0.mk (O10.out.below hb); replace BB := Aside0.mk (below_step BB.out hb); clear hb
            refine hK.out _ _ ?_ (fun hHeld => ?_)
            · (try dsimp only)
              (go_split_ands; (repeat' apply And.intro); all_goals (exact below_cell_of (w := w1) (by with_reducible repeat (first | exact Below.refl _ _ | assumption | exact Aside0.out (by assumption) | apply below_alloc | apply below_drew1 | apply pw_below_drewN)) (by assumption)))
            clear hK K
            (try simp only [Act.put, List.setIfInBounds_toArray, List.set_cons_zero, List.set_cons_succ])
            refine wpAnyH_take (i := 13) (oi := _) (v := ?_) ((List.getElem?_toArray ..).trans rfl) (by kernel_rfl) (by kernel_rfl) (by kernel_rfl) (fun _ _ _ h => h) (Or.inl ⟨by rfl, ?_⟩) (by assumption) ?_
            rotate_left
            · (intro w hSw; (try dsimp only at hSw); go_simp; (try with_reducible rfl))
            (try simp only [Act.put, List.setIfInBounds_toArray, List.set_cons_zero, List.set_cons_succ])
            refine wpAnyH_ready (rs := [14]) (by kernel_rfl) (by simp) ?_
            refine AllReadyH.cons (i := 14) (o := _) ((List.getElem?_toArray ..).trans rfl) (fun K hK => ?_) ?_
            · refine box_step (by rfl) rfl (cs := #[.int .i64 c.th, .int .i64 c.st, .int .i64 c.ga, .int .i64 c.le, .int .i64 c.re, .int .i64 c.ti, .slice C6 m6 e6, .slice C7 m7 e7, .slice C8 m8 e8, .slice C9 m9 e9, .slice C10 m10 e10]) (t := 61) (by first | (go_simp; done) | (go_simp; rfl)) ?_
              intro g hg X hbox hb; have HX := Aside0.mk (RAt_new HRR.out HW1.out BB.out.size hg hb hbox O6.out O7.out O8.out O9.out O10.out); have HGE := Aside0.mk (show W.heap.size ≤ g by have h1 := HW1.out; have h2 := BB.out.size; omega); clear hg hbox; replace BB := Aside0.mk (below_step BB.out hb); clear hb O6 O7 O8 O9 O10
              refine hK.out _ _ ?_ (fun hHeld => ?_)
              · (try dsimp only)
                (go_split_ands; (repeat' apply And.intro); all_goals (exact below_cell_of (w := w1) (by with_reducible repeat (first | exact Below.refl _ _ | assumption | exact Aside0.out (by assumption) | apply below_alloc | apply below_drew1 | apply pw_below_drewN)) (by assumption)))
              clear hK K
              (try simp only [Act.put, List.setIfInBounds_toArray, List.set_cons_zero, List.set_cons_succ])
              refine wpAnyH_take (i := 15) (oi := _) (v := ?_) ((List.getElem?_toArray ..).trans rfl) (by kernel_rfl) (by kernel_rfl) (by kernel_rfl) (fun _ _ _ h => h) (Or.inl ⟨by rfl, ?_⟩) (by assumption) ?_
              rotate_left
              · (intro w hSw; (try dsimp only at hSw); go_simp; (try with_reducible rfl))
              (try simp only [Act.put, List.setIfInBounds_toArray, List.set_cons_zero, List.set_cons_succ])
              refine wpAnyH_done (by kernel_rfl) ?_ _
              refine NoPanic.normal ?_
              go_wp2_with (fail)
              go_ret
              exact ⟨g, rfl, HGE.out, HX.out, B1.out.trans (BB.out.mono HW1.out)⟩
            exact AllReadyH.nil
          exact AllReadyH.nil
        exact AllReadyH.nil
      refine AllReadyH.cons (i := 12) (o := _) ((List.getElem?_toArray ..).trans rfl) (fun K hK => ?_) ?_
      · refine Kd.R_make_step k81 _ 81 (by rfl) (N := 15) rfl 59 (.tmp 14) (.tmp 14) rfl c.ti rfl rfl Tryz.underlying59 (.agg #[.int .i64 0, .bool false, .int .i64 0, .int .i64 0]) 32 info81 rfl (by decide) (by decide) ⟨0, false, 0, 0⟩ (ok := fun _ => True) (okp := fun _ => False) (k81_mkM _ _ _ ⟨0, false, 0, 0⟩) (fun _ h => h.elim) trivial HT.out.1 HT.out.2 (Below.refl _ _) (Nat.le_refl _) ?_
        intro v1 X hR hb _ _; obtain ⟨C10, m10, e10, rfl, o10⟩ := OT.of_R hR; have O10 := Aside0.mk (o10.from BB.out.size); clear o10 hR; replace O6 := Aside0.mk (O6.out.below hb); replace O7 := Aside0.mk (O7.out.below hb); replace BB := Aside0.mk (below_step BB.out hb); clear hb
        refine hK.out _ _ ?_ (fun hHeld => ?_)
        · (try dsimp only)
          (go_split_ands; (repeat' apply And.intro); all_goals (exact below_cell_of (w := w1) (by with_reducible repeat (first | exact Below.refl _ _ | assumption | exact Aside0.out (by assumption) | apply below_alloc | apply below_drew1 | apply pw_below_drewN)) (by assumption)))
        clear hK K
        (try simp only [Act.put, List.setIfInBounds_toArray, List.set_cons_zero, List.set_cons_succ])
        refine wpAnyH_ready (rs := [5, 9]) (by kernel_rfl) (by simp) ?_
        refine AllReadyH.cons (i := 5) (o := _) ((List.getElem?_toArray ..).trans rfl) (fun K hK => ?_) ?_
        · refine step_append0 (by rfl) (.tmp 5) (.tmp 7) 22 3 rfl Tryz.underlying22 info3 B5 A7 n7 d7 c.ls rfl rfl (H7.out.below BB.out) HL.out.1 HL.out.2 ?_
          intro C8 m8 e8 X o8 o8' hb; have O8 : Aside0 (OI w1 X C8 m8 e8 c.ls) := ⟨OI.from ⟨o8, o8'⟩ BB.out.size⟩; clear o8 o8'; replace O6 := Aside0.mk (O6.out.below hb); replace O7 := Aside0.mk (O7.out.below hb); replace O10 := Aside0.mk (O10.out.below hb); replace BB := Aside0.mk (below_step BB.out hb); clear hb
          refine hK.out _ _ ?_ (fun hHeld => ?_)
          · (try dsimp only)
            (go_split_ands; (repeat' apply And.intro); all_goals (exact below_cell_of (w := w1) (by with_reducible repeat (first | exact Below.refl _ _ | assumption | exact Aside0.out (by assumption) | apply below_alloc | apply below_drew1 | apply pw_below_drewN)) (by assumption)))
          clear hK K
          (try simp only [Act.put, List.setIfInBounds_toArray, List.set_cons_zero, List.set_cons_succ])
          refine wpAnyH_ready (rs := [9]) (by kernel_rfl) (by simp) ?_
          refine AllReadyH.cons (i := 9) (o := _) ((List.getElem?_toArray ..).trans rfl) (fun K hK => ?_) ?_
          · refine Kd.R_make_step (Kd.int .i64) _ 3 (by rfl) (N := 12) rfl 22 (.tmp 11) (.tmp 11) rfl (n6 : Int) rfl rfl Tryz.underlying22 (.int .i64 0) 8 info3 rfl (by decide) (by decide) 0 (ok := fun _ => True) (okp := fun _ => False) rfl (fun _ h => h.elim) trivial HN.out.1 HN.out.2 (Below.refl _ _) (Nat.le_refl _) ?_
            intro v1 X hR hb _ _; obtain ⟨C9, m9, e9, rfl, o9⟩ := OI.of_R hR; rw [HN6.out] at o9; have O9 := Aside0.mk (o9.from BB.out.size); clear o9 hR; replace O6 := Aside0.mk (O6.out.below hb); replace O7 := Aside0.mk (O7.out.below hb); replace O8 := Aside0.mk (O8.out.below hb); replace O10 := Aside0.mk (O10.out.below hb); replace BB := Aside0.mk (below_step BB.out hb); clear hb
            refine hK.out _ _ ?_ (fun hHeld => ?_)
            · (try dsimp only)
              (go_split_ands; (repeat' apply And.intro); all_goals (exact below_cell_of (w := w1) (by with_reducible repeat (first | exact Below.refl _ _ | assumption | exact Aside0.out (by assumption) | apply below_alloc | apply below_drew1 | apply pw_below_drewN)) (by assumption)))
            clear hK K
            (try simp only [Act.put, List.setIfInBounds_toArray, List.set_cons_zero, List.set_cons_succ])
            refine wpAnyH_take (i := 13) (oi := _) (v := ?_) ((List.getElem?_toArray ..).trans rfl) (by kernel_rfl) (by kernel_rfl) (by kernel_rfl) (fun _ _ _ h => h) (Or.inl ⟨by rfl, ?_⟩) (by assumption) ?_
            rotate_left
            · (intro w hSw; (try dsimp only at hSw); go_simp; (try with_reducible rfl))
            (try simp only [Act.put, List.setIfInBounds_toArray, List.set_cons_zero, List.set_cons_succ])
            refine wpAnyH_ready (rs := [14]) (by kernel_rfl) (by simp) ?_
            refine AllReadyH.cons (i := 14) (o := _) ((List.getElem?_toArray ..).trans rfl) (fun K hK => ?_) ?_
            · refine box_step (by rfl) rfl (cs := #[.int .i64 c.th, .int .i64 c.st, .int .i64 c.ga, .int .i64 c.le, .int .i64 c.re, .int .i64 c.ti, .slice C6 m6 e6, .slice C7 m7 e7, .slice C8 m8 e8, .slice C9 m9 e9, .slice C10 m10 e10]) (t := 61) (by first | (go_simp; done) | (go_simp; rfl)) ?_
              intro g hg X hbox hb; have HX := Aside0.mk (RAt_new HRR.out HW1.out BB.out.size hg hb hbox O6.out O7.out O8.out O9.out O10.out); have HGE := Aside0.mk (show W.heap.size ≤ g by have h1 := HW1.out; have h2 := BB.out.size; omega); clear hg hbox; replace BB := Aside0.mk (below_step BB.out hb); clear hb O6 O7 O8 O9 O10
              refine hK.out _ _ ?_ (fun hHeld => ?_)
              · (try dsimp only)
                (go_split_ands; (repeat' apply And.intro); all_goals (exact below_cell_of (w := w1) (by with_reducible repeat (first | exact Below.refl _ _ | assumption | exact Aside0.out (by assumption) | apply below_alloc | apply below_drew1 | apply pw_below_drewN)) (by assumption)))
              clear hK K
              (try simp only [Act.put, List.setIfInBounds_toArray, List.set_cons_zero, List.set_cons_succ])
              refine wpAnyH_take (i := 15) (oi := _) (v := ?_) ((List.getElem?_toArray ..).trans rfl) (by kernel_rfl) (by kernel_rfl) (by kernel_rfl) (fun _ _ _ h => h) (Or.inl ⟨by rfl, ?_⟩) (by assumption) ?_
              rotate_left
              · (intro w hSw; (try dsimp only at hSw); go_simp; (try with_reducible rfl))
              (try simp only [Act.put, List.setIfInBounds_toArray, List.set_cons_zero, List.set_cons_succ])
              refine wpAnyH_done (by kernel_rfl) ?_ _
              refine NoPanic.normal ?_
              go_wp2_with (fail)
              go_ret
              exact ⟨g, rfl, HGE.out, HX.out, B1.out.trans (BB.out.mono HW1.out)⟩
            exact AllReadyH.nil
          exact AllReadyH.nil
        refine AllReadyH.cons (i := 9) (o := _) ((List.getElem?_toArray ..).trans rfl) (fun K hK => ?_) ?_
        · refine Kd.R_make_step (Kd.int .i64) _ 3 (by rfl) (N := 12) rfl 22 (.tmp 11) (.tmp 11) rfl (n6 : Int) rfl rfl Tryz.underlying22 (.int .i64 0) 8 info3 rfl (by decide) (by decide) 0 (ok := fun _ => True) (okp := fun _ => False) rfl (fun _ h => h.elim) trivial HN.out.1 HN.out.2 (Below.refl _ _) (Nat.le_refl _) ?_
          intro v1 X hR hb _ _; obtain ⟨C9, m9, e9, rfl, o9⟩ := OI.of_R hR; rw [HN6.out] at o9; have O9 := Aside0.mk (o9.from BB.out.size); clear o9 hR; replace O6 := Aside0.mk (O6.out.below hb); replace O7 := Aside0.mk (O7.out.below hb); replace O10 := Aside0.mk (O10.out.below hb); replace BB := Aside0.mk (below_step BB.out hb); clear hb
          refine hK.out _ _ ?_ (fun hHeld => ?_)
          · (try dsimp only)
            (go_split_ands; (repeat' apply And.intro); all_goals (exact below_cell_of (w := w1) (by with_reducible repeat (first | exact Below.refl _ _ | assumption | exact Aside0.out (by assumption) | apply below_alloc | apply below_drew1 | apply pw_below_drewN)) (by assumption)))
          clear hK K
          (try simp only [Act.put, List.setIfInBounds_toArray, List.set_cons_zero, List.set_cons_succ])
          refine wpAnyH_ready (rs := [5]) (by kernel_rfl) (by simp) ?_
          refine AllReadyH.cons (i := 5) (o := _) ((List.getElem?_toArray ..).trans rfl) (fun K hK => ?_) ?_
          · refine step_append0 (by rfl) (.tmp 5) (.tmp 7) 22 3 rfl Tryz.underlying22 info3 B5 A7 n7 d7 c.ls rfl rfl (H7.out.below BB.out) HL.out.1 HL.out.2 ?_
            intro C8 m8 e8 X o8 o8' hb; have O8 : Aside0 (OI w1 X C8 m8 e8 c.ls) := ⟨OI.from ⟨o8, o8'⟩ BB.out.size⟩; clear o8 o8'; replace O6 := Aside0.mk (O6.out.below hb); replace O7 := Aside0.mk (O7.out.below hb); replace O9 := Aside0.mk (O9.out.below hb); replace O10 := Aside0.mk (O10.out.below hb); replace BB := Aside0.mk (below_step BB.out hb); clear hb
            refine hK.out _ _ ?_ (fun hHeld => ?_)
            · (try dsimp only)
              (go_split_ands; (repeat' apply And.intro); all_goals (exact below_cell_of (w := w1) (by with_reducible repeat (first | exact Below.refl _ _ | assumption | exact Aside0.out (by assumption) | apply below_alloc | apply below_drew1 | apply pw_below_drewN)) (by assumption)))
            clear hK K
            (try simp only [Act.put, List.setIfInBounds_toArray, List.set_cons_zero, List.set_cons_succ])
            refine wpAnyH_take (i := 13) (oi := _) (v := ?_) ((List.getElem?_toArray ..).trans rfl) (by kernel_rfl) (by kernel_rfl) (by kernel_rfl) (fun _ _ _ h => h) (Or.inl ⟨by rfl, ?_⟩) (by assumption) ?_
            rotate_left
            · (intro w hSw; (try dsimp only at hSw); go_simp; (try with_reducible rfl))
            (try simp only [Act.put, List.setIfInBounds_toArray, List.set_cons_zero, List.set_cons_succ])
            refine wpAnyH_ready (rs := [14]) (by kernel_rfl) (by simp) ?_
            refine AllReadyH.cons (i := 14) (o := _) ((List.getElem?_toArray ..).trans rfl) (fun K hK => ?_) ?_
            · refine box_step (by rfl) rfl (cs := #[.int .i64 c.th, .int .i64 c.st, .int .i64 c.ga, .int .i64 c.le, .int .i64 c.re, .int .i64 c.ti, .slice C6 m6 e6, .slice C7 m7 e7, .slice C8 m8 e8, .slice C9 m9 e9, .slice C10 m10 e10]) (t := 61) (by first | (go_simp; done) | (go_simp; rfl)) ?_
              intro g hg X hbox hb; have HX := Aside0.mk (RAt_new HRR.out HW1.out BB.out.size hg hb hbox O6.out O7.out O8.out O9.out O10.out); have HGE := Aside0.mk (show W.heap.size ≤ g by have h1 := HW1.out; have h2 := BB.out.size; omega); clear hg hbox; replace BB := Aside0.mk (below_step BB.out hb); clear hb O6 O7 O8 O9 O10
              refine hK.out _ _ ?_ (fun hHeld => ?_)
              · (try dsimp only)
                (go_split_ands; (repeat' apply And.intro); all_goals (exact below_cell_of (w := w1) (by with_reducible repeat (first | exact Below.refl _ _ | assumption | exact Aside0.out (by assumption) | apply below_alloc | apply below_drew1 | apply pw_below_drewN)) (by assumption)))
              clear hK K
              (try simp only [Act.put, List.setIfInBounds_toArray, List.set_cons_zero, List.set_cons_succ])
              refine wpAnyH_take (i := 15) (oi := _) (v := ?_) ((List.getElem?_toArray ..).trans rfl) (by kernel_rfl) (by kernel_rfl) (by kernel_rfl) (fun _ _ _ h => h) (Or.inl ⟨by rfl, ?_⟩) (by assumption) ?_
              rotate_left
              · (intro w hSw; (try dsimp only at hSw); go_simp; (try with_reducible rfl))
              (try simp only [Act.put, List.setIfInBounds_toArray, List.set_cons_zero, List.set_cons_succ])
              refine wpAnyH_done (by kernel_rfl) ?_ _
              refine NoPanic.normal ?_
              go_wp2_with (fail)
              go_ret
              exact ⟨g, rfl, HGE.out, HX.out, B1.out.trans (BB.out.mono HW1.out)⟩
            exact AllReadyH.nil
          exact AllReadyH.nil
        exact AllReadyH.nil
      exact AllReadyH.nil
    refine AllReadyH.cons (i := 9) (o := _) ((List.getElem?_toArray ..).trans rfl) (fun K hK => ?_) ?_
    · refine Kd.R_make_step (Kd.int .i64) _ 3 (by rfl) (N := 12) rfl 22 (.tmp 11) (.tmp 11) rfl (n6 : Int) rfl rfl Tryz.underlying22 (.int .i64 0) 8 info3 rfl (by decide) (by decide) 0 (ok := fun _ => True) (okp := fun _ => False) rfl (fun _ h => h.elim) trivial HN.out.1 HN.out.2 (Below.refl _ _) (Nat.le_refl _) ?_
      intro v1 X hR hb _ _; obtain ⟨C9, m9, e9, rfl, o9⟩ := OI.of_R hR; rw [HN6.out] at o9; have O9 := Aside0.mk (o9.from BB.out.size); clear o9 hR; replace BB := Aside0.mk (below_step BB.out hb); clear hb
      refine hK.out _ _ ?_ (fun hHeld => ?_)
      · (try dsimp only)
        (go_split_ands; (repeat' apply And.intro); all_goals (exact below_cell_of (w := w1) (by with_reducible repeat (first | exact Below.refl _ _ | assumption | exact Aside0.out (by assumption) | apply below_alloc | apply below_drew1 | apply pw_below_drewN)) (by assumption)))
      clear hK K
      (try simp only [Act.put, List.setIfInBounds_toArray, List.set_cons_zero, List.set_cons_succ])
      refine wpAnyH_ready (rs := [1, 12]) (by kernel_rfl) (by simp) ?_
      refine AllReadyH.cons (i := 1) (o := _) ((List.getElem?_toArray ..).trans rfl) (fun K hK => ?_) ?_
      · go_simp
        (go_at_call 24; (with_reducible refine (K_rOwn c _ _ _ _ _ _ _ ?_ ?_ ?_ ?_).mono ?_); exact H6.out.below BB.out; exact H7.out.below BB.out; exact HP.out.1; exact HP.out.2; rintro e X ⟨C6, m6, e6, C7, m7, e7, rfl, o6, o7, hb⟩; have O6 := Aside0.mk (o6.from BB.out.size); have O7 := Aside0.mk (o7.from BB.out.size); clear o6 o7; replace O9 := Aside0.mk (O9.out.below hb); replace BB := Aside0.mk (below_step BB.out hb); clear hb)
        refine hK.out _ _ ?_ (fun hHeld => ?_)
        · (try dsimp only)
          (go_split_ands; (repeat' apply And.intro); all_goals (exact below_cell_of (w := w1) (by with_reducible repeat (first | exact Below.refl _ _ | assumption | exact Aside0.out (by assumption) | apply below_alloc | apply below_drew1 | apply pw_below_drewN)) (by assumption)))
        clear hK K
        (try simp only [Act.put, List.setIfInBounds_toArray, List.set_cons_zero, List.set_cons_succ])
        refine wpAnyH_ready (rs := [5, 12]) (by kernel_rfl) (by simp) ?_
        refine AllReadyH.cons (i := 5) (o := _) ((List.getElem?_toArray ..).trans rfl) (fun K hK => ?_) ?_
        · refine step_append0 (by rfl) (.tmp 5) (.tmp 7) 22 3 rfl Tryz.underlying22 info3 B5 A7 n7 d7 c.ls rfl rfl (H7.out.below BB.out) HL.out.1 HL.out.2 ?_
          intro C8 m8 e8 X o8 o8' hb; have O8 : Aside0 (OI w1 X C8 m8 e8 c.ls) := ⟨OI.from ⟨o8, o8'⟩ BB.out.size⟩; clear o8 o8'; replace O6 := Aside0.mk (O6.out.below hb); replace O7 := Aside0.mk (O7.out.below hb); replace O9 := Aside0.mk (O9.out.below hb); replace BB := Aside0.mk (below_step BB.out hb); clear hb
          refine hK.out _ _ ?_ (fun hHeld => ?_)
          · (try dsimp only)
            (go_split_ands; (repeat' apply And.intro); all_goals (exact below_cell_of (w := w1) (by with_reducible repeat (first | exact Below.refl _ _ | assumption | exact Aside0.out (by assumption) | apply below_alloc | apply below_drew1 | apply pw_below_drewN)) (by assumption)))
          clear hK K
          (try simp only [Act.put, List.setIfInBounds_toArray, List.set_cons_zero, List.set_cons_succ])
          refine wpAnyH_ready (rs := [12]) (by kernel_rfl) (by simp) ?_
          refine AllReadyH.cons (i := 12) (o := _) ((List.getElem?_toArray ..).trans rfl) (fun K hK => ?_) ?_
          · refine Kd.R_make_step k81 _ 81 (by rfl) (N := 15) rfl 59 (.tmp 14) (.tmp 14) rfl c.ti rfl rfl Tryz.underlying59 (.agg #[.int .i64 0, .bool false, .int .i64 0, .int .i64 0]) 32 info81 rfl (by decide) (by decide) ⟨0, false, 0, 0⟩ (ok := fun _ => True) (okp := fun _ => False) (k81_mkM _ _ _ ⟨0, false, 0, 0⟩) (fun _ h => h.elim) trivial HT.out.1 HT.out.2 (Below.refl _ _) (Nat.le_refl _) ?_
            intro v1 X hR hb _ _; obtain ⟨C10, m10, e10, rfl, o10⟩ := OT.of_R hR; have O10 := Aside0.mk (o10.from BB.out.size); clear o10 hR; replace O6 := Aside0.mk (O6.out.below hb); replace O7 := Aside0.mk (O7.out.below hb); replace O8 := Aside0.mk (O8.out.below hb); replace O9 := Aside0.mk (O9.out.below hb); replace BB := Aside0.mk (below_step BB.out hb); clear hb
            refine hK.out _ _ ?_ (fun hHeld => ?_)
            · (try dsimp only)
              (go_split_ands; (repeat' apply And.intro); all_goals (exact below_cell_of (w := w1) (by with_reducible repeat (first | exact Below.refl _ _ | assumption | exact Aside0.out (by assumption) | apply below_alloc | apply below_drew1 | apply pw_below_drewN)) (by assumption)))
            clear hK K
            (try simp only [Act.put, List.setIfInBounds_toArray, List.set_cons_zero, List.set_cons_succ])
            refine wpAnyH_take (i := 13) (oi := _) (v := ?_) ((List.getElem?_toArray ..).trans rfl) (by kernel_rfl) (by kernel_rfl) (by kernel_rfl) (fun _ _ _ h => h) (Or.inl ⟨by rfl, ?_⟩) (by assumption) ?_
            rotate_left
            · (intro w hSw; (try dsimp only at hSw); go_simp; (try with_reducible rfl))
            (try simp only [Act.put, List.setIfInBounds_toArray, List.set_cons_zero, List.set_cons_succ])
            refine wpAnyH_ready (rs := [14]) (by kernel_rfl) (by simp) ?_
            refine AllReadyH.cons (i := 14) (o := _) ((List.getElem?_toArray ..).trans rfl) (fun K hK => ?_) ?_
            · refine box_step (by rfl) rfl (cs := #[.int .i64 c.th, .int .i64 c.st, .int .i64 c.ga, .int .i64 c.le, .int .i64 c.re, .int .i64 c.ti, .slice C6 m6 e6, .slice C7 m7 e7, .slice C8 m8 e8, .slice C9 m9 e9, .slice C10 m10 e10]) (t := 61) (by first | (go_simp; done) | (go_simp; rfl)) ?_
              intro g hg X hbox hb; have HX := Aside0.mk (RAt_new HRR.out HW1.out BB.out.size hg hb hbox O6.out O7.out O8.out O9.out O10.out); have HGE := Aside0.mk (show W.heap.size ≤ g by have h1 := HW1.out; have h2 := BB.out.size; omega); clear hg hbox; replace BB := Aside0.mk (below_step BB.out hb); clear hb O6 O7 O8 O9 O10
              refine hK.out _ _ ?_ (fun hHeld => ?_)
              · (try dsimp only)
                (go_split_ands; (repeat' apply And.intro); all_goals (exact below_cell_of (w := w1) (by with_reducible repeat (first | exact Below.refl _ _ | assumption | exact Aside0.out (by assumption) | apply below_alloc | apply below_drew1 | apply pw_below_drewN)) (by assumption)))
              clear hK K
              (try simp only [Act.put, List.setIfInBounds_toArray, List.set_cons_zero, List.set_cons_succ])
              refine wpAnyH_take (i := 15) (oi := _) (v := ?_) ((List.getElem?_toArray ..).trans rfl) (by kernel_rfl) (by kernel_rfl) (by kernel_rfl) (fun _ _ _ h => h) (Or.inl ⟨by rfl, ?_⟩) (by assumption) ?_
              rotate_left
              · (intro w hSw; (try dsimp only at hSw); go_simp; (try with_reducible rfl))
              (try simp only [Act.put, List.setIfInBounds_toArray, List.set_cons_zero, List.set_cons_succ])
              refine wpAnyH_done (by kernel_rfl) ?_ _
              refine NoPanic.normal ?_
              go_wp2_with (fail)
              go_ret
              exact ⟨g, rfl, HGE.out, HX.out, B1.out.trans (BB.out.mono HW1.out)⟩
            exact AllReadyH.nil
          exact AllReadyH.nil
        refine AllReadyH.cons (i := 12) (o := _) ((List.getElem?_toArray ..).trans rfl) (fun K hK => ?_) ?_
        · refine Kd.R_make_step k81 _ 81 (by rfl) (N := 15) rfl 59 (.tmp 14) (.tmp 14) rfl c.ti rfl rfl Tryz.underlying59 (.agg #[.int .i64 0, .bool false, .int .i64 0, .int .i64 0]) 32 info81 rfl (by decide) (by decide) ⟨0, false, 0, 0⟩ (ok := fun _ => True) (okp := fun _ => False) (k81_mkM _ _ _ ⟨0, false, 0, 0⟩) (fun _ h => h.elim) trivial HT.out.1 HT.out.2 (Below.refl _ _) (Nat.le_refl _) ?_
          intro v1 X hR hb _ _; obtain ⟨C10, m10, e10, rfl, o10⟩ := OT.of_R hR; have O10 := Aside0.mk (o10.from BB.out.size); clear o10 hR; replace O6 := Aside0.mk (O6.out.below hb); replace O7 := Aside0.mk (O7.out.below hb); replace O9 := Aside0.mk (O9.out.below hb); replace BB := Aside0.mk (below_step BB.out hb); clear hb
          refine hK.out _ _ ?_ (fun hHeld => ?_)
          · (try dsimp only)
            (go_split_ands; (repeat' apply And.intro); all_goals (exact below_cell_of (w := w1) (by with_reducible repeat (first | exact Below.refl _ _ | assumption | exact Aside0.out (by assumption) | apply below_alloc | apply below_drew1 | apply pw_below_drewN)) (by assumption)))
          clear hK K
          (try simp only [Act.put, List.setIfInBounds_toArray, List.set_cons_zero, List.set_cons_succ])
          refine wpAnyH_ready (rs := [5]) (by kernel_rfl) (by simp) ?_
          refine AllReadyH.cons (i := 5) (o := _) ((List.getElem?_toArray ..).trans rfl) (fun K hK => ?_) ?_
          · refine step_append0 (by rfl) (.tmp 5) (.tmp 7) 22 3 rfl Tryz.underlying22 info3 B5 A7 n7 d7 c.ls rfl rfl (H7.out.below BB.out) HL.out.1 HL.out.2 ?_
            intro C8 m8 e8 X o8 o8' hb; have O8 : Aside0 (OI w1 X C8 m8 e8 c.ls) := ⟨OI.from ⟨o8, o8'⟩ BB.out.size⟩; clear o8 o8'; replace O6 := Aside0.mk (O6.out.below hb); replace O7 := Aside0.mk (O7.out.below hb); replace O9 := Aside0.mk (O9.out.below hb); replace O10 := Aside0.mk (O10.out.below hb); replace BB := Aside0.mk (below_step BB.out hb); clear hb
            refine hK.out _ _ ?_ (fun hHeld => ?_)
            · (try dsimp only)
              (go_split_ands; (repeat' apply And.intro); all_goals (exact below_cell_of (w := w1) (by with_reducible repeat (first | exact Below.refl _ _ | assumption | exact Aside0.out (by assumption) | apply below_alloc | apply below_drew1 | apply pw_below_drewN)) (by assumption)))
            clear hK K
            (try simp only [Act.put, List.setIfInBounds_toArray, List.set_cons_zero, List.set_cons_succ])
            refine wpAnyH_take (i := 13) (oi := _) (v := ?_) ((List.getElem?_toArray ..).trans rfl) (by kernel_rfl) (by kernel_rfl) (by kernel_rfl) (fun _ _ _ h => h) (Or.inl ⟨by rfl, ?_⟩) (by assumption) ?_
            rotate_left
            · (intro w hSw; (try dsimp only at hSw); go_simp; (try with_reducible rfl))
            (try simp only [Act.put, List.setIfInBounds_toArray, List.set_cons_zero, List.set_cons_succ])
            refine wpAnyH_ready (rs := [14]) (by kernel_rfl) (by simp) ?_
            refine AllReadyH.cons (i := 14) (o := _) ((List.getElem?_toArray ..).trans rfl) (fun K hK => ?_) ?_
            · refine box_step (by rfl) rfl (cs := #[.int .i64 c.th, .int .i64 c.st, .int .i64 c.ga, .int .i64 c.le, .int .i64 c.re, .int .i64 c.ti, .slice C6 m6 e6, .slice C7 m7 e7, .slice C8 m8 e8, .slice C9 m9 e9, .slice C10 m10 e10]) (t := 61) (by first | (go_simp; done) | (go_simp; rfl)) ?_
              intro g hg X hbox hb; have HX := Aside0.mk (RAt_new HRR.out HW1.out BB.out.size hg hb hbox O6.out O7.out O8.out O9.out O10.out); have HGE := Aside0.mk (show W.heap.size ≤ g by have h1 := HW1.out; have h2 := BB.out.size; omega); clear hg hbox; replace BB := Aside0.mk (below_step BB.out hb); clear hb O6 O7 O8 O9 O10
              refine hK.out _ _ ?_ (fun hHeld => ?_)
              · (try dsimp only)
                (go_split_ands; (repeat' apply And.intro); all_goals (exact below_cell_of (w := w1) (by with_reducible repeat (first | exact Below.refl _ _ | assumption | exact Aside0.out (by assumption) | apply below_alloc | apply below_drew1 | apply pw_below_drewN)) (by assumption)))
              clear hK K
              (try simp only [Act.put, List.setIfInBounds_toArray, List.set_cons_zero, List.set_cons_succ])
              refine wpAnyH_take (i := 15) (oi := _) (v := ?_) ((List.getElem?_toArray ..).trans rfl) (by kernel_rfl) (by kernel_rfl) (by kernel_rfl) (fun _ _ _ h => h) (Or.inl ⟨by rfl, ?_⟩) (by assumption) ?_
              rotate_left
              · (intro w hSw; (try dsimp only at hSw); go_simp; (try with_reducible rfl))
              (try simp only [Act.put, List.setIfInBounds_toArray, List.set_cons_zero, List.set_cons_succ])
              refine wpAnyH_done (by kernel_rfl) ?_ _
              refine NoPanic.normal ?_
              go_wp2_with (fail)
              go_ret
              exact ⟨g, rfl, HGE.out, HX.out, B1.out.trans (BB.out.mono HW1.out)⟩
            exact AllReadyH.nil
          exact AllReadyH.nil
        exact AllReadyH.nil
      refine AllReadyH.cons (i := 12) (o := _) ((List.getElem?_toArray ..).trans rfl) (fun K hK => ?_) ?_
      · refine Kd.R_make_step k81 _ 81 (by rfl) (N := 15) rfl 59 (.tmp 14) (.tmp 14) rfl c.ti rfl rfl Tryz.underlying59 (.agg #[.int .i64 0, .bool false, .int .i64 0, .int .i64 0]) 32 info81 rfl (by decide) (by decide) ⟨0, false, 0, 0⟩ (ok := fun _ => True) (okp := fun _ => False) (k81_mkM _ _ _ ⟨0, false, 0, 0⟩) (fun _ h => h.elim) trivial HT.out.1 HT.out.2 (Below.refl _ _) (Nat.le_refl _) ?_
        intro v1 X hR hb _ _; obtain ⟨C10, m10, e10, rfl, o10⟩ := OT.of_R hR; have O10 := Aside0.mk (o10.from BB.out.size); clear o10 hR; replace O9 := Aside0.mk (O9.out.below hb); replace BB := Aside0.mk (below_step BB.out hb); clear hb
        refine hK.out _ _ ?_ (fun hHeld => ?_)
        · (try dsimp only)
          (go_split_ands; (repeat' apply And.intro); all_goals (exact below_cell_of (w := w1) (by with_reducible repeat (first | exact Below.refl _ _ | assumption | exact Aside0.out (by assumption) | apply below_alloc | apply below_drew1 | apply pw_below_drewN)) (by assumption)))
        clear hK K
        (try simp only [Act.put, List.setIfInBounds_toArray, List.set_cons_zero, List.set_cons_succ])
        refine wpAnyH_ready (rs := [1]) (by kernel_rfl) (by simp) ?_
        refine AllReadyH.cons (i := 1) (o := _) ((List.getElem?_toArray ..).trans rfl) (fun K hK => ?_) ?_
        · go_simp
          (go_at_call 24; (with_reducible refine (K_rOwn c _ _ _ _ _ _ _ ?_ ?_ ?_ ?_).mono ?_); exact H6.out.below BB.out; exact H7.out.below BB.out; exact HP.out.1; exact HP.out.2; rintro e X ⟨C6, m6, e6, C7, m7, e7, rfl, o6, o7, hb⟩; have O6 := Aside0.mk (o6.from BB.out.size); have O7 := Aside0.mk (o7.from BB.out.size); clear o6 o7; replace O9 := Aside0.mk (O9.out.below hb); replace O10 := Aside0.mk (O10.out.below hb); replace BB := Aside0.mk (below_step BB.out hb); clear hb)
          refine hK.out _ _ ?_ (fun hHeld => ?_)
          · (try dsimp only)
            (go_split_ands; (repeat' apply And.intro); all_goals (exact below_cell_of (w := w1) (by with_reducible repeat (first | exact Below.refl _ _ | assumption | exact Aside0.out (by assumption) | apply below_alloc | apply below_drew1 | apply pw_below_drewN)) (by assumption)))
          clear hK K
          (try simp only [Act.put, List.setIfInBounds_toArray, List.set_cons_zero, List.set_cons_succ])
          refine wpAnyH_ready (rs := [5]) (by kernel_rfl) (by simp) ?_
          refine AllReadyH.cons (i := 5) (o := _) ((List.getElem?_toArray ..).trans rfl) (fun K hK => ?_) ?_
          · refine step_append0 (by rfl) (.tmp 5) (.tmp 7) 22 3 rfl Tryz.underlying22 info3 B5 A7 n7 d7 c.ls rfl rfl (H7.out.below BB.out) HL.out.1 HL.out.2 ?_
            intro C8 m8 e8 X o8 o8' hb; have O8 : Aside0 (OI w1 X C8 m8 e8 c.ls) := ⟨OI.from ⟨o8, o8'⟩ BB.out.size⟩; clear o8 o8'; replace O6 := Aside0.mk (O6.out.below hb); replace O7 := Aside0.mk (O7.out.below hb); replace O9 := Aside0.mk (O9.out.below hb); replace O10 := Aside0.mk (O10.out.below hb); replace BB := Aside0.mk (below_step BB.out hb); clear hb
            refine hK.out _ _ ?_ (fun hHeld => ?_)
            · (try dsimp only)
              (go_split_ands; (repeat' apply And.intro); all_goals (exact below_cell_of (w := w1) (by with_reducible repeat (first | exact Below.refl _ _ | assumption | exact Aside0.out (by assumption) | apply below_alloc | apply below_drew1 | apply pw_below_drewN)) (by assumption)))
            clear hK K
            (try simp only [Act.put, List.setIfInBounds_toArray, List.set_cons_zero, List.set_cons_succ])
            refine wpAnyH_take (i := 13) (oi := _) (v := ?_) ((List.getElem?_toArray ..).trans rfl) (by kernel_rfl) (by kernel_rfl) (by kernel_rfl) (fun _ _ _ h => h) (Or.inl ⟨by rfl, ?_⟩) (by assumption) ?_
            rotate_left
            · (intro w hSw; (try dsimp only at hSw); go_simp; (try with_reducible rfl))
            (try simp only [Act.put, List.setIfInBounds_toArray, List.set_cons_zero, List.set_cons_succ])
            refine wpAnyH_ready (rs := [14]) (by kernel_rfl) (by simp) ?_
            refine AllReadyH.cons (i := 14) (o := _) ((List.getElem?_toArray ..).trans rfl) (fun K hK => ?_) ?_
            · refine box_step (by rfl) rfl (cs := #[.int .i64 c.th, .int .i64 c.st, .int .i64 c.ga, .int .i64 c.le, .int .i64 c.re, .int .i64 c.ti, .slice C6 m6 e6, .slice C7 m7 e7, .slice C8 m8 e8, .slice C9 m9 e9, .slice C10 m10 e10]) (t := 61) (by first | (go_simp; done) | (go_simp; rfl)) ?_
              intro g hg X hbox hb; have HX := Aside0.mk (RAt_new HRR.out HW1.out BB.out.size hg hb hbox O6.out O7.out O8.out O9.out O10.out); have HGE := Aside0.mk (show W.heap.size ≤ g by have h1 := HW1.out; have h2 := BB.out.size; omega); clear hg hbox; replace BB := Aside0.mk (below_step BB.out hb); clear hb O6 O7 O8 O9 O10
              refine hK.out _ _ ?_ (fun hHeld => ?_)
              · (try dsimp only)
                (go_split_ands; (repeat' apply And.intro); all_goals (exact below_cell_of (w := w1) (by with_reducible repeat (first | exact Below.refl _ _ | assumption | exact Aside0.out (by assumption) | apply below_alloc | apply below_drew1 | apply pw_below_drewN)) (by assumption)))
              clear hK K
              (try simp only [Act.put, List.setIfInBounds_toArray, List.set_cons_zero, List.set_cons_succ])
              refine wpAnyH_take (i := 15) (oi := _) (v := ?_) ((List.getElem?_toArray ..).trans rfl) (by kernel_rfl) (by kernel_rfl) (by kernel_rfl) (fun _ _ _ h => h) (Or.inl ⟨by rfl, ?_⟩) (by assumption) ?_
              rotate_left
              · (intro w hSw; (try dsimp only at hSw); go_simp; (try with_reducible rfl))
              (try simp only [Act.put, List.setIfInBounds_toArray, List.set_cons_zero, List.set_cons_succ])
              refine wpAnyH_done (by kernel_rfl) ?_ _
              refine NoPanic.normal ?_
              go_wp2_with (fail)
              go_ret
              exact ⟨g, rfl, HGE.out, HX.out, B1.out.trans (BB.out.mono HW1.out)⟩
            exact AllReadyH.nil
          exact AllReadyH.nil
        exact AllReadyH.nil
      exact AllReadyH.nil
    refine AllReadyH.cons (i := 12) (o := _) ((List.getElem?_toArray ..).trans rfl) (fun K hK => ?_) ?_
    · refine Kd.R_make_step k81 _ 81 (by rfl) (N := 15) rfl 59 (.tmp 14) (.tmp 14) rfl c.ti rfl rfl Tryz.underlying59 (.agg #[.int .i64 0, .bool false, .int .i64 0, .int .i64 0]) 32 info81 rfl (by decide) (by decide) ⟨0, false, 0, 0⟩ (ok := fun _ => True) (okp := fun _ => False) (k81_mkM _ _ _ ⟨0, false, 0, 0⟩) (fun _ h => h.elim) trivial HT.out.1 HT.out.2 (Below.refl _ _) (Nat.le_refl _) ?_
      intro v1 X hR hb _ _; obtain ⟨C10, m10, e10, rfl, o10⟩ := OT.of_R hR; have O10 := Aside0.mk (o10.from BB.out.size); clear o10 hR; replace BB := Aside0.mk (below_step BB.out hb); clear hb
      refine hK.out _ _ ?_ (fun hHeld => ?_)
      · (try dsimp only)
        (go_split_ands; (repeat' apply And.intro); all_goals (exact below_cell_of (w := w1) (by with_reducible repeat (first | exact Below.refl _ _ | assumption | exact Aside0.out (by assumption) | apply below_alloc | apply below_drew1 | apply pw_below_drewN)) (by assumption)))
      clear hK K
      (try simp only [Act.put, List.setIfInBounds_toArray, List.set_cons_zero, List.set_cons_succ])
      refine wpAnyH_ready (rs := [1, 9]) (by kernel_rfl) (by simp) ?_
      refine AllReadyH.cons (i := 1) (o := _) ((List.getElem?_toArray ..).trans rfl) (fun K hK => ?_) ?_
      · go_simp
        (go_at_call 24; (with_reducible refine (K_rOwn c _ _ _ _ _ _ _ ?_ ?_ ?_ ?_).mono ?_); exact H6.out.below BB.out; exact H7.out.below BB.out; exact HP.out.1; exact HP.out.2; rintro e X ⟨C6, m6, e6, C7, m7, e7, rfl, o6, o7, hb⟩; have O6 := Aside0.mk (o6.from BB.out.size); have O7 := Aside0.mk (o7.from BB.out.size); clear o6 o7; replace O10 := Aside0.mk (O10.out.below hb); replace BB := Aside0.mk (below_step BB.out hb); clear hb)
        refine hK.out _ _ ?_ (fun hHeld => ?_)
        · (try dsimp only)
          (go_split_ands; (repeat' apply And.intro); all_goals (exact below_cell_of (w := w1) (by with_reducible repeat (first | exact Below.refl _ _ | assumption | exact Aside0.out (by assumption) | apply below_alloc | apply below_drew1 | apply pw_below_drewN)) (by assumption)))
        clear hK K
        (try simp only [Act.put, List.setIfInBounds_toArray, List.set_cons_zero, List.set_cons_succ])
        refine wpAnyH_ready (rs := [5, 9]) (by kernel_rfl) (by simp) ?_
        refine AllReadyH.cons (i := 5) (o := _) ((List.getElem?_toArray ..).trans rfl) (fun K hK => ?_) ?_
        · refine step_append0 (by rfl) (.tmp 5) (.tmp 7) 22 3 rfl Tryz.underlying22 info3 B5 A7 n7 d7 c.ls rfl rfl (H7.out.below BB.out) HL.out.1 HL.out.2 ?_
          intro C8 m8 e8 X o8 o8' hb; have O8 : Aside0 (OI w1 X C8 m8 e8 c.ls) := ⟨OI.from ⟨o8, o8'⟩ BB.out.size⟩; clear o8 o8'; replace O6 := Aside0.mk (O6.out.below hb); replace O7 := Aside0.mk (O7.out.below hb); replace O10 := Aside0.mk (O10.out.below hb); replace BB := Aside0.mk (below_step BB.out hb); clear hb
          refine hK.out _ _ ?_ (fun hHeld => ?_)
          · (try dsimp only)
            (go_split_ands; (repeat' apply And.intro); all_goals (exact below_cell_of (w := w1) (by with_reducible repeat (first | exact Below.refl _ _ | assumption | exact Aside0.out (by assumption) | apply below_alloc | apply below_drew1 | apply pw_below_drewN)) (by assumption)))
          clear hK K
          (try simp only [Act.put, List.setIfInBounds_toArray, List.set_cons_zero, List.set_cons_succ])
          refine wpAnyH_ready (rs := [9]) (by kernel_rfl) (by simp) ?_
          refine AllReadyH.cons (i := 9) (o := _) ((List.getElem?_toArray ..).trans rfl) (fun K hK => ?_) ?_
          · refine Kd.R_make_step (Kd.int .i64) _ 3 (by rfl) (N := 12) rfl 22 (.tmp 11) (.tmp 11) rfl (n6 : Int) rfl rfl Tryz.underlying22 (.int .i64 0) 8 info3 rfl (by decide) (by decide) 0 (ok := fun _ => True) (okp := fun _ => False) rfl (fun _ h => h.elim) trivial HN.out.1 HN.out.2 (Below.refl _ _) (Nat.le_refl _) ?_
            intro v1 X hR hb _ _; obtain ⟨C9, m9, e9, rfl, o9⟩ := OI.of_R hR; rw [HN6.out] at o9; have O9 := Aside0.mk (o9.from BB.out.size); clear o9 hR; replace O6 := Aside0.mk (O6.out.below hb); replace O7 := Aside0.mk (O7.out.below hb); replace O8 := Aside0.mk (O8.out.below hb); replace O10 := Aside0.mk (O10.out.below hb); replace BB := Aside0.mk (below_step BB.out hb); clear hb
            refine hK.out _ _ ?_ (fun hHeld => ?_)
            · (try dsimp only)
              (go_split_ands; (repeat' apply And.intro); all_goals (exact below_cell_of (w := w1) (by with_reducible repeat (first | exact Below.refl _ _ | assumption | exact Aside0.out (by assumption) | apply below_alloc | apply below_drew1 | apply pw_below_drewN)) (by assumption)))
            clear hK K
            (try simp only [Act.put, List.setIfInBounds_toArray, List.set_cons_zero, List.set_cons_succ])
            refine wpAnyH_take (i := 13) (oi := _) (v := ?_) ((List.getElem?_toArray ..).trans rfl) (by kernel_rfl) (by kernel_rfl) (by kernel_rfl) (fun _ _ _ h => h) (Or.inl ⟨by rfl, ?_⟩) (by assumption) ?_
            rotate_left
            · (intro w hSw; (try dsimp only at hSw); go_simp; (try with_reducible rfl))
            (try simp only [Act.put, List.setIfInBounds_toArray, List.set_cons_zero, List.set_cons_succ])
            refine wpAnyH_ready (rs := [14]) (by kernel_rfl) (by simp) ?_
            refine AllReadyH.cons (i := 14) (o := _) ((List.getElem?_toArray ..).trans rfl) (fun K hK => ?_) ?_
            · refine box_step (by rfl) rfl (cs := #[.int .i64 c.th, .int .i64 c.st, .int .i64 c.ga, .int .i64 c.le, .int .i64 c.re, .int .i64 c.ti, .slice C6 m6 e6, .slice C7 m7 e7, .slice C8 m8 e8, .slice C9 m9 e9, .slice C10 m10 e10]) (t := 61) (by first | (go_simp; done) | (go_simp; rfl)) ?_
              intro g hg X hbox hb; have HX := Aside0.mk (RAt_new HRR.out HW1.out BB.out.size hg hb hbox O6.out O7.out O8.out O9.out O10.out); have HGE := Aside0.mk (show W.heap.size ≤ g by have h1 := HW1.out; have h2 := BB.out.size; omega); clear hg hbox; replace BB := Aside0.mk (below_step BB.out hb); clear hb O6 O7 O8 O9 O10
              refine hK.out _ _ ?_ (fun hHeld => ?_)
              · (try dsimp only)
                (go_split_ands; (repeat' apply And.intro); all_goals (exact below_cell_of (w := w1) (by with_reducible repeat (first | exact Below.refl _ _ | assumption | exact Aside0.out (by assumption) | apply below_alloc | apply below_drew1 | apply pw_below_drewN)) (by assumption)))
              clear hK K
              (try simp only [Act.put, List.setIfInBounds_toArray, List.set_cons_zero, List.set_cons_succ])
              refine wpAnyH_take (i := 15) (oi := _) (v := ?_) ((List.getElem?_toArray ..).trans rfl) (by kernel_rfl) (by kernel_rfl) (by kernel_rfl) (fun _ _ _ h => h) (Or.inl ⟨by rfl, ?_⟩) (by assumption) ?_
              rotate_left
              · (intro w hSw; (try dsimp only at hSw); go_simp; (try with_reducible rfl))
              (try simp only [Act.put, List.setIfInBounds_toArray, List.set_cons_zero, List.set_cons_succ])
              refine wpAnyH_done (by kernel_rfl) ?_ _
              refine NoPanic.normal ?_
              go_wp2_with (fail)
              go_ret
              exact ⟨g, rfl, HGE.out, HX.out, B1.out.trans (BB.out.mono HW1.out)⟩
            exact AllReadyH.nil
          exact AllReadyH.nil
        refine AllReadyH.cons (i := 9) (o := _) ((List.getElem?_toArray ..).trans rfl) (fun K hK => ?_) ?_
        · refine Kd.R_make_step (Kd.int .i64) _ 3 (by rfl) (N := 12) rfl 22 (.tmp 11) (.tmp 11) rfl (n6 : Int) rfl rfl Tryz.underlying22 (.int .i64 0) 8 info3 rfl (by decide) (by decide) 0 (ok := fun _ => True) (okp := fun _ => False) rfl (fun _ h => h.elim) trivial HN.out.1 HN.out.2 (Below.refl _ _) (Nat.le_refl _) ?_
          intro v1 X hR hb _ _; obtain ⟨C9, m9, e9, rfl, o9⟩ := OI.of_R hR; rw [HN6.out] at o9; have O9 := Aside0.mk (o9.from BB.out.size); clear o9 hR; replace O6 := Aside0.mk (O6.out.below hb); replace O7 := Aside0.mk (O7.out.below hb); replace O10 := Aside0.mk (O10.out.below hb); replace BB := Aside0.mk (below_step BB.out hb); clear hb
          refine hK.out _ _ ?_ (fun hHeld => ?_)
          · (try dsimp only)
            (go_split_ands; (repeat' apply And.intro); all_goals (exact below_cell_of (w := w1) (by with_reducible repeat (first | exact Below.refl _ _ | assumption | exact Aside0.out (by assumption) | apply below_alloc | apply below_drew1 | apply pw_below_drewN)) (by assumption)))
          clear hK K
          (try simp only [Act.put, List.setIfInBounds_toArray, List.set_cons_zero, List.set_cons_succ])
          refine wpAnyH_ready (rs := [5]) (by kernel_rfl) (by simp) ?_
          refine AllReadyH.cons (i := 5) (o := _) ((List.getElem?_toArray ..).trans rfl) (fun K hK => ?_) ?_
          · refine step_append0 (by rfl) (.tmp 5) (.tmp 7) 22 3 rfl Tryz.underlying22 info3 B5 A7 n7 d7 c.ls rfl rfl (H7.out.below BB.out) HL.out.1 HL.out.2 ?_
            intro C8 m8 e8 X o8 o8' hb; have O8 : Aside0 (OI w1 X C8 m8 e8 c.ls) := ⟨OI.from ⟨o8, o8'⟩ BB.out.size⟩; clear o8 o8'; replace O6 := Aside0.mk (O6.out.below hb); replace O7 := Aside0.mk (O7.out.below hb); replace O9 := Aside0.mk (O9.out.below hb); replace O10 := Aside0.mk (O10.out.below hb); replace BB := Aside0.mk (below_step BB.out hb); clear hb
            refine hK.out _ _ ?_ (fun hHeld => ?_)
            · (try dsimp only)
              (go_split_ands; (repeat' apply And.intro); all_goals (exact below_cell_of (w := w1) (by with_reducible repeat (first | exact Below.refl _ _ | assumption | exact Aside0.out (by assumption) | apply below_alloc | apply below_drew1 | apply pw_below_drewN)) (by assumption)))
            clear hK K
            (try simp only [Act.put, List.setIfInBounds_toArray, List.set_cons_zero, List.set_cons_succ])
            refine wpAnyH_take (i := 13) (oi := _) (v := ?_) ((List.getElem?_toArray ..).trans rfl) (by kernel_rfl) (by kernel_rfl) (by kernel_rfl) (fun _ _ _ h => h) (Or.inl ⟨by rfl, ?_⟩) (by assumption) ?_
            rotate_left
            · (intro w hSw; (try dsimp only at hSw); go_simp; (try with_reducible rfl))
            (try simp only [Act.put, List.setIfInBounds_toArray, List.set_cons_zero, List.set_cons_succ])
            refine wpAnyH_ready (rs := [14]) (by kernel_rfl) (by simp) ?_
            refine AllReadyH.cons (i := 14) (o := _) ((List.getElem?_toArray ..).trans rfl) (fun K hK => ?_) ?_
            · refine box_step (by rfl) rfl (cs := #[.int .i64 c.th, .int .i64 c.st, .int .i64 c.ga, .int .i64 c.le, .int .i64 c.re, .int .i64 c.ti, .slice C6 m6 e6, .slice C7 m7 e7, .slice C8 m8 e8, .slice C9 m9 e9, .slice C10 m10 e10]) (t := 61) (by first | (go_simp; done) | (go_simp; rfl)) ?_
              intro g hg X hbox hb; have HX := Aside0.mk (RAt_new HRR.out HW1.out BB.out.size hg hb hbox O6.out O7.out O8.out O9.out O10.out); have HGE := Aside0.mk (show W.heap.size ≤ g by have h1 := HW1.out; have h2 := BB.out.size; omega); clear hg hbox; replace BB := Aside0.mk (below_step BB.out hb); clear hb O6 O7 O8 O9 O10
              refine hK.out _ _ ?_ (fun hHeld => ?_)
              · (try dsimp only)
                (go_split_ands; (repeat' apply And.intro); all_goals (exact below_cell_of (w := w1) (by with_reducible repeat (first | exact Below.refl _ _ | assumption | exact Aside0.out (by assumption) | apply below_alloc | apply below_drew1 | apply pw_below_drewN)) (by assumption)))
              clear hK K
              (try simp only [Act.put, List.setIfInBounds_toArray, List.set_cons_zero, List.set_cons_succ])
              refine wpAnyH_take (i := 15) (oi := _) (v := ?_) ((List.getElem?_toArray ..).trans rfl) (by kernel_rfl) (by kernel_rfl) (by kernel_rfl) (fun _ _ _ h => h) (Or.inl ⟨by rfl, ?_⟩) (by assumption) ?_
              rotate_left
              · (intro w hSw; (try dsimp only at hSw); go_simp; (try with_reducible rfl))
              (try simp only [Act.put, List.setIfInBounds_toArray, List.set_cons_zero, List.set_cons_succ])
              refine wpAnyH_done (by kernel_rfl) ?_ _
              refine NoPanic.normal ?_
              go_wp2_with (fail)
              go_ret
              exact ⟨g, rfl, HGE.out, HX.out, B1.out.trans (BB.out.mono HW1.out)⟩
            exact AllReadyH.nil
          exact AllReadyH.nil
        exact AllReadyH.nil
      refine AllReadyH.cons (i := 9) (o := _) ((List.getElem?_toArray ..).trans rfl) (fun K hK => ?_) ?_
      · refine Kd.R_make_step (Kd.int .i64) _ 3 (by rfl) (N := 12) rfl 22 (.tmp 11) (.tmp 11) rfl (n6 : Int) rfl rfl Tryz.underlying22 (.int .i64 0) 8 info3 rfl (by decide) (by decide) 0 (ok := fun _ => True) (okp := fun _ => False) rfl (fun _ h => h.elim) trivial HN.out.1 HN.out.2 (Below.refl _ _) (Nat.le_refl _) ?_
        intro v1 X hR hb _ _; obtain ⟨C9, m9, e9, rfl, o9⟩ := OI.of_R hR; rw [HN6.out] at o9; have O9 := Aside0.mk (o9.from BB.out.size); clear o9 hR; replace O10 := Aside0.mk (O10.out.below hb); replace BB := Aside0.mk (below_step BB.out hb); clear hb
        refine hK.out _ _ ?_ (fun hHeld => ?_)
        · (try dsimp only)
          (go_split_ands; (repeat' apply And.intro); all_goals (exact below_cell_of (w := w1) (by with_reducible repeat (first | exact Below.refl _ _ | assumption | exact Aside0.out (by assumption) | apply below_alloc | apply below_drew1 | apply pw_below_drewN)) (by assumption)))
        clear hK K
        (try simp only [Act.put, List.setIfInBounds_toArray, List.set_cons_zero, List.set_cons_succ])
        refine wpAnyH_ready (rs := [1]) (by kernel_rfl) (by simp) ?_
        refine AllReadyH.cons (i := 1) (o := _) ((List.getElem?_toArray ..).trans rfl) (fun K hK => ?_) ?_
        · go_simp
          (go_at_call 24; (with_reducible refine (K_rOwn c _ _ _ _ _ _ _ ?_ ?_ ?_ ?_).mono ?_); exact H6.out.below BB.out; exact H7.out.below BB.out; exact HP.out.1; exact HP.out.2; rintro e X ⟨C6, m6, e6, C7, m7, e7, rfl, o6, o7, hb⟩; have O6 := Aside0.mk (o6.from BB.out.size); have O7 := Aside0.mk (o7.from BB.out.size); clear o6 o7; replace O9 := Aside0.mk (O9.out.below hb); replace O10 := Aside0.mk (O10.out.below hb); replace BB := Aside0.mk (below_step BB.out hb); clear hb)
          refine hK.out _ _ ?_ (fun hHeld => ?_)
          · (try dsimp only)
            (go_split_ands; (repeat' apply And.intro); all_goals (exact below_cell_of (w := w1) (by with_reducible repeat (first | exact Below.refl _ _ | assumption | exact Aside0.out (by assumption) | apply below_alloc | apply below_drew1 | apply pw_below_drewN)) (by assumption)))
          clear hK K
          (try simp only [Act.put, List.setIfInBounds_toArray, List.set_cons_zero, List.set_cons_succ])
          refine wpAnyH_ready (rs := [5]) (by kernel_rfl) (by simp) ?_
          refine AllReadyH.cons (i := 5) (o := _) ((List.getElem?_toArray ..).trans rfl) (fun K hK => ?_) ?_
          · refine step_append0 (by rfl) (.tmp 5) (.tmp 7) 22 3 rfl Tryz.underlying22 info3 B5 A7 n7 d7 c.ls rfl rfl (H7.out.below BB.out) HL.out.1 HL.out.2 ?_
            intro C8 m8 e8 X o8 o8' hb; have O8 : Aside0 (OI w1 X C8 m8 e8 c.ls) := ⟨OI.from ⟨o8, o8'⟩ BB.out.size⟩; clear o8 o8'; replace O6 := Aside0.mk (O6.out.below hb); replace O7 := Aside0.mk (O7.out.below hb); replace O9 := Aside0.mk (O9.out.below hb); replace O10 := Aside0.mk (O10.out.below hb); replace BB := Aside0.mk (below_step BB.out hb); clear hb
            refine hK.out _ _ ?_ (fun hHeld => ?_)
            · (try dsimp only)
              (go_split_ands; (repeat' apply And.intro); all_goals (exact below_cell_of (w := w1) (by with_reducible repeat (first | exact Below.refl _ _ | assumption | exact Aside0.out (by assumption) | apply below_alloc | apply below_drew1 | apply pw_below_drewN)) (by assumption)))
            clear hK K
            (try simp only [Act.put, List.setIfInBounds_toArray, List.set_cons_zero, List.set_cons_succ])
            refine wpAnyH_take (i := 13) (oi := _) (v := ?_) ((List.getElem?_toArray ..).trans rfl) (by kernel_rfl) (by kernel_rfl) (by kernel_rfl) (fun _ _ _ h => h) (Or.inl ⟨by rfl, ?_⟩) (by assumption) ?_
            rotate_left
            · (intro w hSw; (try dsimp only at hSw); go_simp; (try with_reducible rfl))
            (try simp only [Act.put, List.setIfInBounds_toArray, List.set_cons_zero, List.set_cons_succ])
            refine wpAnyH_ready (rs := [14]) (by kernel_rfl) (by simp) ?_
            refine AllReadyH.cons (i := 14) (o := _) ((List.getElem?_toArray ..).trans rfl) (fun K hK => ?_) ?_
            · refine box_step (by rfl) rfl (cs := #[.int .i64 c.th, .int .i64 c.st, .int .i64 c.ga, .int .i64 c.le, .int .i64 c.re, .int .i64 c.ti, .slice C6 m6 e6, .slice C7 m7 e7, .slice C8 m8 e8, .slice C9 m9 e9, .slice C10 m10 e10]) (t := 61) (by first | (go_simp; done) | (go_simp; rfl)) ?_
              intro g hg X hbox hb; have HX := Aside0.mk (RAt_new HRR.out HW1.out BB.out.size hg hb hbox O6.out O7.out O8.out O9.out O10.out); have HGE := Aside0.mk (show W.heap.size ≤ g by have h1 := HW1.out; have h2 := BB.out.size; omega); clear hg hbox; replace BB := Aside0.mk (below_step BB.out hb); clear hb O6 O7 O8 O9 O10
              refine hK.out _ _ ?_ (fun hHeld => ?_)
              · (try dsimp only)
                (go_split_ands; (repeat' apply And.intro); all_goals (exact below_cell_of (w := w1) (by with_reducible repeat (first | exact Below.refl _ _ | assumption | exact Aside0.out (by assumption) | apply below_alloc | apply below_drew1 | apply pw_below_drewN)) (by assumption)))
              clear hK K
              (try simp only [Act.put, List.setIfInBounds_toArray, List.set_cons_zero, List.set_cons_succ])
              refine wpAnyH_take (i := 15) (oi := _) (v := ?_) ((List.getElem?_toArray ..).trans rfl) (by kernel_rfl) (by kernel_rfl) (by kernel_rfl) (fun _ _ _ h => h) (Or.inl ⟨by rfl, ?_⟩) (by assumption) ?_
              rotate_left
              · (intro w hSw; (try dsimp only at hSw); go_simp; (try with_reducible rfl))
              (try simp only [Act.put, List.setIfInBounds_toArray, List.set_cons_zero, List.set_cons_succ])
              refine wpAnyH_done (by kernel_rfl) ?_ _
              refine NoPanic.normal ?_
              go_wp2_with (fail)
              go_ret
              exact ⟨g, rfl, HGE.out, HX.out, B1.out.trans (BB.out.mono HW1.out)⟩
            exact AllReadyH.nil
          exact AllReadyH.nil
        exact AllReadyH.nil
      exact AllReadyH.nil
    exact AllReadyH.nil
  refine AllReadyH.cons (i := 9) (o := _) ((List.getElem?_toArray ..).trans rfl) (fun K hK => ?_) ?_
  · refine Kd.R_make_step (Kd.int .i64) _ 3 (by rfl) (N := 12) rfl 22 (.tmp 11) (.tmp 11) rfl (n6 : Int) rfl rfl Tryz.underlying22 (.int .i64 0) 8 info3 rfl (by decide) (by decide) 0 (ok := fun _ => True) (okp := fun _ => False) rfl (fun _ h => h.elim) trivial HN.out.1 HN.out.2 (Below.refl _ _) (Nat.le_refl _) ?_
    intro v1 X hR hb _ _; obtain ⟨C9, m9, e9, rfl, o9⟩ := OI.of_R hR; rw [HN6.out] at o9; have O9 := Aside0.mk (o9.from BB.out.size); clear o9 hR; replace BB := Aside0.mk (below_step BB.out hb); clear hb
    refine hK.out _ _ ?_ (fun hHeld => ?_)
    · (try dsimp only)
      (go_split_ands; (repeat' apply And.intro); all_goals (exact below_cell_of (w := w1) (by with_reducible repeat (first | exact Below.refl _ _ | assumption | exact Aside0.out (by assumption) | apply below_alloc | apply below_drew1 | apply pw_below_drewN)) (by assumption)))
    clear hK K
    (try simp only [Act.put, List.setIfInBounds_toArray, List.set_cons_zero, List.set_cons_succ])
    refine wpAnyH_ready (rs := [1, 2, 12]) (by kernel_rfl) (by simp) ?_
    refine AllReadyH.cons (i := 1) (o := _) ((List.getElem?_toArray ..).trans rfl) (fun K hK => ?_) ?_
    · go_simp
      (go_at_call 24; (with_reducible refine (K_rOwn c _ _ _ _ _ _ _ ?_ ?_ ?_ ?_).mono ?_); exact H6.out.below BB.out; exact H7.out.below BB.out; exact HP.out.1; exact HP.out.2; rintro e X ⟨C6, m6, e6, C7, m7, e7, rfl, o6, o7, hb⟩; have O6 := Aside0.mk (o6.from BB.out.size); have O7 := Aside0.mk (o7.from BB.out.size); clear o6 o7; replace O9 := Aside0.mk (O9.out.below hb); replace BB := Aside0.mk (below_step BB.out hb); clear hb)
      refine hK.out _ _ ?_ (fun hHeld => ?_)
      · (try dsimp only)
        (go_split_ands; (repeat' apply And.intro); all_goals (exact below_cell_of (w := w1) (by with_reducible repeat (first | exact Below.refl _ _ | assumption | exact Aside0.out (by assumption) | apply below_alloc | apply below_drew1 | apply pw_below_drewN)) (by assumption)))
      clear hK K
      (try simp only [Act.put, List.setIfInBounds_toArray, List.set_cons_zero, List.set_cons_succ])
      refine wpAnyH_ready (rs := [2, 12]) (by kernel_rfl) (by simp) ?_
      refine AllReadyH.cons (i := 2) (o := _) ((List.getElem?_toArray ..).trans rfl) (fun K hK => ?_) ?_
      · refine step_lit0 (e := 3) (by rfl) (by first | (go_simp; done) | (go_simp; rfl)) ?_
        intro B5 X hb; replace O6 := Aside0.mk (O6.out.below hb); replace O7 := Aside0.mk (O7.out.below hb); replace O9 := Aside0.mk (O9.out.below hb); replace BB := Aside0.mk (below_step BB.out hb); clear hb
        refine hK.out _ _ ?_ (fun hHeld => ?_)
        · (try dsimp only)
          (go_split_ands; (repeat' apply And.intro); all_goals (exact below_cell_of (w := w1) (by with_reducible repeat (first | exact Below.refl _ _ | assumption | exact Aside0.out (by assumption) | apply below_alloc | apply below_drew1 | apply pw_below_drewN)) (by assumption)))
        clear hK K
        (try simp only [Act.put, List.setIfInBounds_toArray, List.set_cons_zero, List.set_cons_succ])
        refine wpAnyH_ready (rs := [5, 12]) (by kernel_rfl) (by simp) ?_
        refine AllReadyH.cons (i := 5) (o := _) ((List.getElem?_toArray ..).trans rfl) (fun K hK => ?_) ?_
        · refine step_append0 (by rfl) (.tmp 5) (.tmp 7) 22 3 rfl Tryz.underlying22 info3 B5 A7 n7 d7 c.ls rfl rfl (H7.out.below BB.out) HL.out.1 HL.out.2 ?_
          intro C8 m8 e8 X o8 o8' hb; have O8 : Aside0 (OI w1 X C8 m8 e8 c.ls) := ⟨OI.from ⟨o8, o8'⟩ BB.out.size⟩; clear o8 o8'; replace O6 := Aside0.mk (O6.out.below hb); replace O7 := Aside0.mk (O7.out.below hb); replace O9 := Aside0.mk (O9.out.below hb); replace BB := Aside0.mk (below_step BB.out hb); clear hb
          refine hK.out _ _ ?_ (fun hHeld => ?_)
          · (try dsimp only)
            (go_split_ands; (repeat' apply And.intro); all_goals (exact below_cell_of (w := w1) (by with_reducible repeat (first | exact Below.refl _ _ | assumption | exact Aside0.out (by assumption) | apply below_alloc | apply below_drew1 | apply pw_below_drewN)) (by assumption)))
          clear hK K
          (try simp only [Act.put, List.setIfInBounds_toArray, List.set_cons_zero, List.set_cons_succ])
          refine wpAnyH_ready (rs := [12]) (by kernel_rfl) (by simp) ?_
          refine AllReadyH.cons (i := 12) (o := _) ((List.getElem?_toArray ..).trans rfl) (fun K hK => ?_) ?_
          · refine Kd.R_make_step k81 _ 81 (by rfl) (N := 15) rfl 59 (.tmp 14) (.tmp 14) rfl c.ti rfl rfl Tryz.underlying59 (.agg #[.int .i64 0, .bool false, .int .i64 0, .int .i64 0]) 32 info81 rfl (by decide) (by decide) ⟨0, false, 0, 0⟩ (ok := fun _ => True) (okp := fun _ => False) (k81_mkM _ _ _ ⟨0, false, 0, 0⟩) (fun _ h => h.elim) trivial HT.out.1 HT.out.2 (Below.refl _ _) (Nat.le_refl _) ?_
            intro v1 X hR hb _ _; obtain ⟨C10, m10, e10, rfl, o10⟩ := OT.of_R hR; have O10 := Aside0.mk (o10.from BB.out.size); clear o10 hR; replace O6 := Aside0.mk (O6.out.below hb); replace O7 := Aside0.mk (O7.out.below hb); replace O8 := Aside0.mk (O8.out.below hb); replace O9 := Aside0.mk (O9.out.below hb); replace BB := Aside0.mk (below_step BB.out hb); clear hb
            refine hK.out _ _ ?_ (fun hHeld => ?_)
            · (try dsimp only)
              (go_split_ands; (repeat' apply And.intro); all_goals (exact below_cell_of (w := w1) (by with_reducible repeat (first | exact Below.refl _ _ | assumption | exact Aside0.out (by assumption) | apply below_alloc | apply below_drew1 | apply pw_below_drewN)) (by assumption)))
            clear hK K
            (try simp only [Act.put, List.setIfInBounds_toArray, List.set_cons_zero, List.set_cons_succ])
            refine wpAnyH_take (i := 13) (oi := _) (v := ?_) ((List.getElem?_toArray ..).trans rfl) (by kernel_rfl) (by kernel_rfl) (by kernel_rfl) (fun _ _ _ h => h) (Or.inl ⟨by rfl, ?_⟩) (by assumption) ?_
            rotate_left
            · (intro w hSw; (try dsimp only at hSw); go_simp; (try with_reducible rfl))
            (try simp only [Act.put, List.setIfInBounds_toArray, List.set_cons_zero, List.set_cons_succ])
            refine wpAnyH_ready (rs := [14]) (by kernel_rfl) (by simp) ?_
            refine AllReadyH.cons (i := 14) (o := _) ((List.getElem?_toArray ..).trans rfl) (fun K hK => ?_) ?_
            · refine box_step (by rfl) rfl (cs := #[.int .i64 c.th, .int .i64 c.st, .int .i64 c.ga, .int .i64 c.le, .int .i64 c.re, .int .i64 c.ti, .slice C6 m6 e6, .slice C7 m7 e7, .slice C8 m8 e8, .slice C9 m9 e9, .slice C10 m10 e10]) (t := 61) (by first | (go_simp; done) | (go_simp; rfl)) ?_
              intro g hg X hbox hb; have HX := Aside0.mk (RAt_new HRR.out HW1.out BB.out.size hg hb hbox O6.out O7.out O8.out O9.out O10.out); have HGE := Aside0.mk (show W.heap.size ≤ g by have h1 := HW1.out; have h2 := BB.out.size; omega); clear hg hbox; replace BB := Aside0.mk (below_step BB.out hb); clear hb O6 O7 O8 O9 O10
              refine hK.out _ _ ?_ (fun hHeld => ?_)
              · (try dsimp only)
                (go_split_ands; (repeat' apply And.intro); all_goals (exact below_cell_of (w := w1) (by with_reducible repeat (first | exact Below.refl _ _ | assumption | exact Aside0.out (by assumption) | apply below_alloc | apply below_drew1 | apply pw_below_drewN)) (by assumption)))
              clear hK K
              (try simp only [Act.put, List.setIfInBounds_toArray, List.set_cons_zero, List.set_cons_succ])
              refine wpAnyH_take (i := 15) (oi := _) (v := ?_) ((List.getElem?_toArray ..).trans rfl) (by kernel_rfl) (by kernel_rfl) (by kernel_rfl) (fun _ _ _ h => h) (Or.inl ⟨by rfl, ?_⟩) (by assumption) ?_
              rotate_left
              · (intro w hSw; (try dsimp only at hSw); go_simp; (try with_reducible rfl))
              (try simp only [Act.put, List.setIfInBounds_toArray, List.set_cons_zero, List.set_cons_succ])
              refine wpAnyH_done (by kernel_rfl) ?_ _
              refine NoPanic.normal ?_
              go_wp2_with (fail)
              go_ret
              exact ⟨g, rfl, HGE.out, HX.out, B1.out.trans (BB.out.mono HW1.out)⟩
            exact AllReadyH.nil
          exact AllReadyH.nil
        refine AllReadyH.cons (i := 12) (o := _) ((List.getElem?_toArray ..).trans rfl) (fun K hK => ?_) ?_
        · refine Kd.R_make_step k81 _ 81 (by rfl) (N := 15) rfl 59 (.tmp 14) (.tmp 14) rfl c.ti rfl rfl Tryz.underlying59 (.agg #[.int .i64 0, .bool false, .int .i64 0, .int .i64 0]) 32 info81 rfl (by decide) (by decide) ⟨0, false, 0, 0⟩ (ok := fun _ => True) (okp := fun _ => False) (k81_mkM _ _ _ ⟨0, false, 0, 0⟩) (fun _ h => h.elim) trivial HT.out.1 HT.out.2 (Below.refl _ _) (Nat.le_refl _) ?_
          intro v1 X hR hb _ _; obtain ⟨C10, m10, e10, rfl, o10⟩ := OT.of_R hR; have O10 := Aside0.mk (o10.from BB.out.size); clear o10 hR; replace O6 := Aside0.mk (O6.out.below hb); replace O7 := Aside0.mk (O7.out.below hb); replace O9 := Aside0.mk (O9.out.below hb); replace BB := Aside0.mk (below_step BB.out hb); clear hb
          refine hK.out _ _ ?_ (fun hHeld => ?_)
          · (try dsimp only)
            (go_split_ands; (repeat' apply And.intro); all_goals (exact below_cell_of (w := w1) (by with_reducible repeat (first | exact Below.refl _ _ | assumption | exact Aside0.out (by assumption) | apply below_alloc | apply below_drew1 | apply pw_below_drewN)) (by assumption)))
          clear hK K
          (try simp only [Act.put, List.setIfInBounds_toArray, List.set_cons_zero, List.set_cons_succ])
          refine wpAnyH_ready (rs := [5]) (by kernel_rfl) (by simp) ?_
          refine AllReadyH.cons (i := 5) (o := _) ((List.getElem?_toArray ..).trans rfl) (fun K hK => ?_) ?_
          · refine step_append0 (by rfl) (.tmp 5) (.tmp 7) 22 3 rfl Tryz.underlying22 info3 B5 A7 n7 d7 c.ls rfl rfl (H7.out.below BB.out) HL.out.1 HL.out.2 ?_
            intro C8 m8 e8 X o8 o8' hb; have O8 : Aside0 (OI w1 X C8 m8 e8 c.ls) := ⟨OI.from ⟨o8, o8'⟩ BB.out.size⟩; clear o8 o8'; replace O6 := Aside0.mk (O6.out.below hb); replace O7 := Aside0.mk (O7.out.below hb); replace O9 := Aside0.mk (O9.out.below hb); replace O10 := Aside0.mk (O10.out.below hb); replace BB := Aside0.mk (below_step BB.out hb); clear hb
            refine hK.out _ _ ?_ (fun hHeld => ?_)
            · (try dsimp only)
              (go_split_ands; (repeat' apply And.intro); all_goals (exact below_cell_of (w := w1) (by with_reducible repeat (first | exact Below.refl _ _ | assumption | exact Aside0.out (by assumption) | apply below_alloc | apply below_drew1 | apply pw_below_drewN)) (by assumption)))
            clear hK K
            (try simp only [Act.put, List.setIfInBounds_toArray, List.set_cons_zero, List.set_cons_succ])
            refine wpAnyH_take (i := 13) (oi := _) (v := ?_) ((List.getElem?_toArray ..).trans rfl) (by kernel_rfl) (by kernel_rfl) (by kernel_rfl) (fun _ _ _ h => h) (Or.inl ⟨by rfl, ?_⟩) (by assumption) ?_
            rotate_left
            · (intro w hSw; (try dsimp only at hSw); go_simp; (try with_reducible rfl))
            (try simp only [Act.put, List.setIfInBounds_toArray, List.set_cons_zero, List.set_cons_succ])
            refine wpAnyH_ready (rs := [14]) (by kernel_rfl) (by simp) ?_
            refine AllReadyH.cons (i := 14) (o := _) ((List.getElem?_toArray ..).trans rfl) (fun K hK => ?_) ?_
            · refine box_step (by rfl) rfl (cs := #[.int .i64 c.th, .int .i64 c.st, .int .i64 c.ga, .int .i64 c.le, .int .i64 c.re, .int .i64 c.ti, .slice C6 m6 e6, .slice C7 m7 e7, .slice C8 m8 e8, .slice C9 m9 e9, .slice C10 m10 e10]) (t := 61) (by first | (go_simp; done) | (go_simp; rfl)) ?_
              intro g hg X hbox hb; have HX := Aside0.mk (RAt_new HRR.out HW1.out BB.out.size hg hb hbox O6.out O7.out O8.out O9.out O10.out); have HGE := Aside0.mk (show W.heap.size ≤ g by have h1 := HW1.out; have h2 := BB.out.size; omega); clear hg hbox; replace BB := Aside0.mk (below_step BB.out hb); clear hb O6 O7 O8 O9 O10
              refine hK.out _ _ ?_ (fun hHeld => ?_)
              · (try dsimp only)
                (go_split_ands; (repeat' apply And.intro); all_goals (exact below_cell_of (w := w1) (by with_reducible repeat (first | exact Below.refl _ _ | assumption | exact Aside0.out (by assumption) | apply below_alloc | apply below_drew1 | apply pw_below_drewN)) (by assumption)))
              clear hK K
              (try simp only [Act.put, List.setIfInBounds_toArray, List.set_cons_zero, List.set_cons_succ])
              refine wpAnyH_take (i := 15) (oi := _) (v := ?_) ((List.getElem?_toArray ..).trans rfl) (by kernel_rfl) (by kernel_rfl) (by kernel_rfl) (fun _ _ _ h => h) (Or.inl ⟨by rfl, ?_⟩) (by assumption) ?_
              rotate_left
              · (intro w hSw; (try dsimp only at hSw); go_simp; (try with_reducible rfl))
              (try simp only [Act.put, List.setIfInBounds_toArray, List.set_cons_zero, List.set_cons_succ])
              refine wpAnyH_done (by kernel_rfl) ?_ _
              refine NoPanic.normal ?_
              go_wp2_with (fail)
              go_ret
              exact ⟨g, rfl, HGE.out, HX.out, B1.out.trans (BB.out.mono HW1.out)⟩
            exact AllReadyH.nil
          exact AllReadyH.nil
        exact AllReadyH.nil
      refine AllReadyH.cons (i := 12) (o := _) ((List.getElem?_toArray ..).trans rfl) (fun K hK => ?_) ?_
      · refine Kd.R_make_step k81 _ 81 (by rfl) (N := 15) rfl 59 (.tmp 14) (.tmp 14) rfl c.ti rfl rfl Tryz.underlying59 (.agg #[.int .i64 0, .bool false, .int .i64 0, .int .i64 0]) 32 info81 rfl (by decide) (by decide) ⟨0, false, 0, 0⟩ (ok := fun _ => True) (okp := fun _ => False) (k81_mkM _ _ _ ⟨0, false, 0, 0⟩) (fun _ h => h.elim) trivial HT.out.1 HT.out.2 (Below.refl _ _) (Nat.le_refl _) ?_
        intro v1 X hR hb _ _; obtain ⟨C10, m10, e10, rfl, o10⟩ := OT.of_R hR; have O10 := Aside0.mk (o10.from BB.out.size); clear o10 hR; replace O6 := Aside0.mk (O6.out.below hb); replace O7 := Aside0.mk (O7.out.below hb); replace O9 := Aside0.mk (O9.out.below hb); replace BB := Aside0.mk (below_step BB.out hb); clear hb
        refine hK.out _ _ ?_ (fun hHeld => ?_)
        · (try dsimp only)
          (go_split_ands; (repeat' apply And.intro); all_goals (exact below_cell_of (w := w1) (by with_reducible repeat (first | exact Below.refl _ _ | assumption | exact Aside0.out (by assumption) | apply below_alloc | apply below_drew1 | apply pw_below_drewN)) (by assumption)))
        clear hK K
        (try simp only [Act.put, List.setIfInBounds_toArray, List.set_cons_zero, List.set_cons_succ])
        refine wpAnyH_ready (rs := [2]) (by kernel_rfl) (by simp) ?_
        refine AllReadyH.cons (i := 2) (o := _) ((List.getElem?_toArray ..).trans rfl) (fun K hK => ?_) ?_
        · refine step_lit0 (e := 3) (by rfl) (by first | (go_simp; done) | (go_simp; rfl)) ?_
          intro B5 X hb; replace O6 := Aside0.mk (O6.out.below hb); replace O7 := Aside0.mk (O7.out.below hb); replace O9 := Aside0.mk (O9.out.below hb); replace O10 := Aside0.mk (O10.out.below hb); replace BB := Aside0.mk (below_step BB.out hb); clear hb
          refine hK.out _ _ ?_ (fun hHeld => ?_)
          · (try dsimp only)
            (go_split_ands; (repeat' apply And.intro); all_goals (exact below_cell_of (w := w1) (by with_reducible repeat (first | exact Below.refl _ _ | assumption | exact Aside0.out (by assumption) | apply below_alloc | apply below_drew1 | apply pw_below_drewN)) (by assumption)))
          clear hK K
          (try simp only [Act.put, List.setIfInBounds_toArray, List.set_cons_zero, List.set_cons_succ])
          refine wpAnyH_ready (rs := [5]) (by kernel_rfl) (by simp) ?_
          refine AllReadyH.cons (i := 5) (o := _) ((List.getElem?_toArray ..).trans rfl) (fun K hK => ?_) ?_
          · refine step_append0 (by rfl) (.tmp 5) (.tmp 7) 22 3 rfl Tryz.underlying22 info3 B5 A7 n7 d7 c.ls rfl rfl (H7.out.below BB.out) HL.out.1 HL.out.2 ?_
            intro C8 m8 e8 X o8 o8' hb; have O8 : Aside0 (OI w1 X C8 m8 e8 c.ls) := ⟨OI.from ⟨o8, o8'⟩ BB.out.size⟩; clear o8 o8'; replace O6 := Aside0.mk (O6.out.below hb); replace O7 := Aside0.mk (O7.out.below hb); replace O9 := Aside0.mk (O9.out.below hb); replace O10 := Aside0.mk (O10.out.below hb); replace BB := Aside0.mk (below_step BB.out hb); clear hb
            refine hK.out _ _ ?_ (fun hHeld => ?_)
            · (try dsimp only)
              (go_split_ands; (repeat' apply And.intro); all_goals (exact below_cell_of (w := w1) (by with_reducible repeat (first | exact Below.refl _ _ | assumption | exact Aside0.out (by assumption) | apply below_alloc | apply below_drew1 | apply pw_below_drewN)) (by assumption)))
            clear hK K
            (try simp only [Act.put, List.setIfInBounds_toArray, List.set_cons_zero, List.set_cons_succ])
            refine wpAnyH_take (i := 13) (oi := _) (v := ?_) ((List.getElem?_toArray ..).trans rfl) (by kernel_rfl) (by kernel_rfl) (by kernel_rfl) (fun _ _ _ h => h) (Or.inl ⟨by rfl, ?_⟩) (by assumption) ?_
            rotate_left
            · (intro w hSw; (try dsimp only at hSw); go_simp; (try with_reducible rfl))
            (try simp only [Act.put, List.setIfInBounds_toArray, List.set_cons_zero, List.set_cons_succ])
            refine wpAnyH_ready (rs := [14]) (by kernel_rfl) (by simp) ?_
            refine AllReadyH.cons (i := 14) (o := _) ((List.getElem?_toArray ..).trans rfl) (fun K hK => ?_) ?_
            · refine box_step (by rfl) rfl (cs := #[.int .i64 c.th, .int .i64 c.st, .int .i64 c.ga, .int .i64 c.le, .int .i64 c.re, .int .i64 c.ti, .slice C6 m6 e6, .slice C7 m7 e7, .slice C8 m8 e8, .slice C9 m9 e9, .slice C10 m10 e10]) (t := 61) (by first | (go_simp; done) | (go_simp; rfl)) ?_
              intro g hg X hbox hb; have HX := Aside0.mk (RAt_new HRR.out HW1.out BB.out.size hg hb hbox O6.out O7.out O8.out O9.out O10.out); have HGE := Aside0.mk (show W.heap.size ≤ g by have h1 := HW1.out; have h2 := BB.out.size; omega); clear hg hbox; replace BB := Aside0.mk (below_step BB.out hb); clear hb O6 O7 O8 O9 O10
              refine hK.out _ _ ?_ (fun hHeld => ?_)
              · (try dsimp only)
                (go_split_ands; (repeat' apply And.intro); all_goals (exact below_cell_of (w := w1) (by with_reducible repeat (first | exact Below.refl _ _ | assumption | exact Aside0.out (by assumption) | apply below_alloc | apply below_drew1 | apply pw_below_drewN)) (by assumption)))
              clear hK K
              (try simp only [Act.put, List.setIfInBounds_toArray, List.set_cons_zero, List.set_cons_succ])
              refine wpAnyH_take (i := 15) (oi := _) (v := ?_) ((List.getElem?_toArray ..).trans rfl) (by kernel_rfl) (by kernel_rfl) (by kernel_rfl) (fun _ _ _ h => h) (Or.inl ⟨by rfl, ?_⟩) (by assumption) ?_
              rotate_left
              · (intro w hSw; (try dsimp only at hSw); go_simp; (try with_reducible rfl))
              (try simp only [Act.put, List.setIfInBounds_toArray, List.set_cons_zero, List.set_cons_succ])
              refine wpAnyH_done (by kernel_rfl) ?_ _
              refine NoPanic.normal ?_
              go_wp2_with (fail)
              go_ret
              exact ⟨g, rfl, HGE.out, HX.out, B1.out.trans (BB.out.mono HW1.out)⟩
            exact AllReadyH.nil
          exact AllReadyH.nil
        exact AllReadyH.nil
      exact AllReadyH.nil
    refine AllReadyH.cons (i := 2) (o := _) ((List.getElem?_toArray ..).trans rfl) (fun K hK => ?_) ?_
    · refine step_lit0 (e := 3) (by rfl) (by first | (go_simp; done) | (go_simp; rfl)) ?_
      intro B5 X hb; replace O9 := Aside0.mk (O9.out.below hb); replace BB := Aside0.mk (below_step BB.out hb); clear hb
      refine hK.out _ _ ?_ (fun hHeld => ?_)
      · (try dsimp only)
        (go_split_ands; (repeat' apply And.intro); all_goals (exact below_cell_of (w := w1) (by with_reducible repeat (first | exact Below.refl _ _ | assumption | exact Aside0.out (by assumption) | apply below_alloc | apply below_drew1 | apply pw_below_drewN)) (by assumption)))
      clear hK K
      (try simp only [Act.put, List.setIfInBounds_toArray, List.set_cons_zero, List.set_cons_succ])
      refine wpAnyH_ready (rs := [1, 12]) (by kernel_rfl) (by simp) ?_
      refine AllReadyH.cons (i := 1) (o := _) ((List.getElem?_toArray ..).trans rfl) (fun K hK => ?_) ?_
      · go_simp
        (go_at_call 24; (with_reducible refine (K_rOwn c _ _ _ _ _ _ _ ?_ ?_ ?_ ?_).mono ?_); exact H6.out.below BB.out; exact H7.out.below BB.out; exact HP.out.1; exact HP.out.2; rintro e X ⟨C6, m6, e6, C7, m7, e7, rfl, o6, o7, hb⟩; have O6 := Aside0.mk (o6.from BB.out.size); have O7 := Aside0.mk (o7.from BB.out.size); clear o6 o7; replace O9 := Aside0.mk (O9.out.below hb); replace BB := Aside0.mk (below_step BB.out hb); clear hb)
        refine hK.out _ _ ?_ (fun hHeld => ?_)
        · (try dsimp only)
          (go_split_ands; (repeat' apply And.intro); all_goals (exact below_cell_of (w := w1) (by with_reducible repeat (first | exact Below.refl _ _ | assumption | exact Aside0.out (by assumption) | apply below_alloc | apply below_drew1 | apply pw_below_drewN)) (by assumption)))
        clear hK K
        (try simp only [Act.put, List.setIfInBounds_toArray, List.set_cons_zero, List.set_cons_succ])
        refine wpAnyH_ready (rs := [5, 12]) (by kernel_rfl) (by simp) ?_
        refine AllReadyH.cons (i := 5) (o := _) ((List.getElem?_toArray ..).trans rfl) (fun K hK => ?_) ?_
        · refine step_append0 (by rfl) (.tmp 5) (.tmp 7) 22 3 rfl Tryz.underlying22 info3 B5 A7 n7 d7 c.ls rfl rfl (H7.out.below BB.out) HL.out.1 HL.out.2 ?_
          intro C8 m8 e8 X o8 o8' hb; have O8 : Aside0 (OI w1 X C8 m8 e8 c.ls) := ⟨OI.from ⟨o8, o8'⟩ BB.out.size⟩; clear o8 o8'; replace O6 := Aside0.mk (O6.out.below hb); replace O7 := Aside0.mk (O7.out.below hb); replace O9 := Aside0.mk (O9.out.below hb); replace BB := Aside0.mk (below_step BB.out hb); clear hb
          refine hK.out _ _ ?_ (fun hHeld => ?_)
          · (try dsimp only)
            (go_split_ands; (repeat' apply And.intro); all_goals (exact below_cell_of (w := w1) (by with_reducible repeat (first | exact Below.refl _ _ | assumption | exact Aside0.out (by assumption) | apply below_alloc | apply below_drew1 | apply pw_below_drewN)) (by assumption)))
          clear hK K
          (try simp only [Act.put, List.setIfInBounds_toArray, List.set_cons_zero, List.set_cons_succ])
          refine wpAnyH_ready (rs := [12]) (by kernel_rfl) (by simp) ?_
          refine AllReadyH.cons (i := 12) (o := _) ((List.getElem?_toArray ..).trans rfl) (fun K hK => ?_) ?_
          · refine Kd.R_make_step k81 _ 81 (by rfl) (N := 15) rfl 59 (.tmp 14) (.tmp 14) rfl c.ti rfl rfl Tryz.underlying59 (.agg #[.int .i64 0, .bool false, .int .i64 0, .int .i64 0]) 32 info81 rfl (by decide) (by decide) ⟨0, false, 0, 0⟩ (ok := fun _ => True) (okp := fun _ => False) (k81_mkM _ _ _ ⟨0, false, 0, 0⟩) (fun _ h => h.elim) trivial HT.out.1 HT.out.2 (Below.refl _ _) (Nat.le_refl _) ?_
            intro v1 X hR hb _ _; obtain ⟨C10, m10, e10, rfl, o10⟩ := OT.of_R hR; have O10 := Aside0.mk (o10.from BB.out.size); clear o10 hR; replace O6 := Aside0.mk (O6.out.below hb); replace O7 := Aside0.mk (O7.out.below hb); replace O8 := Aside0.mk (O8.out.below hb); replace O9 := Aside0.mk (O9.out.below hb); replace BB := Aside0.mk (below_step BB.out hb); clear hb
            refine hK.out _ _ ?_ (fun hHeld => ?_)
            · (try dsimp only)
              (go_split_ands; (repeat' apply And.intro); all_goals (exact below_cell_of (w := w1) (by with_reducible repeat (first | exact Below.refl _ _ | assumption | exact Aside0.out (by assumption) | apply below_alloc | apply below_drew1 | apply pw_below_drewN)) (by assumption)))
            clear hK K
            (try simp only [Act.put, List.setIfInBounds_toArray, List.set_cons_zero, List.set_cons_succ])
            refine wpAnyH_take (i := 13) (oi := _) (v := ?_) ((List.getElem?_toArray ..).trans rfl) (by kernel_rfl) (by kernel_rfl) (by kernel_rfl) (fun _ _ _ h => h) (Or.inl ⟨by rfl, ?_⟩) (by assumption) ?_
            rotate_left
            · (intro w hSw; (try dsimp only at hSw); go_simp; (try with_reducible rfl))
            (try simp only [Act.put, List.setIfInBounds_toArray, List.set_cons_zero, List.set_cons_succ])
            refine wpAnyH_ready (rs := [14]) (by kernel_rfl) (by simp) ?_
            refine AllReadyH.cons (i := 14) (o := _) ((List.getElem?_toArray ..).trans rfl) (fun K hK => ?_) ?_
            · refine box_step (by rfl) rfl (cs := #[.int .i64 c.th, .int .i64 c.st, .int .i64 c.ga, .int .i64 c.le, .int .i64 c.re, .int .i64 c.ti, .slice C6 m6 e6, .slice C7 m7 e7, .slice C8 m8 e8, .slice C9 m9 e9, .slice C10 m10 e10]) (t := 61) (by first | (go_simp; done) | (go_simp; rfl)) ?_
              intro g hg X hbox hb; have HX := Aside0.mk (RAt_new HRR.out HW1.out BB.out.size hg hb hbox O6.out O7.out O8.out O9.out O10.out); have HGE := Aside0.mk (show W.heap.size ≤ g by have h1 := HW1.out; have h2 := BB.out.size; omega); clear hg hbox; replace BB := Aside0.mk (below_step BB.out hb); clear hb O6 O7 O8 O9 O10
              refine hK.out _ _ ?_ (fun hHeld => ?_)
              · (try dsimp only)
                (go_split_ands; (repeat' apply And.intro); all_goals (exact below_cell_of (w := w1) (by with_reducible repeat (first | exact Below.refl _ _ | assumption | exact Aside0.out (by assumption) | apply below_alloc | apply below_drew1 | apply pw_below_drewN)) (by assumption)))
              clear hK K
              (try simp only [Act.put, List.setIfInBounds_toArray, List.set_cons_zero, List.set_cons_succ])
              refine wpAnyH_take (i := 15) (oi := _) (v := ?_) ((List.getElem?_toArray ..).trans rfl) (by kernel_rfl) (by kernel_rfl) (by kernel_rfl) (fun _ _ _ h => h) (Or.inl ⟨by rfl, ?_⟩) (by assumption) ?_
              rotate_left
              · (intro w hSw; (try dsimp only at hSw); go_simp; (try with_reducible rfl))
              (try simp only [Act.put, List.setIfInBounds_toArray, List.set_cons_zero, List.set_cons_succ])
              refine wpAnyH_done (by kernel_rfl) ?_ _
              refine NoPanic.normal ?_
              go_wp2_with (fail)
              go_ret
              exact ⟨g, rfl, HGE.out, HX.out, B1.out.trans (BB.out.mono HW1.out)⟩
            exact AllReadyH.nil
          exact AllReadyH.nil
        refine AllReadyH.cons (i := 12) (o := _) ((List.getElem?_toArray ..).trans rfl) (fun K hK => ?_) ?_
        · refine Kd.R_make_step k81 _ 81 (by rfl) (N := 15) rfl 59 (.tmp 14) (.tmp 14) rfl c.ti rfl rfl Tryz.underlying59 (.agg #[.int .i64 0, .bool false, .int .i64 0, .int .i64 0]) 32 info81 rfl (by decide) (by decide) ⟨0, false, 0, 0⟩ (ok := fun _ => True) (okp := fun _ => False) (k81_mkM _ _ _ ⟨0, false, 0, 0⟩) (fun _ h => h.elim) trivial HT.out.1 HT.out.2 (Below.refl _ _) (Nat.le_refl _) ?_
          intro v1 X hR hb _ _; obtain ⟨C10, m10, e10, rfl, o10⟩ := OT.of_R hR; have O10 := Aside0.mk (o10.from BB.out.size); clear o10 hR; replace O6 := Aside0.mk (O6.out.below hb); replace O7 := Aside0.mk (O7.out.below hb); replace O9 := Aside0.mk (O9.out.below hb); replace BB := Aside0.mk (below_step BB.out hb); clear hb
          refine hK.out _ _ ?_ (fun hHeld => ?_)
          · (try dsimp only)
            (go_split_ands; (repeat' apply And.intro); all_goals (exact below_cell_of (w := w1) (by with_reducible repeat (first | exact Below.refl _ _ | assumption | exact Aside0.out (by assumption) | apply below_alloc | apply below_drew1 | apply pw_below_drewN)) (by assumption)))
          clear hK K
          (try simp only [Act.put, List.setIfInBounds_toArray, List.set_cons_zero, List.set_cons_succ])
          refine wpAnyH_ready (rs := [5]) (by kernel_rfl) (by simp) ?_
          refine AllReadyH.cons (i := 5) (o := _) ((List.getElem?_toArray ..).trans rfl) (fun K hK => ?_) ?_
          · refine step_append0 (by rfl) (.tmp 5) (.tmp 7) 22 3 rfl Tryz.underlying22 info3 B5 A7 n7 d7 c.ls rfl rfl (H7.out.below BB.out) HL.out.1 HL.out.2 ?_
            intro C8 m8 e8 X o8 o8' hb; have O8 : Aside0 (OI w1 X C8 m8 e8 c.ls) := ⟨OI.from ⟨o8, o8'⟩ BB.out.size⟩; clear o8 o8'; replace O6 := Aside0.mk (O6.out.below hb); replace O7 := Aside0.mk (O7.out.below hb); replace O9 := Aside0.mk (O9.out.below hb); replace O10 := Aside0.mk (O10.out.below hb); replace BB := Aside0.mk (below_step BB.out hb); clear hb
            refine hK.out _ _ ?_ (fun hHeld => ?_)
            · (try dsimp only)
              (go_split_ands; (repeat' apply And.intro); all_goals (exact below_cell_of (w := w1) (by with_reducible repeat (first | exact Below.refl _ _ | assumption | exact Aside0.out (by assumption) | apply below_alloc | apply below_drew1 | apply pw_below_drewN)) (by assumption)))
            clear hK K
            (try simp only [Act.put, List.setIfInBounds_toArray, List.set_cons_zero, List.set_cons_succ])
            refine wpAnyH_take (i := 13) (oi := _) (v := ?_) ((List.getElem?_toArray ..).trans rfl) (by kernel_rfl) (by kernel_rfl) (by kernel_rfl) (fun _ _ _ h => h) (Or.inl ⟨by rfl, ?_⟩) (by assumption) ?_
            rotate_left
            · (intro w hSw; (try dsimp only at hSw); go_simp; (try with_reducible rfl))
            (try simp only [Act.put, List.setIfInBounds_toArray, List.set_cons_zero, List.set_cons_succ])
            refine wpAnyH_ready (rs := [14]) (by kernel_rfl) (by simp) ?_
            refine AllReadyH.cons (i := 14) (o := _) ((List.getElem?_toArray ..).trans rfl) (fun K hK => ?_) ?_
            · refine box_step (by rfl) rfl (cs := #[.int .i64 c.th, .int .i64 c.st, .int .i64 c.ga, .int .i64 c.le, .int .i64 c.re, .int .i64 c.ti, .slice C6 m6 e6, .slice C7 m7 e7, .slice C8 m8 e8, .slice C9 m9 e9, .slice C10 m10 e10]) (t := 61) (by first | (go_simp; done) | (go_simp; rfl)) ?_
              intro g hg X hbox hb; have HX := Aside0.mk (RAt_new HRR.out HW1.out BB.out.size hg hb hbox O6.out O7.out O8.out O9.out O10.out); have HGE := Aside0.mk (show W.heap.size ≤ g by have h1 := HW1.out; have h2 := BB.out.size; omega); clear hg hbox; replace BB := Aside0.mk (below_step BB.out hb); clear hb O6 O7 O8 O9 O10
              refine hK.out _ _ ?_ (fun hHeld => ?_)
              · (try dsimp only)
                (go_split_ands; (repeat' apply And.intro); all_goals (exact below_cell_of (w := w1) (by with_reducible repeat (first | exact Below.refl _ _ | assumption | exact Aside0.out (by assumption) | apply below_alloc | apply below_drew1 | apply pw_below_drewN)) (by assumption)))
              clear hK K
              (try simp only [Act.put, List.setIfInBounds_toArray, List.set_cons_zero, List.set_cons_succ])
              refine wpAnyH_take (i := 15) (oi := _) (v := ?_) ((List.getElem?_toArray ..).trans rfl) (by kernel_rfl) (by kernel_rfl) (by kernel_rfl) (fun _ _ _ h => h) (Or.inl ⟨by rfl, ?_⟩) (by assumption) ?_
              rotate_left
              · (intro w hSw; (try dsimp only at hSw); go_simp; (try with_reducible rfl))
              (try simp only [Act.put, List.setIfInBounds_toArray, List.set_cons_zero, List.set_cons_succ])
              refine wpAnyH_done (by kernel_rfl) ?_ _
              refine NoPanic.normal ?_
              go_wp2_with (fail)
              go_ret
              exact ⟨g, rfl, HGE.out, HX.out, B1.out.trans (BB.out.mono HW1.out)⟩
            exact AllReadyH.nil
          exact AllReadyH.nil
        exact AllReadyH.nil
      refine AllReadyH.cons (i := 12) (o := _) ((List.getElem?_toArray ..).trans rfl) (fun K hK => ?_) ?_
      · refine Kd.R_make_step k81 _ 81 (by rfl) (N := 15) rfl 59 (.tmp 14) (.tmp 14) rfl c.ti rfl rfl Tryz.underlying59 (.agg #[.int .i64 0, .bool false, .int .i64 0, .int .i64 0]) 32 info81 rfl (by decide) (by decide) ⟨0, false, 0, 0⟩ (ok := fun _ => True) (okp := fun _ => False) (k81_mkM _ _ _ ⟨0, false, 0, 0⟩) (fun _ h => h.elim) trivial HT.out.1 HT.out.2 (Below.refl _ _) (Nat.le_refl _) ?_
        intro v1 X hR hb _ _; obtain ⟨C10, m10, e10, rfl, o10⟩ := OT.of_R hR; have O10 := Aside0.mk (o10.from BB.out.size); clear o10 hR; replace O9 := Aside0.mk (O9.out.below hb); replace BB := Aside0.mk (below_step BB.out hb); clear hb
        refine hK.out _ _ ?_ (fun hHeld => ?_)
        · (try dsimp only)
          (go_split_ands; (repeat' apply And.intro); all_goals (exact below_cell_of (w := w1) (by with_reducible repeat (first | exact Below.refl _ _ | assumption | exact Aside0.out (by assumption) | apply below_alloc | apply below_drew1 | apply pw_below_drewN)) (by assumption)))
        clear hK K
        (try simp only [Act.put, List.setIfInBounds_toArray, List.set_cons_zero, List.set_cons_succ])
        refine wpAnyH_ready (rs := [1]) (by kernel_rfl) (by simp) ?_
        refine AllReadyH.cons (i := 1) (o := _) ((List.getElem?_toArray ..).trans rfl) (fun K hK => ?_) ?_
        · go_simp
          (go_at_call 24; (with_reducible refine (K_rOwn c _ _ _ _ _ _ _ ?_ ?_ ?_ ?_).mono ?_); exact H6.out.below BB.out; exact H7.out.below BB.out; exact HP.out.1; exact HP.out.2; rintro e X ⟨C6, m6, e6, C7, m7, e7, rfl, o6, o7, hb⟩; have O6 := Aside0.mk (o6.from BB.out.size); have O7 := Aside0.mk (o7.from BB.out.size); clear o6 o7; replace O9 := Aside0.mk (O9.out.below hb); replace O10 := Aside0.mk (O10.out.below hb); replace BB := Aside0.mk (below_step BB.out hb); clear hb)
          refine hK.out _ _ ?_ (fun hHeld => ?_)
          · (try dsimp only)
            (go_split_ands; (repeat' apply And.intro); all_goals (exact below_cell_of (w := w1) (by with_reducible repeat (first | exact Below.refl _ _ | assumption | exact Aside0.out (by assumption) | apply below_alloc | apply below_drew1 | apply pw_below_drewN)) (by assumption)))
          clear hK K
          (try simp only [Act.put, List.setIfInBounds_toArray, List.set_cons_zero, List.set_cons_succ])
          refine wpAnyH_ready (rs := [5]) (by kernel_rfl) (by simp) ?_
          refine AllReadyH.cons (i := 5) (o := _) ((List.getElem?_toArray ..).trans rfl) (fun K hK => ?_) ?_
          · refine step_append0 (by rfl) (.tmp 5) (.tmp 7) 22 3 rfl Tryz.underlying22 info3 B5 A7 n7 d7 c.ls rfl rfl (H7.out.below BB.out) HL.out.1 HL.out.2 ?_
            intro C8 m8 e8 X o8 o8' hb; have O8 : Aside0 (OI w1 X C8 m8 e8 c.ls) := ⟨OI.from ⟨o8, o8'⟩ BB.out.size⟩; clear o8 o8'; replace O6 := Aside0.mk (O6.out.below hb); replace O7 := Aside0.mk (O7.out.below hb); replace O9 := Aside0.mk (O9.out.below hb); replace O10 := Aside0.mk (O10.out.below hb); replace BB := Aside0.mk (below_step BB.out hb); clear hb
            refine hK.out _ _ ?_ (fun hHeld => ?_)
            · (try dsimp only)
              (go_split_ands; (repeat' apply And.intro); all_goals (exact below_cell_of (w := w1) (by with_reducible repeat (first | exact Below.refl _ _ | assumption | exact Aside0.out (by assumption) | apply below_alloc | apply below_drew1 | apply pw_below_drewN)) (by assumption)))
            clear hK K
            (try simp only [Act.put, List.setIfInBounds_toArray, List.set_cons_zero, List.set_cons_succ])
            refine wpAnyH_take (i := 13) (oi := _) (v := ?_) ((List.getElem?_toArray ..).trans rfl) (by kernel_rfl) (by kernel_rfl) (by kernel_rfl) (fun _ _ _ h => h) (Or.inl ⟨by rfl, ?_⟩) (by assumption) ?_
            rotate_left
            · (intro w hSw; (try dsimp only at hSw); go_simp; (try with_reducible rfl))
            (try simp only [Act.put, List.setIfInBounds_toArray, List.set_cons_zero, List.set_cons_succ])
            refine wpAnyH_ready (rs := [14]) (by kernel_rfl) (by simp) ?_
            refine AllReadyH.cons (i := 14) (o := _) ((List.getElem?_toArray ..).trans rfl) (fun K hK => ?_) ?_
            · refine box_step (by rfl) rfl (cs := #[.int .i64 c.th, .int .i64 c.st, .int .i64 c.ga, .int .i64 c.le, .int .i64 c.re, .int .i64 c.ti, .slice C6 m6 e6, .slice C7 m7 e7, .slice C8 m8 e8, .slice C9 m9 e9, .slice C10 m10 e10]) (t := 61) (by first | (go_simp; done) | (go_simp; rfl)) ?_
              intro g hg X hbox hb; have HX := Aside0.mk (RAt_new HRR.out HW1.out BB.out.size hg hb hbox O6.out O7.out O8.out O9.out O10.out); have HGE := Aside0.mk (show W.heap.size ≤ g by have h1 := HW1.out; have h2 := BB.out.size; omega); clear hg hbox; replace BB := Aside0.mk (below_step BB.out hb); clear hb O6 O7 O8 O9 O10
              refine hK.out _ _ ?_ (fun hHeld => ?_)
              · (try dsimp only)
                (go_split_ands; (repeat' apply And.intro); all_goals (exact below_cell_of (w := w1) (by with_reducible repeat (first | exact Below.refl _ _ | assumption | exact Aside0.out (by assumption) | apply below_alloc | apply below_drew1 | apply pw_below_drewN)) (by assumption)))
              clear hK K
              (try simp only [Act.put, List.setIfInBounds_toArray, List.set_cons_zero, List.set_cons_succ])
              refine wpAnyH_take (i := 15) (oi := _) (v := ?_) ((List.getElem?_toArray ..).trans rfl) (by kernel_rfl) (by kernel_rfl) (by kernel_rfl) (fun _ _ _ h => h) (Or.inl ⟨by rfl, ?_⟩) (by assumption) ?_
              rotate_left
              · (intro w hSw; (try dsimp only at hSw); go_simp; (try with_reducible rfl))
              (try simp only [Act.put, List.setIfInBounds_toArray, List.set_cons_zero, List.set_cons_succ])
              refine wpAnyH_done (by kernel_rfl) ?_ _
              refine NoPanic.normal ?_
              go_wp2_with (fail)
              go_ret
              exact ⟨g, rfl, HGE.out, HX.out, B1.out.trans (BB.out.mono HW1.out)⟩
            exact AllReadyH.nil
          exact AllReadyH.nil
        exact AllReadyH.nil
      exact AllReadyH.nil
    refine AllReadyH.cons (i := 12) (o := _) ((List.getElem?_toArray ..).trans rfl) (fun K hK => ?_) ?_
    · refine Kd.R_make_step k81 _ 81 (by rfl) (N := 15) rfl 59 (.tmp 14) (.tmp 14) rfl c.ti rfl rfl Tryz.underlying59 (.agg #[.int .i64 0, .bool false, .int .i64 0, .int .i64 0]) 32 info81 rfl (by decide) (by decide) ⟨0, false, 0, 0⟩ (ok := fun _ => True) (okp := fun _ => False) (k81_mkM _ _ _ ⟨0, false, 0, 0⟩) (fun _ h => h.elim) trivial HT.out.1 HT.out.2 (Below.refl _ _) (Nat.le_refl _) ?_
      intro v1 X hR hb _ _; obtain ⟨C10, m10, e10, rfl, o10⟩ := OT.of_R hR; have O10 := Aside0.mk (o10.from BB.out.size); clear o10 hR; replace O9 := Aside0.mk (O9.out.below hb); replace BB := Aside0.mk (below_step BB.out hb); clear hb
      refine hK.out _ _ ?_ (fun hHeld => ?_)
      · (try dsimp only)
        (go_split_ands; (repeat' apply And.intro); all_goals (exact below_cell_of (w := w1) (by with_reducible repeat (first | exact Below.refl _ _ | assumption | exact Aside0.out (by assumption) | apply below_alloc | apply below_drew1 | apply pw_below_drewN)) (by assumption)))
      clear hK K
      (try simp only [Act.put, List.setIfInBounds_toArray, List.set_cons_zero, List.set_cons_succ])
      refine wpAnyH_ready (rs := [1, 2]) (by kernel_rfl) (by simp) ?_
      refine AllReadyH.cons (i := 1) (o := _) ((List.getElem?_toArray ..).trans rfl) (fun K hK => ?_) ?_
      · go_simp
        (go_at_call 24; (with_reducible refine (K_rOwn c _ _ _ _ _ _ _ ?_ ?_ ?_ ?_).mono ?_); exact H6.out.below BB.out; exact H7.out.below BB.out; exact HP.out.1; exact HP.out.2; rintro e X ⟨C6, m6, e6, C7, m7, e7, rfl, o6, o7, hb⟩; have O6 := Aside0.mk (o6.from BB.out.size); have O7 := Aside0.mk (o7.from BB.out.size); clear o6 o7; replace O9 := Aside0.mk (O9.out.below hb); replace O10 := Aside0.mk (O10.out.below hb); replace BB := Aside0.mk (below_step BB.out hb); clear hb)
        refine hK.out _ _ ?_ (fun hHeld => ?_)
        · (try dsimp only)
          (go_split_ands; (repeat' apply And.intro); all_goals (exact below_cell_of (w := w1) (by with_reducible repeat (first | exact Below.refl _ _ | assumption | exact Aside0.out (by assumption) | apply below_alloc | apply below_drew1 | apply pw_below_drewN)) (by assumption)))
        clear hK K
        (try simp only [Act.put, List.setIfInBounds_toArray, List.set_cons_zero, List.set_cons_succ])
        refine wpAnyH_ready (rs := [2]) (by kernel_rfl) (by simp) ?_
        refine AllReadyH.cons (i := 2) (o := _) ((List.getElem?_toArray ..).trans rfl) (fun K hK => ?_) ?_
        · refine step_lit0 (e := 3) (by rfl) (by first | (go_simp; done) | (go_simp; rfl)) ?_
          intro B5 X hb; replace O6 := Aside0.mk (O6.out.below hb); replace O7 := Aside0.mk (O7.out.below hb); replace O9 := Aside0.mk (O9.out.below hb); replace O10 := Aside0.mk (O10.out.below hb); replace BB := Aside0.mk (below_step BB.out hb); clear hb
          refine hK.out _ _ ?_ (fun hHeld => ?_)
          · (try dsimp only)
            (go_split_ands; (repeat' apply And.intro); all_goals (exact below_cell_of (w := w1) (by with_reducible repeat (first | exact Below.refl _ _ | assumption | exact Aside0.out (by assumption) | apply below_alloc | apply below_drew1 | apply pw_below_drewN)) (by assumption)))
          clear hK K
          (try simp only [Act.put, List.setIfInBounds_toArray, List.set_cons_zero, List.set_cons_succ])
          refine wpAnyH_ready (rs := [5]) (by kernel_rfl) (by simp) ?_
          refine AllReadyH.cons (i := 5) (o := _) ((List.getElem?_toArray ..).trans rfl) (fun K hK => ?_) ?_
          · refine step_append0 (by rfl) (.tmp 5) (.tmp 7) 22 3 rfl Tryz.underlying22 info3 B5 A7 n7 d7 c.ls rfl rfl (H7.out.below BB.out) HL.out.1 HL.out.2 ?_
            intro C8 m8 e8 X o8 o8' hb; have O8 : Aside0 (OI w1 X C8 m8 e8 c.ls) := ⟨OI.from ⟨o8, o8'⟩ BB.out.size⟩; clear o8 o8'; replace O6 := Aside0.mk (O6.out.below hb); replace O7 := Aside0.mk (O7.out.below hb); replace O9 := Aside0.mk (O9.out.below hb); replace O10 := Aside0.mk (O10.out.below hb); replace BB := Aside0.mk (below_step BB.out hb); clear hb
            refine hK.out _ _ ?_ (fun hHeld => ?_)
            · (try dsimp only)
              (go_split_ands; (repeat' apply And.intro); all_goals (exact below_cell_of (w := w1) (by with_reducible repeat (first | exact Below.refl _ _ | assumption | exact Aside0.out (by assumption) | apply below_alloc | apply below_drew1 | apply pw_below_drewN)) (by assumption)))
            clear hK K
            (try simp only [Act.put, List.setIfInBounds_toArray, List.set_cons_zero, List.set_cons_succ])
            refine wpAnyH_take (i := 13) (oi := _) (v := ?_) ((List.getElem?_toArray ..).trans rfl) (by kernel_rfl) (by kernel_rfl) (by kernel_rfl) (fun _ _ _ h => h) (Or.inl ⟨by rfl, ?_⟩) (by assumption) ?_
            rotate_left
            · (intro w hSw; (try dsimp only at hSw); go_simp; (try with_reducible rfl))
            (try simp only [Act.put, List.setIfInBounds_toArray, List.set_cons_zero, List.set_cons_succ])
            refine wpAnyH_ready (rs := [14]) (by kernel_rfl) (by simp) ?_
            refine AllReadyH.cons (i := 14) (o := _) ((List.getElem?_toArray ..).trans rfl) (fun K hK => ?_) ?_
            · refine box_step (by rfl) rfl (cs := #[.int .i64 c.th, .int .i64 c.st, .int .i64 c.ga, .int .i64 c.le, .int .i64 c.re, .int .i64 c.ti, .slice C6 m6 e6, .slice C7 m7 e7, .slice C8 m8 e8, .slice C9 m9 e9, .slice C10 m10 e10]) (t := 61) (by first | (go_simp; done) | (go_simp; rfl)) ?_
              intro g hg X hbox hb; have HX := Aside0.mk (RAt_new HRR.out HW1.out BB.out.size hg hb hbox O6.out O7.out O8.out O9.out O10.out); have HGE := Aside0.mk (show W.heap.size ≤ g by have h1 := HW1.out; have h2 := BB.out.size; omega); clear hg hbox; replace BB := Aside0.mk (below_step BB.out hb); clear hb O6 O7 O8 O9 O10
              refine hK.out _ _ ?_ (fun hHeld => ?_)
              · (try dsimp only)
                (go_split_ands; (repeat' apply And.intro); all_goals (exact below_cell_of (w := w1) (by with_reducible repeat (first | exact Below.refl _ _ | assumption | exact Aside0.out (by assumption) | apply below_alloc | apply below_drew1 | apply pw_below_drewN)) (by assumption)))
              clear hK K
              (try simp only [Act.put, List.setIfInBounds_toArray, List.set_cons_zero, List.set_cons_succ])
              refine wpAnyH_take (i := 15) (oi := _) (v := ?_) ((List.getElem?_toArray ..).trans rfl) (by kernel_rfl) (by kernel_rfl) (by kernel_rfl) (fun _ _ _ h => h) (Or.inl ⟨by rfl, ?_⟩) (by assumption) ?_
              rotate_left
              · (intro w hSw; (try dsimp only at hSw); go_simp; (try with_reducible rfl))
              (try simp only [Act.put, List.setIfInBounds_toArray, List.set_cons_zero, List.set_cons_succ])
              refine wpAnyH_done (by kernel_rfl) ?_ _
              refine NoPanic.normal ?_
              go_wp2_with (fail)
              go_ret
              exact ⟨g, rfl, HGE.out, HX.out, B1.out.trans (BB.out.mono HW1.out)⟩
            exact AllReadyH.nil
          exact AllReadyH.nil
        exact AllReadyH.nil
      refine AllReadyH.cons (i := 2) (o := _) ((List.getElem?_toArray ..).trans rfl) (fun K hK => ?_) ?_
      · refine step_lit0 (e := 3) (by rfl) (by first | (go_simp; done) | (go_simp; rfl)) ?_
        intro B5 X hb; replace O9 := Aside0.mk (O9.out.below hb); replace O10 := Aside0.mk (O10.out.below hb); replace BB := Aside0.mk (below_step BB.out hb); clear hb
        refine hK.out _ _ ?_ (fun hHeld => ?_)
        · (try dsimp only)
          (go_split_ands; (repeat' apply And.intro); all_goals (exact below_cell_of (w := w1) (by with_reducible repeat (first | exact Below.refl _ _ | assumption | exact Aside0.out (by assumption) | apply below_alloc | apply below_drew1 | apply pw_below_drewN)) (by assumption)))
        clear hK K
        (try simp only [Act.put, List.setIfInBounds_toArray, List.set_cons_zero, List.set_cons_succ])
        refine wpAnyH_ready (rs := [1]) (by kernel_rfl) (by simp) ?_
        refine AllReadyH.cons (i := 1) (o := _) ((List.getElem?_toArray ..).trans rfl) (fun K hK => ?_) ?_
        · go_simp
          (go_at_call 24; (with_reducible refine (K_rOwn c _ _ _ _ _ _ _ ?_ ?_ ?_ ?_).mono ?_); exact H6.out.below BB.out; exact H7.out.below BB.out; exact HP.out.1; exact HP.out.2; rintro e X ⟨C6, m6, e6, C7, m7, e7, rfl, o6, o7, hb⟩; have O6 := Aside0.mk (o6.from BB.out.size); have O7 := Aside0.mk (o7.from BB.out.size); clear o6 o7; replace O9 := Aside0.mk (O9.out.below hb); replace O10 := Aside0.mk (O10.out.below hb); replace BB := Aside0.mk (below_step BB.out hb); clear hb)
          refine hK.out _ _ ?_ (fun hHeld => ?_)
          · (try dsimp only)
            (go_split_ands; (repeat' apply And.intro); all_goals (exact below_cell_of (w := w1) (by with_reducible repeat (first | exact Below.refl _ _ | assumption | exact Aside0.out (by assumption) | apply below_alloc | apply below_drew1 | apply pw_below_drewN)) (by assumption)))
          clear hK K
          (try simp only [Act.put, List.setIfInBounds_toArray, List.set_cons_zero, List.set_cons_succ])
          refine wpAnyH_ready (rs := [5]) (by kernel_rfl) (by simp) ?_
          refine AllReadyH.cons (i := 5) (o := _) ((List.getElem?_toArray ..).trans rfl) (fun K hK => ?_) ?_
          · refine step_append0 (by rfl) (.tmp 5) (.tmp 7) 22 3 rfl Tryz.underlying22 info3 B5 A7 n7 d7 c.ls rfl rfl (H7.out.below BB.out) HL.out.1 HL.out.2 ?_
            intro C8 m8 e8 X o8 o8' hb; have O8 : Aside0 (OI w1 X C8 m8 e8 c.ls) := ⟨OI.from ⟨o8, o8'⟩ BB.out.size⟩; clear o8 o8'; replace O6 := Aside0.mk (O6.out.below hb); replace O7 := Aside0.mk (O7.out.below hb); replace O9 := Aside0.mk (O9.out.below hb); replace O10 := Aside0.mk (O10.out.below hb); replace BB := Aside0.mk (below_step BB.out hb); clear hb
            refine hK.out _ _ ?_ (fun hHeld => ?_)
            · (try dsimp only)
              (go_split_ands; (repeat' apply And.intro); all_goals (exact below_cell_of (w := w1) (by with_reducible repeat (first | exact Below.refl _ _ | assumption | exact Aside0.out (by assumption) | apply below_alloc | apply below_drew1 | apply pw_below_drewN)) (by assumption)))
            clear hK K
            (try simp only [Act.put, List.setIfInBounds_toArray, List.set_cons_zero, List.set_cons_succ])
            refine wpAnyH_take (i := 13) (oi := _) (v := ?_) ((List.getElem?_toArray ..).trans rfl) (by kernel_rfl) (by kernel_rfl) (by kernel_rfl) (fun _ _ _ h => h) (Or.inl ⟨by rfl, ?_⟩) (by assumption) ?_
            rotate_left
            · (intro w hSw; (try dsimp only at hSw); go_simp; (try with_reducible rfl))
            (try simp only [Act.put, List.setIfInBounds_toArray, List.set_cons_zero, List.set_cons_succ])
            refine wpAnyH_ready (rs := [14]) (by kernel_rfl) (by simp) ?_
            refine AllReadyH.cons (i := 14) (o := _) ((List.getElem?_toArray ..).trans rfl) (fun K hK => ?_) ?_
            · refine box_step (by rfl) rfl (cs := #[.int .i64 c.th, .int .i64 c.st, .int .i64 c.ga, .int .i64 c.le, .int .i64 c.re, .int .i64 c.ti, .slice C6 m6 e6, .slice C7 m7 e7, .slice C8 m8 e8, .slice C9 m9 e9, .slice C10 m10 e10]) (t := 61) (by first | (go_simp; done) | (go_simp; rfl)) ?_
              intro g hg X hbox hb; have HX := Aside0.mk (RAt_new HRR.out HW1.out BB.out.size hg hb hbox O6.out O7.out O8.out O9.out O10.out); have HGE := Aside0.mk (show W.heap.size ≤ g by have h1 := HW1.out; have h2 := BB.out.size; omega); clear hg hbox; replace BB := Aside0.mk (below_step BB.out hb); clear hb O6 O7 O8 O9 O10
              refine hK.out _ _ ?_ (fun hHeld => ?_)
              · (try dsimp only)
                (go_split_ands; (repeat' apply And.intro); all_goals (exact below_cell_of (w := w1) (by with_reducible repeat (first | exact Below.refl _ _ | assumption | exact Aside0.out (by assumption) | apply below_alloc | apply below_drew1 | apply pw_below_drewN)) (by assumption)))
              clear hK K
              (try simp only [Act.put, List.setIfInBounds_toArray, List.set_cons_zero, List.set_cons_succ])
              refine wpAnyH_take (i := 15) (oi := _) (v := ?_) ((List.getElem?_toArray ..).trans rfl) (by kernel_rfl) (by kernel_rfl) (by kernel_rfl) (fun _ _ _ h => h) (Or.inl ⟨by rfl, ?_⟩) (by assumption) ?_
              rotate_left
              · (intro w hSw; (try dsimp only at hSw); go_simp; (try with_reducible rfl))
              (try simp only [Act.put, List.setIfInBounds_toArray, List.set_cons_zero, List.set_cons_succ])
              refine wpAnyH_done (by kernel_rfl) ?_ _
              refine NoPanic.normal ?_
              go_wp2_with (fail)
              go_ret
              exact ⟨g, rfl, HGE.out, HX.out, B1.out.trans (BB.out.mono HW1.out)⟩
            exact AllReadyH.nil
          exact AllReadyH.nil
        exact AllReadyH.nil
      exact AllReadyH.nil
    exact AllReadyH.nil
  refine AllReadyH.cons (i := 12) (o := _) ((List.getElem?_toArray ..).trans rfl) (fun K hK => ?_) ?_
  · refine Kd.R_make_step k81 _ 81 (by rfl) (N := 15) rfl 59 (.tmp 14) (.tmp 14) rfl c.ti rfl rfl Tryz.underlying59 (.agg #[.int .i64 0, .bool false, .int .i64 0, .int .i64 0]) 32 info81 rfl (by decide) (by decide) ⟨0, false, 0, 0⟩ (ok := fun _ => True) (okp := fun _ => False) (k81_mkM _ _ _ ⟨0, false, 0, 0⟩) (fun _ h => h.elim) trivial HT.out.1 HT.out.2 (Below.refl _ _) (Nat.le_refl _) ?_
    intro v1 X hR hb _ _; obtain ⟨C10, m10, e10, rfl, o10⟩ := OT.of_R hR; have O10 := Aside0.mk (o10.from BB.out.size); clear o10 hR; replace BB := Aside0.mk (below_step BB.out hb); clear hb
    refine hK.out _ _ ?_ (fun hHeld => ?_)
    · (try dsimp only)
      (go_split_ands; (repeat' apply And.intro); all_goals (exact below_cell_of (w := w1) (by with_reducible repeat (first | exact Below.refl _ _ | assumption | exact Aside0.out (by assumption) | apply below_alloc | apply below_drew1 | apply pw_below_drewN)) (by assumption)))
    clear hK K
    (try simp only [Act.put, List.setIfInBounds_toArray, List.set_cons_zero, List.set_cons_succ])
    refine wpAnyH_ready (rs := [1, 2, 9]) (by kernel_rfl) (by simp) ?_
    refine AllReadyH.cons (i := 1) (o := _) ((List.getElem?_toArray ..).trans rfl) (fun K hK => ?_) ?_
    · go_simp
      (go_at_call 24; (with_reducible refine (K_rOwn c _ _ _ _ _ _ _ ?_ ?_ ?_ ?_).mono ?_); exact H6.out.below BB.out; exact H7.out.below BB.out; exact HP.out.1; exact HP.out.2; rintro e X ⟨C6, m6, e6, C7, m7, e7, rfl, o6, o7, hb⟩; have O6 := Aside0.mk (o6.from BB.out.size); have O7 := Aside0.mk (o7.from BB.out.size); clear o6 o7; replace O10 := Aside0.mk (O10.out.below hb); replace BB := Aside0.mk (below_step BB.out hb); clear hb)
      refine hK.out _ _ ?_ (fun hHeld => ?_)
      · (try dsimp only)
        (go_split_ands; (repeat' apply And.intro); all_goals (exact below_cell_of (w := w1) (by with_reducible repeat (first | exact Below.refl _ _ | assumption | exact Aside0.out (by assumption) | apply below_alloc | apply below_drew1 | apply pw_below_drewN)) (by assumption)))
      clear hK K
      (try simp only [Act.put, List.setIfInBounds_toArray, List.set_cons_zero, List.set_cons_succ])
      refine wpAnyH_ready (rs := [2, 9]) (by kernel_rfl) (by simp) ?_
      refine AllReadyH.cons (i := 2) (o := _) ((List.getElem?_toArray ..).trans rfl) (fun K hK => ?_) ?_
      · refine step_lit0 (e := 3) (by rfl) (by first | (go_simp; done) | (go_simp; rfl)) ?_
        intro B5 X hb; replace O6 := Aside0.mk (O6.out.below hb); replace O7 := Aside0.mk (O7.out.below hb); replace O10 := Aside0.mk (O10.out.below hb); replace BB := Aside0.mk (below_step BB.out hb); clear hb
        refine hK.out _ _ ?_ (fun hHeld => ?_)
        · (try dsimp only)
          (go_split_ands; (repeat' apply And.intro); all_goals (exact below_cell_of (w := w1) (by with_reducible repeat (first | exact Below.refl _ _ | assumption | exact Aside0.out (by assumption) | apply below_alloc | apply below_drew1 | apply pw_below_drewN)) (by assumption)))
        clear hK K
        (try simp only [Act.put, List.setIfInBounds_toArray, List.set_cons_zero, List.set_cons_succ])
        refine wpAnyH_ready (rs := [5, 9]) (by kernel_rfl) (by simp) ?_
        refine AllReadyH.cons (i := 5) (o := _) ((List.getElem?_toArray ..).trans rfl) (fun K hK => ?_) ?_
        · refine step_append0 (by rfl) (.tmp 5) (.tmp 7) 22 3 rfl Tryz.underlying22 info3 B5 A7 n7 d7 c.ls rfl rfl (H7.out.below BB.out) HL.out.1 HL.out.2 ?_
          intro C8 m8 e8 X o8 o8' hb; have O8 : Aside0 (OI w1 X C8 m8 e8 c.ls) := ⟨OI.from ⟨o8, o8'⟩ BB.out.size⟩; clear o8 o8'; replace O6 := Aside0.mk (O6.out.below hb); replace O7 := Aside0.mk (O7.out.below hb); replace O10 := Aside0.mk (O10.out.below hb); replace BB := Aside0.mk (below_step BB.out hb); clear hb
          refine hK.out _ _ ?_ (fun hHeld => ?_)
          · (try dsimp only)
            (go_split_ands; (repeat' apply And.intro); all_goals (exact below_cell_of (w := w1) (by with_reducible repeat (first | exact Below.refl _ _ | assumption | exact Aside0.out (by assumption) | apply below_alloc | apply below_drew1 | apply pw_below_drewN)) (by assumption)))
          clear hK K
          (try simp only [Act.put, List.setIfInBounds_toArray, List.set_cons_zero, List.set_cons_succ])
          refine wpAnyH_ready (rs := [9]) (by kernel_rfl) (by simp) ?_
          refine AllReadyH.cons (i := 9) (o := _) ((List.getElem?_toArray ..).trans rfl) (fun K hK => ?_) ?_
          · refine Kd.R_make_step (Kd.int .i64) _ 3 (by rfl) (N := 12) rfl 22 (.tmp 11) (.tmp 11) rfl (n6 : Int) rfl rfl Tryz.underlying22 (.int .i64 0) 8 info3 rfl (by decide) (by decide) 0 (ok := fun _ => True) (okp := fun _ => False) rfl (fun _ h => h.elim) trivial HN.out.1 HN.out.2 (Below.refl _ _) (Nat.le_refl _) ?_
            intro v1 X hR hb _ _; obtain ⟨C9, m9, e9, rfl, o9⟩ := OI.of_R hR; rw [HN6.out] at o9; have O9 := Aside0.mk (o9.from BB.out.size); clear o9 hR; replace O6 := Aside0.mk (O6.out.below hb); replace O7 := Aside0.mk (O7.out.below hb); replace O8 := Aside0.mk (O8.out.below hb); replace O10 := Aside0.mk (O10.out.below hb); replace BB := Aside0.mk (below_step BB.out hb); clear hb
            refine hK.out _ _ ?_ (fun hHeld => ?_)
            · (try dsimp only)
              (go_split_ands; (repeat' apply And.intro); all_goals (exact below_cell_of (w := w1) (by with_reducible repeat (first | exact Below.refl _ _ | assumption | exact Aside0.out (by assumption) | apply below_alloc | apply below_drew1 | apply pw_below_drewN)) (by assumption)))
            clear hK K
            (try simp only [Act.put, List.setIfInBounds_toArray, List.set_cons_zero, List.set_cons_succ])
            refine wpAnyH_take (i := 13) (oi := _) (v := ?_) ((List.getElem?_toArray ..).trans rfl) (by kernel_rfl) (by kernel_rfl) (by kernel_rfl) (fun _ _ _ h => h) (Or.inl ⟨by rfl, ?_⟩) (by assumption) ?_
            rotate_left
            · (intro w hSw; (try dsimp only at hSw); go_simp; (try with_reducible rfl))
            (try simp only [Act.put, List.setIfInBounds_toArray, List.set_cons_zero, List.set_cons_succ])
            refine wpAnyH_ready (rs := [14]) (by kernel_rfl) (by simp) ?_
            refine AllReadyH.cons (i := 14) (o := _) ((List.getElem?_toArray ..).trans rfl) (fun K hK => ?_) ?_
            · refine box_step (by rfl) rfl (cs := #[.int .i64 c.th, .int .i64 c.st, .int .i64 c.ga, .int .i64 c.le, .int .i64 c.re, .int .i64 c.ti, .slice C6 m6 e6, .slice C7 m7 e7, .slice C8 m8 e8, .slice C9 m9 e9, .slice C10 m10 e10]) (t := 61) (by first | (go_simp; done) | (go_simp; rfl)) ?_
              intro g hg X hbox hb; have HX := Aside0.mk (RAt_new HRR.out HW1.out BB.out.size hg hb hbox O6.out O7.out O8.out O9.out O10.out); have HGE := Aside0.mk (show W.heap.size ≤ g by have h1 := HW1.out; have h2 := BB.out.size; omega); clear hg hbox; replace BB := Aside0.mk (below_step BB.out hb); clear hb O6 O7 O8 O9 O10
              refine hK.out _ _ ?_ (fun hHeld => ?_)
              · (try dsimp only)
                (go_split_ands; (repeat' apply And.intro); all_goals (exact below_cell_of (w := w1) (by with_reducible repeat (first | exact Below.refl _ _ | assumption | exact Aside0.out (by assumption) | apply below_alloc | apply below_drew1 | apply pw_below_drewN)) (by assumption)))
              clear hK K
              (try simp only [Act.put, List.setIfInBounds_toArray, List.set_cons_zero, List.set_cons_succ])
              refine wpAnyH_take (i := 15) (oi := _) (v := ?_) ((List.getElem?_toArray ..).trans rfl) (by kernel_rfl) (by kernel_rfl) (by kernel_rfl) (fun _ _ _ h => h) (Or.inl ⟨by rfl, ?_⟩) (by assumption) ?_
              rotate_left
              · (intro w hSw; (try dsimp only at hSw); go_simp; (try with_reducible rfl))
              (try simp only [Act.put, List.setIfInBounds_toArray, List.set_cons_zero, List.set_cons_succ])
              refine wpAnyH_done (by kernel_rfl) ?_ _
              refine NoPanic.normal ?_
              go_wp2_with (fail)
              go_ret
              exact ⟨g, rfl, HGE.out, HX.out, B1.out.trans (BB.out.mono HW1.out)⟩
            exact AllReadyH.nil
          exact AllReadyH.nil
        refine AllReadyH.cons (i := 9) (o := _) ((List.getElem?_toArray ..).trans rfl) (fun K hK => ?_) ?_
        · refine Kd.R_make_step (Kd.int .i64) _ 3 (by rfl) (N := 12) rfl 22 (.tmp 11) (.tmp 11) rfl (n6 : Int) rfl rfl Tryz.underlying22 (.int .i64 0) 8 info3 rfl (by decide) (by decide) 0 (ok := fun _ => True) (okp := fun _ => False) rfl (fun _ h => h.elim) trivial HN.out.1 HN.out.2 (Below.refl _ _) (Nat.le_refl _) ?_
          intro v1 X hR hb _ _; obtain ⟨C9, m9, e9, rfl, o9⟩ := OI.of_R hR; rw [HN6.out] at o9; have O9 := Aside0.mk (o9.from BB.out.size); clear o9 hR; replace O6 := Aside0.mk (O6.out.below hb); replace O7 := Aside0.mk (O7.out.below hb); replace O10 := Aside0.mk (O10.out.below hb); replace BB := Aside0.mk (below_step BB.out hb); clear hb
          refine hK.out _ _ ?_ (fun hHeld => ?_)
          · (try dsimp only)
            (go_split_ands; (repeat' apply And.intro); all_goals (exact below_cell_of (w := w1) (by with_reducible repeat (first | exact Below.refl _ _ | assumption | exact Aside0.out (by assumption) | apply below_alloc | apply below_drew1 | apply pw_below_drewN)) (by assumption)))
          clear hK K
          (try simp only [Act.put, List.setIfInBounds_toArray, List.set_cons_zero, List.set_cons_succ])
          refine wpAnyH_ready (rs := [5]) (by kernel_rfl) (by simp) ?_
          refine AllReadyH.cons (i := 5) (o := _) ((List.getElem?_toArray ..).trans rfl) (fun K hK => ?_) ?_
          · refine step_append0 (by rfl) (.tmp 5) (.tmp 7) 22 3 rfl Tryz.underlying22 info3 B5 A7 n7 d7 c.ls rfl rfl (H7.out.below BB.out) HL.out.1 HL.out.2 ?_
            intro C8 m8 e8 X o8 o8' hb; have O8 : Aside0 (OI w1 X C8 m8 e8 c.ls) := ⟨OI.from ⟨o8, o8'⟩ BB.out.size⟩; clear o8 o8'; replace O6 := Aside0.mk (O6.out.below hb); replace O7 := Aside0.mk (O7.out.below hb); replace O9 := Aside0.mk (O9.out.below hb); replace O10 := Aside0.mk (O10.out.below hb); replace BB := Aside0.mk (below_step BB.out hb); clear hb
            refine hK.out _ _ ?_ (fun hHeld => ?_)
            · (try dsimp only)
              (go_split_ands; (repeat' apply And.intro); all_goals (exact below_cell_of (w := w1) (by with_reducible repeat (first | exact Below.refl _ _ | assumption | exact Aside0.out (by assumption) | apply below_alloc | apply below_drew1 | apply pw_below_drewN)) (by assumption)))
            clear hK K
            (try simp only [Act.put, List.setIfInBounds_toArray, List.set_cons_zero, List.set_cons_succ])
            refine wpAnyH_take (i := 13) (oi := _) (v := ?_) ((List.getElem?_toArray ..).trans rfl) (by kernel_rfl) (by kernel_rfl) (by kernel_rfl) (fun _ _ _ h => h) (Or.inl ⟨by rfl, ?_⟩) (by assumption) ?_
            rotate_left
            · (intro w hSw; (try dsimp only at hSw); go_simp; (try with_reducible rfl))
            (try simp only [Act.put, List.setIfInBounds_toArray, List.set_cons_zero, List.set_cons_succ])
            refine wpAnyH_ready (rs := [14]) (by kernel_rfl) (by simp) ?_
            refine AllReadyH.cons (i := 14) (o := _) ((List.getElem?_toArray ..).trans rfl) (fun K hK => ?_) ?_
            · refine box_step (by rfl) rfl (cs := #[.int .i64 c.th, .int .i64 c.st, .int .i64 c.ga, .int .i64 c.le, .int .i64 c.re, .int .i64 c.ti, .slice C6 m6 e6, .slice C7 m7 e7, .slice C8 m8 e8, .slice C9 m9 e9, .slice C10 m10 e10]) (t := 61) (by first | (go_simp; done) | (go_simp; rfl)) ?_
              intro g hg X hbox hb; have HX := Aside0.mk (RAt_new HRR.out HW1.out BB.out.size hg hb hbox O6.out O7.out O8.out O9.out O10.out); have HGE := Aside0.mk (show W.heap.size ≤ g by have h1 := HW1.out; have h2 := BB.out.size; omega); clear hg hbox; replace BB := Aside0.mk (below_step BB.out hb); clear hb O6 O7 O8 O9 O10
              refine hK.out _ _ ?_ (fun hHeld => ?_)
              · (try dsimp only)
                (go_split_ands; (repeat' apply And.intro); all_goals (exact below_cell_of (w := w1) (by with_reducible repeat (first | exact Below.refl _ _ | assumption | exact Aside0.out (by assumption) | apply below_alloc | apply below_drew1 | apply pw_below_drewN)) (by assumption)))
              clear hK K
              (try simp only [Act.put, List.setIfInBounds_toArray, List.set_cons_zero, List.set_cons_succ])
              refine wpAnyH_take (i := 15) (oi := _) (v := ?_) ((List.getElem?_toArray ..).trans rfl) (by kernel_rfl) (by kernel_rfl) (by kernel_rfl) (fun _ _ _ h => h) (Or.inl ⟨by rfl, ?_⟩) (by assumption) ?_
              rotate_left
              · (intro w hSw; (try dsimp only at hSw); go_simp; (try with_reducible rfl))
              (try simp only [Act.put, List.setIfInBounds_toArray, List.set_cons_zero, List.set_cons_succ])
              refine wpAnyH_done (by kernel_rfl) ?_ _
              refine NoPanic.normal ?_
              go_wp2_with (fail)
              go_ret
              exact ⟨g, rfl, HGE.out, HX.out, B1.out.trans (BB.out.mono HW1.out)⟩
            exact AllReadyH.nil
          exact AllReadyH.nil
        exact AllReadyH.nil
      refine AllReadyH.cons (i := 9) (o := _) ((List.getElem?_toArray ..).trans rfl) (fun K hK => ?_) ?_
      · refine Kd.R_make_step (Kd.int .i64) _ 3 (by rfl) (N := 12) rfl 22 (.tmp 11) (.tmp 11) rfl (n6 : Int) rfl rfl Tryz.underlying22 (.int .i64 0) 8 info3 rfl (by decide) (by decide) 0 (ok := fun _ => True) (okp := fun _ => False) rfl (fun _ h => h.elim) trivial HN.out.1 HN.out.2 (Below.refl _ _) (Nat.le_refl _) ?_
        intro v1 X hR hb _ _; obtain ⟨C9, m9, e9, rfl, o9⟩ := OI.of_R hR; rw [HN6.out] at o9; have O9 := Aside0.mk (o9.from BB.out.size); clear o9 hR; replace O6 := Aside0.mk (O6.out.below hb); replace O7 := Aside0.mk (O7.out.below hb); replace O10 := Aside0.mk (O10.out.below hb); replace BB := Aside0.mk (below_step BB.out hb); clear hb
        refine hK.out _ _ ?_ (fun hHeld => ?_)
        · (try dsimp only)
          (go_split_ands; (repeat' apply And.intro); all_goals (exact below_cell_of (w := w1) (by with_reducible repeat (first | exact Below.refl _ _ | assumption | exact Aside0.out (by assumption) | apply below_alloc | apply below_drew1 | apply pw_below_drewN)) (by assumption)))
        clear hK K
        (try simp only [Act.put, List.setIfInBounds_toArray, List.set_cons_zero, List.set_cons_succ])
        refine wpAnyH_ready (rs := [2]) (by kernel_rfl) (by simp) ?_
        refine AllReadyH.cons (i := 2) (o := _) ((List.getElem?_toArray ..).trans rfl) (fun K hK => ?_) ?_
        · refine step_lit0 (e := 3) (by rfl) (by first | (go_simp; done) | (go_simp; rfl)) ?_
          intro B5 X hb; replace O6 := Aside0.mk (O6.out.below hb); replace O7 := Aside0.mk (O7.out.below hb); replace O9 := Aside0.mk (O9.out.below hb); replace O10 := Aside0.mk (O10.out.below hb); replace BB := Aside0.mk (below_step BB.out hb); clear hb
          refine hK.out _ _ ?_ (fun hHeld => ?_)
          · (try dsimp only)
            (go_split_ands; (repeat' apply And.intro); all_goals (exact below_cell_of (w := w1) (by with_reducible repeat (first | exact Below.refl _ _ | assumption | exact Aside0.out (by assumption) | apply below_alloc | apply below_drew1 | apply pw_below_drewN)) (by assumption)))
          clear hK K
          (try simp only [Act.put, List.setIfInBounds_toArray, List.set_cons_zero, List.set_cons_succ])
          refine wpAnyH_ready (rs := [5]) (by kernel_rfl) (by simp) ?_
          refine AllReadyH.cons (i := 5) (o := _) ((List.getElem?_toArray ..).trans rfl) (fun K hK => ?_) ?_
          · refine step_append0 (by rfl) (.tmp 5) (.tmp 7) 22 3 rfl Tryz.underlying22 info3 B5 A7 n7 d7 c.ls rfl rfl (H7.out.below BB.out) HL.out.1 HL.out.2 ?_
            intro C8 m8 e8 X o8 o8' hb; have O8 : Aside0 (OI w1 X C8 m8 e8 c.ls) := ⟨OI.from ⟨o8, o8'⟩ BB.out.size⟩; clear o8 o8'; replace O6 := Aside0.mk (O6.out.below hb); replace O7 := Aside0.mk (O7.out.below hb); replace O9 := Aside0.mk (O9.out.below hb); replace O10 := Aside0.mk (O10.out.below hb); replace BB := Aside0.mk (below_step BB.out hb); clear hb
            refine hK.out _ _ ?_ (fun hHeld => ?_)
            · (try dsimp only)
              (go_split_ands; (repeat' apply And.intro); all_goals (exact below_cell_of (w := w1) (by with_reducible repeat (first | exact Below.refl _ _ | assumption | exact Aside0.out (by assumption) | apply below_alloc | apply below_drew1 | apply pw_below_drewN)) (by assumption)))
            clear hK K
            (try simp only [Act.put, List.setIfInBounds_toArray, List.set_cons_zero, List.set_cons_succ])
            refine wpAnyH_take (i := 13) (oi := _) (v := ?_) ((List.getElem?_toArray ..).trans rfl) (by kernel_rfl) (by kernel_rfl) (by kernel_rfl) (fun _ _ _ h => h) (Or.inl ⟨by rfl, ?_⟩) (by assumption) ?_
            rotate_left
            · (intro w hSw; (try dsimp only at hSw); go_simp; (try with_reducible rfl))
            (try simp only [Act.put, List.setIfInBounds_toArray, List.set_cons_zero, List.set_cons_succ])
            refine wpAnyH_ready (rs := [14]) (by kernel_rfl) (by simp) ?_
            refine AllReadyH.cons (i := 14) (o := _) ((List.getElem?_toArray ..).trans rfl) (fun K hK => ?_) ?_
            · refine box_step (by rfl) rfl (cs := #[.int .i64 c.th, .int .i64 c.st, .int .i64 c.ga, .int .i64 c.le, .int .i64 c.re, .int .i64 c.ti, .slice C6 m6 e6, .slice C7 m7 e7, .slice C8 m8 e8, .slice C9 m9 e9, .slice C10 m10 e10]) (t := 61) (by first | (go_simp; done) | (go_simp; rfl)) ?_
              intro g hg X hbox hb; have HX := Aside0.mk (RAt_new HRR.out HW1.out BB.out.size hg hb hbox O6.out O7.out O8.out O9.out O10.out); have HGE := Aside0.mk (show W.heap.size ≤ g by have h1 := HW1.out; have h2 := BB.out.size; omega); clear hg hbox; replace BB := Aside0.mk (below_step BB.out hb); clear hb O6 O7 O8 O9 O10
              refine hK.out _ _ ?_ (fun hHeld => ?_)
              · (try dsimp only)
                (go_split_ands; (repeat' apply And.intro); all_goals (exact below_cell_of (w := w1) (by with_reducible repeat (first | exact Below.refl _ _ | assumption | exact Aside0.out (by assumption) | apply below_alloc | apply below_drew1 | apply pw_below_drewN)) (by assumption)))
              clear hK K
              (try simp only [Act.put, List.setIfInBounds_toArray, List.set_cons_zero, List.set_cons_succ])
              refine wpAnyH_take (i := 15) (oi := _) (v := ?_) ((List.getElem?_toArray ..).trans rfl) (by kernel_rfl) (by kernel_rfl) (by kernel_rfl) (fun _ _ _ h => h) (Or.inl ⟨by rfl, ?_⟩) (by assumption) ?_
              rotate_left
              · (intro w hSw; (try dsimp only at hSw); go_simp; (try with_reducible rfl))
              (try simp only [Act.put, List.setIfInBounds_toArray, List.set_cons_zero, List.set_cons_succ])
              refine wpAnyH_done (by kernel_rfl) ?_ _
              refine NoPanic.normal ?_
              go_wp2_with (fail)
              go_ret
              exact ⟨g, rfl, HGE.out, HX.out, B1.out.trans (BB.out.mono HW1.out)⟩
            exact AllReadyH.nil
          exact AllReadyH.nil
        exact AllReadyH.nil
      exact AllReadyH.nil
    refine AllReadyH.cons (i := 2) (o := _) ((List.getElem?_toArray ..).trans rfl) (fun K hK => ?_) ?_
    · refine step_lit0 (e := 3) (by rfl) (by first | (go_simp; done) | (go_simp; rfl)) ?_
      intro B5 X hb; replace O10 := Aside0.mk (O10.out.below hb); replace BB := Aside0.mk (below_step BB.out hb); clear hb
      refine hK.out _ _ ?_ (fun hHeld => ?_)
      · (try dsimp only)
        (go_split_ands; (repeat' apply And.intro); all_goals (exact below_cell_of (w := w1) (by with_reducible repeat (first | exact Below.refl _ _ | assumption | exact Aside0.out (by assumption) | apply below_alloc | apply below_drew1 | apply pw_below_drewN)) (by assumption)))
      clear hK K
      (try simp only [Act.put, List.setIfInBounds_toArray, List.set_cons_zero, List.set_cons_succ])
      refine wpAnyH_ready (rs := [1, 9]) (by kernel_rfl) (by simp) ?_
      refine AllReadyH.cons (i := 1) (o := _) ((List.getElem?_toArray ..).trans rfl) (fun K hK => ?_) ?_
      · go_simp
        (go_at_call 24; (with_reducible refine (K_rOwn c _ _ _ _ _ _ _ ?_ ?_ ?_ ?_).mono ?_); exact H6.out.below BB.out; exact H7.out.below BB.out; exact HP.out.1; exact HP.out.2; rintro e X ⟨C6, m6, e6, C7, m7, e7, rfl, o6, o7, hb⟩; have O6 := Aside0.mk (o6.from BB.out.size); have O7 := Aside0.mk (o7.from BB.out.size); clear o6 o7; replace O10 := Aside0.mk (O10.out.below hb); replace BB := Aside0.mk (below_step BB.out hb); clear hb)
        refine hK.out _ _ ?_ (fun hHeld => ?_)
        · (try dsimp only)
          (go_split_ands; (repeat' apply And.intro); all_goals (exact below_cell_of (w := w1) (by with_reducible repeat (first | exact Below.refl _ _ | assumption | exact Aside0.out (by assumption) | apply below_alloc | apply below_drew1 | apply pw_below_drewN)) (by assumption)))
        clear hK K
        (try simp only [Act.put, List.setIfInBounds_toArray, List.set_cons_zero, List.set_cons_succ])
        refine wpAnyH_ready (rs := [5, 9]) (by kernel_rfl) (by simp) ?_
        refine AllReadyH.cons (i := 5) (o := _) ((List.getElem?_toArray ..).trans rfl) (fun K hK => ?_) ?_
        · refine step_append0 (by rfl) (.tmp 5) (.tmp 7) 22 3 rfl Tryz.underlying22 info3 B5 A7 n7 d7 c.ls rfl rfl (H7.out.below BB.out) HL.out.1 HL.out.2 ?_
          intro C8 m8 e8 X o8 o8' hb; have O8 : Aside0 (OI w1 X C8 m8 e8 c.ls) := ⟨OI.from ⟨o8, o8'⟩ BB.out.size⟩; clear o8 o8'; replace O6 := Aside0.mk (O6.out.below hb); replace O7 := Aside0.mk (O7.out.below hb); replace O10 := Aside0.mk (O10.out.below hb); replace BB := Aside0.mk (below_step BB.out hb); clear hb
          refine hK.out _ _ ?_ (fun hHeld => ?_)
          · (try dsimp only)
            (go_split_ands; (repeat' apply And.intro); all_goals (exact below_cell_of (w := w1) (by with_reducible repeat (first | exact Below.refl _ _ | assumption | exact Aside0.out (by assumption) | apply below_alloc | apply below_drew1 | apply pw_below_drewN)) (by assumption)))
          clear hK K
          (try simp only [Act.put, List.setIfInBounds_toArray, List.set_cons_zero, List.set_cons_succ])
          refine wpAnyH_ready (rs := [9]) (by kernel_rfl) (by simp) ?_
          refine AllReadyH.cons (i := 9) (o := _) ((List.getElem?_toArray ..).trans rfl) (fun K hK => ?_) ?_
          · refine Kd.R_make_step (Kd.int .i64) _ 3 (by rfl) (N := 12) rfl 22 (.tmp 11) (.tmp 11) rfl (n6 : Int) rfl rfl Tryz.underlying22 (.int .i64 0) 8 info3 rfl (by decide) (by decide) 0 (ok := fun _ => True) (okp := fun _ => False) rfl (fun _ h => h.elim) trivial HN.out.1 HN.out.2 (Below.refl _ _) (Nat.le_refl _) ?_
            intro v1 X hR hb _ _; obtain ⟨C9, m9, e9, rfl, o9⟩ := OI.of_R hR; rw [HN6.out] at o9; have O9 := Aside0.mk (o9.from BB.out.size); clear o9 hR; replace O6 := Aside0.mk (O6.out.below hb); replace O7 := Aside0.mk (O7.out.below hb); replace O8 := Aside0.mk (O8.out.below hb); replace O10 := Aside0.mk (O10.out.below hb); replace BB := Aside0.mk (below_step BB.out hb); clear hb
            refine hK.out _ _ ?_ (fun hHeld => ?_)
            · (try dsimp only)
              (go_split_ands; (repeat' apply And.intro); all_goals (exact below_cell_of (w := w1) (by with_reducible repeat (first | exact Below.refl _ _ | assumption | exact Aside0.out (by assumption) | apply below_alloc | apply below_drew1 | apply pw_below_drewN)) (by assumption)))
            clear hK K
            (try simp only [Act.put, List.setIfInBounds_toArray, List.set_cons_zero, List.set_cons_succ])
            refine wpAnyH_take (i := 13) (oi := _) (v := ?_) ((List.getElem?_toArray ..).trans rfl) (by kernel_rfl) (by kernel_rfl) (by kernel_rfl) (fun _ _ _ h => h) (Or.inl ⟨by rfl, ?_⟩) (by assumption) ?_
            rotate_left
            · (intro w hSw; (try dsimp only at hSw); go_simp; (try with_reducible rfl))
            (try simp only [Act.put, List.setIfInBounds_toArray, List.set_cons_zero, List.set_cons_succ])
            refine wpAnyH_ready (rs := [14]) (by kernel_rfl) (by simp) ?_
            refine AllReadyH.cons (i := 14) (o := _) ((List.getElem?_toArray ..).trans rfl) (fun K hK => ?_) ?_
            · refine box_step (by rfl) rfl (cs := #[.int .i64 c.th, .int .i64 c.st, .int .i64 c.ga, .int .i64 c.le, .int .i64 c.re, .int .i64 c.ti, .slice C6 m6 e6, .slice C7 m7 e7, .slice C8 m8 e8, .slice C9 m9 e9, .slice C10 m10 e10]) (t := 61) (by first | (go_simp; done) | (go_simp; rfl)) ?_
              intro g hg X hbox hb; have HX := Aside0.mk (RAt_new HRR.out HW1.out BB.out.size hg hb hbox O6.out O7.out O8.out O9.out O10.out); have HGE := Aside0.mk (show W.heap.size ≤ g by have h1 := HW1.out; have h2 := BB.out.size; omega); clear hg hbox; replace BB := Aside0.mk (below_step BB.out hb); clear hb O6 O7 O8 O9 O10
              refine hK.out _ _ ?_ (fun hHeld => ?_)
              · (try dsimp only)
                (go_split_ands; (repeat' apply And.intro); all_goals (exact below_cell_of (w := w1) (by with_reducible repeat (first | exact Below.refl _ _ | assumption | exact Aside0.out (by assumption) | apply below_alloc | apply below_drew1 | apply pw_below_drewN)) (by assumption)))
              clear hK K
              (try simp only [Act.put, List.setIfInBounds_toArray, List.set_cons_zero, List.set_cons_succ])
              refine wpAnyH_take (i := 15) (oi := _) (v := ?_) ((List.getElem?_toArray ..).trans rfl) (by kernel_rfl) (by kernel_rfl) (by kernel_rfl) (fun _ _ _ h => h) (Or.inl ⟨by rfl, ?_⟩) (by assumption) ?_
              rotate_left
              · (intro w hSw; (try dsimp only at hSw); go_simp; (try with_reducible rfl))
              (try simp only [Act.put, List.setIfInBounds_toArray, List.set_cons_zero, List.set_cons_succ])
              refine wpAnyH_done (by kernel_rfl) ?_ _
              refine NoPanic.normal ?_
              go_wp2_with (fail)
              go_ret
              exact ⟨g, rfl, HGE.out, HX.out, B1.out.trans (BB.out.mono HW1.out)⟩
            exact AllReadyH.nil
          exact AllReadyH.nil
        refine AllReadyH.cons (i := 9) (o := _) ((List.getElem?_toArray ..).trans rfl) (fun K hK => ?_) ?_
        · refine Kd.R_make_step (Kd.int .i64) _ 3 (by rfl) (N := 12) rfl 22 (.tmp 11) (.tmp 11) rfl (n6 : Int) rfl rfl Tryz.underlying22 (.int .i64 0) 8 info3 rfl (by decide) (by decide) 0 (ok := fun _ => True) (okp := fun _ => False) rfl (fun _ h => h.elim) trivial HN.out.1 HN.out.2 (Below.refl _ _) (Nat.le_refl _) ?_
          intro v1 X hR hb _ _; obtain ⟨C9, m9, e9, rfl, o9⟩ := OI.of_R hR; rw [HN6.out] at o9; have O9 := Aside0.mk (o9.from BB.out.size); clear o9 hR; replace O6 := Aside0.mk (O6.out.below hb); replace O7 := Aside0.mk (O7.out.below hb); replace O10 := Aside0.mk (O10.out.below hb); replace BB := Aside0.mk (below_step BB.out hb); clear hb
          refine hK.out _ _ ?_ (fun hHeld => ?_)
          · (try dsimp only)
            (go_split_ands; (repeat' apply And.intro); all_goals (exact below_cell_of (w := w1) (by with_reducible repeat (first | exact Below.refl _ _ | assumption | exact Aside0.out (by assumption) | apply below_alloc | apply below_drew1 | apply pw_below_drewN)) (by assumption)))
          clear hK K
          (try simp only [Act.put, List.setIfInBounds_toArray, List.set_cons_zero, List.set_cons_succ])
          refine wpAnyH_ready (rs := [5]) (by kernel_rfl) (by simp) ?_
          refine AllReadyH.cons (i := 5) (o := _) ((List.getElem?_toArray ..).trans rfl) (fun K hK => ?_) ?_
          · refine step_append0 (by rfl) (.tmp 5) (.tmp 7) 22 3 rfl Tryz.underlying22 info3 B5 A7 n7 d7 c.ls rfl rfl (H7.out.below BB.out) HL.out.1 HL.out.2 ?_
            intro C8 m8 e8 X o8 o8' hb; have O8 : Aside0 (OI w1 X C8 m8 e8 c.ls) := ⟨OI.from ⟨o8, o8'⟩ BB.out.size⟩; clear o8 o8'; replace O6 := Aside0.mk (O6.out.below hb); replace O7 := Aside0.mk (O7.out.below hb); replace O9 := Aside0.mk (O9.out.below hb); replace O10 := Aside0.mk (O10.out.below hb); replace BB := Aside0.mk (below_step BB.out hb); clear hb
            refine hK.out _ _ ?_ (fun hHeld => ?_)
            · (try dsimp only)
              (go_split_ands; (repeat' apply And.intro); all_goals (exact below_cell_of (w := w1) (by with_reducible repeat (first | exact Below.refl _ _ | assumption | exact Aside0.out (by assumption) | apply below_alloc | apply below_drew1 | apply pw_below_drewN)) (by assumption)))
            clear hK K
            (try simp only [Act.put, List.setIfInBounds_toArray, List.set_cons_zero, List.set_cons_succ])
            refine wpAnyH_take (i := 13) (oi := _) (v := ?_) ((List.getElem?_toArray ..).trans rfl) (by kernel_rfl) (by kernel_rfl) (by kernel_rfl) (fun _ _ _ h => h) (Or.inl ⟨by rfl, ?_⟩) (by assumption) ?_
            rotate_left
            · (intro w hSw; (try dsimp only at hSw); go_simp; (try with_reducible rfl))
            (try simp only [Act.put, List.setIfInBounds_toArray, List.set_cons_zero, List.set_cons_succ])
            refine wpAnyH_ready (rs := [14]) (by kernel_rfl) (by simp) ?_
            refine AllReadyH.cons (i := 14) (o := _) ((List.getElem?_toArray ..).trans rfl) (fun K hK => ?_) ?_
            · refine box_step (by rfl) rfl (cs := #[.int .i64 c.th, .int .i64 c.st, .int .i64 c.ga, .int .i64 c.le, .int .i64 c.re, .int .i64 c.ti, .slice C6 m6 e6, .slice C7 m7 e7, .slice C8 m8 e8, .slice C9 m9 e9, .slice C10 m10 e10]) (t := 61) (by first | (go_simp; done) | (go_simp; rfl)) ?_
              intro g hg X hbox hb; have HX := Aside0.mk (RAt_new HRR.out HW1.out BB.out.size hg hb hbox O6.out O7.out O8.out O9.out O10.out); have HGE := Aside0.mk (show W.heap.size ≤ g by have h1 := HW1.out; have h2 := BB.out.size; omega); clear hg hbox; replace BB := Aside0.mk (below_step BB.out hb); clear hb O6 O7 O8 O9 O10
              refine hK.out _ _ ?_ (fun hHeld => ?_)
              · (try dsimp only)
                (go_split_ands; (repeat' apply And.intro); all_goals (exact below_cell_of (w := w1) (by with_reducible repeat (first | exact Below.refl _ _ | assumption | exact Aside0.out (by assumption) | apply below_alloc | apply below_drew1 | apply pw_below_drewN)) (by assumption)))
              clear hK K
              (try simp only [Act.put, List.setIfInBounds_toArray, List.set_cons_zero, List.set_cons_succ])
              refine wpAnyH_take (i := 15) (oi := _) (v := ?_) ((List.getElem?_toArray ..).trans rfl) (by kernel_rfl) (by kernel_rfl) (by kernel_rfl) (fun _ _ _ h => h) (Or.inl ⟨by rfl, ?_⟩) (by assumption) ?_
              rotate_left
              · (intro w hSw; (try dsimp only at hSw); go_simp; (try with_reducible rfl))
              (try simp only [Act.put, List.setIfInBounds_toArray, List.set_cons_zero, List.set_cons_succ])
              refine wpAnyH_done (by kernel_rfl) ?_ _
              refine NoPanic.normal ?_
              go_wp2_with (fail)
              go_ret
              exact ⟨g, rfl, HGE.out, HX.out, B1.out.trans (BB.out.mono HW1.out)⟩
            exact AllReadyH.nil
          exact AllReadyH.nil
        exact AllReadyH.nil
      refine AllReadyH.cons (i := 9) (o := _) ((List.getElem?_toArray ..).trans rfl) (fun K hK => ?_) ?_
      · refine Kd.R_make_step (Kd.int .i64) _ 3 (by rfl) (N := 12) rfl 22 (.tmp 11) (.tmp 11) rfl (n6 : Int) rfl rfl Tryz.underlying22 (.int .i64 0) 8 info3 rfl (by decide) (by decide) 0 (ok := fun _ => True) (okp := fun _ => False) rfl (fun _ h => h.elim) trivial HN.out.1 HN.out.2 (Below.refl _ _) (Nat.le_refl _) ?_
        intro v1 X hR hb _ _; obtain ⟨C9, m9, e9, rfl, o9⟩ := OI.of_R hR; rw [HN6.out] at o9; have O9 := Aside0.mk (o9.from BB.out.size); clear o9 hR; replace O10 := Aside0.mk (O10.out.below hb); replace BB := Aside0.mk (below_step BB.out hb); clear hb
        refine hK.out _ _ ?_ (fun hHeld => ?_)
        · (try dsimp only)
          (go_split_ands; (repeat' apply And.intro); all_goals (exact below_cell_of (w := w1) (by with_reducible repeat (first | exact Below.refl _ _ | assumption | exact Aside0.out (by assumption) | apply below_alloc | apply below_drew1 | apply pw_below_drewN)) (by assumption)))
        clear hK K
        (try simp only [Act.put, List.setIfInBounds_toArray, List.set_cons_zero, List.set_cons_succ])
        refine wpAnyH_ready (rs := [1]) (by kernel_rfl) (by simp) ?_
        refine AllReadyH.cons (i := 1) (o := _) ((List.getElem?_toArray ..).trans rfl) (fun K hK => ?_) ?_
        · go_simp
          (go_at_call 24; (with_reducible refine (K_rOwn c _ _ _ _ _ _ _ ?_ ?_ ?_ ?_).mono ?_); exact H6.out.below BB.out; exact H7.out.below BB.out; exact HP.out.1; exact HP.out.2; rintro e X ⟨C6, m6, e6, C7, m7, e7, rfl, o6, o7, hb⟩; have O6 := Aside0.mk (o6.from BB.out.size); have O7 := Aside0.mk (o7.from BB.out.size); clear o6 o7; replace O9 := Aside0.mk (O9.out.below hb); replace O10 := Aside0.mk (O10.out.below hb); replace BB := Aside0.mk (below_step BB.out hb); clear hb)
          refine hK.out _ _ ?_ (fun hHeld => ?_)
          · (try dsimp only)
            (go_split_ands; (repeat' apply And.intro); all_goals (exact below_cell_of (w := w1) (by with_reducible repeat (first | exact Below.refl _ _ | assumption | exact Aside0.out (by assumption) | apply below_alloc | apply below_drew1 | apply pw_below_drewN)) (by assumption)))
          clear hK K
          (try simp only [Act.put, List.setIfInBounds_toArray, List.set_cons_zero, List.set_cons_succ])
          refine wpAnyH_ready (rs := [5]) (by kernel_rfl) (by simp) ?_
          refine AllReadyH.cons (i := 5) (o := _) ((List.getElem?_toArray ..).trans rfl) (fun K hK => ?_) ?_
          · refine step_append0 (by rfl) (.tmp 5) (.tmp 7) 22 3 rfl Tryz.underlying22 info3 B5 A7 n7 d7 c.ls rfl rfl (H7.out.below BB.out) HL.out.1 HL.out.2 ?_
            intro C8 m8 e8 X o8 o8' hb; have O8 : Aside0 (OI w1 X C8 m8 e8 c.ls) := ⟨OI.from ⟨o8, o8'⟩ BB.out.size⟩; clear o8 o8'; replace O6 := Aside0.mk (O6.out.below hb); replace O7 := Aside0.mk (O7.out.below hb); replace O9 := Aside0.mk (O9.out.below hb); replace O10 := Aside0.mk (O10.out.below hb); replace BB := Aside0.mk (below_step BB.out hb); clear hb
            refine hK.out _ _ ?_ (fun hHeld => ?_)
            · (try dsimp only)
              (go_split_ands; (repeat' apply And.intro); all_goals (exact below_cell_of (w := w1) (by with_reducible repeat (first | exact Below.refl _ _ | assumption | exact Aside0.out (by assumption) | apply below_alloc | apply below_drew1 | apply pw_below_drewN)) (by assumption)))
            clear hK K
            (try simp only [Act.put, List.setIfInBounds_toArray, List.set_cons_zero, List.set_cons_succ])
            refine wpAnyH_take (i := 13) (oi := _) (v := ?_) ((List.getElem?_toArray ..).trans rfl) (by kernel_rfl) (by kernel_rfl) (by kernel_rfl) (fun _ _ _ h => h) (Or.inl ⟨by rfl, ?_⟩) (by assumption) ?_
            rotate_left
            · (intro w hSw; (try dsimp only at hSw); go_simp; (try with_reducible rfl))
            (try simp only [Act.put, List.setIfInBounds_toArray, List.set_cons_zero, List.set_cons_succ])
            refine wpAnyH_ready (rs := [14]) (by kernel_rfl) (by simp) ?_
            refine AllReadyH.cons (i := 14) (o := _) ((List.getElem?_toArray ..).trans rfl) (fun K hK => ?_) ?_
            · refine box_step (by rfl) rfl (cs := #[.int .i64 c.th, .int .i64 c.st, .int .i64 c.ga, .int .i64 c.le, .int .i64 c.re, .int .i64 c.ti, .slice C6 m6 e6, .slice C7 m7 e7, .slice C8 m8 e8, .slice C9 m9 e9, .slice C10 m10 e10]) (t := 61) (by first | (go_simp; done) | (go_simp; rfl)) ?_
              intro g hg X hbox hb; have HX := Aside0.mk (RAt_new HRR.out HW1.out BB.out.size hg hb hbox O6.out O7.out O8.out O9.out O10.out); have HGE := Aside0.mk (show W.heap.size ≤ g by have h1 := HW1.out; have h2 := BB.out.size; omega); clear hg hbox; replace BB := Aside0.mk (below_step BB.out hb); clear hb O6 O7 O8 O9 O10
              refine hK.out _ _ ?_ (fun hHeld => ?_)
              · (try dsimp only)
                (go_split_ands; (repeat' apply And.intro); all_goals (exact below_cell_of (w := w1) (by with_reducible repeat (first | exact Below.refl _ _ | assumption | exact Aside0.out (by assumption) | apply below_alloc | apply below_drew1 | apply pw_below_drewN)) (by assumption)))
              clear hK K
              (try simp only [Act.put, List.setIfInBounds_toArray, List.set_cons_zero, List.set_cons_succ])
              refine wpAnyH_take (i := 15) (oi := _) (v := ?_) ((List.getElem?_toArray ..).trans rfl) (by kernel_rfl) (by kernel_rfl) (by kernel_rfl) (fun _ _ _ h => h) (Or.inl ⟨by rfl, ?_⟩) (by assumption) ?_
              rotate_left
              · (intro w hSw; (try dsimp only at hSw); go_simp; (try with_reducible rfl))
              (try simp only [Act.put, List.setIfInBounds_toArray, List.set_cons_zero, List.set_cons_succ])
              refine wpAnyH_done (by kernel_rfl) ?_ _
              refine NoPanic.normal ?_
              go_wp2_with (fail)
              go_ret
              exact ⟨g, rfl, HGE.out, HX.out, B1.out.trans (BB.out.mono HW1.out)⟩
            exact AllReadyH.nil
          exact AllReadyH.nil
        exact AllReadyH.nil
      exact AllReadyH.nil
    refine AllReadyH.cons (i := 9) (o := _) ((List.getElem?_toArray ..).trans rfl) (fun K hK => ?_) ?_
    · refine Kd.R_make_step (Kd.int .i64) _ 3 (by rfl) (N := 12) rfl 22 (.tmp 11) (.tmp 11) rfl (n6 : Int) rfl rfl Tryz.underlying22 (.int .i64 0) 8 info3 rfl (by decide) (by decide) 0 (ok := fun _ => True) (okp := fun _ => False) rfl (fun _ h => h.elim) trivial HN.out.1 HN.out.2 (Below.refl _ _) (Nat.le_refl _) ?_
      intro v1 X hR hb _ _; obtain ⟨C9, m9, e9, rfl, o9⟩ := OI.of_R hR; rw [HN6.out] at o9; have O9 := Aside0.mk (o9.from BB.out.size); clear o9 hR; replace O10 := Aside0.mk (O10.out.below hb); replace BB := Aside0.mk (below_step BB.out hb); clear hb
      refine hK.out _ _ ?_ (fun hHeld => ?_)
      · (try dsimp only)
        (go_split_ands; (repeat' apply And.intro); all_goals (exact below_cell_of (w := w1) (by with_reducible repeat (first | exact Below.refl _ _ | assumption | exact Aside0.out (by assumption) | apply below_alloc | apply below_drew1 | apply pw_below_drewN)) (by assumption)))
      clear hK K
      (try simp only [Act.put, List.setIfInBounds_toArray, List.set_cons_zero, List.set_cons_succ])
      refine wpAnyH_ready (rs := [1, 2]) (by kernel_rfl) (by simp) ?_
      refine AllReadyH.cons (i := 1) (o := _) ((List.getElem?_toArray ..).trans rfl) (fun K hK => ?_) ?_
      · go_simp
        (go_at_call 24; (with_reducible refine (K_rOwn c _ _ _ _ _ _ _ ?_ ?_ ?_ ?_).mono ?_); exact H6.out.below BB.out; exact H7.out.below BB.out; exact HP.out.1; exact HP.out.2; rintro e X ⟨C6, m6, e6, C7, m7, e7, rfl, o6, o7, hb⟩; have O6 := Aside0.mk (o6.from BB.out.size); have O7 := Aside0.mk (o7.from BB.out.size); clear o6 o7; replace O9 := Aside0.mk (O9.out.below hb); replace O10 := Aside0.mk (O10.out.below hb); replace BB := Aside0.mk (below_step BB.out hb); clear hb)
        refine hK.out _ _ ?_ (fun hHeld => ?_)
        · (try dsimp only)
          (go_split_ands; (repeat' apply And.intro); all_goals (exact below_cell_of (w := w1) (by with_reducible repeat (first | exact Below.refl _ _ | assumption | exact Aside0.out (by assumption) | apply below_alloc | apply below_drew1 | apply pw_below_drewN)) (by assumption)))
        clear hK K
        (try simp only [Act.put, List.setIfInBounds_toArray, List.set_cons_zero, List.set_cons_succ])
        refine wpAnyH_ready (rs := [2]) (by kernel_rfl) (by simp) ?_
        refine AllReadyH.cons (i := 2) (o := _) ((List.getElem?_toArray ..).trans rfl) (fun K hK => ?_) ?_
        · refine step_lit0 (e := 3) (by rfl) (by first | (go_simp; done) | (go_simp; rfl)) ?_
          intro B5 X hb; replace O6 := Aside0.mk (O6.out.below hb); replace O7 := Aside0.mk (O7.out.below hb); replace O9 := Aside0.mk (O9.out.below hb); replace O10 := Aside0.mk (O10.out.below hb); replace BB := Aside0.mk (below_step BB.out hb); clear hb
          refine hK.out _ _ ?_ (fun hHeld => ?_)
          · (try dsimp only)
            (go_split_ands; (repeat' apply And.intro); all_goals (exact below_cell_of (w := w1) (by with_reducible repeat (first | exact Below.refl _ _ | assumption | exact Aside0.out (by assumption) | apply below_alloc | apply below_drew1 | apply pw_below_drewN)) (by assumption)))
          clear hK K
          (try simp only [Act.put, List.setIfInBounds_toArray, List.set_cons_zero, List.set_cons_succ])
          refine wpAnyH_ready (rs := [5]) (by kernel_rfl) (by simp) ?_
          refine AllReadyH.cons (i := 5) (o := _) ((List.getElem?_toArray ..).trans rfl) (fun K hK => ?_) ?_
          · refine step_append0 (by rfl) (.tmp 5) (.tmp 7) 22 3 rfl Tryz.underlying22 info3 B5 A7 n7 d7 c.ls rfl rfl (H7.out.below BB.out) HL.out.1 HL.out.2 ?_
            intro C8 m8 e8 X o8 o8' hb; have O8 : Aside0 (OI w1 X C8 m8 e8 c.ls) := ⟨OI.from ⟨o8, o8'⟩ BB.out.size⟩; clear o8 o8'; replace O6 := Aside0.mk (O6.out.below hb); replace O7 := Aside0.mk (O7.out.below hb); replace O9 := Aside0.mk (O9.out.below hb); replace O10 := Aside0.mk (O10.out.below hb); replace BB := Aside0.mk (below_step BB.out hb); clear hb
            refine hK.out _ _ ?_ (fun hHeld => ?_)
            · (try dsimp only)
              (go_split_ands; (repeat' apply And.intro); all_goals (exact below_cell_of (w := w1) (by with_reducible repeat (first | exact Below.refl _ _ | assumption | exact Aside0.out (by assumption) | apply below_alloc | apply below_drew1 | apply pw_below_drewN)) (by assumption)))
            clear hK K
            (try simp only [Act.put, List.setIfInBounds_toArray, List.set_cons_zero, List.set_cons_succ])
            refine wpAnyH_take (i := 13) (oi := _) (v := ?_) ((List.getElem?_toArray ..).trans rfl) (by kernel_rfl) (by kernel_rfl) (by kernel_rfl) (fun _ _ _ h => h) (Or.inl ⟨by rfl, ?_⟩) (by assumption) ?_
            rotate_left
            · (intro w hSw; (try dsimp only at hSw); go_simp; (try with_reducible rfl))
            (try simp only [Act.put, List.setIfInBounds_toArray, List.set_cons_zero, List.set_cons_succ])
            refine wpAnyH_ready (rs := [14]) (by kernel_rfl) (by simp) ?_
            refine AllReadyH.cons (i := 14) (o := _) ((List.getElem?_toArray ..).trans rfl) (fun K hK => ?_) ?_
            · refine box_step (by rfl) rfl (cs := #[.int .i64 c.th, .int .i64 c.st, .int .i64 c.ga, .int .i64 c.le, .int .i64 c.re, .int .i64 c.ti, .slice C6 m6 e6, .slice C7 m7 e7, .slice C8 m8 e8, .slice C9 m9 e9, .slice C10 m10 e10]) (t := 61) (by first | (go_simp; done) | (go_simp; rfl)) ?_
              intro g hg X hbox hb; have HX := Aside0.mk (RAt_new HRR.out HW1.out BB.out.size hg hb hbox O6.out O7.out O8.out O9.out O10.out); have HGE := Aside0.mk (show W.heap.size ≤ g by have h1 := HW1.out; have h2 := BB.out.size; omega); clear hg hbox; replace BB := Aside0.mk (below_step BB.out hb); clear hb O6 O7 O8 O9 O10
              refine hK.out _ _ ?_ (fun hHeld => ?_)
              · (try dsimp only)
                (go_split_ands; (repeat' apply And.intro); all_goals (exact below_cell_of (w := w1) (by with_reducible repeat (first | exact Below.refl _ _ | assumption | exact Aside0.out (by assumption) | apply below_alloc | apply below_drew1 | apply pw_below_drewN)) (by assumption)))
              clear hK K
              (try simp only [Act.put, List.setIfInBounds_toArray, List.set_cons_zero, List.set_cons_succ])
              refine wpAnyH_take (i := 15) (oi := _) (v := ?_) ((List.getElem?_toArray ..).trans rfl) (by kernel_rfl) (by kernel_rfl) (by kernel_rfl) (fun _ _ _ h => h) (Or.inl ⟨by rfl, ?_⟩) (by assumption) ?_
              rotate_left
              · (intro w hSw; (try dsimp only at hSw); go_simp; (try with_reducible rfl))
              (try simp only [Act.put, List.setIfInBounds_toArray, List.set_cons_zero, List.set_cons_succ])
              refine wpAnyH_done (by kernel_rfl) ?_ _
              refine NoPanic.normal ?_
              go_wp2_with (fail)
              go_ret
              exact ⟨g, rfl, HGE.out, HX.out, B1.out.trans (BB.out.mono HW1.out)⟩
            exact AllReadyH.nil
          exact AllReadyH.nil
        exact AllReadyH.nil
      refine AllReadyH.cons (i := 2) (o := _) ((List.getElem?_toArray ..).trans rfl) (fun K hK => ?_) ?_
      · refine step_lit0 (e := 3) (by rfl) (by first | (go_simp; done) | (go_simp; rfl)) ?_
        intro B5 X hb; replace O9 := Aside0.mk (O9.out.below hb); replace O10 := Aside0.mk (O10.out.below hb); replace BB := Aside0.mk (below_step BB.out hb); clear hb
        refine hK.out _ _ ?_ (fun hHeld => ?_)
        · (try dsimp only)
          (go_split_ands; (repeat' apply And.intro); all_goals (exact below_cell_of (w := w1) (by with_reducible repeat (first | exact Below.refl _ _ | assumption | exact Aside0.out (by assumption) | apply below_alloc | apply below_drew1 | apply pw_below_drewN)) (by assumption)))
        clear hK K
        (try simp only [Act.put, List.setIfInBounds_toArray, List.set_cons_zero, List.set_cons_succ])
        refine wpAnyH_ready (rs := [1]) (by kernel_rfl) (by simp) ?_
        refine AllReadyH.cons (i := 1) (o := _) ((List.getElem?_toArray ..).trans rfl) (fun K hK => ?_) ?_
        · go_simp
          (go_at_call 24; (with_reducible refine (K_rOwn c _ _ _ _ _ _ _ ?_ ?_ ?_ ?_).mono ?_); exact H6.out.below BB.out; exact H7.out.below BB.out; exact HP.out.1; exact HP.out.2; rintro e X ⟨C6, m6, e6, C7, m7, e7, rfl, o6, o7, hb⟩; have O6 := Aside0.mk (o6.from BB.out.size); have O7 := Aside0.mk (o7.from BB.out.size); clear o6 o7; replace O9 := Aside0.mk (O9.out.below hb); replace O10 := Aside0.mk (O10.out.below hb); replace BB := Aside0.mk (below_step BB.out hb); clear hb)
          refine hK.out _ _ ?_ (fun hHeld => ?_)
          · (try dsimp only)
            (go_split_ands; (repeat' apply And.intro); all_goals (exact below_cell_of (w := w1) (by with_reducible repeat (first | exact Below.refl _ _ | assumption | exact Aside0.out (by assumption) | apply below_alloc | apply below_drew1 | apply pw_below_drewN)) (by assumption)))
          clear hK K
          (try simp only [Act.put, List.setIfInBounds_toArray, List.set_cons_zero, List.set_cons_succ])
          refine wpAnyH_ready (rs := [5]) (by kernel_rfl) (by simp) ?_
          refine AllReadyH.cons (i := 5) (o := _) ((List.getElem?_toArray ..).trans rfl) (fun K hK => ?_) ?_
          · refine step_append0 (by rfl) (.tmp 5) (.tmp 7) 22 3 rfl Tryz.underlying22 info3 B5 A7 n7 d7 c.ls rfl rfl (H7.out.below BB.out) HL.out.1 HL.out.2 ?_
            intro C8 m8 e8 X o8 o8' hb; have O8 : Aside0 (OI w1 X C8 m8 e8 c.ls) := ⟨OI.from ⟨o8, o8'⟩ BB.out.size⟩; clear o8 o8'; replace O6 := Aside0.mk (O6.out.below hb); replace O7 := Aside0.mk (O7.out.below hb); replace O9 := Aside0.mk (O9.out.below hb); replace O10 := Aside0.mk (O10.out.below hb); replace BB := Aside0.mk (below_step BB.out hb); clear hb
            refine hK.out _ _ ?_ (fun hHeld => ?_)
            · (try dsimp only)
              (go_split_ands; (repeat' apply And.intro); all_goals (exact below_cell_of (w := w1) (by with_reducible repeat (first | exact Below.refl _ _ | assumption | exact Aside0.out (by assumption) | apply below_alloc | apply below_drew1 | apply pw_below_drewN)) (by assumption)))
            clear hK K
            (try simp only [Act.put, List.setIfInBounds_toArray, List.set_cons_zero, List.set_cons_succ])
            refine wpAnyH_take (i := 13) (oi := _) (v := ?_) ((List.getElem?_toArray ..).trans rfl) (by kernel_rfl) (by kernel_rfl) (by kernel_rfl) (fun _ _ _ h => h) (Or.inl ⟨by rfl, ?_⟩) (by assumption) ?_
            rotate_left
            · (intro w hSw; (try dsimp only at hSw); go_simp; (try with_reducible rfl))
            (try simp only [Act.put, List.setIfInBounds_toArray, List.set_cons_zero, List.set_cons_succ])
            refine wpAnyH_ready (rs := [14]) (by kernel_rfl) (by simp) ?_
            refine AllReadyH.cons (i := 14) (o := _) ((List.getElem?_toArray ..).trans rfl) (fun K hK => ?_) ?_
            · refine box_step (by rfl) rfl (cs := #[.int .i64 c.th, .int .i64 c.st, .int .i64 c.ga, .int .i64 c.le, .int .i64 c.re, .int .i64 c.ti, .slice C6 m6 e6, .slice C7 m7 e7, .slice C8 m8 e8, .slice C9 m9 e9, .slice C10 m10 e10]) (t := 61) (by first | (go_simp; done) | (go_simp; rfl)) ?_
              intro g hg X hbox hb; have HX := Aside0.mk (RAt_new HRR.out HW1.out BB.out.size hg hb hbox O6.out O7.out O8.out O9.out O10.out); have HGE := Aside0.mk (show W.heap.size ≤ g by have h1 := HW1.out; have h2 := BB.out.size; omega); clear hg hbox; replace BB := Aside0.mk (below_step BB.out hb); clear hb O6 O7 O8 O9 O10
              refine hK.out _ _ ?_ (fun hHeld => ?_)
              · (try dsimp only)
                (go_split_ands; (repeat' apply And.intro); all_goals (exact below_cell_of (w := w1) (by with_reducible repeat (first | exact Below.refl _ _ | assumption | exact Aside0.out (by assumption) | apply below_alloc | apply below_drew1 | apply pw_below_drewN)) (by assumption)))
              clear hK K
              (try simp only [Act.put, List.setIfInBounds_toArray, List.set_cons_zero, List.set_cons_succ])
              refine wpAnyH_take (i := 15) (oi := _) (v := ?_) ((List.getElem?_toArray ..).trans rfl) (by kernel_rfl) (by kernel_rfl) (by kernel_rfl) (fun _ _ _ h => h) (Or.inl ⟨by rfl, ?_⟩) (by assumption) ?_
              rotate_left
              · (intro w hSw; (try dsimp only at hSw); go_simp; (try with_reducible rfl))
              (try simp only [Act.put, List.setIfInBounds_toArray, List.set_cons_zero, List.set_cons_succ])
              refine wpAnyH_done (by kernel_rfl) ?_ _
              refine NoPanic.normal ?_
              go_wp2_with (fail)
              go_ret
              exact ⟨g, rfl, HGE.out, HX.out, B1.out.trans (BB.out.mono HW1.out)⟩
            exact AllReadyH.nil
          exact AllReadyH.nil
        exact AllReadyH.nil
      exact AllReadyH.nil
    exact AllReadyH.nil
  exact AllReadyH.nil
end Go.Proofs.YteaidhoimaphlaaGreat.PM
