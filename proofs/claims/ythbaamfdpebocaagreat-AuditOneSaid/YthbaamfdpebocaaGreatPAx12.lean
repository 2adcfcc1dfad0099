-- Printed by the session's own driver (wip/tools/drive.py) on the kit's print.py, with hand-proved functions put in. Not trusted: Lean checks it.
import Derived.Test.YthbaamfdpebocaaGreatPAx0
import Derived.Test.YthbaamfdpebocaaGreatPAx11
namespace Go.Proofs.YthbaamfdpebocaaGreat.PA
open Go.RowKit Go.Proofs.YthbaamfdpebocaaGreatW.PrintWords Go.Proofs.YthbaamfdpebocaaGreatW.PrintLast Go.Proofs.YthbaamfdpebocaaGreatW.PrintMore
attribute [local go_sem] max2_int min2_int max_two min_two max_three min_three max_four min_four
set_option linter.unusedVariables false
set_option linter.unusedSimpArgs false
theorem bx8 {W : World} {g t : Nat} {x0 x1 x2 x3 x4 x5 x6 x7 : Value} (h : W.heap[g]? = some (.cells #[x0, x1, x2, x3, x4, x5, x6, x7] t (0, 0))) : W.cell? ⟨g, 0, none⟩ = some x0 ∧ W.cell? ⟨g, 1, none⟩ = some x1 ∧ W.cell? ⟨g, 2, none⟩ = some x2 ∧ W.cell? ⟨g, 3, none⟩ = some x3 ∧ W.cell? ⟨g, 4, none⟩ = some x4 ∧ W.cell? ⟨g, 5, none⟩ = some x5 ∧ W.cell? ⟨g, 6, none⟩ = some x6 ∧ W.cell? ⟨g, 7, none⟩ = some x7 :=
  ⟨(blk_cell h 0).trans rfl, (blk_cell h 1).trans rfl, (blk_cell h 2).trans rfl, (blk_cell h 3).trans rfl, (blk_cell h 4).trans rfl, (blk_cell h 5).trans rfl, (blk_cell h 6).trans rfl, (blk_cell h 7).trans rfl⟩
theorem fz8 {W : World} {g t : Nat} {cs : Array Value} (h : W.heap[g]? = some (.cells cs t (0, 0))) : W.frozen? ⟨g, 0, none⟩ = false ∧ W.frozen? ⟨g, 1, none⟩ = false ∧ W.frozen? ⟨g, 2, none⟩ = false ∧ W.frozen? ⟨g, 3, none⟩ = false ∧ W.frozen? ⟨g, 4, none⟩ = false ∧ W.frozen? ⟨g, 5, none⟩ = false ∧ W.frozen? ⟨g, 6, none⟩ = false ∧ W.frozen? ⟨g, 7, none⟩ = false :=
  ⟨blk_frozen h 0, blk_frozen h 1, blk_frozen h 2, blk_frozen h 3, blk_frozen h 4, blk_frozen h 5, blk_frozen h 6, blk_frozen h 7⟩

/-! ### breadlineref04_Right: function 11 -/
mutual
def breadlineref04_Right.j0 : Nat → Bool → Int → Int → Int → Int → Int → Int → List Int → List Int → Option (Bool)
  | 0, _, _, _, _, _, _, _, _, _ => none
  | k + 1, x51, x327000, x327001, x327002, x327003, x327004, x327005, x327006, x327007 => if x51 = true then (some false) else ((breadlineref04_in.f (x327006.length : Int) 1 12).bind fun t344 => (if t344 = true then (breadlineref04_Right.j1 k ((x327007.length : Int) != (x327006.length : Int)) x327000 x327001 x327002 x327003 x327004 x327005 x327006 x327007) else (breadlineref04_Right.j1 k true x327000 x327001 x327002 x327003 x327004 x327005 x327006 x327007)))
def breadlineref04_Right.j1 : Nat → Bool → Int → Int → Int → Int → Int → Int → List Int → List Int → Option (Bool)
  | 0, _, _, _, _, _, _, _, _, _ => none
  | k + 1, x65, x327000, x327001, x327002, x327003, x327004, x327005, x327006, x327007 => if x65 = true then (some false) else (breadlineref04_Right.l0 k 0 x327000 x327001 x327002 x327003 x327004 x327005 x327006 x327007)
def breadlineref04_Right.l0 : Nat → Int → Int → Int → Int → Int → Int → Int → List Int → List Int → Option (Bool)
  | 0, _, _, _, _, _, _, _, _, _ => none
  | k + 1, x3, x327000, x327001, x327002, x327003, x327004, x327005, x327006, x327007 => if x3 < (x327006.length : Int) then (if 0 ≤ x3 then (if x3 < (x327007.length : Int) then ((breadlineref04_in.f (rd x327007 x3) 0 1099511627776).bind fun t346 => (if t346 = true then (if x3 = 0 then (if (rd x327006 x3) = (-1) then (if x3 > 0 then ((breadlineref04_in.f (rd x327006 x3) 0 (wrap64 (x3 - 1))).bind fun t349 => (if t349 = true then (breadlineref04_Right.l0 k (wrap64 (x3 + 1)) x327000 x327001 x327002 x327003 x327004 x327005 x327006 x327007) else (some false))) else (breadlineref04_Right.l0 k (wrap64 (x3 + 1)) x327000 x327001 x327002 x327003 x327004 x327005 x327006 x327007)) else (some false)) else (if x3 > 0 then ((breadlineref04_in.f (rd x327006 x3) 0 (wrap64 (x3 - 1))).bind fun t351 => (if t351 = true then (breadlineref04_Right.l0 k (wrap64 (x3 + 1)) x327000 x327001 x327002 x327003 x327004 x327005 x327006 x327007) else (some false))) else (breadlineref04_Right.l0 k (wrap64 (x3 + 1)) x327000 x327001 x327002 x327003 x327004 x327005 x327006 x327007))) else (some false))) else (none)) else (none)) else (some true)
end
def breadlineref04_Right.f (k : Nat) (a0_0 : Int) (a0_1 : Int) (a0_2 : Int) (a0_3 : Int) (a0_4 : Int) (a0_5 : Int) (l0_6 : List Int) (l0_7 : List Int) : Option (Bool) := (breadlineref04_in.f a0_0 1 8).bind fun t327 => (if t327 = true then (if a0_1 = 1 then ((breadlineref04_in.f a0_2 1 1048576).bind fun t328 => (if t328 = true then ((breadlineref04_in.f a0_3 0 1048576).bind fun t329 => (if t329 = true then ((breadlineref04_in.f a0_4 1 8).bind fun t330 => (if t330 = true then ((breadlineref04_in.f a0_5 1 16).bind fun t331 => (breadlineref04_Right.j0 k (!t331) a0_0 a0_1 a0_2 a0_3 a0_4 a0_5 l0_6 l0_7)) else (breadlineref04_Right.j0 k true a0_0 a0_1 a0_2 a0_3 a0_4 a0_5 l0_6 l0_7))) else (breadlineref04_Right.j0 k true a0_0 a0_1 a0_2 a0_3 a0_4 a0_5 l0_6 l0_7))) else (breadlineref04_Right.j0 k true a0_0 a0_1 a0_2 a0_3 a0_4 a0_5 l0_6 l0_7))) else (if a0_1 = 2 then ((breadlineref04_in.f a0_2 1 1048576).bind fun t332 => (if t332 = true then ((breadlineref04_in.f a0_3 0 1048576).bind fun t333 => (if t333 = true then ((breadlineref04_in.f a0_4 1 8).bind fun t334 => (if t334 = true then ((breadlineref04_in.f a0_5 1 16).bind fun t335 => (breadlineref04_Right.j0 k (!t335) a0_0 a0_1 a0_2 a0_3 a0_4 a0_5 l0_6 l0_7)) else (breadlineref04_Right.j0 k true a0_0 a0_1 a0_2 a0_3 a0_4 a0_5 l0_6 l0_7))) else (breadlineref04_Right.j0 k true a0_0 a0_1 a0_2 a0_3 a0_4 a0_5 l0_6 l0_7))) else (breadlineref04_Right.j0 k true a0_0 a0_1 a0_2 a0_3 a0_4 a0_5 l0_6 l0_7))) else (if a0_1 = 4 then ((breadlineref04_in.f a0_2 1 1048576).bind fun t336 => (if t336 = true then ((breadlineref04_in.f a0_3 0 1048576).bind fun t337 => (if t337 = true then ((breadlineref04_in.f a0_4 1 8).bind fun t338 => (if t338 = true then ((breadlineref04_in.f a0_5 1 16).bind fun t339 => (breadlineref04_Right.j0 k (!t339) a0_0 a0_1 a0_2 a0_3 a0_4 a0_5 l0_6 l0_7)) else (breadlineref04_Right.j0 k true a0_0 a0_1 a0_2 a0_3 a0_4 a0_5 l0_6 l0_7))) else (breadlineref04_Right.j0 k true a0_0 a0_1 a0_2 a0_3 a0_4 a0_5 l0_6 l0_7))) else (breadlineref04_Right.j0 k true a0_0 a0_1 a0_2 a0_3 a0_4 a0_5 l0_6 l0_7))) else (if a0_1 = 8 then ((breadlineref04_in.f a0_2 1 1048576).bind fun t340 => (if t340 = true then ((breadlineref04_in.f a0_3 0 1048576).bind fun t341 => (if t341 = true then ((breadlineref04_in.f a0_4 1 8).bind fun t342 => (if t342 = true then ((breadlineref04_in.f a0_5 1 16).bind fun t343 => (breadlineref04_Right.j0 k (!t343) a0_0 a0_1 a0_2 a0_3 a0_4 a0_5 l0_6 l0_7)) else (breadlineref04_Right.j0 k true a0_0 a0_1 a0_2 a0_3 a0_4 a0_5 l0_6 l0_7))) else (breadlineref04_Right.j0 k true a0_0 a0_1 a0_2 a0_3 a0_4 a0_5 l0_6 l0_7))) else (breadlineref04_Right.j0 k true a0_0 a0_1 a0_2 a0_3 a0_4 a0_5 l0_6 l0_7))) else (breadlineref04_Right.j0 k true a0_0 a0_1 a0_2 a0_3 a0_4 a0_5 l0_6 l0_7))))) else (breadlineref04_Right.j0 k true a0_0 a0_1 a0_2 a0_3 a0_4 a0_5 l0_6 l0_7))
set_option maxHeartbeats 8000000 in
set_option maxRecDepth 100000 in
theorem breadlineref04_Right.calls (k : Nat) (a0_0 : Int) (a0_1 : Int) (a0_2 : Int) (a0_3 : Int) (a0_4 : Int) (a0_5 : Int) (A0_6 : Option Addr) (c0_6 : Nat) (l0_6 : List Int) (A0_7 : Option Addr) (c0_7 : Nat) (l0_7 : List Int) (r : Bool) (w : World) (hr0_6 : Kd.C (Kd.int .i64) w A0_6 l0_6.length l0_6) (hc0_6 : l0_6.length ≤ c0_6) (hr0_7 : Kd.C (Kd.int .i64) w A0_7 l0_7.length l0_7) (hc0_7 : l0_7.length ≤ c0_7) (h : breadlineref04_Right.f k a0_0 a0_1 a0_2 a0_3 a0_4 a0_5 l0_6 l0_7 = some r) :
    Calls Tryz.prog 11 #[.agg #[.int .i64 a0_0, .int .i64 a0_1, .int .i64 a0_2, .int .i64 a0_3, .int .i64 a0_4, .int .i64 a0_5, .slice A0_6 l0_6.length c0_6, .slice A0_7 l0_7.length c0_7]] w fun e w' => e = .returned (.bool r) ∧ Below w.heap.size w w' := by
  have hu24 := Tryz.underlying24
  have HR0_6 := Aside0.mk hr0_6
  have HC0_6 := Aside0.mk hc0_6
  clear hr0_6 hc0_6
  have HR0_7 := Aside0.mk hr0_7
  have HC0_7 := Aside0.mk hc0_7
  clear hr0_7 hc0_7
  have HB := Aside0.mk (Below.refl w.heap.size w)
  have H : ((breadlineref04_in.f a0_0 1 8).bind fun t327 => (if t327 = true then (if a0_1 = 1 then ((breadlineref04_in.f a0_2 1 1048576).bind fun t328 => (if t328 = true then ((breadlineref04_in.f a0_3 0 1048576).bind fun t329 => (if t329 = true then ((breadlineref04_in.f a0_4 1 8).bind fun t330 => (if t330 = true then ((breadlineref04_in.f a0_5 1 16).bind fun t331 => (breadlineref04_Right.j0 k (!t331) a0_0 a0_1 a0_2 a0_3 a0_4 a0_5 l0_6 l0_7)) else (breadlineref04_Right.j0 k true a0_0 a0_1 a0_2 a0_3 a0_4 a0_5 l0_6 l0_7))) else (breadlineref04_Right.j0 k true a0_0 a0_1 a0_2 a0_3 a0_4 a0_5 l0_6 l0_7))) else (breadlineref04_Right.j0 k true a0_0 a0_1 a0_2 a0_3 a0_4 a0_5 l0_6 l0_7))) else (if a0_1 = 2 then ((breadlineref04_in.f a0_2 1 1048576).bind fun t332 => (if t332 = true then ((breadlineref04_in.f a0_3 0 1048576).bind fun t333 => (if t333 = true then ((breadlineref04_in.f a0_4 1 8).bind fun t334 => (if t334 = true then ((breadlineref04_in.f a0_5 1 16).bind fun t335 => (breadlineref04_Right.j0 k (!t335) a0_0 a0_1 a0_2 a0_3 a0_4 a0_5 l0_6 l0_7)) else (breadlineref04_Right.j0 k true a0_0 a0_1 a0_2 a0_3 a0_4 a0_5 l0_6 l0_7))) else (breadlineref04_Right.j0 k true a0_0 a0_1 a0_2 a0_3 a0_4 a0_5 l0_6 l0_7))) else (breadlineref04_Right.j0 k true a0_0 a0_1 a0_2 a0_3 a0_4 a0_5 l0_6 l0_7))) else (if a0_1 = 4 then ((breadlineref04_in.f a0_2 1 1048576).bind fun t336 => (if t336 = true then ((breadlineref04_in.f a0_3 0 1048576).bind fun t337 => (if t337 = true then ((breadlineref04_in.f a0_4 1 8).bind fun t338 => (if t338 = true then ((breadlineref04_in.f a0_5 1 16).bind fun t339 => (breadlineref04_Right.j0 k (!t339) a0_0 a0_1 a0_2 a0_3 a0_4 a0_5 l0_6 l0_7)) else (breadlineref04_Right.j0 k true a0_0 a0_1 a0_2 a0_3 a0_4 a0_5 l0_6 l0_7))) else (breadlineref04_Right.j0 k true a0_0 a0_1 a0_2 a0_3 a0_4 a0_5 l0_6 l0_7))) else (breadlineref04_Right.j0 k true a0_0 a0_1 a0_2 a0_3 a0_4 a0_5 l0_6 l0_7))) else (if a0_1 = 8 then ((breadlineref04_in.f a0_2 1 1048576).bind fun t340 => (if t340 = true then ((breadlineref04_in.f a0_3 0 1048576).bind fun t341 => (if t341 = true then ((breadlineref04_in.f a0_4 1 8).bind fun t342 => (if t342 = true then ((breadlineref04_in.f a0_5 1 16).bind fun t343 => (breadlineref04_Right.j0 k (!t343) a0_0 a0_1 a0_2 a0_3 a0_4 a0_5 l0_6 l0_7)) else (breadlineref04_Right.j0 k true a0_0 a0_1 a0_2 a0_3 a0_4 a0_5 l0_6 l0_7))) else (breadlineref04_Right.j0 k true a0_0 a0_1 a0_2 a0_3 a0_4 a0_5 l0_6 l0_7))) else (breadlineref04_Right.j0 k true a0_0 a0_1 a0_2 a0_3 a0_4 a0_5 l0_6 l0_7))) else (breadlineref04_Right.j0 k true a0_0 a0_1 a0_2 a0_3 a0_4 a0_5 l0_6 l0_7))))) else (breadlineref04_Right.j0 k true a0_0 a0_1 a0_2 a0_3 a0_4 a0_5 l0_6 l0_7))) = some r := h
  clear h
  have HC2 := Aside0.mk H
  clear H
  go_enter Tryz.func11, Tryz.ntmps11
  go_upto_region 1 with (first | ((with_reducible refine gate_dst (N := 1) rfl ?_); (try (refine gate_guard (by rfl) ?_; dsimp only)); refine box_event ?hg (N := 1) ?hd (cs := #[.int .i64 a0_0, .int .i64 a0_1, .int .i64 a0_2, .int .i64 a0_3, .int .i64 a0_4, .int .i64 a0_5, .slice A0_6 l0_6.length c0_6, .slice A0_7 l0_7.length c0_7]) (t := 24) ?hr ?_; (case hd => rfl); (case hg => rfl); (case hr => first | (go_simp; done) | (go_simp; rfl)); intro gb326 hg w3 hbox hb; have n0_ := Aside0.mk (below_step (by repeat (first | (with_reducible first | exact HB.out | apply below_alloc | apply pw_below_drewN | apply below_drew1) | exact HB.out)) hb); have n1_ := Aside0.mk (hbox); have n2_ := Aside0.mk ((by rw [hg]; exact (below_size (by repeat (first | (with_reducible first | exact HB.out | apply below_alloc | apply pw_below_drewN | apply below_drew1) | exact HB.out))) : w.heap.size ≤ gb326)); have n3_ := Aside0.mk ((by rw [hg]; exact (below_size (by repeat (first | (with_reducible first | exact HB.out | apply below_alloc | apply pw_below_drewN | apply below_drew1) | exact HB.out))) : w.heap.size ≤ gb326)); clear HB; have HB := n0_; have BK326 := n1_; have GW326 := n2_; have GE326 := n3_; clear n0_ n1_ n2_ n3_; clear hb hbox hg))
  (try simp only [Act.put, List.setIfInBounds_toArray, List.set_cons_zero, List.set_cons_succ])
  go_cut [51] (fun v51 wc => ∃ (kq : Nat) (x51_1 : Bool), v51 = .bool x51_1 ∧ Aside0 (breadlineref04_Right.j0 kq x51_1 a0_0 a0_1 a0_2 a0_3 a0_4 a0_5 l0_6 l0_7 = some r) ∧ Aside0 (kq ≤ k) ∧ Aside0 (wc.heap[gb326]? = some (.cells #[.int .i64 a0_0, .int .i64 a0_1, .int .i64 a0_2, .int .i64 a0_3, .int .i64 a0_4, .int .i64 a0_5, (.slice A0_6 l0_6.length c0_6), (.slice A0_7 l0_7.length c0_7)] 24 (0, 0))) ∧ Aside0 (Below w.heap.size w wc))
  case first =>
    have H := HC2.out
    clear HC2
    replace H := Option.bind_eq_some_iff.mp H
    obtain ⟨t327, A40, H⟩ := H
    try dsimp only at H
    have A4 := Aside0.mk A40
    clear A40
    by_cases c5 : t327 = true
    · subst c5
      have H1 : (if a0_1 = 1 then ((breadlineref04_in.f a0_2 1 1048576).bind fun t328 => (if t328 = true then ((breadlineref04_in.f a0_3 0 1048576).bind fun t329 => (if t329 = true then ((breadlineref04_in.f a0_4 1 8).bind fun t330 => (if t330 = true then ((breadlineref04_in.f a0_5 1 16).bind fun t331 => (breadlineref04_Right.j0 k (!t331) a0_0 a0_1 a0_2 a0_3 a0_4 a0_5 l0_6 l0_7)) else (breadlineref04_Right.j0 k true a0_0 a0_1 a0_2 a0_3 a0_4 a0_5 l0_6 l0_7))) else (breadlineref04_Right.j0 k true a0_0 a0_1 a0_2 a0_3 a0_4 a0_5 l0_6 l0_7))) else (breadlineref04_Right.j0 k true a0_0 a0_1 a0_2 a0_3 a0_4 a0_5 l0_6 l0_7))) else (if a0_1 = 2 then ((breadlineref04_in.f a0_2 1 1048576).bind fun t332 => (if t332 = true then ((breadlineref04_in.f a0_3 0 1048576).bind fun t333 => (if t333 = true then ((breadlineref04_in.f a0_4 1 8).bind fun t334 => (if t334 = true then ((breadlineref04_in.f a0_5 1 16).bind fun t335 => (breadlineref04_Right.j0 k (!t335) a0_0 a0_1 a0_2 a0_3 a0_4 a0_5 l0_6 l0_7)) else (breadlineref04_Right.j0 k true a0_0 a0_1 a0_2 a0_3 a0_4 a0_5 l0_6 l0_7))) else (breadlineref04_Right.j0 k true a0_0 a0_1 a0_2 a0_3 a0_4 a0_5 l0_6 l0_7))) else (breadlineref04_Right.j0 k true a0_0 a0_1 a0_2 a0_3 a0_4 a0_5 l0_6 l0_7))) else (if a0_1 = 4 then ((breadlineref04_in.f a0_2 1 1048576).bind fun t336 => (if t336 = true then ((breadlineref04_in.f a0_3 0 1048576).bind fun t337 => (if t337 = true then ((breadlineref04_in.f a0_4 1 8).bind fun t338 => (if t338 = true then ((breadlineref04_in.f a0_5 1 16).bind fun t339 => (breadlineref04_Right.j0 k (!t339) a0_0 a0_1 a0_2 a0_3 a0_4 a0_5 l0_6 l0_7)) else (breadlineref04_Right.j0 k true a0_0 a0_1 a0_2 a0_3 a0_4 a0_5 l0_6 l0_7))) else (breadlineref04_Right.j0 k true a0_0 a0_1 a0_2 a0_3 a0_4 a0_5 l0_6 l0_7))) else (breadlineref04_Right.j0 k true a0_0 a0_1 a0_2 a0_3 a0_4 a0_5 l0_6 l0_7))) else (if a0_1 = 8 then ((breadlineref04_in.f a0_2 1 1048576).bind fun t340 => (if t340 = true then ((breadlineref04_in.f a0_3 0 1048576).bind fun t341 => (if t341 = true then ((breadlineref04_in.f a0_4 1 8).bind fun t342 => (if t342 = true then ((breadlineref04_in.f a0_5 1 16).bind fun t343 => (breadlineref04_Right.j0 k (!t343) a0_0 a0_1 a0_2 a0_3 a0_4 a0_5 l0_6 l0_7)) else (breadlineref04_Right.j0 k true a0_0 a0_1 a0_2 a0_3 a0_4 a0_5 l0_6 l0_7))) else (breadlineref04_Right.j0 k true a0_0 a0_1 a0_2 a0_3 a0_4 a0_5 l0_6 l0_7))) else (breadlineref04_Right.j0 k true a0_0 a0_1 a0_2 a0_3 a0_4 a0_5 l0_6 l0_7))) else (breadlineref04_Right.j0 k true a0_0 a0_1 a0_2 a0_3 a0_4 a0_5 l0_6 l0_7))))) = some r := by rw [if_pos rfl] at H; exact H
      clear H
      have H := H1
      clear H1
      by_cases c6 : a0_1 = 1
      · rw [if_pos c6] at H
        have c6b0 : (a0_1 == 1) = true := beq_iff_eq.mpr c6
        have c6b1 : (a0_1 != 1) = false := bne_eq_false_iff_eq.mpr c6
        clear c6
        (first | rw [c6b0] | (simp only [i64_w, i32_w]; rw [c6b0]) | skip)
        replace H := Option.bind_eq_some_iff.mp H
        obtain ⟨t328, A70, H⟩ := H
        try dsimp only at H
        have A7 := Aside0.mk A70
        clear A70
        by_cases c8 : t328 = true
        · subst c8
          have H1 : ((breadlineref04_in.f a0_3 0 1048576).bind fun t329 => (if t329 = true then ((breadlineref04_in.f a0_4 1 8).bind fun t330 => (if t330 = true then ((breadlineref04_in.f a0_5 1 16).bind fun t331 => (breadlineref04_Right.j0 k (!t331) a0_0 a0_1 a0_2 a0_3 a0_4 a0_5 l0_6 l0_7)) else (breadlineref04_Right.j0 k true a0_0 a0_1 a0_2 a0_3 a0_4 a0_5 l0_6 l0_7))) else (breadlineref04_Right.j0 k true a0_0 a0_1 a0_2 a0_3 a0_4 a0_5 l0_6 l0_7))) = some r := by rw [if_pos rfl] at H; exact H
          clear H
          have H := H1
          clear H1
          replace H := Option.bind_eq_some_iff.mp H
          obtain ⟨t329, A90, H⟩ := H
          try dsimp only at H
          have A9 := Aside0.mk A90
          clear A90
          by_cases c10 : t329 = true
          · subst c10
            have H1 : ((breadlineref04_in.f a0_4 1 8).bind fun t330 => (if t330 = true then ((breadlineref04_in.f a0_5 1 16).bind fun t331 => (breadlineref04_Right.j0 k (!t331) a0_0 a0_1 a0_2 a0_3 a0_4 a0_5 l0_6 l0_7)) else (breadlineref04_Right.j0 k true a0_0 a0_1 a0_2 a0_3 a0_4 a0_5 l0_6 l0_7))) = some r := by rw [if_pos rfl] at H; exact H
            clear H
            have H := H1
            clear H1
            replace H := Option.bind_eq_some_iff.mp H
            obtain ⟨t330, A110, H⟩ := H
            try dsimp only at H
            have A11 := Aside0.mk A110
            clear A110
            by_cases c12 : t330 = true
            · subst c12
              have H1 : ((breadlineref04_in.f a0_5 1 16).bind fun t331 => (breadlineref04_Right.j0 k (!t331) a0_0 a0_1 a0_2 a0_3 a0_4 a0_5 l0_6 l0_7)) = some r := by rw [if_pos rfl] at H; exact H
              clear H
              have H := H1
              clear H1
              replace H := Option.bind_eq_some_iff.mp H
              obtain ⟨t331, A130, H⟩ := H
              try dsimp only at H
              have A13 := Aside0.mk A130
              clear A130
              have H' := Aside0.mk H
              clear H
              obtain ⟨hcz14_0, hcz14_1, hcz14_2, hcz14_3, hcz14_4, hcz14_5, hcz14_6, hcz14_7⟩ := bx8 BK326.out
              obtain ⟨hfz14_0, hfz14_1, hfz14_2, hfz14_3, hfz14_4, hfz14_5, hfz14_6, hfz14_7⟩ := fz8 BK326.out
              go_wp2_with (first | ((with_reducible refine gate_callee (f := 31) rfl ?_); refine goesL_ (some 6) rfl rfl Tryz.func31 (by kernel_rfl) rfl #[.int .i64 a0_0, .int .i64 1, .int .i64 8] rfl (by (try simp only [List.map_toArray, List.map_cons, List.map_nil]); first | done | rfl | (simp only [List.length_drop, List.length_take]; rfl)) ?_; (with_reducible refine (breadlineref04_in.calls a0_0 1 8 true _ A4.out).mono ?_); rintro e w' ⟨rfl, ⟨nd, rfl⟩⟩; refine ⟨_, rfl, ?_⟩) | (go_at_call 31; (with_reducible refine (breadlineref04_in.calls a0_2 1 1048576 true _ A7.out).mono ?_); rintro e w' ⟨rfl, ⟨nd, rfl⟩⟩) | (go_at_call 31; (with_reducible refine (breadlineref04_in.calls a0_3 0 1048576 true _ A9.out).mono ?_); rintro e w' ⟨rfl, ⟨nd, rfl⟩⟩) | (go_at_call 31; (with_reducible refine (breadlineref04_in.calls a0_4 1 8 true _ A11.out).mono ?_); rintro e w' ⟨rfl, ⟨nd, rfl⟩⟩) | (go_at_call 31; (with_reducible refine (breadlineref04_in.calls a0_5 1 16 t331 _ A13.out).mono ?_); rintro e w' ⟨rfl, ⟨nd, rfl⟩⟩))
              go_meet
              case rel => exact ⟨_, (!t331), (by first | rfl | (simp; done) | (simp [*]; done)), H', ⟨by first | omega | exact Nat.le_refl _⟩, ⟨by (with_reducible repeat (first | refine blk_drewN ?_ _ | refine blk_drew ?_ | refine blk_alloc ?_ _)); exact BK326.out⟩, ⟨by repeat (first | (with_reducible first | exact HB.out | apply below_alloc | apply pw_below_drewN | apply below_drew1 | refine below_set ?_ GE326.out) | exact HB.out)⟩⟩
            · replace c12 := Bool.eq_false_iff.mpr c12
              subst c12
              have H1 : (breadlineref04_Right.j0 k true a0_0 a0_1 a0_2 a0_3 a0_4 a0_5 l0_6 l0_7) = some r := by rw [if_neg (show ¬ (false = true) by decide)] at H; exact H
              clear H
              have H := H1
              clear H1
              have H' := Aside0.mk H
              clear H
              obtain ⟨hcz15_0, hcz15_1, hcz15_2, hcz15_3, hcz15_4, hcz15_5, hcz15_6, hcz15_7⟩ := bx8 BK326.out
              obtain ⟨hfz15_0, hfz15_1, hfz15_2, hfz15_3, hfz15_4, hfz15_5, hfz15_6, hfz15_7⟩ := fz8 BK326.out
              go_wp2_with (first | ((with_reducible refine gate_callee (f := 31) rfl ?_); refine goesL_ (some 6) rfl rfl Tryz.func31 (by kernel_rfl) rfl #[.int .i64 a0_0, .int .i64 1, .int .i64 8] rfl (by (try simp only [List.map_toArray, List.map_cons, List.map_nil]); first | done | rfl | (simp only [List.length_drop, List.length_take]; rfl)) ?_; (with_reducible refine (breadlineref04_in.calls a0_0 1 8 true _ A4.out).mono ?_); rintro e w' ⟨rfl, ⟨nd, rfl⟩⟩; refine ⟨_, rfl, ?_⟩) | (go_at_call 31; (with_reducible refine (breadlineref04_in.calls a0_2 1 1048576 true _ A7.out).mono ?_); rintro e w' ⟨rfl, ⟨nd, rfl⟩⟩) | (go_at_call 31; (with_reducible refine (breadlineref04_in.calls a0_3 0 1048576 true _ A9.out).mono ?_); rintro e w' ⟨rfl, ⟨nd, rfl⟩⟩) | (go_at_call 31; (with_reducible refine (breadlineref04_in.calls a0_4 1 8 false _ A11.out).mono ?_); rintro e w' ⟨rfl, ⟨nd, rfl⟩⟩))
              go_meet
              case rel => exact ⟨_, (true), (by first | rfl | (simp; done) | (simp [*]; done)), H', ⟨by first | omega | exact Nat.le_refl _⟩, ⟨by (with_reducible repeat (first | refine blk_drewN ?_ _ | refine blk_drew ?_ | refine blk_alloc ?_ _)); exact BK326.out⟩, ⟨by repeat (first | (with_reducible first | exact HB.out | apply below_alloc | apply pw_below_drewN | apply below_drew1 | refine below_set ?_ GE326.out) | exact HB.out)⟩⟩
          · replace c10 := Bool.eq_false_iff.mpr c10
            subst c10
            have H1 : (breadlineref04_Right.j0 k true a0_0 a0_1 a0_2 a0_3 a0_4 a0_5 l0_6 l0_7) = some r := by rw [if_neg (show ¬ (false = true) by decide)] at H; exact H
            clear H
            have H := H1
            clear H1
            have H' := Aside0.mk H
            clear H
            obtain ⟨hcz16_0, hcz16_1, hcz16_2, hcz16_3, hcz16_4, hcz16_5, hcz16_6, hcz16_7⟩ := bx8 BK326.out
            obtain ⟨hfz16_0, hfz16_1, hfz16_2, hfz16_3, hfz16_4, hfz16_5, hfz16_6, hfz16_7⟩ := fz8 BK326.out
            go_wp2_with (first | ((with_reducible refine gate_callee (f := 31) rfl ?_); refine goesL_ (some 6) rfl rfl Tryz.func31 (by kernel_rfl) rfl #[.int .i64 a0_0, .int .i64 1, .int .i64 8] rfl (by (try simp only [List.map_toArray, List.map_cons, List.map_nil]); first | done | rfl | (simp only [List.length_drop, List.length_take]; rfl)) ?_; (with_reducible refine (breadlineref04_in.calls a0_0 1 8 true _ A4.out).mono ?_); rintro e w' ⟨rfl, ⟨nd, rfl⟩⟩; refine ⟨_, rfl, ?_⟩) | (go_at_call 31; (with_reducible refine (breadlineref04_in.calls a0_2 1 1048576 true _ A7.out).mono ?_); rintro e w' ⟨rfl, ⟨nd, rfl⟩⟩) | (go_at_call 31; (with_reducible refine (breadlineref04_in.calls a0_3 0 1048576 false _ A9.out).mono ?_); rintro e w' ⟨rfl, ⟨nd, rfl⟩⟩))
            go_meet
            case rel => exact ⟨_, (true), (by first | rfl | (simp; done) | (simp [*]; done)), H', ⟨by first | omega | exact Nat.le_refl _⟩, ⟨by (with_reducible repeat (first | refine blk_drewN ?_ _ | refine blk_drew ?_ | refine blk_alloc ?_ _)); exact BK326.out⟩, ⟨by repeat (first | (with_reducible first | exact HB.out | apply below_alloc | apply pw_below_drewN | apply below_drew1 | refine below_set ?_ GE326.out) | exact HB.out)⟩⟩
        · replace c8 := Bool.eq_false_iff.mpr c8
          subst c8
          have H1 : (breadlineref04_Right.j0 k true a0_0 a0_1 a0_2 a0_3 a0_4 a0_5 l0_6 l0_7) = some r := by rw [if_neg (show ¬ (false = true) by decide)] at H; exact H
          clear H
          have H := H1
          clear H1
          have H' := Aside0.mk H
          clear H
          obtain ⟨hcz17_0, hcz17_1, hcz17_2, hcz17_3, hcz17_4, hcz17_5, hcz17_6, hcz17_7⟩ := bx8 BK326.out
          obtain ⟨hfz17_0, hfz17_1, hfz17_2, hfz17_3, hfz17_4, hfz17_5, hfz17_6, hfz17_7⟩ := fz8 BK326.out
          go_wp2_with (first | ((with_reducible refine gate_callee (f := 31) rfl ?_); refine goesL_ (some 6) rfl rfl Tryz.func31 (by kernel_rfl) rfl #[.int .i64 a0_0, .int .i64 1, .int .i64 8] rfl (by (try simp only [List.map_toArray, List.map_cons, List.map_nil]); first | done | rfl | (simp only [List.length_drop, List.length_take]; rfl)) ?_; (with_reducible refine (breadlineref04_in.calls a0_0 1 8 true _ A4.out).mono ?_); rintro e w' ⟨rfl, ⟨nd, rfl⟩⟩; refine ⟨_, rfl, ?_⟩) | (go_at_call 31; (with_reducible refine (breadlineref04_in.calls a0_2 1 1048576 false _ A7.out).mono ?_); rintro e w' ⟨rfl, ⟨nd, rfl⟩⟩))
          go_meet
          case rel => exact ⟨_, (true), (by first | rfl | (simp; done) | (simp [*]; done)), H', ⟨by first | omega | exact Nat.le_refl _⟩, ⟨by (with_reducible repeat (first | refine blk_drewN ?_ _ | refine blk_drew ?_ | refine blk_alloc ?_ _)); exact BK326.out⟩, ⟨by repeat (first | (with_reducible first | exact HB.out | apply below_alloc | apply pw_below_drewN | apply below_drew1 | refine below_set ?_ GE326.out) | exact HB.out)⟩⟩
      · rw [if_neg c6] at H
        have c6b0 : (a0_1 == 1) = false := beq_eq_false_iff_ne.mpr c6
        have c6b1 : (a0_1 != 1) = true := bne_iff_ne.mpr c6
        (first | rw [c6b0] | (simp only [i64_w, i32_w]; rw [c6b0]) | skip)
        by_cases c18 : a0_1 = 2
        · rw [if_pos c18] at H
          have c18b0 : (a0_1 == 2) = true := beq_iff_eq.mpr c18
          have c18b1 : (a0_1 != 2) = false := bne_eq_false_iff_eq.mpr c18
          clear c18
          replace H := Option.bind_eq_some_iff.mp H
          obtain ⟨t332, A190, H⟩ := H
          try dsimp only at H
          have A19 := Aside0.mk A190
          clear A190
          by_cases c20 : t332 = true
          · subst c20
            have H1 : ((breadlineref04_in.f a0_3 0 1048576).bind fun t333 => (if t333 = true then ((breadlineref04_in.f a0_4 1 8).bind fun t334 => (if t334 = true then ((breadlineref04_in.f a0_5 1 16).bind fun t335 => (breadlineref04_Right.j0 k (!t335) a0_0 a0_1 a0_2 a0_3 a0_4 a0_5 l0_6 l0_7)) else (breadlineref04_Right.j0 k true a0_0 a0_1 a0_2 a0_3 a0_4 a0_5 l0_6 l0_7))) else (breadlineref04_Right.j0 k true a0_0 a0_1 a0_2 a0_3 a0_4 a0_5 l0_6 l0_7))) = some r := by rw [if_pos rfl] at H; exact H
            clear H
            have H := H1
            clear H1
            replace H := Option.bind_eq_some_iff.mp H
            obtain ⟨t333, A210, H⟩ := H
            try dsimp only at H
            have A21 := Aside0.mk A210
            clear A210
            by_cases c22 : t333 = true
            · subst c22
              have H1 : ((breadlineref04_in.f a0_4 1 8).bind fun t334 => (if t334 = true then ((breadlineref04_in.f a0_5 1 16).bind fun t335 => (breadlineref04_Right.j0 k (!t335) a0_0 a0_1 a0_2 a0_3 a0_4 a0_5 l0_6 l0_7)) else (breadlineref04_Right.j0 k true a0_0 a0_1 a0_2 a0_3 a0_4 a0_5 l0_6 l0_7))) = some r := by rw [if_pos rfl] at H; exact H
              clear H
              have H := H1
              clear H1
              replace H := Option.bind_eq_some_iff.mp H
              obtain ⟨t334, A230, H⟩ := H
              try dsimp only at H
              have A23 := Aside0.mk A230
              clear A230
              by_cases c24 : t334 = true
              · subst c24
                have H1 : ((breadlineref04_in.f a0_5 1 16).bind fun t335 => (breadlineref04_Right.j0 k (!t335) a0_0 a0_1 a0_2 a0_3 a0_4 a0_5 l0_6 l0_7)) = some r := by rw [if_pos rfl] at H; exact H
                clear H
                have H := H1
                clear H1
                replace H := Option.bind_eq_some_iff.mp H
                obtain ⟨t335, A250, H⟩ := H
                try dsimp only at H
                have A25 := Aside0.mk A250
                clear A250
                have H' := Aside0.mk H
                clear H
                obtain ⟨hcz26_0, hcz26_1, hcz26_2, hcz26_3, hcz26_4, hcz26_5, hcz26_6, hcz26_7⟩ := bx8 BK326.out
                obtain ⟨hfz26_0, hfz26_1, hfz26_2, hfz26_3, hfz26_4, hfz26_5, hfz26_6, hfz26_7⟩ := fz8 BK326.out
                go_wp2_with (first | ((with_reducible refine gate_callee (f := 31) rfl ?_); refine goesL_ (some 6) rfl rfl Tryz.func31 (by kernel_rfl) rfl #[.int .i64 a0_0, .int .i64 1, .int .i64 8] rfl (by (try simp only [List.map_toArray, List.map_cons, List.map_nil]); first | done | rfl | (simp only [List.length_drop, List.length_take]; rfl)) ?_; (with_reducible refine (breadlineref04_in.calls a0_0 1 8 true _ A4.out).mono ?_); rintro e w' ⟨rfl, ⟨nd, rfl⟩⟩; refine ⟨_, rfl, ?_⟩) | (go_at_call 31; (with_reducible refine (breadlineref04_in.calls a0_2 1 1048576 true _ A19.out).mono ?_); rintro e w' ⟨rfl, ⟨nd, rfl⟩⟩) | (go_at_call 31; (with_reducible refine (breadlineref04_in.calls a0_3 0 1048576 true _ A21.out).mono ?_); rintro e w' ⟨rfl, ⟨nd, rfl⟩⟩) | (go_at_call 31; (with_reducible refine (breadlineref04_in.calls a0_4 1 8 true _ A23.out).mono ?_); rintro e w' ⟨rfl, ⟨nd, rfl⟩⟩) | (go_at_call 31; (with_reducible refine (breadlineref04_in.calls a0_5 1 16 t335 _ A25.out).mono ?_); rintro e w' ⟨rfl, ⟨nd, rfl⟩⟩))
                go_meet
                case rel => exact ⟨_, (!t335), (by first | rfl | (simp; done) | (simp [*]; done)), H', ⟨by first | omega | exact Nat.le_refl _⟩, ⟨by (with_reducible repeat (first | refine blk_drewN ?_ _ | refine blk_drew ?_ | refine blk_alloc ?_ _)); exact BK326.out⟩, ⟨by repeat (first | (with_reducible first | exact HB.out | apply below_alloc | apply pw_below_drewN | apply below_drew1 | refine below_set ?_ GE326.out) | exact HB.out)⟩⟩
              · replace c24 := Bool.eq_false_iff.mpr c24
                subst c24
                have H1 : (breadlineref04_Right.j0 k true a0_0 a0_1 a0_2 a0_3 a0_4 a0_5 l0_6 l0_7) = some r := by rw [if_neg (show ¬ (false = true) by decide)] at H; exact H
                clear H
                have H := H1
                clear H1
                have H' := Aside0.mk H
                clear H
                obtain ⟨hcz27_0, hcz27_1, hcz27_2, hcz27_3, hcz27_4, hcz27_5, hcz27_6, hcz27_7⟩ := bx8 BK326.out
                obtain ⟨hfz27_0, hfz27_1, hfz27_2, hfz27_3, hfz27_4, hfz27_5, hfz27_6, hfz27_7⟩ := fz8 BK326.out
                go_wp2_with (first | ((with_reducible refine gate_callee (f := 31) rfl ?_); refine goesL_ (some 6) rfl rfl Tryz.func31 (by kernel_rfl) rfl #[.int .i64 a0_0, .int .i64 1, .int .i64 8] rfl (by (try simp only [List.map_toArray, List.map_cons, List.map_nil]); first | done | rfl | (simp only [List.length_drop, List.length_take]; rfl)) ?_; (with_reducible refine (breadlineref04_in.calls a0_0 1 8 true _ A4.out).mono ?_); rintro e w' ⟨rfl, ⟨nd, rfl⟩⟩; refine ⟨_, rfl, ?_⟩) | (go_at_call 31; (with_reducible refine (breadlineref04_in.calls a0_2 1 1048576 true _ A19.out).mono ?_); rintro e w' ⟨rfl, ⟨nd, rfl⟩⟩) | (go_at_call 31; (with_reducible refine (breadlineref04_in.calls a0_3 0 1048576 true _ A21.out).mono ?_); rintro e w' ⟨rfl, ⟨nd, rfl⟩⟩) | (go_at_call 31; (with_reducible refine (breadlineref04_in.calls a0_4 1 8 false _ A23.out).mono ?_); rintro e w' ⟨rfl, ⟨nd, rfl⟩⟩))
                go_meet
                case rel => exact ⟨_, (true), (by first | rfl | (simp; done) | (simp [*]; done)), H', ⟨by first | omega | exact Nat.le_refl _⟩, ⟨by (with_reducible repeat (first | refine blk_drewN ?_ _ | refine blk_drew ?_ | refine blk_alloc ?_ _)); exact BK326.out⟩, ⟨by repeat (first | (with_reducible first | exact HB.out | apply below_alloc | apply pw_below_drewN | apply below_drew1 | refine below_set ?_ GE326.out) | exact HB.out)⟩⟩
            · replace c22 := Bool.eq_false_iff.mpr c22
              subst c22
              have H1 : (breadlineref04_Right.j0 k true a0_0 a0_1 a0_2 a0_3 a0_4 a0_5 l0_6 l0_7) = some r := by rw [if_neg (show ¬ (false = true) by decide)] at H; exact H
              clear H
              have H := H1
              clear H1
              have H' := Aside0.mk H
              clear H
              obtain ⟨hcz28_0, hcz28_1, hcz28_2, hcz28_3, hcz28_4, hcz28_5, hcz28_6, hcz28_7⟩ := bx8 BK326.out
              obtain ⟨hfz28_0, hfz28_1, hfz28_2, hfz28_3, hfz28_4, hfz28_5, hfz28_6, hfz28_7⟩ := fz8 BK326.out
              go_wp2_with (first | ((with_reducible refine gate_callee (f := 31) rfl ?_); refine goesL_ (some 6) rfl rfl Tryz.func31 (by kernel_rfl) rfl #[.int .i64 a0_0, .int .i64 1, .int .i64 8] rfl (by (try simp only [List.map_toArray, List.map_cons, List.map_nil]); first | done | rfl | (simp only [List.length_drop, List.length_take]; rfl)) ?_; (with_reducible refine (breadlineref04_in.calls a0_0 1 8 true _ A4.out).mono ?_); rintro e w' ⟨rfl, ⟨nd, rfl⟩⟩; refine ⟨_, rfl, ?_⟩) | (go_at_call 31; (with_reducible refine (breadlineref04_in.calls a0_2 1 1048576 true _ A19.out).mono ?_); rintro e w' ⟨rfl, ⟨nd, rfl⟩⟩) | (go_at_call 31; (with_reducible refine (breadlineref04_in.calls a0_3 0 1048576 false _ A21.out).mono ?_); rintro e w' ⟨rfl, ⟨nd, rfl⟩⟩))
              go_meet
              case rel => exact ⟨_, (true), (by first | rfl | (simp; done) | (simp [*]; done)), H', ⟨by first | omega | exact Nat.le_refl _⟩, ⟨by (with_reducible repeat (first | refine blk_drewN ?_ _ | refine blk_drew ?_ | refine blk_alloc ?_ _)); exact BK326.out⟩, ⟨by repeat (first | (with_reducible first | exact HB.out | apply below_alloc | apply pw_below_drewN | apply below_drew1 | refine below_set ?_ GE326.out) | exact HB.out)⟩⟩
          · replace c20 := Bool.eq_false_iff.mpr c20
            subst c20
            have H1 : (breadlineref04_Right.j0 k true a0_0 a0_1 a0_2 a0_3 a0_4 a0_5 l0_6 l0_7) = some r := by rw [if_neg (show ¬ (false = true) by decide)] at H; exact H
            clear H
            have H := H1
            clear H1
            have H' := Aside0.mk H
            clear H
            obtain ⟨hcz29_0, hcz29_1, hcz29_2, hcz29_3, hcz29_4, hcz29_5, hcz29_6, hcz29_7⟩ := bx8 BK326.out
            obtain ⟨hfz29_0, hfz29_1, hfz29_2, hfz29_3, hfz29_4, hfz29_5, hfz29_6, hfz29_7⟩ := fz8 BK326.out
            go_wp2_with (first | ((with_reducible refine gate_callee (f := 31) rfl ?_); refine goesL_ (some 6) rfl rfl Tryz.func31 (by kernel_rfl) rfl #[.int .i64 a0_0, .int .i64 1, .int .i64 8] rfl (by (try simp only [List.map_toArray, List.map_cons, List.map_nil]); first | done | rfl | (simp only [List.length_drop, List.length_take]; rfl)) ?_; (with_reducible refine (breadlineref04_in.calls a0_0 1 8 true _ A4.out).mono ?_); rintro e w' ⟨rfl, ⟨nd, rfl⟩⟩; refine ⟨_, rfl, ?_⟩) | (go_at_call 31; (with_reducible refine (breadlineref04_in.calls a0_2 1 1048576 false _ A19.out).mono ?_); rintro e w' ⟨rfl, ⟨nd, rfl⟩⟩))
            go_meet
            case rel => exact ⟨_, (true), (by first | rfl | (simp; done) | (simp [*]; done)), H', ⟨by first | omega | exact Nat.le_refl _⟩, ⟨by (with_reducible repeat (first | refine blk_drewN ?_ _ | refine blk_drew ?_ | refine blk_alloc ?_ _)); exact BK326.out⟩, ⟨by repeat (first | (with_reducible first | exact HB.out | apply below_alloc | apply pw_below_drewN | apply below_drew1 | refine below_set ?_ GE326.out) | exact HB.out)⟩⟩
        · rw [if_neg c18] at H
          have c18b0 : (a0_1 == 2) = false := beq_eq_false_iff_ne.mpr c18
          have c18b1 : (a0_1 != 2) = true := bne_iff_ne.mpr c18
          by_cases c30 : a0_1 = 4
          · rw [if_pos c30] at H
            have c30b0 : (a0_1 == 4) = true := beq_iff_eq.mpr c30
            have c30b1 : (a0_1 != 4) = false := bne_eq_false_iff_eq.mpr c30
            clear c30
            replace H := Option.bind_eq_some_iff.mp H
            obtain ⟨t336, A310, H⟩ := H
            try dsimp only at H
            have A31 := Aside0.mk A310
            clear A310
            by_cases c32 : t336 = true
            · subst c32
              have H1 : ((breadlineref04_in.f a0_3 0 1048576).bind fun t337 => (if t337 = true then ((breadlineref04_in.f a0_4 1 8).bind fun t338 => (if t338 = true then ((breadlineref04_in.f a0_5 1 16).bind fun t339 => (breadlineref04_Right.j0 k (!t339) a0_0 a0_1 a0_2 a0_3 a0_4 a0_5 l0_6 l0_7)) else (breadlineref04_Right.j0 k true a0_0 a0_1 a0_2 a0_3 a0_4 a0_5 l0_6 l0_7))) else (breadlineref04_Right.j0 k true a0_0 a0_1 a0_2 a0_3 a0_4 a0_5 l0_6 l0_7))) = some r := by rw [if_pos rfl] at H; exact H
              clear H
              have H := H1
              clear H1
              replace H := Option.bind_eq_some_iff.mp H
              obtain ⟨t337, A330, H⟩ := H
              try dsimp only at H
              have A33 := Aside0.mk A330
              clear A330
              by_cases c34 : t337 = true
              · subst c34
                have H1 : ((breadlineref04_in.f a0_4 1 8).bind fun t338 => (if t338 = true then ((breadlineref04_in.f a0_5 1 16).bind fun t339 => (breadlineref04_Right.j0 k (!t339) a0_0 a0_1 a0_2 a0_3 a0_4 a0_5 l0_6 l0_7)) else (breadlineref04_Right.j0 k true a0_0 a0_1 a0_2 a0_3 a0_4 a0_5 l0_6 l0_7))) = some r := by rw [if_pos rfl] at H; exact H
                clear H
                have H := H1
                clear H1
                replace H := Option.bind_eq_some_iff.mp H
                obtain ⟨t338, A350, H⟩ := H
                try dsimp only at H
                have A35 := Aside0.mk A350
                clear A350
                by_cases c36 : t338 = true
                · subst c36
                  have H1 : ((breadlineref04_in.f a0_5 1 16).bind fun t339 => (breadlineref04_Right.j0 k (!t339) a0_0 a0_1 a0_2 a0_3 a0_4 a0_5 l0_6 l0_7)) = some r := by rw [if_pos rfl] at H; exact H
                  clear H
                  have H := H1
                  clear H1
                  replace H := Option.bind_eq_some_iff.mp H
                  obtain ⟨t339, A370, H⟩ := H
                  try dsimp only at H
                  have A37 := Aside0.mk A370
                  clear A370
                  have H' := Aside0.mk H
                  clear H
                  obtain ⟨hcz38_0, hcz38_1, hcz38_2, hcz38_3, hcz38_4, hcz38_5, hcz38_6, hcz38_7⟩ := bx8 BK326.out
                  obtain ⟨hfz38_0, hfz38_1, hfz38_2, hfz38_3, hfz38_4, hfz38_5, hfz38_6, hfz38_7⟩ := fz8 BK326.out
                  go_wp2_with (first | ((with_reducible refine gate_callee (f := 31) rfl ?_); refine goesL_ (some 6) rfl rfl Tryz.func31 (by kernel_rfl) rfl #[.int .i64 a0_0, .int .i64 1, .int .i64 8] rfl (by (try simp only [List.map_toArray, List.map_cons, List.map_nil]); first | done | rfl | (simp only [List.length_drop, List.length_take]; rfl)) ?_; (with_reducible refine (breadlineref04_in.calls a0_0 1 8 true _ A4.out).mono ?_); rintro e w' ⟨rfl, ⟨nd, rfl⟩⟩; refine ⟨_, rfl, ?_⟩) | (go_at_call 31; (with_reducible refine (breadlineref04_in.calls a0_2 1 1048576 true _ A31.out).mono ?_); rintro e w' ⟨rfl, ⟨nd, rfl⟩⟩) | (go_at_call 31; (with_reducible refine (breadlineref04_in.calls a0_3 0 1048576 true _ A33.out).mono ?_); rintro e w' ⟨rfl, ⟨nd, rfl⟩⟩) | (go_at_call 31; (with_reducible refine (breadlineref04_in.calls a0_4 1 8 true _ A35.out).mono ?_); rintro e w' ⟨rfl, ⟨nd, rfl⟩⟩) | (go_at_call 31; (with_reducible refine (breadlineref04_in.calls a0_5 1 16 t339 _ A37.out).mono ?_); rintro e w' ⟨rfl, ⟨nd, rfl⟩⟩))
                  go_meet
                  case rel => exact ⟨_, (!t339), (by first | rfl | (simp; done) | (simp [*]; done)), H', ⟨by first | omega | exact Nat.le_refl _⟩, ⟨by (with_reducible repeat (first | refine blk_drewN ?_ _ | refine blk_drew ?_ | refine blk_alloc ?_ _)); exact BK326.out⟩, ⟨by repeat (first | (with_reducible first | exact HB.out | apply below_alloc | apply pw_below_drewN | apply below_drew1 | refine below_set ?_ GE326.out) | exact HB.out)⟩⟩
                · replace c36 := Bool.eq_false_iff.mpr c36
                  subst c36
                  have H1 : (breadlineref04_Right.j0 k true a0_0 a0_1 a0_2 a0_3 a0_4 a0_5 l0_6 l0_7) = some r := by rw [if_neg (show ¬ (false = true) by decide)] at H; exact H
                  clear H
                  have H := H1
                  clear H1
                  have H' := Aside0.mk H
                  clear H
                  obtain ⟨hcz39_0, hcz39_1, hcz39_2, hcz39_3, hcz39_4, hcz39_5, hcz39_6, hcz39_7⟩ := bx8 BK326.out
                  obtain ⟨hfz39_0, hfz39_1, hfz39_2, hfz39_3, hfz39_4, hfz39_5, hfz39_6, hfz39_7⟩ := fz8 BK326.out
                  go_wp2_with (first | ((with_reducible refine gate_callee (f := 31) rfl ?_); refine goesL_ (some 6) rfl rfl Tryz.func31 (by kernel_rfl) rfl #[.int .i64 a0_0, .int .i64 1, .int .i64 8] rfl (by (try simp only [List.map_toArray, List.map_cons, List.map_nil]); first | done | rfl | (simp only [List.length_drop, List.length_take]; rfl)) ?_; (with_reducible refine (breadlineref04_in.calls a0_0 1 8 true _ A4.out).mono ?_); rintro e w' ⟨rfl, ⟨nd, rfl⟩⟩; refine ⟨_, rfl, ?_⟩) | (go_at_call 31; (with_reducible refine (breadlineref04_in.calls a0_2 1 1048576 true _ A31.out).mono ?_); rintro e w' ⟨rfl, ⟨nd, rfl⟩⟩) | (go_at_call 31; (with_reducible refine (breadlineref04_in.calls a0_3 0 1048576 true _ A33.out).mono ?_); rintro e w' ⟨rfl, ⟨nd, rfl⟩⟩) | (go_at_call 31; (with_reducible refine (breadlineref04_in.calls a0_4 1 8 false _ A35.out).mono ?_); rintro e w' ⟨rfl, ⟨nd, rfl⟩⟩))
                  go_meet
                  case rel => exact ⟨_, (true), (by first | rfl | (simp; done) | (simp [*]; done)), H', ⟨by first | omega | exact Nat.le_refl _⟩, ⟨by (with_reducible repeat (first | refine blk_drewN ?_ _ | refine blk_drew ?_ | refine blk_alloc ?_ _)); exact BK326.out⟩, ⟨by repeat (first | (with_reducible first | exact HB.out | apply below_alloc | apply pw_below_drewN | apply below_drew1 | refine below_set ?_ GE326.out) | exact HB.out)⟩⟩
              · replace c34 := Bool.eq_false_iff.mpr c34
                subst c34
                have H1 : (breadlineref04_Right.j0 k true a0_0 a0_1 a0_2 a0_3 a0_4 a0_5 l0_6 l0_7) = some r := by rw [if_neg (show ¬ (false = true) by decide)] at H; exact H
                clear H
                have H := H1
                clear H1
                have H' := Aside0.mk H
                clear H
                obtain ⟨hcz40_0, hcz40_1, hcz40_2, hcz40_3, hcz40_4, hcz40_5, hcz40_6, hcz40_7⟩ := bx8 BK326.out
                obtain ⟨hfz40_0, hfz40_1, hfz40_2, hfz40_3, hfz40_4, hfz40_5, hfz40_6, hfz40_7⟩ := fz8 BK326.out
                go_wp2_with (first | ((with_reducible refine gate_callee (f := 31) rfl ?_); refine goesL_ (some 6) rfl rfl Tryz.func31 (by kernel_rfl) rfl #[.int .i64 a0_0, .int .i64 1, .int .i64 8] rfl (by (try simp only [List.map_toArray, List.map_cons, List.map_nil]); first | done | rfl | (simp only [List.length_drop, List.length_take]; rfl)) ?_; (with_reducible refine (breadlineref04_in.calls a0_0 1 8 true _ A4.out).mono ?_); rintro e w' ⟨rfl, ⟨nd, rfl⟩⟩; refine ⟨_, rfl, ?_⟩) | (go_at_call 31; (with_reducible refine (breadlineref04_in.calls a0_2 1 1048576 true _ A31.out).mono ?_); rintro e w' ⟨rfl, ⟨nd, rfl⟩⟩) | (go_at_call 31; (with_reducible refine (breadlineref04_in.calls a0_3 0 1048576 false _ A33.out).mono ?_); rintro e w' ⟨rfl, ⟨nd, rfl⟩⟩))
                go_meet
                case rel => exact ⟨_, (true), (by first | rfl | (simp; done) | (simp [*]; done)), H', ⟨by first | omega | exact Nat.le_refl _⟩, ⟨by (with_reducible repeat (first | refine blk_drewN ?_ _ | refine blk_drew ?_ | refine blk_alloc ?_ _)); exact BK326.out⟩, ⟨by repeat (first | (with_reducible first | exact HB.out | apply below_alloc | apply pw_below_drewN | apply below_drew1 | refine below_set ?_ GE326.out) | exact HB.out)⟩⟩
            · replace c32 := Bool.eq_false_iff.mpr c32
              subst c32
              have H1 : (breadlineref04_Right.j0 k true a0_0 a0_1 a0_2 a0_3 a0_4 a0_5 l0_6 l0_7) = some r := by rw [if_neg (show ¬ (false = true) by decide)] at H; exact H
              clear H
              have H := H1
              clear H1
              have H' := Aside0.mk H
              clear H
              obtain ⟨hcz41_0, hcz41_1, hcz41_2, hcz41_3, hcz41_4, hcz41_5, hcz41_6, hcz41_7⟩ := bx8 BK326.out
              obtain ⟨hfz41_0, hfz41_1, hfz41_2, hfz41_3, hfz41_4, hfz41_5, hfz41_6, hfz41_7⟩ := fz8 BK326.out
              go_wp2_with (first | ((with_reducible refine gate_callee (f := 31) rfl ?_); refine goesL_ (some 6) rfl rfl Tryz.func31 (by kernel_rfl) rfl #[.int .i64 a0_0, .int .i64 1, .int .i64 8] rfl (by (try simp only [List.map_toArray, List.map_cons, List.map_nil]); first | done | rfl | (simp only [List.length_drop, List.length_take]; rfl)) ?_; (with_reducible refine (breadlineref04_in.calls a0_0 1 8 true _ A4.out).mono ?_); rintro e w' ⟨rfl, ⟨nd, rfl⟩⟩; refine ⟨_, rfl, ?_⟩) | (go_at_call 31; (with_reducible refine (breadlineref04_in.calls a0_2 1 1048576 false _ A31.out).mono ?_); rintro e w' ⟨rfl, ⟨nd, rfl⟩⟩))
              go_meet
              case rel => exact ⟨_, (true), (by first | rfl | (simp; done) | (simp [*]; done)), H', ⟨by first | omega | exact Nat.le_refl _⟩, ⟨by (with_reducible repeat (first | refine blk_drewN ?_ _ | refine blk_drew ?_ | refine blk_alloc ?_ _)); exact BK326.out⟩, ⟨by repeat (first | (with_reducible first | exact HB.out | apply below_alloc | apply pw_below_drewN | apply below_drew1 | refine below_set ?_ GE326.out) | exact HB.out)⟩⟩
          · rw [if_neg c30] at H
            have c30b0 : (a0_1 == 4) = false := beq_eq_false_iff_ne.mpr c30
            have c30b1 : (a0_1 != 4) = true := bne_iff_ne.mpr c30
            by_cases c42 : a0_1 = 8
            · rw [if_pos c42] at H
              have c42b0 : (a0_1 == 8) = true := beq_iff_eq.mpr c42
              have c42b1 : (a0_1 != 8) = false := bne_eq_false_iff_eq.mpr c42
              clear c42
              replace H := Option.bind_eq_some_iff.mp H
              obtain ⟨t340, A430, H⟩ := H
              try dsimp only at H
              have A43 := Aside0.mk A430
              clear A430
              by_cases c44 : t340 = true
              · subst c44
                have H1 : ((breadlineref04_in.f a0_3 0 1048576).bind fun t341 => (if t341 = true then ((breadlineref04_in.f a0_4 1 8).bind fun t342 => (if t342 = true then ((breadlineref04_in.f a0_5 1 16).bind fun t343 => (breadlineref04_Right.j0 k (!t343) a0_0 a0_1 a0_2 a0_3 a0_4 a0_5 l0_6 l0_7)) else (breadlineref04_Right.j0 k true a0_0 a0_1 a0_2 a0_3 a0_4 a0_5 l0_6 l0_7))) else (breadlineref04_Right.j0 k true a0_0 a0_1 a0_2 a0_3 a0_4 a0_5 l0_6 l0_7))) = some r := by rw [if_pos rfl] at H; exact H
                clear H
                have H := H1
                clear H1
                replace H := Option.bind_eq_some_iff.mp H
                obtain ⟨t341, A450, H⟩ := H
                try dsimp only at H
                have A45 := Aside0.mk A450
                clear A450
                by_cases c46 : t341 = true
                · subst c46
                  have H1 : ((breadlineref04_in.f a0_4 1 8).bind fun t342 => (if t342 = true then ((breadlineref04_in.f a0_5 1 16).bind fun t343 => (breadlineref04_Right.j0 k (!t343) a0_0 a0_1 a0_2 a0_3 a0_4 a0_5 l0_6 l0_7)) else (breadlineref04_Right.j0 k true a0_0 a0_1 a0_2 a0_3 a0_4 a0_5 l0_6 l0_7))) = some r := by rw [if_pos rfl] at H; exact H
                  clear H
                  have H := H1
                  clear H1
                  replace H := Option.bind_eq_some_iff.mp H
                  obtain ⟨t342, A470, H⟩ := H
                  try dsimp only at H
                  have A47 := Aside0.mk A470
                  clear A470
                  by_cases c48 : t342 = true
                  · subst c48
                    have H1 : ((breadlineref04_in.f a0_5 1 16).bind fun t343 => (breadlineref04_Right.j0 k (!t343) a0_0 a0_1 a0_2 a0_3 a0_4 a0_5 l0_6 l0_7)) = some r := by rw [if_pos rfl] at H; exact H
                    clear H
                    have H := H1
                    clear H1
                    replace H := Option.bind_eq_some_iff.mp H
                    obtain ⟨t343, A490, H⟩ := H
                    try dsimp only at H
                    have A49 := Aside0.mk A490
                    clear A490
                    have H' := Aside0.mk H
                    clear H
                    obtain ⟨hcz50_0, hcz50_1, hcz50_2, hcz50_3, hcz50_4, hcz50_5, hcz50_6, hcz50_7⟩ := bx8 BK326.out
                    obtain ⟨hfz50_0, hfz50_1, hfz50_2, hfz50_3, hfz50_4, hfz50_5, hfz50_6, hfz50_7⟩ := fz8 BK326.out
                    go_wp2_with (first | ((with_reducible refine gate_callee (f := 31) rfl ?_); refine goesL_ (some 6) rfl rfl Tryz.func31 (by kernel_rfl) rfl #[.int .i64 a0_0, .int .i64 1, .int .i64 8] rfl (by (try simp only [List.map_toArray, List.map_cons, List.map_nil]); first | done | rfl | (simp only [List.length_drop, List.length_take]; rfl)) ?_; (with_reducible refine (breadlineref04_in.calls a0_0 1 8 true _ A4.out).mono ?_); rintro e w' ⟨rfl, ⟨nd, rfl⟩⟩; refine ⟨_, rfl, ?_⟩) | (go_at_call 31; (with_reducible refine (breadlineref04_in.calls a0_2 1 1048576 true _ A43.out).mono ?_); rintro e w' ⟨rfl, ⟨nd, rfl⟩⟩) | (go_at_call 31; (with_reducible refine (breadlineref04_in.calls a0_3 0 1048576 true _ A45.out).mono ?_); rintro e w' ⟨rfl, ⟨nd, rfl⟩⟩) | (go_at_call 31; (with_reducible refine (breadlineref04_in.calls a0_4 1 8 true _ A47.out).mono ?_); rintro e w' ⟨rfl, ⟨nd, rfl⟩⟩) | (go_at_call 31; (with_reducible refine (breadlineref04_in.calls a0_5 1 16 t343 _ A49.out).mono ?_); rintro e w' ⟨rfl, ⟨nd, rfl⟩⟩))
                    go_meet
                    case rel => exact ⟨_, (!t343), (by first | rfl | (simp; done) | (simp [*]; done)), H', ⟨by first | omega | exact Nat.le_refl _⟩, ⟨by (with_reducible repeat (first | refine blk_drewN ?_ _ | refine blk_drew ?_ | refine blk_alloc ?_ _)); exact BK326.out⟩, ⟨by repeat (first | (with_reducible first | exact HB.out | apply below_alloc | apply pw_below_drewN | apply below_drew1 | refine below_set ?_ GE326.out) | exact HB.out)⟩⟩
                  · replace c48 := Bool.eq_false_iff.mpr c48
                    subst c48
                    have H1 : (breadlineref04_Right.j0 k true a0_0 a0_1 a0_2 a0_3 a0_4 a0_5 l0_6 l0_7) = some r := by rw [if_neg (show ¬ (false = true) by decide)] at H; exact H
                    clear H
                    have H := H1
                    clear H1
                    have H' := Aside0.mk H
                    clear H
                    obtain ⟨hcz51_0, hcz51_1, hcz51_2, hcz51_3, hcz51_4, hcz51_5, hcz51_6, hcz51_7⟩ := bx8 BK326.out
                    obtain ⟨hfz51_0, hfz51_1, hfz51_2, hfz51_3, hfz51_4, hfz51_5, hfz51_6, hfz51_7⟩ := fz8 BK326.out
                    go_wp2_with (first | ((with_reducible refine gate_callee (f := 31) rfl ?_); refine goesL_ (some 6) rfl rfl Tryz.func31 (by kernel_rfl) rfl #[.int .i64 a0_0, .int .i64 1, .int .i64 8] rfl (by (try simp only [List.map_toArray, List.map_cons, List.map_nil]); first | done | rfl | (simp only [List.length_drop, List.length_take]; rfl)) ?_; (with_reducible refine (breadlineref04_in.calls a0_0 1 8 true _ A4.out).mono ?_); rintro e w' ⟨rfl, ⟨nd, rfl⟩⟩; refine ⟨_, rfl, ?_⟩) | (go_at_call 31; (with_reducible refine (breadlineref04_in.calls a0_2 1 1048576 true _ A43.out).mono ?_); rintro e w' ⟨rfl, ⟨nd, rfl⟩⟩) | (go_at_call 31; (with_reducible refine (breadlineref04_in.calls a0_3 0 1048576 true _ A45.out).mono ?_); rintro e w' ⟨rfl, ⟨nd, rfl⟩⟩) | (go_at_call 31; (with_reducible refine (breadlineref04_in.calls a0_4 1 8 false _ A47.out).mono ?_); rintro e w' ⟨rfl, ⟨nd, rfl⟩⟩))
                    go_meet
                    case rel => exact ⟨_, (true), (by first | rfl | (simp; done) | (simp [*]; done)), H', ⟨by first | omega | exact Nat.le_refl _⟩, ⟨by (with_reducible repeat (first | refine blk_drewN ?_ _ | refine blk_drew ?_ | refine blk_alloc ?_ _)); exact BK326.out⟩, ⟨by repeat (first | (with_reducible first | exact HB.out | apply below_alloc | apply pw_below_drewN | apply below_drew1 | refine below_set ?_ GE326.out) | exact HB.out)⟩⟩
                · replace c46 := Bool.eq_false_iff.mpr c46
                  subst c46
                  have H1 : (breadlineref04_Right.j0 k true a0_0 a0_1 a0_2 a0_3 a0_4 a0_5 l0_6 l0_7) = some r := by rw [if_neg (show ¬ (false = true) by decide)] at H; exact H
                  clear H
                  have H := H1
                  clear H1
                  have H' := Aside0.mk H
                  clear H
                  obtain ⟨hcz52_0, hcz52_1, hcz52_2, hcz52_3, hcz52_4, hcz52_5, hcz52_6, hcz52_7⟩ := bx8 BK326.out
                  obtain ⟨hfz52_0, hfz52_1, hfz52_2, hfz52_3, hfz52_4, hfz52_5, hfz52_6, hfz52_7⟩ := fz8 BK326.out
                  go_wp2_with (first | ((with_reducible refine gate_callee (f := 31) rfl ?_); refine goesL_ (some 6) rfl rfl Tryz.func31 (by kernel_rfl) rfl #[.int .i64 a0_0, .int .i64 1, .int .i64 8] rfl (by (try simp only [List.map_toArray, List.map_cons, List.map_nil]); first | done | rfl | (simp only [List.length_drop, List.length_take]; rfl)) ?_; (with_reducible refine (breadlineref04_in.calls a0_0 1 8 true _ A4.out).mono ?_); rintro e w' ⟨rfl, ⟨nd, rfl⟩⟩; refine ⟨_, rfl, ?_⟩) | (go_at_call 31; (with_reducible refine (breadlineref04_in.calls a0_2 1 1048576 true _ A43.out).mono ?_); rintro e w' ⟨rfl, ⟨nd, rfl⟩⟩) | (go_at_call 31; (with_reducible refine (breadlineref04_in.calls a0_3 0 1048576 false _ A45.out).mono ?_); rintro e w' ⟨rfl, ⟨nd, rfl⟩⟩))
                  go_meet
                  case rel => exact ⟨_, (true), (by first | rfl | (simp; done) | (simp [*]; done)), H', ⟨by first | omega | exact Nat.le_refl _⟩, ⟨by (with_reducible repeat (first | refine blk_drewN ?_ _ | refine blk_drew ?_ | refine blk_alloc ?_ _)); exact BK326.out⟩, ⟨by repeat (first | (with_reducible first | exact HB.out | apply below_alloc | apply pw_below_drewN | apply below_drew1 | refine below_set ?_ GE326.out) | exact HB.out)⟩⟩
              · replace c44 := Bool.eq_false_iff.mpr c44
                subst c44
                have H1 : (breadlineref04_Right.j0 k true a0_0 a0_1 a0_2 a0_3 a0_4 a0_5 l0_6 l0_7) = some r := by rw [if_neg (show ¬ (false = true) by decide)] at H; exact H
                clear H
                have H := H1
                clear H1
                have H' := Aside0.mk H
                clear H
                obtain ⟨hcz53_0, hcz53_1, hcz53_2, hcz53_3, hcz53_4, hcz53_5, hcz53_6, hcz53_7⟩ := bx8 BK326.out
                obtain ⟨hfz53_0, hfz53_1, hfz53_2, hfz53_3, hfz53_4, hfz53_5, hfz53_6, hfz53_7⟩ := fz8 BK326.out
                go_wp2_with (first | ((with_reducible refine gate_callee (f := 31) rfl ?_); refine goesL_ (some 6) rfl rfl Tryz.func31 (by kernel_rfl) rfl #[.int .i64 a0_0, .int .i64 1, .int .i64 8] rfl (by (try simp only [List.map_toArray, List.map_cons, List.map_nil]); first | done | rfl | (simp only [List.length_drop, List.length_take]; rfl)) ?_; (with_reducible refine (breadlineref04_in.calls a0_0 1 8 true _ A4.out).mono ?_); rintro e w' ⟨rfl, ⟨nd, rfl⟩⟩; refine ⟨_, rfl, ?_⟩) | (go_at_call 31; (with_reducible refine (breadlineref04_in.calls a0_2 1 1048576 false _ A43.out).mono ?_); rintro e w' ⟨rfl, ⟨nd, rfl⟩⟩))
                go_meet
                case rel => exact ⟨_, (true), (by first | rfl | (simp; done) | (simp [*]; done)), H', ⟨by first | omega | exact Nat.le_refl _⟩, ⟨by (with_reducible repeat (first | refine blk_drewN ?_ _ | refine blk_drew ?_ | refine blk_alloc ?_ _)); exact BK326.out⟩, ⟨by repeat (first | (with_reducible first | exact HB.out | apply below_alloc | apply pw_below_drewN | apply below_drew1 | refine below_set ?_ GE326.out) | exact HB.out)⟩⟩
            · rw [if_neg c42] at H
              have c42b0 : (a0_1 == 8) = false := beq_eq_false_iff_ne.mpr c42
              have c42b1 : (a0_1 != 8) = true := bne_iff_ne.mpr c42
              have H' := Aside0.mk H
              clear H
              obtain ⟨hcz54_0, hcz54_1, hcz54_2, hcz54_3, hcz54_4, hcz54_5, hcz54_6, hcz54_7⟩ := bx8 BK326.out
              obtain ⟨hfz54_0, hfz54_1, hfz54_2, hfz54_3, hfz54_4, hfz54_5, hfz54_6, hfz54_7⟩ := fz8 BK326.out
              go_wp2_with (first | ((with_reducible refine gate_callee (f := 31) rfl ?_); refine goesL_ (some 6) rfl rfl Tryz.func31 (by kernel_rfl) rfl #[.int .i64 a0_0, .int .i64 1, .int .i64 8] rfl (by (try simp only [List.map_toArray, List.map_cons, List.map_nil]); first | done | rfl | (simp only [List.length_drop, List.length_take]; rfl)) ?_; (with_reducible refine (breadlineref04_in.calls a0_0 1 8 true _ A4.out).mono ?_); rintro e w' ⟨rfl, ⟨nd, rfl⟩⟩; refine ⟨_, rfl, ?_⟩))
              go_meet
              case rel => exact ⟨_, (true), (by first | rfl | (simp; done) | (simp [*]; done)), H', ⟨by first | omega | exact Nat.le_refl _⟩, ⟨by (with_reducible repeat (first | refine blk_drewN ?_ _ | refine blk_drew ?_ | refine blk_alloc ?_ _)); exact BK326.out⟩, ⟨by repeat (first | (with_reducible first | exact HB.out | apply below_alloc | apply pw_below_drewN | apply below_drew1 | refine below_set ?_ GE326.out) | exact HB.out)⟩⟩
    · replace c5 := Bool.eq_false_iff.mpr c5
      subst c5
      have H1 : (breadlineref04_Right.j0 k true a0_0 a0_1 a0_2 a0_3 a0_4 a0_5 l0_6 l0_7) = some r := by rw [if_neg (show ¬ (false = true) by decide)] at H; exact H
      clear H
      have H := H1
      clear H1
      have H' := Aside0.mk H
      clear H
      obtain ⟨hcz55_0, hcz55_1, hcz55_2, hcz55_3, hcz55_4, hcz55_5, hcz55_6, hcz55_7⟩ := bx8 BK326.out
      obtain ⟨hfz55_0, hfz55_1, hfz55_2, hfz55_3, hfz55_4, hfz55_5, hfz55_6, hfz55_7⟩ := fz8 BK326.out
      go_wp2_with (first | ((with_reducible refine gate_callee (f := 31) rfl ?_); refine goesL_ (some 6) rfl rfl Tryz.func31 (by kernel_rfl) rfl #[.int .i64 a0_0, .int .i64 1, .int .i64 8] rfl (by (try simp only [List.map_toArray, List.map_cons, List.map_nil]); first | done | rfl | (simp only [List.length_drop, List.length_take]; rfl)) ?_; (with_reducible refine (breadlineref04_in.calls a0_0 1 8 false _ A4.out).mono ?_); rintro e w' ⟨rfl, ⟨nd, rfl⟩⟩; refine ⟨_, rfl, ?_⟩))
      go_meet
      case rel => exact ⟨_, (true), (by first | rfl | (simp; done) | (simp [*]; done)), H', ⟨by first | omega | exact Nat.le_refl _⟩, ⟨by (with_reducible repeat (first | refine blk_drewN ?_ _ | refine blk_drew ?_ | refine blk_alloc ?_ _)); exact BK326.out⟩, ⟨by repeat (first | (with_reducible first | exact HB.out | apply below_alloc | apply pw_below_drewN | apply below_drew1 | refine below_set ?_ GE326.out) | exact HB.out)⟩⟩
  case rest =>
    clear HC2
    try clear c1; try clear c2; try clear p2; try clear c3; try clear c4; try clear c5; try clear c6; try clear c6b0; try clear c6b1; try clear c8; try clear c10; try clear c12; try clear c18; try clear c18b0; try clear c18b1; try clear c20; try clear c22; try clear c24; try clear c30; try clear c30b0; try clear c30b1; try clear c31; try clear c32; try clear c34; try clear c36; try clear c42; try clear c42b0; try clear c42b1; try clear c44; try clear c46; try clear c48; try clear hcz14_0; try clear hcz14_1; try clear hcz14_2; try clear hcz14_3; try clear hcz14_4; try clear hcz14_5; try clear hcz14_6; try clear hcz14_7; try clear hcz15_0; try clear hcz15_1; try clear hcz15_2; try clear hcz15_3; try clear hcz15_4; try clear hcz15_5; try clear hcz15_6; try clear hcz15_7; try clear hcz16_0; try clear hcz16_1; try clear hcz16_2; try clear hcz16_3; try clear hcz16_4; try clear hcz16_5; try clear hcz16_6; try clear hcz16_7; try clear hcz17_0; try clear hcz17_1; try clear hcz17_2; try clear hcz17_3; try clear hcz17_4; try clear hcz17_5; try clear hcz17_6; try clear hcz17_7; try clear hcz26_0; try clear hcz26_1; try clear hcz26_2; try clear hcz26_3; try clear hcz26_4; try clear hcz26_5; try clear hcz26_6; try clear hcz26_7; try clear hcz27_0; try clear hcz27_1; try clear hcz27_2; try clear hcz27_3; try clear hcz27_4; try clear hcz27_5; try clear hcz27_6; try clear hcz27_7; try clear hcz28_0; try clear hcz28_1; try clear hcz28_2; try clear hcz28_3; try clear hcz28_4; try clear hcz28_5; try clear hcz28_6; try clear hcz28_7; try clear hcz29_0; try clear hcz29_1; try clear hcz29_2; try clear hcz29_3; try clear hcz29_4; try clear hcz29_5; try clear hcz29_6; try clear hcz29_7; try clear hcz38_0; try clear hcz38_1; try clear hcz38_2; try clear hcz38_3; try clear hcz38_4; try clear hcz38_5; try clear hcz38_6; try clear hcz38_7; try clear hcz39_0; try clear hcz39_1; try clear hcz39_2; try clear hcz39_3; try clear hcz39_4; try clear hcz39_5; try clear hcz39_6; try clear hcz39_7; try clear hcz40_0; try clear hcz40_1; try clear hcz40_2; try clear hcz40_3; try clear hcz40_4; try clear hcz40_5; try clear hcz40_6; try clear hcz40_7; try clear hcz41_0; try clear hcz41_1; try clear hcz41_2; try clear hcz41_3; try clear hcz41_4; try clear hcz41_5; try clear hcz41_6; try clear hcz41_7; try clear hcz50_0; try clear hcz50_1; try clear hcz50_2; try clear hcz50_3; try clear hcz50_4; try clear hcz50_5; try clear hcz50_6; try clear hcz50_7; try clear hcz51_0; try clear hcz51_1; try clear hcz51_2; try clear hcz51_3; try clear hcz51_4; try clear hcz51_5; try clear hcz51_6; try clear hcz51_7; try clear hcz52_0; try clear hcz52_1; try clear hcz52_2; try clear hcz52_3; try clear hcz52_4; try clear hcz52_5; try clear hcz52_6; try clear hcz52_7; try clear hcz53_0; try clear hcz53_1; try clear hcz53_2; try clear hcz53_3; try clear hcz53_4; try clear hcz53_5; try clear hcz53_6; try clear hcz53_7; try clear hcz54_0; try clear hcz54_1; try clear hcz54_2; try clear hcz54_3; try clear hcz54_4; try clear hcz54_5; try clear hcz54_6; try clear hcz54_7; try clear hcz55_0; try clear hcz55_1; try clear hcz55_2; try clear hcz55_3; try clear hcz55_4; try clear hcz55_5; try clear hcz55_6; try clear hcz55_7; try clear hfz14_0; try clear hfz14_1; try clear hfz14_2; try clear hfz14_3; try clear hfz14_4; try clear hfz14_5; try clear hfz14_6; try clear hfz14_7; try clear hfz15_0; try clear hfz15_1; try clear hfz15_2; try clear hfz15_3; try clear hfz15_4; try clear hfz15_5; try clear hfz15_6; try clear hfz15_7; try clear hfz16_0; try clear hfz16_1; try clear hfz16_2; try clear hfz16_3; try clear hfz16_4; try clear hfz16_5; try clear hfz16_6; try clear hfz16_7; try clear hfz17_0; try clear hfz17_1; try clear hfz17_2; try clear hfz17_3; try clear hfz17_4; try clear hfz17_5; try clear hfz17_6; try clear hfz17_7; try clear hfz26_0; try clear hfz26_1; try clear hfz26_2; try clear hfz26_3; try clear hfz26_4; try clear hfz26_5; try clear hfz26_6; try clear hfz26_7; try clear hfz27_0; try clear hfz27_1; try clear hfz27_2; try clear hfz27_3; try clear hfz27_4; try clear hfz27_5; try clear hfz27_6; try clear hfz27_7; try clear hfz28_0; try clear hfz28_1; try clear hfz28_2; try clear hfz28_3; try clear hfz28_4; try clear hfz28_5; try clear hfz28_6; try clear hfz28_7; try clear hfz29_0; try clear hfz29_1; try clear hfz29_2; try clear hfz29_3; try clear hfz29_4; try clear hfz29_5; try clear hfz29_6; try clear hfz29_7; try clear hfz38_0; try clear hfz38_1; try clear hfz38_2; try clear hfz38_3; try clear hfz38_4; try clear hfz38_5; try clear hfz38_6; try clear hfz38_7; try clear hfz39_0; try clear hfz39_1; try clear hfz39_2; try clear hfz39_3; try clear hfz39_4; try clear hfz39_5; try clear hfz39_6; try clear hfz39_7; try clear hfz40_0; try clear hfz40_1; try clear hfz40_2; try clear hfz40_3; try clear hfz40_4; try clear hfz40_5; try clear hfz40_6; try clear hfz40_7; try clear hfz41_0; try clear hfz41_1; try clear hfz41_2; try clear hfz41_3; try clear hfz41_4; try clear hfz41_5; try clear hfz41_6; try clear hfz41_7; try clear hfz50_0; try clear hfz50_1; try clear hfz50_2; try clear hfz50_3; try clear hfz50_4; try clear hfz50_5; try clear hfz50_6; try clear hfz50_7; try clear hfz51_0; try clear hfz51_1; try clear hfz51_2; try clear hfz51_3; try clear hfz51_4; try clear hfz51_5; try clear hfz51_6; try clear hfz51_7; try clear hfz52_0; try clear hfz52_1; try clear hfz52_2; try clear hfz52_3; try clear hfz52_4; try clear hfz52_5; try clear hfz52_6; try clear hfz52_7; try clear hfz53_0; try clear hfz53_1; try clear hfz53_2; try clear hfz53_3; try clear hfz53_4; try clear hfz53_5; try clear hfz53_6; try clear hfz53_7; try clear hfz54_0; try clear hfz54_1; try clear hfz54_2; try clear hfz54_3; try clear hfz54_4; try clear hfz54_5; try clear hfz54_6; try clear hfz54_7; try clear hfz55_0; try clear hfz55_1; try clear hfz55_2; try clear hfz55_3; try clear hfz55_4; try clear hfz55_5; try clear hfz55_6; try clear hfz55_7
    obtain ⟨kq, x51_1, rfl, HA, HJ1, BK326, HB⟩ := hcut
    cases kq with
    | zero => exact absurd HA.out (by simp [breadlineref04_Right.j0])
    | succ kj1 =>
      have H := HA.out
      clear HA
      simp only [breadlineref04_Right.j0] at H
      by_cases c56 : x51_1 = true
      · subst c56
        have H1 : (some false) = some r := by rw [if_pos rfl] at H; exact H
        clear H
        have H := H1
        clear H1
        obtain rfl := Option.some.inj H
        go_wp2
        go_ret
        exact ⟨by first | rfl | (simp [errW_none, errW_some] <;> rfl) | (simp [*, errW_none, errW_some] <;> rfl), by repeat (first | (with_reducible first | exact HB.out | apply below_alloc | apply pw_below_drewN | apply below_drew1 | refine below_set ?_ GE326.out) | exact HB.out)⟩
      · replace c56 := Bool.eq_false_iff.mpr c56
        subst c56
        have H1 : ((breadlineref04_in.f (l0_6.length : Int) 1 12).bind fun t344 => (if t344 = true then (breadlineref04_Right.j1 kj1 ((l0_7.length : Int) != (l0_6.length : Int)) a0_0 a0_1 a0_2 a0_3 a0_4 a0_5 l0_6 l0_7) else (breadlineref04_Right.j1 kj1 true a0_0 a0_1 a0_2 a0_3 a0_4 a0_5 l0_6 l0_7))) = some r := by rw [if_neg (show ¬ (false = true) by decide)] at H; exact H
        clear H
        have H := H1
        clear H1
        have HC57 := Aside0.mk H
        clear H
        go_upto_region 3 with (fail)
        go_cut [65] (fun v65 wc => ∃ (kq : Nat) (x65_56 : Bool), v65 = .bool x65_56 ∧ Aside0 (breadlineref04_Right.j1 kq x65_56 a0_0 a0_1 a0_2 a0_3 a0_4 a0_5 l0_6 l0_7 = some r) ∧ Aside0 (kq ≤ kj1) ∧ Aside0 (wc.heap[gb326]? = some (.cells #[.int .i64 a0_0, .int .i64 a0_1, .int .i64 a0_2, .int .i64 a0_3, .int .i64 a0_4, .int .i64 a0_5, (.slice A0_6 l0_6.length c0_6), (.slice A0_7 l0_7.length c0_7)] 24 (0, 0))) ∧ Aside0 (Below w.heap.size w wc))
        case first =>
          have H := HC57.out
          clear HC57
          replace H := Option.bind_eq_some_iff.mp H
          obtain ⟨t344, A580, H⟩ := H
          try dsimp only at H
          have A58 := Aside0.mk A580
          clear A580
          by_cases c59 : t344 = true
          · subst c59
            have H1 : (breadlineref04_Right.j1 kj1 ((l0_7.length : Int) != (l0_6.length : Int)) a0_0 a0_1 a0_2 a0_3 a0_4 a0_5 l0_6 l0_7) = some r := by rw [if_pos rfl] at H; exact H
            clear H
            have H := H1
            clear H1
            have H' := Aside0.mk H
            clear H
            obtain ⟨hcz60_0, hcz60_1, hcz60_2, hcz60_3, hcz60_4, hcz60_5, hcz60_6, hcz60_7⟩ := bx8 BK326.out
            obtain ⟨hfz60_0, hfz60_1, hfz60_2, hfz60_3, hfz60_4, hfz60_5, hfz60_6, hfz60_7⟩ := fz8 BK326.out
            go_wp2_with (first | ((with_reducible refine gate_callee (f := 31) rfl ?_); refine goesL_ (some 55) rfl rfl Tryz.func31 (by kernel_rfl) rfl #[.int .i64 (l0_6.length : Int), .int .i64 1, .int .i64 12] rfl (by (try simp only [List.map_toArray, List.map_cons, List.map_nil]); first | done | rfl | (simp only [List.length_drop, List.length_take]; rfl)) ?_; (with_reducible refine (breadlineref04_in.calls (l0_6.length : Int) 1 12 true _ A58.out).mono ?_); rintro e w' ⟨rfl, ⟨nd, rfl⟩⟩; refine ⟨_, rfl, ?_⟩))
            go_meet
            case rel => exact ⟨_, (((l0_7.length : Int) != (l0_6.length : Int))), (by first | rfl | (simp; done) | (simp [*]; done)), H', ⟨by have := HJ1.out; first | omega | exact Nat.le_refl _⟩, ⟨by (with_reducible repeat (first | refine blk_drewN ?_ _ | refine blk_drew ?_ | refine blk_alloc ?_ _)); exact BK326.out⟩, ⟨by repeat (first | (with_reducible first | exact HB.out | apply below_alloc | apply pw_below_drewN | apply below_drew1 | refine below_set ?_ GE326.out) | exact HB.out)⟩⟩
          · replace c59 := Bool.eq_false_iff.mpr c59
            subst c59
            have H1 : (breadlineref04_Right.j1 kj1 true a0_0 a0_1 a0_2 a0_3 a0_4 a0_5 l0_6 l0_7) = some r := by rw [if_neg (show ¬ (false = true) by decide)] at H; exact H
            clear H
            have H := H1
            clear H1
            have H' := Aside0.mk H
            clear H
            obtain ⟨hcz61_0, hcz61_1, hcz61_2, hcz61_3, hcz61_4, hcz61_5, hcz61_6, hcz61_7⟩ := bx8 BK326.out
            obtain ⟨hfz61_0, hfz61_1, hfz61_2, hfz61_3, hfz61_4, hfz61_5, hfz61_6, hfz61_7⟩ := fz8 BK326.out
            go_wp2_with (first | ((with_reducible refine gate_callee (f := 31) rfl ?_); refine goesL_ (some 55) rfl rfl Tryz.func31 (by kernel_rfl) rfl #[.int .i64 (l0_6.length : Int), .int .i64 1, .int .i64 12] rfl (by (try simp only [List.map_toArray, List.map_cons, List.map_nil]); first | done | rfl | (simp only [List.length_drop, List.length_take]; rfl)) ?_; (with_reducible refine (breadlineref04_in.calls (l0_6.length : Int) 1 12 false _ A58.out).mono ?_); rintro e w' ⟨rfl, ⟨nd, rfl⟩⟩; refine ⟨_, rfl, ?_⟩))
            go_meet
            case rel => exact ⟨_, (true), (by first | rfl | (simp; done) | (simp [*]; done)), H', ⟨by have := HJ1.out; first | omega | exact Nat.le_refl _⟩, ⟨by (with_reducible repeat (first | refine blk_drewN ?_ _ | refine blk_drew ?_ | refine blk_alloc ?_ _)); exact BK326.out⟩, ⟨by repeat (first | (with_reducible first | exact HB.out | apply below_alloc | apply pw_below_drewN | apply below_drew1 | refine below_set ?_ GE326.out) | exact HB.out)⟩⟩
        case rest =>
          clear HC57
          try clear c1; try clear c2; try clear p2; try clear c3; try clear c4; try clear c5; try clear c6; try clear c6b0; try clear c6b1; try clear c8; try clear c10; try clear c12; try clear c18; try clear c18b0; try clear c18b1; try clear c20; try clear c22; try clear c24; try clear c30; try clear c30b0; try clear c30b1; try clear c31; try clear c32; try clear c34; try clear c36; try clear c42; try clear c42b0; try clear c42b1; try clear c44; try clear c46; try clear c48; try clear c56; try clear c59; try clear hcz14_0; try clear hcz14_1; try clear hcz14_2; try clear hcz14_3; try clear hcz14_4; try clear hcz14_5; try clear hcz14_6; try clear hcz14_7; try clear hcz15_0; try clear hcz15_1; try clear hcz15_2; try clear hcz15_3; try clear hcz15_4; try clear hcz15_5; try clear hcz15_6; try clear hcz15_7; try clear hcz16_0; try clear hcz16_1; try clear hcz16_2; try clear hcz16_3; try clear hcz16_4; try clear hcz16_5; try clear hcz16_6; try clear hcz16_7; try clear hcz17_0; try clear hcz17_1; try clear hcz17_2; try clear hcz17_3; try clear hcz17_4; try clear hcz17_5; try clear hcz17_6; try clear hcz17_7; try clear hcz26_0; try clear hcz26_1; try clear hcz26_2; try clear hcz26_3; try clear hcz26_4; try clear hcz26_5; try clear hcz26_6; try clear hcz26_7; try clear hcz27_0; try clear hcz27_1; try clear hcz27_2; try clear hcz27_3; try clear hcz27_4; try clear hcz27_5; try clear hcz27_6; try clear hcz27_7; try clear hcz28_0; try clear hcz28_1; try clear hcz28_2; try clear hcz28_3; try clear hcz28_4; try clear hcz28_5; try clear hcz28_6; try clear hcz28_7; try clear hcz29_0; try clear hcz29_1; try clear hcz29_2; try clear hcz29_3; try clear hcz29_4; try clear hcz29_5; try clear hcz29_6; try clear hcz29_7; try clear hcz38_0; try clear hcz38_1; try clear hcz38_2; try clear hcz38_3; try clear hcz38_4; try clear hcz38_5; try clear hcz38_6; try clear hcz38_7; try clear hcz39_0; try clear hcz39_1; try clear hcz39_2; try clear hcz39_3; try clear hcz39_4; try clear hcz39_5; try clear hcz39_6; try clear hcz39_7; try clear hcz40_0; try clear hcz40_1; try clear hcz40_2; try clear hcz40_3; try clear hcz40_4; try clear hcz40_5; try clear hcz40_6; try clear hcz40_7; try clear hcz41_0; try clear hcz41_1; try clear hcz41_2; try clear hcz41_3; try clear hcz41_4; try clear hcz41_5; try clear hcz41_6; try clear hcz41_7; try clear hcz50_0; try clear hcz50_1; try clear hcz50_2; try clear hcz50_3; try clear hcz50_4; try clear hcz50_5; try clear hcz50_6; try clear hcz50_7; try clear hcz51_0; try clear hcz51_1; try clear hcz51_2; try clear hcz51_3; try clear hcz51_4; try clear hcz51_5; try clear hcz51_6; try clear hcz51_7; try clear hcz52_0; try clear hcz52_1; try clear hcz52_2; try clear hcz52_3; try clear hcz52_4; try clear hcz52_5; try clear hcz52_6; try clear hcz52_7; try clear hcz53_0; try clear hcz53_1; try clear hcz53_2; try clear hcz53_3; try clear hcz53_4; try clear hcz53_5; try clear hcz53_6; try clear hcz53_7; try clear hcz54_0; try clear hcz54_1; try clear hcz54_2; try clear hcz54_3; try clear hcz54_4; try clear hcz54_5; try clear hcz54_6; try clear hcz54_7; try clear hcz55_0; try clear hcz55_1; try clear hcz55_2; try clear hcz55_3; try clear hcz55_4; try clear hcz55_5; try clear hcz55_6; try clear hcz55_7; try clear hcz60_0; try clear hcz60_1; try clear hcz60_2; try clear hcz60_3; try clear hcz60_4; try clear hcz60_5; try clear hcz60_6; try clear hcz60_7; try clear hcz61_0; try clear hcz61_1; try clear hcz61_2; try clear hcz61_3; try clear hcz61_4; try clear hcz61_5; try clear hcz61_6; try clear hcz61_7; try clear hfz14_0; try clear hfz14_1; try clear hfz14_2; try clear hfz14_3; try clear hfz14_4; try clear hfz14_5; try clear hfz14_6; try clear hfz14_7; try clear hfz15_0; try clear hfz15_1; try clear hfz15_2; try clear hfz15_3; try clear hfz15_4; try clear hfz15_5; try clear hfz15_6; try clear hfz15_7; try clear hfz16_0; try clear hfz16_1; try clear hfz16_2; try clear hfz16_3; try clear hfz16_4; try clear hfz16_5; try clear hfz16_6; try clear hfz16_7; try clear hfz17_0; try clear hfz17_1; try clear hfz17_2; try clear hfz17_3; try clear hfz17_4; try clear hfz17_5; try clear hfz17_6; try clear hfz17_7; try clear hfz26_0; try clear hfz26_1; try clear hfz26_2; try clear hfz26_3; try clear hfz26_4; try clear hfz26_5; try clear hfz26_6; try clear hfz26_7; try clear hfz27_0; try clear hfz27_1; try clear hfz27_2; try clear hfz27_3; try clear hfz27_4; try clear hfz27_5; try clear hfz27_6; try clear hfz27_7; try clear hfz28_0; try clear hfz28_1; try clear hfz28_2; try clear hfz28_3; try clear hfz28_4; try clear hfz28_5; try clear hfz28_6; try clear hfz28_7; try clear hfz29_0; try clear hfz29_1; try clear hfz29_2; try clear hfz29_3; try clear hfz29_4; try clear hfz29_5; try clear hfz29_6; try clear hfz29_7; try clear hfz38_0; try clear hfz38_1; try clear hfz38_2; try clear hfz38_3; try clear hfz38_4; try clear hfz38_5; try clear hfz38_6; try clear hfz38_7; try clear hfz39_0; try clear hfz39_1; try clear hfz39_2; try clear hfz39_3; try clear hfz39_4; try clear hfz39_5; try clear hfz39_6; try clear hfz39_7; try clear hfz40_0; try clear hfz40_1; try clear hfz40_2; try clear hfz40_3; try clear hfz40_4; try clear hfz40_5; try clear hfz40_6; try clear hfz40_7; try clear hfz41_0; try clear hfz41_1; try clear hfz41_2; try clear hfz41_3; try clear hfz41_4; try clear hfz41_5; try clear hfz41_6; try clear hfz41_7; try clear hfz50_0; try clear hfz50_1; try clear hfz50_2; try clear hfz50_3; try clear hfz50_4; try clear hfz50_5; try clear hfz50_6; try clear hfz50_7; try clear hfz51_0; try clear hfz51_1; try clear hfz51_2; try clear hfz51_3; try clear hfz51_4; try clear hfz51_5; try clear hfz51_6; try clear hfz51_7; try clear hfz52_0; try clear hfz52_1; try clear hfz52_2; try clear hfz52_3; try clear hfz52_4; try clear hfz52_5; try clear hfz52_6; try clear hfz52_7; try clear hfz53_0; try clear hfz53_1; try clear hfz53_2; try clear hfz53_3; try clear hfz53_4; try clear hfz53_5; try clear hfz53_6; try clear hfz53_7; try clear hfz54_0; try clear hfz54_1; try clear hfz54_2; try clear hfz54_3; try clear hfz54_4; try clear hfz54_5; try clear hfz54_6; try clear hfz54_7; try clear hfz55_0; try clear hfz55_1; try clear hfz55_2; try clear hfz55_3; try clear hfz55_4; try clear hfz55_5; try clear hfz55_6; try clear hfz55_7; try clear hfz60_0; try clear hfz60_1; try clear hfz60_2; try clear hfz60_3; try clear hfz60_4; try clear hfz60_5; try clear hfz60_6; try clear hfz60_7; try clear hfz61_0; try clear hfz61_1; try clear hfz61_2; try clear hfz61_3; try clear hfz61_4; try clear hfz61_5; try clear hfz61_6; try clear hfz61_7; try clear p2
          obtain ⟨kq, x65_56, rfl, HA, HJ56, BK326, HB⟩ := hcut
          cases kq with
          | zero => exact absurd HA.out (by simp [breadlineref04_Right.j1])
          | succ kj56 =>
            have H := HA.out
            clear HA
            simp only [breadlineref04_Right.j1] at H
            by_cases c62 : x65_56 = true
            · subst c62
              have H1 : (some false) = some r := by rw [if_pos rfl] at H; exact H
              clear H
              have H := H1
              clear H1
              obtain rfl := Option.some.inj H
              go_wp2
              go_ret
              exact ⟨by first | rfl | (simp [errW_none, errW_some] <;> rfl) | (simp [*, errW_none, errW_some] <;> rfl), by repeat (first | (with_reducible first | exact HB.out | apply below_alloc | apply pw_below_drewN | apply below_drew1 | refine below_set ?_ GE326.out) | exact HB.out)⟩
            · replace c62 := Bool.eq_false_iff.mpr c62
              subst c62
              have H1 : (breadlineref04_Right.l0 kj56 0 a0_0 a0_1 a0_2 a0_3 a0_4 a0_5 l0_6 l0_7) = some r := by rw [if_neg (show ¬ (false = true) by decide)] at H; exact H
              clear H
              have H := H1
              clear H1
              have H' := Aside0.mk H
              clear H
              go_wp2
              go_loopg [3] kj56 (fun kq v3 w' => ∃ (x3_3 : Int), v3 = .int .i64 x3_3 ∧ Aside0 (breadlineref04_Right.l0 kq x3_3 a0_0 a0_1 a0_2 a0_3 a0_4 a0_5 l0_6 l0_7 = some r) ∧ Aside0 (kq ≤ kj56) ∧ Aside0 (w'.heap[gb326]? = some (.cells #[.int .i64 a0_0, .int .i64 a0_1, .int .i64 a0_2, .int .i64 a0_3, .int .i64 a0_4, .int .i64 a0_5, (.slice A0_6 l0_6.length c0_6), (.slice A0_7 l0_7.length c0_7)] 24 (0, 0))) ∧ Aside0 (Below w.heap.size w w'))
              case atStart => exact ⟨(0), (by first | rfl | (simp; done) | (simp [*]; done)), H', ⟨Nat.le_refl _⟩, ⟨by (with_reducible repeat (first | refine blk_drewN ?_ _ | refine blk_drew ?_ | refine blk_alloc ?_ _)); exact BK326.out⟩, ⟨by repeat (first | (with_reducible first | exact HB.out | apply below_alloc | apply pw_below_drewN | apply below_drew1 | refine below_set ?_ GE326.out) | exact HB.out)⟩⟩
              case round =>
                clear H'
                try clear c1; try clear c2; try clear p2; try clear c3; try clear c4; try clear c5; try clear c6; try clear c6b0; try clear c6b1; try clear c8; try clear c10; try clear c12; try clear c18; try clear c18b0; try clear c18b1; try clear c20; try clear c22; try clear c24; try clear c30; try clear c30b0; try clear c30b1; try clear c31; try clear c32; try clear c34; try clear c36; try clear c42; try clear c42b0; try clear c42b1; try clear c44; try clear c46; try clear c48; try clear c56; try clear c59; try clear c62; try clear hcz14_0; try clear hcz14_1; try clear hcz14_2; try clear hcz14_3; try clear hcz14_4; try clear hcz14_5; try clear hcz14_6; try clear hcz14_7; try clear hcz15_0; try clear hcz15_1; try clear hcz15_2; try clear hcz15_3; try clear hcz15_4; try clear hcz15_5; try clear hcz15_6; try clear hcz15_7; try clear hcz16_0; try clear hcz16_1; try clear hcz16_2; try clear hcz16_3; try clear hcz16_4; try clear hcz16_5; try clear hcz16_6; try clear hcz16_7; try clear hcz17_0; try clear hcz17_1; try clear hcz17_2; try clear hcz17_3; try clear hcz17_4; try clear hcz17_5; try clear hcz17_6; try clear hcz17_7; try clear hcz26_0; try clear hcz26_1; try clear hcz26_2; try clear hcz26_3; try clear hcz26_4; try clear hcz26_5; try clear hcz26_6; try clear hcz26_7; try clear hcz27_0; try clear hcz27_1; try clear hcz27_2; try clear hcz27_3; try clear hcz27_4; try clear hcz27_5; try clear hcz27_6; try clear hcz27_7; try clear hcz28_0; try clear hcz28_1; try clear hcz28_2; try clear hcz28_3; try clear hcz28_4; try clear hcz28_5; try clear hcz28_6; try clear hcz28_7; try clear hcz29_0; try clear hcz29_1; try clear hcz29_2; try clear hcz29_3; try clear hcz29_4; try clear hcz29_5; try clear hcz29_6; try clear hcz29_7; try clear hcz38_0; try clear hcz38_1; try clear hcz38_2; try clear hcz38_3; try clear hcz38_4; try clear hcz38_5; try clear hcz38_6; try clear hcz38_7; try clear hcz39_0; try clear hcz39_1; try clear hcz39_2; try clear hcz39_3; try clear hcz39_4; try clear hcz39_5; try clear hcz39_6; try clear hcz39_7; try clear hcz40_0; try clear hcz40_1; try clear hcz40_2; try clear hcz40_3; try clear hcz40_4; try clear hcz40_5; try clear hcz40_6; try clear hcz40_7; try clear hcz41_0; try clear hcz41_1; try clear hcz41_2; try clear hcz41_3; try clear hcz41_4; try clear hcz41_5; try clear hcz41_6; try clear hcz41_7; try clear hcz50_0; try clear hcz50_1; try clear hcz50_2; try clear hcz50_3; try clear hcz50_4; try clear hcz50_5; try clear hcz50_6; try clear hcz50_7; try clear hcz51_0; try clear hcz51_1; try clear hcz51_2; try clear hcz51_3; try clear hcz51_4; try clear hcz51_5; try clear hcz51_6; try clear hcz51_7; try clear hcz52_0; try clear hcz52_1; try clear hcz52_2; try clear hcz52_3; try clear hcz52_4; try clear hcz52_5; try clear hcz52_6; try clear hcz52_7; try clear hcz53_0; try clear hcz53_1; try clear hcz53_2; try clear hcz53_3; try clear hcz53_4; try clear hcz53_5; try clear hcz53_6; try clear hcz53_7; try clear hcz54_0; try clear hcz54_1; try clear hcz54_2; try clear hcz54_3; try clear hcz54_4; try clear hcz54_5; try clear hcz54_6; try clear hcz54_7; try clear hcz55_0; try clear hcz55_1; try clear hcz55_2; try clear hcz55_3; try clear hcz55_4; try clear hcz55_5; try clear hcz55_6; try clear hcz55_7; try clear hcz60_0; try clear hcz60_1; try clear hcz60_2; try clear hcz60_3; try clear hcz60_4; try clear hcz60_5; try clear hcz60_6; try clear hcz60_7; try clear hcz61_0; try clear hcz61_1; try clear hcz61_2; try clear hcz61_3; try clear hcz61_4; try clear hcz61_5; try clear hcz61_6; try clear hcz61_7; try clear hfz14_0; try clear hfz14_1; try clear hfz14_2; try clear hfz14_3; try clear hfz14_4; try clear hfz14_5; try clear hfz14_6; try clear hfz14_7; try clear hfz15_0; try clear hfz15_1; try clear hfz15_2; try clear hfz15_3; try clear hfz15_4; try clear hfz15_5; try clear hfz15_6; try clear hfz15_7; try clear hfz16_0; try clear hfz16_1; try clear hfz16_2; try clear hfz16_3; try clear hfz16_4; try clear hfz16_5; try clear hfz16_6; try clear hfz16_7; try clear hfz17_0; try clear hfz17_1; try clear hfz17_2; try clear hfz17_3; try clear hfz17_4; try clear hfz17_5; try clear hfz17_6; try clear hfz17_7; try clear hfz26_0; try clear hfz26_1; try clear hfz26_2; try clear hfz26_3; try clear hfz26_4; try clear hfz26_5; try clear hfz26_6; try clear hfz26_7; try clear hfz27_0; try clear hfz27_1; try clear hfz27_2; try clear hfz27_3; try clear hfz27_4; try clear hfz27_5; try clear hfz27_6; try clear hfz27_7; try clear hfz28_0; try clear hfz28_1; try clear hfz28_2; try clear hfz28_3; try clear hfz28_4; try clear hfz28_5; try clear hfz28_6; try clear hfz28_7; try clear hfz29_0; try clear hfz29_1; try clear hfz29_2; try clear hfz29_3; try clear hfz29_4; try clear hfz29_5; try clear hfz29_6; try clear hfz29_7; try clear hfz38_0; try clear hfz38_1; try clear hfz38_2; try clear hfz38_3; try clear hfz38_4; try clear hfz38_5; try clear hfz38_6; try clear hfz38_7; try clear hfz39_0; try clear hfz39_1; try clear hfz39_2; try clear hfz39_3; try clear hfz39_4; try clear hfz39_5; try clear hfz39_6; try clear hfz39_7; try clear hfz40_0; try clear hfz40_1; try clear hfz40_2; try clear hfz40_3; try clear hfz40_4; try clear hfz40_5; try clear hfz40_6; try clear hfz40_7; try clear hfz41_0; try clear hfz41_1; try clear hfz41_2; try clear hfz41_3; try clear hfz41_4; try clear hfz41_5; try clear hfz41_6; try clear hfz41_7; try clear hfz50_0; try clear hfz50_1; try clear hfz50_2; try clear hfz50_3; try clear hfz50_4; try clear hfz50_5; try clear hfz50_6; try clear hfz50_7; try clear hfz51_0; try clear hfz51_1; try clear hfz51_2; try clear hfz51_3; try clear hfz51_4; try clear hfz51_5; try clear hfz51_6; try clear hfz51_7; try clear hfz52_0; try clear hfz52_1; try clear hfz52_2; try clear hfz52_3; try clear hfz52_4; try clear hfz52_5; try clear hfz52_6; try clear hfz52_7; try clear hfz53_0; try clear hfz53_1; try clear hfz53_2; try clear hfz53_3; try clear hfz53_4; try clear hfz53_5; try clear hfz53_6; try clear hfz53_7; try clear hfz54_0; try clear hfz54_1; try clear hfz54_2; try clear hfz54_3; try clear hfz54_4; try clear hfz54_5; try clear hfz54_6; try clear hfz54_7; try clear hfz55_0; try clear hfz55_1; try clear hfz55_2; try clear hfz55_3; try clear hfz55_4; try clear hfz55_5; try clear hfz55_6; try clear hfz55_7; try clear hfz60_0; try clear hfz60_1; try clear hfz60_2; try clear hfz60_3; try clear hfz60_4; try clear hfz60_5; try clear hfz60_6; try clear hfz60_7; try clear hfz61_0; try clear hfz61_1; try clear hfz61_2; try clear hfz61_3; try clear hfz61_4; try clear hfz61_5; try clear hfz61_6; try clear hfz61_7; try clear p2
                obtain ⟨x3_3, rfl, HA, HK3, BK326, HB⟩ := hrel
                cases gk with
                | zero => exact absurd HA.out (by simp [breadlineref04_Right.l0])
                | succ k3 =>
                  have H := HA.out
                  clear HA
                  simp only [breadlineref04_Right.l0] at H
                  by_cases c63 : x3_3 < (l0_6.length : Int)
                  · rw [if_pos c63] at H
                    have c63b0 : decide (x3_3 < (l0_6.length : Int)) = true := decide_eq_true c63
                    clear c63
                    by_cases c64 : 0 ≤ x3_3
                    · rw [if_pos c64] at H
                      have c64b0 : decide (0 ≤ x3_3) = true := decide_eq_true c64
                      clear c64
                      by_cases c65 : x3_3 < (l0_7.length : Int)
                      · rw [if_pos c65] at H
                        have c65b0 : decide (x3_3 < (l0_7.length : Int)) = true := decide_eq_true c65
                        clear c65
                        replace H := Option.bind_eq_some_iff.mp H
                        obtain ⟨t346, A660, H⟩ := H
                        try dsimp only at H
                        have A66 := Aside0.mk A660
                        clear A660
                        by_cases c67 : t346 = true
                        · subst c67
                          have H1 : (if x3_3 = 0 then (if (rd l0_6 x3_3) = (-1) then (if x3_3 > 0 then ((breadlineref04_in.f (rd l0_6 x3_3) 0 (wrap64 (x3_3 - 1))).bind fun t349 => (if t349 = true then (breadlineref04_Right.l0 k3 (wrap64 (x3_3 + 1)) a0_0 a0_1 a0_2 a0_3 a0_4 a0_5 l0_6 l0_7) else (some false))) else (breadlineref04_Right.l0 k3 (wrap64 (x3_3 + 1)) a0_0 a0_1 a0_2 a0_3 a0_4 a0_5 l0_6 l0_7)) else (some false)) else (if x3_3 > 0 then ((breadlineref04_in.f (rd l0_6 x3_3) 0 (wrap64 (x3_3 - 1))).bind fun t351 => (if t351 = true then (breadlineref04_Right.l0 k3 (wrap64 (x3_3 + 1)) a0_0 a0_1 a0_2 a0_3 a0_4 a0_5 l0_6 l0_7) else (some false))) else (breadlineref04_Right.l0 k3 (wrap64 (x3_3 + 1)) a0_0 a0_1 a0_2 a0_3 a0_4 a0_5 l0_6 l0_7))) = some r := by rw [if_pos rfl] at H; exact H
                          clear H
                          have H := H1
                          clear H1
                          by_cases c68 : x3_3 = 0
                          · rw [if_pos c68] at H
                            have c68b0 : (x3_3 == 0) = true := beq_iff_eq.mpr c68
                            have c68b1 : (x3_3 != 0) = false := bne_eq_false_iff_eq.mpr c68
                            clear c68
                            by_cases c69 : (rd l0_6 x3_3) = (-1)
                            · rw [if_pos c69] at H
                              have c69b0 : ((rd l0_6 x3_3) == (-1)) = true := beq_iff_eq.mpr c69
                              have c69b1 : ((rd l0_6 x3_3) != (-1)) = false := bne_eq_false_iff_eq.mpr c69
                              clear c69
                              by_cases c70 : x3_3 > 0
                              · rw [if_pos c70] at H
                                have c70b0 : decide (0 < x3_3) = true := decide_eq_true c70
                                clear c70
                                replace H := Option.bind_eq_some_iff.mp H
                                obtain ⟨t349, A710, H⟩ := H
                                try dsimp only at H
                                have A71 := Aside0.mk A710
                                clear A710
                                by_cases c72 : t349 = true
                                · subst c72
                                  have H1 : (breadlineref04_Right.l0 k3 (wrap64 (x3_3 + 1)) a0_0 a0_1 a0_2 a0_3 a0_4 a0_5 l0_6 l0_7) = some r := by rw [if_pos rfl] at H; exact H
                                  clear H
                                  have H := H1
                                  clear H1
                                  have H' := Aside0.mk H
                                  clear H
                                  obtain ⟨hcz73_0, hcz73_1, hcz73_2, hcz73_3, hcz73_4, hcz73_5, hcz73_6, hcz73_7⟩ := bx8 BK326.out
                                  obtain ⟨hfz73_0, hfz73_1, hfz73_2, hfz73_3, hfz73_4, hfz73_5, hfz73_6, hfz73_7⟩ := fz8 BK326.out
                                  have p345 : 0 ≤ (x3_3 : Int) := of_decide_eq_true (by first | (with_reducible assumption) | assumption)
                                  have q345 : x3_3 < (l0_7.length : Int) := of_decide_eq_true (by first | (with_reducible assumption) | assumption)
                                  obtain ⟨ad345, e345, hx345_0⟩ := Kd.at_int HR0_7.out x3_3 p345 q345
                                  cases e345
                                  replace hx345_0 := (HB.out.cell (World.block_lt_of_cell? w _ hx345_0)).trans hx345_0
                                  replace p345 := eq_true p345
                                  replace q345 := eq_true q345
                                  go_wp2_with (first | ((with_reducible refine gate_callee (f := 31) rfl ?_); refine goesL_ (some 78) rfl rfl Tryz.func31 (by kernel_rfl) rfl #[.int .i64 (rd l0_7 x3_3), .int .i64 0, .int .i64 1099511627776] rfl (by (try simp only [List.map_toArray, List.map_cons, List.map_nil]); first | done | rfl | (simp only [List.length_drop, List.length_take]; rfl)) ?_; (with_reducible refine (breadlineref04_in.calls (rd l0_7 x3_3) 0 1099511627776 true _ A66.out).mono ?_); rintro e w' ⟨rfl, ⟨nd, rfl⟩⟩; refine ⟨_, rfl, ?_⟩; have p347 : 0 ≤ (x3_3 : Int) := of_decide_eq_true (by first | (with_reducible assumption) | assumption); have q347 : x3_3 < (l0_6.length : Int) := of_decide_eq_true (by first | (with_reducible assumption) | assumption); obtain ⟨ad347, e347, hx347_0⟩ := Kd.at_int HR0_6.out x3_3 p347 q347; cases e347; replace hx347_0 := (HB.out.cell (World.block_lt_of_cell? w _ hx347_0)).trans hx347_0; replace p347 := eq_true p347; replace q347 := eq_true q347; have p348 : 0 ≤ (x3_3 : Int) := of_decide_eq_true (by first | (with_reducible assumption) | assumption); have q348 : x3_3 < (l0_6.length : Int) := of_decide_eq_true (by first | (with_reducible assumption) | assumption); obtain ⟨ad348, e348, hx348_0⟩ := Kd.at_int HR0_6.out x3_3 p348 q348; obtain rfl : ad347 = ad348 := (by injection e348); replace hx348_0 := (HB.out.cell (World.block_lt_of_cell? w _ hx348_0)).trans hx348_0; replace p348 := eq_true p348; replace q348 := eq_true q348) | (go_at_call 31; (with_reducible refine (breadlineref04_in.calls (rd l0_6 x3_3) 0 (wrap64 (x3_3 - 1)) true _ A71.out).mono ?_); rintro e w' ⟨rfl, ⟨nd, rfl⟩⟩))
                                  go_roundg k3
                                  case measure => have := HJ1.out; have := HJ56.out; have := HK3.out; omega
                                  case rel => exact ⟨(wrap64 (x3_3 + 1)), (by first | rfl | (simp; done) | (simp [*]; done)), H', ⟨by have := HJ1.out; have := HJ56.out; have := HK3.out; omega⟩, ⟨by (with_reducible repeat (first | refine blk_drewN ?_ _ | refine blk_drew ?_ | refine blk_alloc ?_ _)); exact BK326.out⟩, ⟨by repeat (first | (with_reducible first | exact HB.out | apply below_alloc | apply pw_below_drewN | apply below_drew1 | refine below_set ?_ GE326.out) | exact HB.out)⟩⟩
                                · replace c72 := Bool.eq_false_iff.mpr c72
                                  subst c72
                                  have H1 : (some false) = some r := by rw [if_neg (show ¬ (false = true) by decide)] at H; exact H
                                  clear H
                                  have H := H1
                                  clear H1
                                  obtain rfl := Option.some.inj H
                                  obtain ⟨hcz74_0, hcz74_1, hcz74_2, hcz74_3, hcz74_4, hcz74_5, hcz74_6, hcz74_7⟩ := bx8 BK326.out
                                  obtain ⟨hfz74_0, hfz74_1, hfz74_2, hfz74_3, hfz74_4, hfz74_5, hfz74_6, hfz74_7⟩ := fz8 BK326.out
                                  have p345 : 0 ≤ (x3_3 : Int) := of_decide_eq_true (by first | (with_reducible assumption) | assumption)
                                  have q345 : x3_3 < (l0_7.length : Int) := of_decide_eq_true (by first | (with_reducible assumption) | assumption)
                                  obtain ⟨ad345, e345, hx345_0⟩ := Kd.at_int HR0_7.out x3_3 p345 q345
                                  cases e345
                                  replace hx345_0 := (HB.out.cell (World.block_lt_of_cell? w _ hx345_0)).trans hx345_0
                                  replace p345 := eq_true p345
                                  replace q345 := eq_true q345
                                  go_wp2_with (first | ((with_reducible refine gate_callee (f := 31) rfl ?_); refine goesL_ (some 78) rfl rfl Tryz.func31 (by kernel_rfl) rfl #[.int .i64 (rd l0_7 x3_3), .int .i64 0, .int .i64 1099511627776] rfl (by (try simp only [List.map_toArray, List.map_cons, List.map_nil]); first | done | rfl | (simp only [List.length_drop, List.length_take]; rfl)) ?_; (with_reducible refine (breadlineref04_in.calls (rd l0_7 x3_3) 0 1099511627776 true _ A66.out).mono ?_); rintro e w' ⟨rfl, ⟨nd, rfl⟩⟩; refine ⟨_, rfl, ?_⟩; have p347 : 0 ≤ (x3_3 : Int) := of_decide_eq_true (by first | (with_reducible assumption) | assumption); have q347 : x3_3 < (l0_6.length : Int) := of_decide_eq_true (by first | (with_reducible assumption) | assumption); obtain ⟨ad347, e347, hx347_0⟩ := Kd.at_int HR0_6.out x3_3 p347 q347; cases e347; replace hx347_0 := (HB.out.cell (World.block_lt_of_cell? w _ hx347_0)).trans hx347_0; replace p347 := eq_true p347; replace q347 := eq_true q347; have p348 : 0 ≤ (x3_3 : Int) := of_decide_eq_true (by first | (with_reducible assumption) | assumption); have q348 : x3_3 < (l0_6.length : Int) := of_decide_eq_true (by first | (with_reducible assumption) | assumption); obtain ⟨ad348, e348, hx348_0⟩ := Kd.at_int HR0_6.out x3_3 p348 q348; obtain rfl : ad347 = ad348 := (by injection e348); replace hx348_0 := (HB.out.cell (World.block_lt_of_cell? w _ hx348_0)).trans hx348_0; replace p348 := eq_true p348; replace q348 := eq_true q348) | (go_at_call 31; (with_reducible refine (breadlineref04_in.calls (rd l0_6 x3_3) 0 (wrap64 (x3_3 - 1)) false _ A71.out).mono ?_); rintro e w' ⟨rfl, ⟨nd, rfl⟩⟩))
                                  go_ret
                                  exact ⟨by first | rfl | (simp [errW_none, errW_some] <;> rfl) | (simp [*, errW_none, errW_some] <;> rfl), by repeat (first | (with_reducible first | exact HB.out | apply below_alloc | apply pw_below_drewN | apply below_drew1 | refine below_set ?_ GE326.out) | exact HB.out)⟩
                              · rw [if_neg c70] at H
                                have c70b0 : decide (0 < x3_3) = false := decide_eq_false c70
                                clear c70
                                have H' := Aside0.mk H
                                clear H
                                obtain ⟨hcz75_0, hcz75_1, hcz75_2, hcz75_3, hcz75_4, hcz75_5, hcz75_6, hcz75_7⟩ := bx8 BK326.out
                                obtain ⟨hfz75_0, hfz75_1, hfz75_2, hfz75_3, hfz75_4, hfz75_5, hfz75_6, hfz75_7⟩ := fz8 BK326.out
                                have p345 : 0 ≤ (x3_3 : Int) := of_decide_eq_true (by first | (with_reducible assumption) | assumption)
                                have q345 : x3_3 < (l0_7.length : Int) := of_decide_eq_true (by first | (with_reducible assumption) | assumption)
                                obtain ⟨ad345, e345, hx345_0⟩ := Kd.at_int HR0_7.out x3_3 p345 q345
                                cases e345
                                replace hx345_0 := (HB.out.cell (World.block_lt_of_cell? w _ hx345_0)).trans hx345_0
                                replace p345 := eq_true p345
                                replace q345 := eq_true q345
                                go_wp2_with (first | ((with_reducible refine gate_callee (f := 31) rfl ?_); refine goesL_ (some 78) rfl rfl Tryz.func31 (by kernel_rfl) rfl #[.int .i64 (rd l0_7 x3_3), .int .i64 0, .int .i64 1099511627776] rfl (by (try simp only [List.map_toArray, List.map_cons, List.map_nil]); first | done | rfl | (simp only [List.length_drop, List.length_take]; rfl)) ?_; (with_reducible refine (breadlineref04_in.calls (rd l0_7 x3_3) 0 1099511627776 true _ A66.out).mono ?_); rintro e w' ⟨rfl, ⟨nd, rfl⟩⟩; refine ⟨_, rfl, ?_⟩; have p347 : 0 ≤ (x3_3 : Int) := of_decide_eq_true (by first | (with_reducible assumption) | assumption); have q347 : x3_3 < (l0_6.length : Int) := of_decide_eq_true (by first | (with_reducible assumption) | assumption); obtain ⟨ad347, e347, hx347_0⟩ := Kd.at_int HR0_6.out x3_3 p347 q347; cases e347; replace hx347_0 := (HB.out.cell (World.block_lt_of_cell? w _ hx347_0)).trans hx347_0; replace p347 := eq_true p347; replace q347 := eq_true q347))
                                go_roundg k3
                                case measure => have := HJ1.out; have := HJ56.out; have := HK3.out; omega
                                case rel => exact ⟨(wrap64 (x3_3 + 1)), (by first | rfl | (simp; done) | (simp [*]; done)), H', ⟨by have := HJ1.out; have := HJ56.out; have := HK3.out; omega⟩, ⟨by (with_reducible repeat (first | refine blk_drewN ?_ _ | refine blk_drew ?_ | refine blk_alloc ?_ _)); exact BK326.out⟩, ⟨by repeat (first | (with_reducible first | exact HB.out | apply below_alloc | apply pw_below_drewN | apply below_drew1 | refine below_set ?_ GE326.out) | exact HB.out)⟩⟩
                            · rw [if_neg c69] at H
                              have c69b0 : ((rd l0_6 x3_3) == (-1)) = false := beq_eq_false_iff_ne.mpr c69
                              have c69b1 : ((rd l0_6 x3_3) != (-1)) = true := bne_iff_ne.mpr c69
                              obtain rfl := Option.some.inj H
                              obtain ⟨hcz76_0, hcz76_1, hcz76_2, hcz76_3, hcz76_4, hcz76_5, hcz76_6, hcz76_7⟩ := bx8 BK326.out
                              obtain ⟨hfz76_0, hfz76_1, hfz76_2, hfz76_3, hfz76_4, hfz76_5, hfz76_6, hfz76_7⟩ := fz8 BK326.out
                              have p345 : 0 ≤ (x3_3 : Int) := of_decide_eq_true (by first | (with_reducible assumption) | assumption)
                              have q345 : x3_3 < (l0_7.length : Int) := of_decide_eq_true (by first | (with_reducible assumption) | assumption)
                              obtain ⟨ad345, e345, hx345_0⟩ := Kd.at_int HR0_7.out x3_3 p345 q345
                              cases e345
                              replace hx345_0 := (HB.out.cell (World.block_lt_of_cell? w _ hx345_0)).trans hx345_0
                              replace p345 := eq_true p345
                              replace q345 := eq_true q345
                              go_wp2_with (first | ((with_reducible refine gate_callee (f := 31) rfl ?_); refine goesL_ (some 78) rfl rfl Tryz.func31 (by kernel_rfl) rfl #[.int .i64 (rd l0_7 x3_3), .int .i64 0, .int .i64 1099511627776] rfl (by (try simp only [List.map_toArray, List.map_cons, List.map_nil]); first | done | rfl | (simp only [List.length_drop, List.length_take]; rfl)) ?_; (with_reducible refine (breadlineref04_in.calls (rd l0_7 x3_3) 0 1099511627776 true _ A66.out).mono ?_); rintro e w' ⟨rfl, ⟨nd, rfl⟩⟩; refine ⟨_, rfl, ?_⟩; have p347 : 0 ≤ (x3_3 : Int) := of_decide_eq_true (by first | (with_reducible assumption) | assumption); have q347 : x3_3 < (l0_6.length : Int) := of_decide_eq_true (by first | (with_reducible assumption) | assumption); obtain ⟨ad347, e347, hx347_0⟩ := Kd.at_int HR0_6.out x3_3 p347 q347; cases e347; replace hx347_0 := (HB.out.cell (World.block_lt_of_cell? w _ hx347_0)).trans hx347_0; replace p347 := eq_true p347; replace q347 := eq_true q347))
                              go_ret
                              exact ⟨by first | rfl | (simp [errW_none, errW_some] <;> rfl) | (simp [*, errW_none, errW_some] <;> rfl), by repeat (first | (with_reducible first | exact HB.out | apply below_alloc | apply pw_below_drewN | apply below_drew1 | refine below_set ?_ GE326.out) | exact HB.out)⟩
                          · rw [if_neg c68] at H
                            have c68b0 : (x3_3 == 0) = false := beq_eq_false_iff_ne.mpr c68
                            have c68b1 : (x3_3 != 0) = true := bne_iff_ne.mpr c68
                            by_cases c77 : x3_3 > 0
                            · rw [if_pos c77] at H
                              have c77b0 : decide (0 < x3_3) = true := decide_eq_true c77
                              clear c77
                              replace H := Option.bind_eq_some_iff.mp H
                              obtain ⟨t351, A780, H⟩ := H
                              try dsimp only at H
                              have A78 := Aside0.mk A780
                              clear A780
                              by_cases c79 : t351 = true
                              · subst c79
                                have H1 : (breadlineref04_Right.l0 k3 (wrap64 (x3_3 + 1)) a0_0 a0_1 a0_2 a0_3 a0_4 a0_5 l0_6 l0_7) = some r := by rw [if_pos rfl] at H; exact H
                                clear H
                                have H := H1
                                clear H1
                                have H' := Aside0.mk H
                                clear H
                                obtain ⟨hcz80_0, hcz80_1, hcz80_2, hcz80_3, hcz80_4, hcz80_5, hcz80_6, hcz80_7⟩ := bx8 BK326.out
                                obtain ⟨hfz80_0, hfz80_1, hfz80_2, hfz80_3, hfz80_4, hfz80_5, hfz80_6, hfz80_7⟩ := fz8 BK326.out
                                have p345 : 0 ≤ (x3_3 : Int) := of_decide_eq_true (by first | (with_reducible assumption) | assumption)
                                have q345 : x3_3 < (l0_7.length : Int) := of_decide_eq_true (by first | (with_reducible assumption) | assumption)
                                obtain ⟨ad345, e345, hx345_0⟩ := Kd.at_int HR0_7.out x3_3 p345 q345
                                cases e345
                                replace hx345_0 := (HB.out.cell (World.block_lt_of_cell? w _ hx345_0)).trans hx345_0
                                replace p345 := eq_true p345
                                replace q345 := eq_true q345
                                go_wp2_with (first | ((with_reducible refine gate_callee (f := 31) rfl ?_); refine goesL_ (some 78) rfl rfl Tryz.func31 (by kernel_rfl) rfl #[.int .i64 (rd l0_7 x3_3), .int .i64 0, .int .i64 1099511627776] rfl (by (try simp only [List.map_toArray, List.map_cons, List.map_nil]); first | done | rfl | (simp only [List.length_drop, List.length_take]; rfl)) ?_; (with_reducible refine (breadlineref04_in.calls (rd l0_7 x3_3) 0 1099511627776 true _ A66.out).mono ?_); rintro e w' ⟨rfl, ⟨nd, rfl⟩⟩; refine ⟨_, rfl, ?_⟩; have p350 : 0 ≤ (x3_3 : Int) := of_decide_eq_true (by first | (with_reducible assumption) | assumption); have q350 : x3_3 < (l0_6.length : Int) := of_decide_eq_true (by first | (with_reducible assumption) | assumption); obtain ⟨ad350, e350, hx350_0⟩ := Kd.at_int HR0_6.out x3_3 p350 q350; cases e350; replace hx350_0 := (HB.out.cell (World.block_lt_of_cell? w _ hx350_0)).trans hx350_0; replace p350 := eq_true p350; replace q350 := eq_true q350) | (go_at_call 31; (with_reducible refine (breadlineref04_in.calls (rd l0_6 x3_3) 0 (wrap64 (x3_3 - 1)) true _ A78.out).mono ?_); rintro e w' ⟨rfl, ⟨nd, rfl⟩⟩))
                                go_roundg k3
                                case measure => have := HJ1.out; have := HJ56.out; have := HK3.out; omega
                                case rel => exact ⟨(wrap64 (x3_3 + 1)), (by first | rfl | (simp; done) | (simp [*]; done)), H', ⟨by have := HJ1.out; have := HJ56.out; have := HK3.out; omega⟩, ⟨by (with_reducible repeat (first | refine blk_drewN ?_ _ | refine blk_drew ?_ | refine blk_alloc ?_ _)); exact BK326.out⟩, ⟨by repeat (first | (with_reducible first | exact HB.out | apply below_alloc | apply pw_below_drewN | apply below_drew1 | refine below_set ?_ GE326.out) | exact HB.out)⟩⟩
                              · replace c79 := Bool.eq_false_iff.mpr c79
                                subst c79
                                have H1 : (some false) = some r := by rw [if_neg (show ¬ (false = true) by decide)] at H; exact H
                                clear H
                                have H := H1
                                clear H1
                                obtain rfl := Option.some.inj H
                                obtain ⟨hcz81_0, hcz81_1, hcz81_2, hcz81_3, hcz81_4, hcz81_5, hcz81_6, hcz81_7⟩ := bx8 BK326.out
                                obtain ⟨hfz81_0, hfz81_1, hfz81_2, hfz81_3, hfz81_4, hfz81_5, hfz81_6, hfz81_7⟩ := fz8 BK326.out
                                have p345 : 0 ≤ (x3_3 : Int) := of_decide_eq_true (by first | (with_reducible assumption) | assumption)
                                have q345 : x3_3 < (l0_7.length : Int) := of_decide_eq_true (by first | (with_reducible assumption) | assumption)
                                obtain ⟨ad345, e345, hx345_0⟩ := Kd.at_int HR0_7.out x3_3 p345 q345
                                cases e345
                                replace hx345_0 := (HB.out.cell (World.block_lt_of_cell? w _ hx345_0)).trans hx345_0
                                replace p345 := eq_true p345
                                replace q345 := eq_true q345
                                go_wp2_with (first | ((with_reducible refine gate_callee (f := 31) rfl ?_); refine goesL_ (some 78) rfl rfl Tryz.func31 (by kernel_rfl) rfl #[.int .i64 (rd l0_7 x3_3), .int .i64 0, .int .i64 1099511627776] rfl (by (try simp only [List.map_toArray, List.map_cons, List.map_nil]); first | done | rfl | (simp only [List.length_drop, List.length_take]; rfl)) ?_; (with_reducible refine (breadlineref04_in.calls (rd l0_7 x3_3) 0 1099511627776 true _ A66.out).mono ?_); rintro e w' ⟨rfl, ⟨nd, rfl⟩⟩; refine ⟨_, rfl, ?_⟩; have p350 : 0 ≤ (x3_3 : Int) := of_decide_eq_true (by first | (with_reducible assumption) | assumption); have q350 : x3_3 < (l0_6.length : Int) := of_decide_eq_true (by first | (with_reducible assumption) | assumption); obtain ⟨ad350, e350, hx350_0⟩ := Kd.at_int HR0_6.out x3_3 p350 q350; cases e350; replace hx350_0 := (HB.out.cell (World.block_lt_of_cell? w _ hx350_0)).trans hx350_0; replace p350 := eq_true p350; replace q350 := eq_true q350) | (go_at_call 31; (with_reducible refine (breadlineref04_in.calls (rd l0_6 x3_3) 0 (wrap64 (x3_3 - 1)) false _ A78.out).mono ?_); rintro e w' ⟨rfl, ⟨nd, rfl⟩⟩))
                                go_ret
                                exact ⟨by first | rfl | (simp [errW_none, errW_some] <;> rfl) | (simp [*, errW_none, errW_some] <;> rfl), by repeat (first | (with_reducible first | exact HB.out | apply below_alloc | apply pw_below_drewN | apply below_drew1 | refine below_set ?_ GE326.out) | exact HB.out)⟩
                            · rw [if_neg c77] at H
                              have c77b0 : decide (0 < x3_3) = false := decide_eq_false c77
                              clear c77
                              have H' := Aside0.mk H
                              clear H
                              obtain ⟨hcz82_0, hcz82_1, hcz82_2, hcz82_3, hcz82_4, hcz82_5, hcz82_6, hcz82_7⟩ := bx8 BK326.out
                              obtain ⟨hfz82_0, hfz82_1, hfz82_2, hfz82_3, hfz82_4, hfz82_5, hfz82_6, hfz82_7⟩ := fz8 BK326.out
                              have p345 : 0 ≤ (x3_3 : Int) := of_decide_eq_true (by first | (with_reducible assumption) | assumption)
                              have q345 : x3_3 < (l0_7.length : Int) := of_decide_eq_true (by first | (with_reducible assumption) | assumption)
                              obtain ⟨ad345, e345, hx345_0⟩ := Kd.at_int HR0_7.out x3_3 p345 q345
                              cases e345
                              replace hx345_0 := (HB.out.cell (World.block_lt_of_cell? w _ hx345_0)).trans hx345_0
                              replace p345 := eq_true p345
                              replace q345 := eq_true q345
                              go_wp2_with (first | ((with_reducible refine gate_callee (f := 31) rfl ?_); refine goesL_ (some 78) rfl rfl Tryz.func31 (by kernel_rfl) rfl #[.int .i64 (rd l0_7 x3_3), .int .i64 0, .int .i64 1099511627776] rfl (by (try simp only [List.map_toArray, List.map_cons, List.map_nil]); first | done | rfl | (simp only [List.length_drop, List.length_take]; rfl)) ?_; (with_reducible refine (breadlineref04_in.calls (rd l0_7 x3_3) 0 1099511627776 true _ A66.out).mono ?_); rintro e w' ⟨rfl, ⟨nd, rfl⟩⟩; refine ⟨_, rfl, ?_⟩))
                              go_roundg k3
                              case measure => have := HJ1.out; have := HJ56.out; have := HK3.out; omega
                              case rel => exact ⟨(wrap64 (x3_3 + 1)), (by first | rfl | (simp; done) | (simp [*]; done)), H', ⟨by have := HJ1.out; have := HJ56.out; have := HK3.out; omega⟩, ⟨by (with_reducible repeat (first | refine blk_drewN ?_ _ | refine blk_drew ?_ | refine blk_alloc ?_ _)); exact BK326.out⟩, ⟨by repeat (first | (with_reducible first | exact HB.out | apply below_alloc | apply pw_below_drewN | apply below_drew1 | refine below_set ?_ GE326.out) | exact HB.out)⟩⟩
                        · replace c67 := Bool.eq_false_iff.mpr c67
                          subst c67
                          have H1 : (some false) = some r := by rw [if_neg (show ¬ (false = true) by decide)] at H; exact H
                          clear H
                          have H := H1
                          clear H1
                          obtain rfl := Option.some.inj H
                          obtain ⟨hcz83_0, hcz83_1, hcz83_2, hcz83_3, hcz83_4, hcz83_5, hcz83_6, hcz83_7⟩ := bx8 BK326.out
                          obtain ⟨hfz83_0, hfz83_1, hfz83_2, hfz83_3, hfz83_4, hfz83_5, hfz83_6, hfz83_7⟩ := fz8 BK326.out
                          have p345 : 0 ≤ (x3_3 : Int) := of_decide_eq_true (by first | (with_reducible assumption) | assumption)
                          have q345 : x3_3 < (l0_7.length : Int) := of_decide_eq_true (by first | (with_reducible assumption) | assumption)
                          obtain ⟨ad345, e345, hx345_0⟩ := Kd.at_int HR0_7.out x3_3 p345 q345
                          cases e345
                          replace hx345_0 := (HB.out.cell (World.block_lt_of_cell? w _ hx345_0)).trans hx345_0
                          replace p345 := eq_true p345
                          replace q345 := eq_true q345
                          go_wp2_with (first | ((with_reducible refine gate_callee (f := 31) rfl ?_); refine goesL_ (some 78) rfl rfl Tryz.func31 (by kernel_rfl) rfl #[.int .i64 (rd l0_7 x3_3), .int .i64 0, .int .i64 1099511627776] rfl (by (try simp only [List.map_toArray, List.map_cons, List.map_nil]); first | done | rfl | (simp only [List.length_drop, List.length_take]; rfl)) ?_; (with_reducible refine (breadlineref04_in.calls (rd l0_7 x3_3) 0 1099511627776 false _ A66.out).mono ?_); rintro e w' ⟨rfl, ⟨nd, rfl⟩⟩; refine ⟨_, rfl, ?_⟩))
                          go_ret
                          exact ⟨by first | rfl | (simp [errW_none, errW_some] <;> rfl) | (simp [*, errW_none, errW_some] <;> rfl), by repeat (first | (with_reducible first | exact HB.out | apply below_alloc | apply pw_below_drewN | apply below_drew1 | refine below_set ?_ GE326.out) | exact HB.out)⟩
                      · rw [if_neg c65] at H
                        exact absurd H (by simp)
                    · rw [if_neg c64] at H
                      exact absurd H (by simp)
                  · rw [if_neg c63] at H
                    have c63b0 : decide (x3_3 < (l0_6.length : Int)) = false := decide_eq_false c63
                    clear c63
                    obtain rfl := Option.some.inj H
                    obtain ⟨hcz84_0, hcz84_1, hcz84_2, hcz84_3, hcz84_4, hcz84_5, hcz84_6, hcz84_7⟩ := bx8 BK326.out
                    obtain ⟨hfz84_0, hfz84_1, hfz84_2, hfz84_3, hfz84_4, hfz84_5, hfz84_6, hfz84_7⟩ := fz8 BK326.out
                    go_wp2
                    go_ret
                    exact ⟨by first | rfl | (simp [errW_none, errW_some] <;> rfl) | (simp [*, errW_none, errW_some] <;> rfl), by repeat (first | (with_reducible first | exact HB.out | apply below_alloc | apply pw_below_drewN | apply below_drew1 | refine below_set ?_ GE326.out) | exact HB.out)⟩

end Go.Proofs.YthbaamfdpebocaaGreat.PA
