-- Printed by the session's own driver (wip/tools/drive.py) on the kit's print.py, with hand-proved functions put in. Not trusted: Lean checks it.
import Derived.Test.YteaidhoimaphlaaGreatPMx0
import Derived.Test.YteaidhoimaphlaaGreatPMx3
namespace Go.Proofs.YteaidhoimaphlaaGreat.PM
open Go.RowKit Go.Proofs.YteaidhoimaphlaaGreatW.PrintWords Go.Proofs.YteaidhoimaphlaaGreatW.PrintLast Go.Proofs.YteaidhoimaphlaaGreatW.PrintMore
attribute [local go_sem] max2_int min2_int max_two min_two max_three min_three max_four min_four
set_option linter.unusedVariables false
set_option linter.unusedSimpArgs false

/-! ### breadlineref04_Right: function 10 -/
mutual
def breadlineref04_Right.j0 : Nat → Bool → Int → Int → Int → Int → Int → Int → List Int → List Int → Option (Bool)
  | 0, _, _, _, _, _, _, _, _, _ => none
  | k + 1, x51, x157000, x157001, x157002, x157003, x157004, x157005, x157006, x157007 => if x51 = true then (some false) else ((breadlineref04_in.f (x157006.length : Int) 1 12).bind fun t174 => (if t174 = true then (breadlineref04_Right.j1 k ((x157007.length : Int) != (x157006.length : Int)) x157000 x157001 x157002 x157003 x157004 x157005 x157006 x157007) else (breadlineref04_Right.j1 k true x157000 x157001 x157002 x157003 x157004 x157005 x157006 x157007)))
def breadlineref04_Right.j1 : Nat → Bool → Int → Int → Int → Int → Int → Int → List Int → List Int → Option (Bool)
  | 0, _, _, _, _, _, _, _, _, _ => none
  | k + 1, x65, x157000, x157001, x157002, x157003, x157004, x157005, x157006, x157007 => if x65 = true then (some false) else (breadlineref04_Right.l0 k 0 x157000 x157001 x157002 x157003 x157004 x157005 x157006 x157007)
def breadlineref04_Right.l0 : Nat → Int → Int → Int → Int → Int → Int → Int → List Int → List Int → Option (Bool)
  | 0, _, _, _, _, _, _, _, _, _ => none
  | k + 1, x3, x157000, x157001, x157002, x157003, x157004, x157005, x157006, x157007 => if x3 < (x157006.length : Int) then (if 0 ≤ x3 then (if x3 < (x157007.length : Int) then ((breadlineref04_in.f (rd x157007 x3) 0 1099511627776).bind fun t176 => (if t176 = true then (if x3 = 0 then (if (rd x157006 x3) = (-1) then (if x3 > 0 then ((breadlineref04_in.f (rd x157006 x3) 0 (wrap64 (x3 - 1))).bind fun t179 => (if t179 = true then (breadlineref04_Right.l0 k (wrap64 (x3 + 1)) x157000 x157001 x157002 x157003 x157004 x157005 x157006 x157007) else (some false))) else (breadlineref04_Right.l0 k (wrap64 (x3 + 1)) x157000 x157001 x157002 x157003 x157004 x157005 x157006 x157007)) else (some false)) else (if x3 > 0 then ((breadlineref04_in.f (rd x157006 x3) 0 (wrap64 (x3 - 1))).bind fun t181 => (if t181 = true then (breadlineref04_Right.l0 k (wrap64 (x3 + 1)) x157000 x157001 x157002 x157003 x157004 x157005 x157006 x157007) else (some false))) else (breadlineref04_Right.l0 k (wrap64 (x3 + 1)) x157000 x157001 x157002 x157003 x157004 x157005 x157006 x157007))) else (some false))) else (none)) else (none)) else (some true)
end
def breadlineref04_Right.f (k : Nat) (a0_0 : Int) (a0_1 : Int) (a0_2 : Int) (a0_3 : Int) (a0_4 : Int) (a0_5 : Int) (l0_6 : List Int) (l0_7 : List Int) : Option (Bool) := (breadlineref04_in.f a0_0 1 8).bind fun t157 => (if t157 = true then (if a0_1 = 1 then ((breadlineref04_in.f a0_2 1 1048576).bind fun t158 => (if t158 = true then ((breadlineref04_in.f a0_3 0 1048576).bind fun t159 => (if t159 = true then ((breadlineref04_in.f a0_4 1 8).bind fun t160 => (if t160 = true then ((breadlineref04_in.f a0_5 1 16).bind fun t161 => (breadlineref04_Right.j0 k (!t161) a0_0 a0_1 a0_2 a0_3 a0_4 a0_5 l0_6 l0_7)) else (breadlineref04_Right.j0 k true a0_0 a0_1 a0_2 a0_3 a0_4 a0_5 l0_6 l0_7))) else (breadlineref04_Right.j0 k true a0_0 a0_1 a0_2 a0_3 a0_4 a0_5 l0_6 l0_7))) else (breadlineref04_Right.j0 k true a0_0 a0_1 a0_2 a0_3 a0_4 a0_5 l0_6 l0_7))) else (if a0_1 = 2 then ((breadlineref04_in.f a0_2 1 1048576).bind fun t162 => (if t162 = true then ((breadlineref04_in.f a0_3 0 1048576).bind fun t163 => (if t163 = true then ((breadlineref04_in.f a0_4 1 8).bind fun t164 => (if t164 = true then ((breadlineref04_in.f a0_5 1 16).bind fun t165 => (breadlineref04_Right.j0 k (!t165) a0_0 a0_1 a0_2 a0_3 a0_4 a0_5 l0_6 l0_7)) else (breadlineref04_Right.j0 k true a0_0 a0_1 a0_2 a0_3 a0_4 a0_5 l0_6 l0_7))) else (breadlineref04_Right.j0 k true a0_0 a0_1 a0_2 a0_3 a0_4 a0_5 l0_6 l0_7))) else (breadlineref04_Right.j0 k true a0_0 a0_1 a0_2 a0_3 a0_4 a0_5 l0_6 l0_7))) else (if a0_1 = 4 then ((breadlineref04_in.f a0_2 1 1048576).bind fun t166 => (if t166 = true then ((breadlineref04_in.f a0_3 0 1048576).bind fun t167 => (if t167 = true then ((breadlineref04_in.f a0_4 1 8).bind fun t168 => (if t168 = true then ((breadlineref04_in.f a0_5 1 16).bind fun t169 => (breadlineref04_Right.j0 k (!t169) a0_0 a0_1 a0_2 a0_3 a0_4 a0_5 l0_6 l0_7)) else (breadlineref04_Right.j0 k true a0_0 a0_1 a0_2 a0_3 a0_4 a0_5 l0_6 l0_7))) else (breadlineref04_Right.j0 k true a0_0 a0_1 a0_2 a0_3 a0_4 a0_5 l0_6 l0_7))) else (breadlineref04_Right.j0 k true a0_0 a0_1 a0_2 a0_3 a0_4 a0_5 l0_6 l0_7))) else (if a0_1 = 8 then ((breadlineref04_in.f a0_2 1 1048576).bind fun t170 => (if t170 = true then ((breadlineref04_in.f a0_3 0 1048576).bind fun t171 => (if t171 = true then ((breadlineref04_in.f a0_4 1 8).bind fun t172 => (if t172 = true then ((breadlineref04_in.f a0_5 1 16).bind fun t173 => (breadlineref04_Right.j0 k (!t173) a0_0 a0_1 a0_2 a0_3 a0_4 a0_5 l0_6 l0_7)) else (breadlineref04_Right.j0 k true a0_0 a0_1 a0_2 a0_3 a0_4 a0_5 l0_6 l0_7))) else (breadlineref04_Right.j0 k true a0_0 a0_1 a0_2 a0_3 a0_4 a0_5 l0_6 l0_7))) else (breadlineref04_Right.j0 k true a0_0 a0_1 a0_2 a0_3 a0_4 a0_5 l0_6 l0_7))) else (breadlineref04_Right.j0 k true a0_0 a0_1 a0_2 a0_3 a0_4 a0_5 l0_6 l0_7))))) else (breadlineref04_Right.j0 k true a0_0 a0_1 a0_2 a0_3 a0_4 a0_5 l0_6 l0_7))
set_option maxHeartbeats 8000000 in
set_option maxRecDepth 100000 in
theorem breadlineref04_Right.calls (k : Nat) (a0_0 : Int) (a0_1 : Int) (a0_2 : Int) (a0_3 : Int) (a0_4 : Int) (a0_5 : Int) (A0_6 : Option Addr) (c0_6 : Nat) (l0_6 : List Int) (A0_7 : Option Addr) (c0_7 : Nat) (l0_7 : List Int) (r : Bool) (w : World) (hr0_6 : Kd.C (Kd.int .i64) w A0_6 l0_6.length l0_6) (hc0_6 : l0_6.length ≤ c0_6) (hr0_7 : Kd.C (Kd.int .i64) w A0_7 l0_7.length l0_7) (hc0_7 : l0_7.length ≤ c0_7) (h : breadlineref04_Right.f k a0_0 a0_1 a0_2 a0_3 a0_4 a0_5 l0_6 l0_7 = some r) :
    Calls Tryz.prog 10 #[.agg #[.int .i64 a0_0, .int .i64 a0_1, .int .i64 a0_2, .int .i64 a0_3, .int .i64 a0_4, .int .i64 a0_5, .slice A0_6 l0_6.length c0_6, .slice A0_7 l0_7.length c0_7]] w fun e w' => e = .returned (.bool r) ∧ Below w.heap.size w w' := by
  have hu24 := Tryz.underlying24
  have HR0_6 := Aside0.mk hr0_6
  have HC0_6 := Aside0.mk hc0_6
  clear hr0_6 hc0_6
  have HR0_7 := Aside0.mk hr0_7
  have HC0_7 := Aside0.mk hc0_7
  clear hr0_7 hc0_7
  have HB := Aside0.mk (Below.refl w.heap.size w)
  have H : ((breadlineref04_in.f a0_0 1 8).bind fun t157 => (if t157 = true then (if a0_1 = 1 then ((breadlineref04_in.f a0_2 1 1048576).bind fun t158 => (if t158 = true then ((breadlineref04_in.f a0_3 0 1048576).bind fun t159 => (if t159 = true then ((breadlineref04_in.f a0_4 1 8).bind fun t160 => (if t160 = true then ((breadlineref04_in.f a0_5 1 16).bind fun t161 => (breadlineref04_Right.j0 k (!t161) a0_0 a0_1 a0_2 a0_3 a0_4 a0_5 l0_6 l0_7)) else (breadlineref04_Right.j0 k true a0_0 a0_1 a0_2 a0_3 a0_4 a0_5 l0_6 l0_7))) else (breadlineref04_Right.j0 k true a0_0 a0_1 a0_2 a0_3 a0_4 a0_5 l0_6 l0_7))) else (breadlineref04_Right.j0 k true a0_0 a0_1 a0_2 a0_3 a0_4 a0_5 l0_6 l0_7))) else (if a0_1 = 2 then ((breadlineref04_in.f a0_2 1 1048576).bind fun t162 => (if t162 = true then ((breadlineref04_in.f a0_3 0 1048576).bind fun t163 => (if t163 = true then ((breadlineref04_in.f a0_4 1 8).bind fun t164 => (if t164 = true then ((breadlineref04_in.f a0_5 1 16).bind fun t165 => (breadlineref04_Right.j0 k (!t165) a0_0 a0_1 a0_2 a0_3 a0_4 a0_5 l0_6 l0_7)) else (breadlineref04_Right.j0 k true a0_0 a0_1 a0_2 a0_3 a0_4 a0_5 l0_6 l0_7))) else (breadlineref04_Right.j0 k true a0_0 a0_1 a0_2 a0_3 a0_4 a0_5 l0_6 l0_7))) else (breadlineref04_Right.j0 k true a0_0 a0_1 a0_2 a0_3 a0_4 a0_5 l0_6 l0_7))) else (if a0_1 = 4 then ((breadlineref04_in.f a0_2 1 1048576).bind fun t166 => (if t166 = true then ((breadlineref04_in.f a0_3 0 1048576).bind fun t167 => (if t167 = true then ((breadlineref04_in.f a0_4 1 8).bind fun t168 => (if t168 = true then ((breadlineref04_in.f a0_5 1 16).bind fun t169 => (breadlineref04_Right.j0 k (!t169) a0_0 a0_1 a0_2 a0_3 a0_4 a0_5 l0_6 l0_7)) else (breadlineref04_Right.j0 k true a0_0 a0_1 a0_2 a0_3 a0_4 a0_5 l0_6 l0_7))) else (breadlineref04_Right.j0 k true a0_0 a0_1 a0_2 a0_3 a0_4 a0_5 l0_6 l0_7))) else (breadlineref04_Right.j0 k true a0_0 a0_1 a0_2 a0_3 a0_4 a0_5 l0_6 l0_7))) else (if a0_1 = 8 then ((breadlineref04_in.f a0_2 1 1048576).bind fun t170 => (if t170 = true then ((breadlineref04_in.f a0_3 0 1048576).bind fun t171 => (if t171 = true then ((breadlineref04_in.f a0_4 1 8).bind fun t172 => (if t172 = true then ((breadlineref04_in.f a0_5 1 16).bind fun t173 => (breadlineref04_Right.j0 k (!t173) a0_0 a0_1 a0_2 a0_3 a0_4 a0_5 l0_6 l0_7)) else (breadlineref04_Right.j0 k true a0_0 a0_1 a0_2 a0_3 a0_4 a0_5 l0_6 l0_7))) else (breadlineref04_Right.j0 k true a0_0 a0_1 a0_2 a0_3 a0_4 a0_5 l0_6 l0_7))) else (breadlineref04_Right.j0 k true a0_0 a0_1 a0_2 a0_3 a0_4 a0_5 l0_6 l0_7))) else (breadlineref04_Right.j0 k true a0_0 a0_1 a0_2 a0_3 a0_4 a0_5 l0_6 l0_7))))) else (breadlineref04_Right.j0 k true a0_0 a0_1 a0_2 a0_3 a0_4 a0_5 l0_6 l0_7))) = some r := h
  clear h
  have HC2 := Aside0.mk H
  clear H
  go_enter Tryz.func10, Tryz.ntmps10
  go_upto_region 1 with (first | ((with_reducible refine gate_dst (N := 1) rfl ?_); (try (refine gate_guard (by rfl) ?_; dsimp only)); refine box_event ?hg (N := 1) ?hd (cs := #[.int .i64 a0_0, .int .i64 a0_1, .int .i64 a0_2, .int .i64 a0_3, .int .i64 a0_4, .int .i64 a0_5, .slice A0_6 l0_6.length c0_6, .slice A0_7 l0_7.length c0_7]) (t := 24) ?hr ?_; (case hd => rfl); (case hg => rfl); (case hr => first | (go_simp; done) | (go_simp; rfl)); intro gb156 hg w3 hbox hb; have n0_ := Aside0.mk (below_step (by repeat (first | (with_reducible first | exact HB.out | apply below_alloc | apply pw_below_drewN | apply below_drew1) | exact HB.out)) hb); have n1_ := Aside0.mk (hbox); have n2_ := Aside0.mk ((by rw [hg]; exact (below_size (by repeat (first | (with_reducible first | exact HB.out | apply below_alloc | apply pw_below_drewN | apply below_drew1) | exact HB.out))) : w.heap.size ≤ gb156)); have n3_ := Aside0.mk ((by rw [hg]; exact (below_size (by repeat (first | (with_reducible first | exact HB.out | apply below_alloc | apply pw_below_drewN | apply below_drew1) | exact HB.out))) : w.heap.size ≤ gb156)); clear HB; have HB := n0_; have BK156 := n1_; have GW156 := n2_; have GE156 := n3_; clear n0_ n1_ n2_ n3_; clear hb hbox hg))
  (try simp only [Act.put, List.setIfInBounds_toArray, List.set_cons_zero, List.set_cons_succ])
  go_cut [51] (fun v51 wc => ∃ (kq : Nat) (x51_1 : Bool), v51 = .bool x51_1 ∧ Aside0 (breadlineref04_Right.j0 kq x51_1 a0_0 a0_1 a0_2 a0_3 a0_4 a0_5 l0_6 l0_7 = some r) ∧ Aside0 (kq ≤ k) ∧ Aside0 (wc.heap[gb156]? = some (.cells #[.int .i64 a0_0, .int .i64 a0_1, .int .i64 a0_2, .int .i64 a0_3, .int .i64 a0_4, .int .i64 a0_5, (.slice A0_6 l0_6.length c0_6), (.slice A0_7 l0_7.length c0_7)] 24 (0, 0))) ∧ Aside0 (Below w.heap.size w wc))
  case first =>
    have H := HC2.out
    clear HC2
    replace H := Option.bind_eq_some_iff.mp H
    obtain ⟨t157, A40, H⟩ := H
    replace H : (if t157 = true then (if a0_1 = 1 then ((breadlineref04_in.f a0_2 1 1048576).bind fun t158 => (if t158 = true then ((breadlineref04_in.f a0_3 0 1048576).bind fun t159 => (if t159 = true then ((breadlineref04_in.f a0_4 1 8).bind fun t160 => (if t160 = true then ((breadlineref04_in.f a0_5 1 16).bind fun t161 => (breadlineref04_Right.j0 k (!t161) a0_0 a0_1 a0_2 a0_3 a0_4 a0_5 l0_6 l0_7)) else (breadlineref04_Right.j0 k true a0_0 a0_1 a0_2 a0_3 a0_4 a0_5 l0_6 l0_7))) else (breadlineref04_Right.j0 k true a0_0 a0_1 a0_2 a0_3 a0_4 a0_5 l0_6 l0_7))) else (breadlineref04_Right.j0 k true a0_0 a0_1 a0_2 a0_3 a0_4 a0_5 l0_6 l0_7))) else (if a0_1 = 2 then ((breadlineref04_in.f a0_2 1 1048576).bind fun t162 => (if t162 = true then ((breadlineref04_in.f a0_3 0 1048576).bind fun t163 => (if t163 = true then ((breadlineref04_in.f a0_4 1 8).bind fun t164 => (if t164 = true then ((breadlineref04_in.f a0_5 1 16).bind fun t165 => (breadlineref04_Right.j0 k (!t165) a0_0 a0_1 a0_2 a0_3 a0_4 a0_5 l0_6 l0_7)) else (breadlineref04_Right.j0 k true a0_0 a0_1 a0_2 a0_3 a0_4 a0_5 l0_6 l0_7))) else (breadlineref04_Right.j0 k true a0_0 a0_1 a0_2 a0_3 a0_4 a0_5 l0_6 l0_7))) else (breadlineref04_Right.j0 k true a0_0 a0_1 a0_2 a0_3 a0_4 a0_5 l0_6 l0_7))) else (if a0_1 = 4 then ((breadlineref04_in.f a0_2 1 1048576).bind fun t166 => (if t166 = true then ((breadlineref04_in.f a0_3 0 1048576).bind fun t167 => (if t167 = true then ((breadlineref04_in.f a0_4 1 8).bind fun t168 => (if t168 = true then ((breadlineref04_in.f a0_5 1 16).bind fun t169 => (breadlineref04_Right.j0 k (!t169) a0_0 a0_1 a0_2 a0_3 a0_4 a0_5 l0_6 l0_7)) else (breadlineref04_Right.j0 k true a0_0 a0_1 a0_2 a0_3 a0_4 a0_5 l0_6 l0_7))) else (breadlineref04_Right.j0 k true a0_0 a0_1 a0_2 a0_3 a0_4 a0_5 l0_6 l0_7))) else (breadlineref04_Right.j0 k true a0_0 a0_1 a0_2 a0_3 a0_4 a0_5 l0_6 l0_7))) else (if a0_1 = 8 then ((breadlineref04_in.f a0_2 1 1048576).bind fun t170 => (if t170 = true then ((breadlineref04_in.f a0_3 0 1048576).bind fun t171 => (if t171 = true then ((breadlineref04_in.f a0_4 1 8).bind fun t172 => (if t172 = true then ((breadlineref04_in.f a0_5 1 16).bind fun t173 => (breadlineref04_Right.j0 k (!t173) a0_0 a0_1 a0_2 a0_3 a0_4 a0_5 l0_6 l0_7)) else (breadlineref04_Right.j0 k true a0_0 a0_1 a0_2 a0_3 a0_4 a0_5 l0_6 l0_7))) else (breadlineref04_Right.j0 k true a0_0 a0_1 a0_2 a0_3 a0_4 a0_5 l0_6 l0_7))) else (breadlineref04_Right.j0 k true a0_0 a0_1 a0_2 a0_3 a0_4 a0_5 l0_6 l0_7))) else (breadlineref04_Right.j0 k true a0_0 a0_1 a0_2 a0_3 a0_4 a0_5 l0_6 l0_7))))) else (breadlineref04_Right.j0 k true a0_0 a0_1 a0_2 a0_3 a0_4 a0_5 l0_6 l0_7)) = some r := H
    have A4 := Aside0.mk A40
    clear A40
    by_cases c5 : t157 = true
    · subst c5
      have H1 : (if a0_1 = 1 then ((breadlineref04_in.f a0_2 1 1048576).bind fun t158 => (if t158 = true then ((breadlineref04_in.f a0_3 0 1048576).bind fun t159 => (if t159 = true then ((breadlineref04_in.f a0_4 1 8).bind fun t160 => (if t160 = true then ((breadlineref04_in.f a0_5 1 16).bind fun t161 => (breadlineref04_Right.j0 k (!t161) a0_0 a0_1 a0_2 a0_3 a0_4 a0_5 l0_6 l0_7)) else (breadlineref04_Right.j0 k true a0_0 a0_1 a0_2 a0_3 a0_4 a0_5 l0_6 l0_7))) else (breadlineref04_Right.j0 k true a0_0 a0_1 a0_2 a0_3 a0_4 a0_5 l0_6 l0_7))) else (breadlineref04_Right.j0 k true a0_0 a0_1 a0_2 a0_3 a0_4 a0_5 l0_6 l0_7))) else (if a0_1 = 2 then ((breadlineref04_in.f a0_2 1 1048576).bind fun t162 => (if t162 = true then ((breadlineref04_in.f a0_3 0 1048576).bind fun t163 => (if t163 = true then ((breadlineref04_in.f a0_4 1 8).bind fun t164 => (if t164 = true then ((breadlineref04_in.f a0_5 1 16).bind fun t165 => (breadlineref04_Right.j0 k (!t165) a0_0 a0_1 a0_2 a0_3 a0_4 a0_5 l0_6 l0_7)) else (breadlineref04_Right.j0 k true a0_0 a0_1 a0_2 a0_3 a0_4 a0_5 l0_6 l0_7))) else (breadlineref04_Right.j0 k true a0_0 a0_1 a0_2 a0_3 a0_4 a0_5 l0_6 l0_7))) else (breadlineref04_Right.j0 k true a0_0 a0_1 a0_2 a0_3 a0_4 a0_5 l0_6 l0_7))) else (if a0_1 = 4 then ((breadlineref04_in.f a0_2 1 1048576).bind fun t166 => (if t166 = true then ((breadlineref04_in.f a0_3 0 1048576).bind fun t167 => (if t167 = true then ((breadlineref04_in.f a0_4 1 8).bind fun t168 => (if t168 = true then ((breadlineref04_in.f a0_5 1 16).bind fun t169 => (breadlineref04_Right.j0 k (!t169) a0_0 a0_1 a0_2 a0_3 a0_4 a0_5 l0_6 l0_7)) else (breadlineref04_Right.j0 k true a0_0 a0_1 a0_2 a0_3 a0_4 a0_5 l0_6 l0_7))) else (breadlineref04_Right.j0 k true a0_0 a0_1 a0_2 a0_3 a0_4 a0_5 l0_6 l0_7))) else (breadlineref04_Right.j0 k true a0_0 a0_1 a0_2 a0_3 a0_4 a0_5 l0_6 l0_7))) else (if a0_1 = 8 then ((breadlineref04_in.f a0_2 1 1048576).bind fun t170 => (if t170 = true then ((breadlineref04_in.f a0_3 0 1048576).bind fun t171 => (if t171 = true then ((breadlineref04_in.f a0_4 1 8).bind fun t172 => (if t172 = true then ((breadlineref04_in.f a0_5 1 16).bind fun t173 => (breadlineref04_Right.j0 k (!t173) a0_0 a0_1 a0_2 a0_3 a0_4 a0_5 l0_6 l0_7)) else (breadlineref04_Right.j0 k true a0_0 a0_1 a0_2 a0_3 a0_4 a0_5 l0_6 l0_7))) else (breadlineref04_Right.j0 k true a0_0 a0_1 a0_2 a0_3 a0_4 a0_5 l0_6 l0_7))) else (breadlineref04_Right.j0 k true a0_0 a0_1 a0_2 a0_3 a0_4 a0_5 l0_6 l0_7))) else (breadlineref04_Right.j0 k true a0_0 a0_1 a0_2 a0_3 a0_4 a0_5 l0_6 l0_7))))) = some r := by rw [if_pos rfl] at H; exact H
      clear H
      have H := H1
      clear H1
      by_cases c6 : a0_1 = 1
      · rw [if_pos c6] at H
        have c6b0 : (a0_1 == 1) = true := beq_iff_eq.mpr c6
        have c6b1 : (a0_1 != 1) = false := bne_eq_false_iff_eq.mpr c6
        clear c6
        (first | rw [c6b0] | (simp only [i64_w, i32_w]; rw [c6b0]) | skip)
        replace H := Option.bind_eq_some_iff.mp H
        obtain ⟨t158, A70, H⟩ := H
        replace H : (if t158 = true then ((breadlineref04_in.f a0_3 0 1048576).bind fun t159 => (if t159 = true then ((breadlineref04_in.f a0_4 1 8).bind fun t160 => (if t160 = true then ((breadlineref04_in.f a0_5 1 16).bind fun t161 => (breadlineref04_Right.j0 k (!t161) a0_0 a0_1 a0_2 a0_3 a0_4 a0_5 l0_6 l0_7)) else (breadlineref04_Right.j0 k true a0_0 a0_1 a0_2 a0_3 a0_4 a0_5 l0_6 l0_7))) else (breadlineref04_Right.j0 k true a0_0 a0_1 a0_2 a0_3 a0_4 a0_5 l0_6 l0_7))) else (breadlineref04_Right.j0 k true a0_0 a0_1 a0_2 a0_3 a0_4 a0_5 l0_6 l0_7)) = some r := H
        have A7 := Aside0.mk A70
        clear A70
        by_cases c8 : t158 = true
        · subst c8
          have H1 : ((breadlineref04_in.f a0_3 0 1048576).bind fun t159 => (if t159 = true then ((breadlineref04_in.f a0_4 1 8).bind fun t160 => (if t160 = true then ((breadlineref04_in.f a0_5 1 16).bind fun t161 => (breadlineref04_Right.j0 k (!t161) a0_0 a0_1 a0_2 a0_3 a0_4 a0_5 l0_6 l0_7)) else (breadlineref04_Right.j0 k true a0_0 a0_1 a0_2 a0_3 a0_4 a0_5 l0_6 l0_7))) else (breadlineref04_Right.j0 k true a0_0 a0_1 a0_2 a0_3 a0_4 a0_5 l0_6 l0_7))) = some r := by rw [if_pos rfl] at H; exact H
          clear H
          have H := H1
          clear H1
          replace H := Option.bind_eq_some_iff.mp H
          obtain ⟨t159, A90, H⟩ := H
          replace H : (if t159 = true then ((breadlineref04_in.f a0_4 1 8).bind fun t160 => (if t160 = true then ((breadlineref04_in.f a0_5 1 16).bind fun t161 => (breadlineref04_Right.j0 k (!t161) a0_0 a0_1 a0_2 a0_3 a0_4 a0_5 l0_6 l0_7)) else (breadlineref04_Right.j0 k true a0_0 a0_1 a0_2 a0_3 a0_4 a0_5 l0_6 l0_7))) else (breadlineref04_Right.j0 k true a0_0 a0_1 a0_2 a0_3 a0_4 a0_5 l0_6 l0_7)) = some r := H
          have A9 := Aside0.mk A90
          clear A90
          by_cases c10 : t159 = true
          · subst c10
            have H1 : ((breadlineref04_in.f a0_4 1 8).bind fun t160 => (if t160 = true then ((breadlineref04_in.f a0_5 1 16).bind fun t161 => (breadlineref04_Right.j0 k (!t161) a0_0 a0_1 a0_2 a0_3 a0_4 a0_5 l0_6 l0_7)) else (breadlineref04_Right.j0 k true a0_0 a0_1 a0_2 a0_3 a0_4 a0_5 l0_6 l0_7))) = some r := by rw [if_pos rfl] at H; exact H
            clear H
            have H := H1
            clear H1
            replace H := Option.bind_eq_some_iff.mp H
            obtain ⟨t160, A110, H⟩ := H
            replace H : (if t160 = true then ((breadlineref04_in.f a0_5 1 16).bind fun t161 => (breadlineref04_Right.j0 k (!t161) a0_0 a0_1 a0_2 a0_3 a0_4 a0_5 l0_6 l0_7)) else (breadlineref04_Right.j0 k true a0_0 a0_1 a0_2 a0_3 a0_4 a0_5 l0_6 l0_7)) = some r := H
            have A11 := Aside0.mk A110
            clear A110
            by_cases c12 : t160 = true
            · subst c12
              have H1 : ((breadlineref04_in.f a0_5 1 16).bind fun t161 => (breadlineref04_Right.j0 k (!t161) a0_0 a0_1 a0_2 a0_3 a0_4 a0_5 l0_6 l0_7)) = some r := by rw [if_pos rfl] at H; exact H
              clear H
              have H := H1
              clear H1
              replace H := Option.bind_eq_some_iff.mp H
              obtain ⟨t161, A130, H⟩ := H
              replace H : (breadlineref04_Right.j0 k (!t161) a0_0 a0_1 a0_2 a0_3 a0_4 a0_5 l0_6 l0_7) = some r := H
              have A13 := Aside0.mk A130
              clear A130
              have H' := Aside0.mk H
              clear H
              have hcz14_0 : w3.cell? ⟨gb156, 0, none⟩ = some (.int .i64 a0_0) := (blk_cell BK156.out 0).trans rfl
              have hcz14_1 : w3.cell? ⟨gb156, 1, none⟩ = some (.int .i64 a0_1) := (blk_cell BK156.out 1).trans rfl
              have hcz14_2 : w3.cell? ⟨gb156, 2, none⟩ = some (.int .i64 a0_2) := (blk_cell BK156.out 2).trans rfl
              have hcz14_3 : w3.cell? ⟨gb156, 3, none⟩ = some (.int .i64 a0_3) := (blk_cell BK156.out 3).trans rfl
              have hcz14_4 : w3.cell? ⟨gb156, 4, none⟩ = some (.int .i64 a0_4) := (blk_cell BK156.out 4).trans rfl
              have hcz14_5 : w3.cell? ⟨gb156, 5, none⟩ = some (.int .i64 a0_5) := (blk_cell BK156.out 5).trans rfl
              have hcz14_6 : w3.cell? ⟨gb156, 6, none⟩ = some (.slice A0_6 l0_6.length c0_6) := (blk_cell BK156.out 6).trans rfl
              have hcz14_7 : w3.cell? ⟨gb156, 7, none⟩ = some (.slice A0_7 l0_7.length c0_7) := (blk_cell BK156.out 7).trans rfl
              have hfz14_0 := blk_frozen BK156.out 0
              have hfz14_1 := blk_frozen BK156.out 1
              have hfz14_2 := blk_frozen BK156.out 2
              have hfz14_3 := blk_frozen BK156.out 3
              have hfz14_4 := blk_frozen BK156.out 4
              have hfz14_5 := blk_frozen BK156.out 5
              have hfz14_6 := blk_frozen BK156.out 6
              have hfz14_7 := blk_frozen BK156.out 7
              go_wp2_with (first | ((with_reducible refine gate_callee (f := 23) rfl ?_); refine goesL_ (some 6) rfl rfl Tryz.func23 (by kernel_rfl) rfl #[.int .i64 a0_0, .int .i64 1, .int .i64 8] rfl (by (try simp only [List.map_toArray, List.map_cons, List.map_nil]); first | done | rfl | (simp only [List.length_drop, List.length_take]; rfl)) ?_; (with_reducible refine (breadlineref04_in.calls a0_0 1 8 true _ A4.out).mono ?_); rintro e w' ⟨rfl, ⟨nd, rfl⟩⟩; refine ⟨_, rfl, ?_⟩) | (go_at_call 23; (with_reducible refine (breadlineref04_in.calls a0_2 1 1048576 true _ A7.out).mono ?_); rintro e w' ⟨rfl, ⟨nd, rfl⟩⟩) | (go_at_call 23; (with_reducible refine (breadlineref04_in.calls a0_3 0 1048576 true _ A9.out).mono ?_); rintro e w' ⟨rfl, ⟨nd, rfl⟩⟩) | (go_at_call 23; (with_reducible refine (breadlineref04_in.calls a0_4 1 8 true _ A11.out).mono ?_); rintro e w' ⟨rfl, ⟨nd, rfl⟩⟩) | (go_at_call 23; (with_reducible refine (breadlineref04_in.calls a0_5 1 16 t161 _ A13.out).mono ?_); rintro e w' ⟨rfl, ⟨nd, rfl⟩⟩))
              go_meet
              case rel => exact ⟨_, (!t161), (by first | rfl | (simp; done) | (simp [*]; done)), H', ⟨by first | omega | exact Nat.le_refl _⟩, ⟨by (with_reducible repeat (first | refine blk_drewN ?_ _ | refine blk_drew ?_ | refine blk_alloc ?_ _)); exact BK156.out⟩, ⟨by repeat (first | (with_reducible first | exact HB.out | apply below_alloc | apply pw_below_drewN | apply below_drew1 | refine below_set ?_ GE156.out) | exact HB.out)⟩⟩
            · replace c12 := Bool.eq_false_iff.mpr c12
              subst c12
              have H1 : (breadlineref04_Right.j0 k true a0_0 a0_1 a0_2 a0_3 a0_4 a0_5 l0_6 l0_7) = some r := by rw [if_neg (show ¬ (false = true) by decide)] at H; exact H
              clear H
              have H := H1
              clear H1
              have H' := Aside0.mk H
              clear H
              have hcz15_0 : w3.cell? ⟨gb156, 0, none⟩ = some (.int .i64 a0_0) := (blk_cell BK156.out 0).trans rfl
              have hcz15_1 : w3.cell? ⟨gb156, 1, none⟩ = some (.int .i64 a0_1) := (blk_cell BK156.out 1).trans rfl
              have hcz15_2 : w3.cell? ⟨gb156, 2, none⟩ = some (.int .i64 a0_2) := (blk_cell BK156.out 2).trans rfl
              have hcz15_3 : w3.cell? ⟨gb156, 3, none⟩ = some (.int .i64 a0_3) := (blk_cell BK156.out 3).trans rfl
              have hcz15_4 : w3.cell? ⟨gb156, 4, none⟩ = some (.int .i64 a0_4) := (blk_cell BK156.out 4).trans rfl
              have hcz15_5 : w3.cell? ⟨gb156, 5, none⟩ = some (.int .i64 a0_5) := (blk_cell BK156.out 5).trans rfl
              have hcz15_6 : w3.cell? ⟨gb156, 6, none⟩ = some (.slice A0_6 l0_6.length c0_6) := (blk_cell BK156.out 6).trans rfl
              have hcz15_7 : w3.cell? ⟨gb156, 7, none⟩ = some (.slice A0_7 l0_7.length c0_7) := (blk_cell BK156.out 7).trans rfl
              have hfz15_0 := blk_frozen BK156.out 0
              have hfz15_1 := blk_frozen BK156.out 1
              have hfz15_2 := blk_frozen BK156.out 2
              have hfz15_3 := blk_frozen BK156.out 3
              have hfz15_4 := blk_frozen BK156.out 4
              have hfz15_5 := blk_frozen BK156.out 5
              have hfz15_6 := blk_frozen BK156.out 6
              have hfz15_7 := blk_frozen BK156.out 7
              go_wp2_with (first | ((with_reducible refine gate_callee (f := 23) rfl ?_); refine goesL_ (some 6) rfl rfl Tryz.func23 (by kernel_rfl) rfl #[.int .i64 a0_0, .int .i64 1, .int .i64 8] rfl (by (try simp only [List.map_toArray, List.map_cons, List.map_nil]); first | done | rfl | (simp only [List.length_drop, List.length_take]; rfl)) ?_; (with_reducible refine (breadlineref04_in.calls a0_0 1 8 true _ A4.out).mono ?_); rintro e w' ⟨rfl, ⟨nd, rfl⟩⟩; refine ⟨_, rfl, ?_⟩) | (go_at_call 23; (with_reducible refine (breadlineref04_in.calls a0_2 1 1048576 true _ A7.out).mono ?_); rintro e w' ⟨rfl, ⟨nd, rfl⟩⟩) | (go_at_call 23; (with_reducible refine (breadlineref04_in.calls a0_3 0 1048576 true _ A9.out).mono ?_); rintro e w' ⟨rfl, ⟨nd, rfl⟩⟩) | (go_at_call 23; (with_reducible refine (breadlineref04_in.calls a0_4 1 8 false _ A11.out).mono ?_); rintro e w' ⟨rfl, ⟨nd, rfl⟩⟩))
              go_meet
              case rel => exact ⟨_, (true), (by first | rfl | (simp; done) | (simp [*]; done)), H', ⟨by first | omega | exact Nat.le_refl _⟩, ⟨by (with_reducible repeat (first | refine blk_drewN ?_ _ | refine blk_drew ?_ | refine blk_alloc ?_ _)); exact BK156.out⟩, ⟨by repeat (first | (with_reducible first | exact HB.out | apply below_alloc | apply pw_below_drewN | apply below_drew1 | refine below_set ?_ GE156.out) | exact HB.out)⟩⟩
          · replace c10 := Bool.eq_false_iff.mpr c10
            subst c10
            have H1 : (breadlineref04_Right.j0 k true a0_0 a0_1 a0_2 a0_3 a0_4 a0_5 l0_6 l0_7) = some r := by rw [if_neg (show ¬ (false = true) by decide)] at H; exact H
            clear H
            have H := H1
            clear H1
            have H' := Aside0.mk H
            clear H
            have hcz16_0 : w3.cell? ⟨gb156, 0, none⟩ = some (.int .i64 a0_0) := (blk_cell BK156.out 0).trans rfl
            have hcz16_1 : w3.cell? ⟨gb156, 1, none⟩ = some (.int .i64 a0_1) := (blk_cell BK156.out 1).trans rfl
            have hcz16_2 : w3.cell? ⟨gb156, 2, none⟩ = some (.int .i64 a0_2) := (blk_cell BK156.out 2).trans rfl
            have hcz16_3 : w3.cell? ⟨gb156, 3, none⟩ = some (.int .i64 a0_3) := (blk_cell BK156.out 3).trans rfl
            have hcz16_4 : w3.cell? ⟨gb156, 4, none⟩ = some (.int .i64 a0_4) := (blk_cell BK156.out 4).trans rfl
            have hcz16_5 : w3.cell? ⟨gb156, 5, none⟩ = some (.int .i64 a0_5) := (blk_cell BK156.out 5).trans rfl
            have hcz16_6 : w3.cell? ⟨gb156, 6, none⟩ = some (.slice A0_6 l0_6.length c0_6) := (blk_cell BK156.out 6).trans rfl
            have hcz16_7 : w3.cell? ⟨gb156, 7, none⟩ = some (.slice A0_7 l0_7.length c0_7) := (blk_cell BK156.out 7).trans rfl
            have hfz16_0 := blk_frozen BK156.out 0
            have hfz16_1 := blk_frozen BK156.out 1
            have hfz16_2 := blk_frozen BK156.out 2
            have hfz16_3 := blk_frozen BK156.out 3
            have hfz16_4 := blk_frozen BK156.out 4
            have hfz16_5 := blk_frozen BK156.out 5
            have hfz16_6 := blk_frozen BK156.out 6
            have hfz16_7 := blk_frozen BK156.out 7
            go_wp2_with (first | ((with_reducible refine gate_callee (f := 23) rfl ?_); refine goesL_ (some 6) rfl rfl Tryz.func23 (by kernel_rfl) rfl #[.int .i64 a0_0, .int .i64 1, .int .i64 8] rfl (by (try simp only [List.map_toArray, List.map_cons, List.map_nil]); first | done | rfl | (simp only [List.length_drop, List.length_take]; rfl)) ?_; (with_reducible refine (breadlineref04_in.calls a0_0 1 8 true _ A4.out).mono ?_); rintro e w' ⟨rfl, ⟨nd, rfl⟩⟩; refine ⟨_, rfl, ?_⟩) | (go_at_call 23; (with_reducible refine (breadlineref04_in.calls a0_2 1 1048576 true _ A7.out).mono ?_); rintro e w' ⟨rfl, ⟨nd, rfl⟩⟩) | (go_at_call 23; (with_reducible refine (breadlineref04_in.calls a0_3 0 1048576 false _ A9.out).mono ?_); rintro e w' ⟨rfl, ⟨nd, rfl⟩⟩))
            go_meet
            case rel => exact ⟨_, (true), (by first | rfl | (simp; done) | (simp [*]; done)), H', ⟨by first | omega | exact Nat.le_refl _⟩, ⟨by (with_reducible repeat (first | refine blk_drewN ?_ _ | refine blk_drew ?_ | refine blk_alloc ?_ _)); exact BK156.out⟩, ⟨by repeat (first | (with_reducible first | exact HB.out | apply below_alloc | apply pw_below_drewN | apply below_drew1 | refine below_set ?_ GE156.out) | exact HB.out)⟩⟩
        · replace c8 := Bool.eq_false_iff.mpr c8
          subst c8
          have H1 : (breadlineref04_Right.j0 k true a0_0 a0_1 a0_2 a0_3 a0_4 a0_5 l0_6 l0_7) = some r := by rw [if_neg (show ¬ (false = true) by decide)] at H; exact H
          clear H
          have H := H1
          clear H1
          have H' := Aside0.mk H
          clear H
          have hcz17_0 : w3.cell? ⟨gb156, 0, none⟩ = some (.int .i64 a0_0) := (blk_cell BK156.out 0).trans rfl
          have hcz17_1 : w3.cell? ⟨gb156, 1, none⟩ = some (.int .i64 a0_1) := (blk_cell BK156.out 1).trans rfl
          have hcz17_2 : w3.cell? ⟨gb156, 2, none⟩ = some (.int .i64 a0_2) := (blk_cell BK156.out 2).trans rfl
          have hcz17_3 : w3.cell? ⟨gb156, 3, none⟩ = some (.int .i64 a0_3) := (blk_cell BK156.out 3).trans rfl
          have hcz17_4 : w3.cell? ⟨gb156, 4, none⟩ = some (.int .i64 a0_4) := (blk_cell BK156.out 4).trans rfl
          have hcz17_5 : w3.cell? ⟨gb156, 5, none⟩ = some (.int .i64 a0_5) := (blk_cell BK156.out 5).trans rfl
          have hcz17_6 : w3.cell? ⟨gb156, 6, none⟩ = some (.slice A0_6 l0_6.length c0_6) := (blk_cell BK156.out 6).trans rfl
          have hcz17_7 : w3.cell? ⟨gb156, 7, none⟩ = some (.slice A0_7 l0_7.length c0_7) := (blk_cell BK156.out 7).trans rfl
          have hfz17_0 := blk_frozen BK156.out 0
          have hfz17_1 := blk_frozen BK156.out 1
          have hfz17_2 := blk_frozen BK156.out 2
          have hfz17_3 := blk_frozen BK156.out 3
          have hfz17_4 := blk_frozen BK156.out 4
          have hfz17_5 := blk_frozen BK156.out 5
          have hfz17_6 := blk_frozen BK156.out 6
          have hfz17_7 := blk_frozen BK156.out 7
          go_wp2_with (first | ((with_reducible refine gate_callee (f := 23) rfl ?_); refine goesL_ (some 6) rfl rfl Tryz.func23 (by kernel_rfl) rfl #[.int .i64 a0_0, .int .i64 1, .int .i64 8] rfl (by (try simp only [List.map_toArray, List.map_cons, List.map_nil]); first | done | rfl | (simp only [List.length_drop, List.length_take]; rfl)) ?_; (with_reducible refine (breadlineref04_in.calls a0_0 1 8 true _ A4.out).mono ?_); rintro e w' ⟨rfl, ⟨nd, rfl⟩⟩; refine ⟨_, rfl, ?_⟩) | (go_at_call 23; (with_reducible refine (breadlineref04_in.calls a0_2 1 1048576 false _ A7.out).mono ?_); rintro e w' ⟨rfl, ⟨nd, rfl⟩⟩))
          go_meet
          case rel => exact ⟨_, (true), (by first | rfl | (simp; done) | (simp [*]; done)), H', ⟨by first | omega | exact Nat.le_refl _⟩, ⟨by (with_reducible repeat (first | refine blk_drewN ?_ _ | refine blk_drew ?_ | refine blk_alloc ?_ _)); exact BK156.out⟩, ⟨by repeat (first | (with_reducible first | exact HB.out | apply below_alloc | apply pw_below_drewN | apply below_drew1 | refine below_set ?_ GE156.out) | exact HB.out)⟩⟩
      · rw [if_neg c6] at H
        have c6b0 : (a0_1 == 1) = false := beq_eq_false_iff_ne.mpr c6
        have c6b1 : (a0_1 != 1) = true := bne_iff_ne.mpr c6
        (first | rw [c6b0] | (simp only [i64_w, i32_w]; rw [c6b0]) | skip)
        by_cases c18 : a0_1 = 2
        · rw [if_pos c18] at H
          have c18b0 : (a0_1 == 2) = true := beq_iff_eq.mpr c18
          have c18b1 : (a0_1 != 2) = false := bne_eq_false_iff_eq.mpr c18
          clear c18
          replace H := Option.bind_eq_some_iff.mp H
          obtain ⟨t162, A190, H⟩ := H
          replace H : (if t162 = true then ((breadlineref04_in.f a0_3 0 1048576).bind fun t163 => (if t163 = true then ((breadlineref04_in.f a0_4 1 8).bind fun t164 => (if t164 = true then ((breadlineref04_in.f a0_5 1 16).bind fun t165 => (breadlineref04_Right.j0 k (!t165) a0_0 a0_1 a0_2 a0_3 a0_4 a0_5 l0_6 l0_7)) else (breadlineref04_Right.j0 k true a0_0 a0_1 a0_2 a0_3 a0_4 a0_5 l0_6 l0_7))) else (breadlineref04_Right.j0 k true a0_0 a0_1 a0_2 a0_3 a0_4 a0_5 l0_6 l0_7))) else (breadlineref04_Right.j0 k true a0_0 a0_1 a0_2 a0_3 a0_4 a0_5 l0_6 l0_7)) = some r := H
          have A19 := Aside0.mk A190
          clear A190
          by_cases c20 : t162 = true
          · subst c20
            have H1 : ((breadlineref04_in.f a0_3 0 1048576).bind fun t163 => (if t163 = true then ((breadlineref04_in.f a0_4 1 8).bind fun t164 => (if t164 = true then ((breadlineref04_in.f a0_5 1 16).bind fun t165 => (breadlineref04_Right.j0 k (!t165) a0_0 a0_1 a0_2 a0_3 a0_4 a0_5 l0_6 l0_7)) else (breadlineref04_Right.j0 k true a0_0 a0_1 a0_2 a0_3 a0_4 a0_5 l0_6 l0_7))) else (breadlineref04_Right.j0 k true a0_0 a0_1 a0_2 a0_3 a0_4 a0_5 l0_6 l0_7))) = some r := by rw [if_pos rfl] at H; exact H
            clear H
            have H := H1
            clear H1
            replace H := Option.bind_eq_some_iff.mp H
            obtain ⟨t163, A210, H⟩ := H
            replace H : (if t163 = true then ((breadlineref04_in.f a0_4 1 8).bind fun t164 => (if t164 = true then ((breadlineref04_in.f a0_5 1 16).bind fun t165 => (breadlineref04_Right.j0 k (!t165) a0_0 a0_1 a0_2 a0_3 a0_4 a0_5 l0_6 l0_7)) else (breadlineref04_Right.j0 k true a0_0 a0_1 a0_2 a0_3 a0_4 a0_5 l0_6 l0_7))) else (breadlineref04_Right.j0 k true a0_0 a0_1 a0_2 a0_3 a0_4 a0_5 l0_6 l0_7)) = some r := H
            have A21 := Aside0.mk A210
            clear A210
            by_cases c22 : t163 = true
            · subst c22
              have H1 : ((breadlineref04_in.f a0_4 1 8).bind fun t164 => (if t164 = true then ((breadlineref04_in.f a0_5 1 16).bind fun t165 => (breadlineref04_Right.j0 k (!t165) a0_0 a0_1 a0_2 a0_3 a0_4 a0_5 l0_6 l0_7)) else (breadlineref04_Right.j0 k true a0_0 a0_1 a0_2 a0_3 a0_4 a0_5 l0_6 l0_7))) = some r := by rw [if_pos rfl] at H; exact H
              clear H
              have H := H1
              clear H1
              replace H := Option.bind_eq_some_iff.mp H
              obtain ⟨t164, A230, H⟩ := H
              replace H : (if t164 = true then ((breadlineref04_in.f a0_5 1 16).bind fun t165 => (breadlineref04_Right.j0 k (!t165) a0_0 a0_1 a0_2 a0_3 a0_4 a0_5 l0_6 l0_7)) else (breadlineref04_Right.j0 k true a0_0 a0_1 a0_2 a0_3 a0_4 a0_5 l0_6 l0_7)) = some r := H
              have A23 := Aside0.mk A230
              clear A230
              by_cases c24 : t164 = true
              · subst c24
                have H1 : ((breadlineref04_in.f a0_5 1 16).bind fun t165 => (breadlineref04_Right.j0 k (!t165) a0_0 a0_1 a0_2 a0_3 a0_4 a0_5 l0_6 l0_7)) = some r := by rw [if_pos rfl] at H; exact H
                clear H
                have H := H1
                clear H1
                replace H := Option.bind_eq_some_iff.mp H
                obtain ⟨t165, A250, H⟩ := H
                replace H : (breadlineref04_Right.j0 k (!t165) a0_0 a0_1 a0_2 a0_3 a0_4 a0_5 l0_6 l0_7) = some r := H
                have A25 := Aside0.mk A250
                clear A250
                have H' := Aside0.mk H
                clear H
                have hcz26_0 : w3.cell? ⟨gb156, 0, none⟩ = some (.int .i64 a0_0) := (blk_cell BK156.out 0).trans rfl
                have hcz26_1 : w3.cell? ⟨gb156, 1, none⟩ = some (.int .i64 a0_1) := (blk_cell BK156.out 1).trans rfl
                have hcz26_2 : w3.cell? ⟨gb156, 2, none⟩ = some (.int .i64 a0_2) := (blk_cell BK156.out 2).trans rfl
                have hcz26_3 : w3.cell? ⟨gb156, 3, none⟩ = some (.int .i64 a0_3) := (blk_cell BK156.out 3).trans rfl
                have hcz26_4 : w3.cell? ⟨gb156, 4, none⟩ = some (.int .i64 a0_4) := (blk_cell BK156.out 4).trans rfl
                have hcz26_5 : w3.cell? ⟨gb156, 5, none⟩ = some (.int .i64 a0_5) := (blk_cell BK156.out 5).trans rfl
                have hcz26_6 : w3.cell? ⟨gb156, 6, none⟩ = some (.slice A0_6 l0_6.length c0_6) := (blk_cell BK156.out 6).trans rfl
                have hcz26_7 : w3.cell? ⟨gb156, 7, none⟩ = some (.slice A0_7 l0_7.length c0_7) := (blk_cell BK156.out 7).trans rfl
                have hfz26_0 := blk_frozen BK156.out 0
                have hfz26_1 := blk_frozen BK156.out 1
                have hfz26_2 := blk_frozen BK156.out 2
                have hfz26_3 := blk_frozen BK156.out 3
                have hfz26_4 := blk_frozen BK156.out 4
                have hfz26_5 := blk_frozen BK156.out 5
                have hfz26_6 := blk_frozen BK156.out 6
                have hfz26_7 := blk_frozen BK156.out 7
                go_wp2_with (first | ((with_reducible refine gate_callee (f := 23) rfl ?_); refine goesL_ (some 6) rfl rfl Tryz.func23 (by kernel_rfl) rfl #[.int .i64 a0_0, .int .i64 1, .int .i64 8] rfl (by (try simp only [List.map_toArray, List.map_cons, List.map_nil]); first | done | rfl | (simp only [List.length_drop, List.length_take]; rfl)) ?_; (with_reducible refine (breadlineref04_in.calls a0_0 1 8 true _ A4.out).mono ?_); rintro e w' ⟨rfl, ⟨nd, rfl⟩⟩; refine ⟨_, rfl, ?_⟩) | (go_at_call 23; (with_reducible refine (breadlineref04_in.calls a0_2 1 1048576 true _ A19.out).mono ?_); rintro e w' ⟨rfl, ⟨nd, rfl⟩⟩) | (go_at_call 23; (with_reducible refine (breadlineref04_in.calls a0_3 0 1048576 true _ A21.out).mono ?_); rintro e w' ⟨rfl, ⟨nd, rfl⟩⟩) | (go_at_call 23; (with_reducible refine (breadlineref04_in.calls a0_4 1 8 true _ A23.out).mono ?_); rintro e w' ⟨rfl, ⟨nd, rfl⟩⟩) | (go_at_call 23; (with_reducible refine (breadlineref04_in.calls a0_5 1 16 t165 _ A25.out).mono ?_); rintro e w' ⟨rfl, ⟨nd, rfl⟩⟩))
                go_meet
                case rel => exact ⟨_, (!t165), (by first | rfl | (simp; done) | (simp [*]; done)), H', ⟨by first | omega | exact Nat.le_refl _⟩, ⟨by (with_reducible repeat (first | refine blk_drewN ?_ _ | refine blk_drew ?_ | refine blk_alloc ?_ _)); exact BK156.out⟩, ⟨by repeat (first | (with_reducible first | exact HB.out | apply below_alloc | apply pw_below_drewN | apply below_drew1 | refine below_set ?_ GE156.out) | exact HB.out)⟩⟩
              · replace c24 := Bool.eq_false_iff.mpr c24
                subst c24
                have H1 : (breadlineref04_Right.j0 k true a0_0 a0_1 a0_2 a0_3 a0_4 a0_5 l0_6 l0_7) = some r := by rw [if_neg (show ¬ (false = true) by decide)] at H; exact H
                clear H
                have H := H1
                clear H1
                have H' := Aside0.mk H
                clear H
                have hcz27_0 : w3.cell? ⟨gb156, 0, none⟩ = some (.int .i64 a0_0) := (blk_cell BK156.out 0).trans rfl
                have hcz27_1 : w3.cell? ⟨gb156, 1, none⟩ = some (.int .i64 a0_1) := (blk_cell BK156.out 1).trans rfl
                have hcz27_2 : w3.cell? ⟨gb156, 2, none⟩ = some (.int .i64 a0_2) := (blk_cell BK156.out 2).trans rfl
                have hcz27_3 : w3.cell? ⟨gb156, 3, none⟩ = some (.int .i64 a0_3) := (blk_cell BK156.out 3).trans rfl
                have hcz27_4 : w3.cell? ⟨gb156, 4, none⟩ = some (.int .i64 a0_4) := (blk_cell BK156.out 4).trans rfl
                have hcz27_5 : w3.cell? ⟨gb156, 5, none⟩ = some (.int .i64 a0_5) := (blk_cell BK156.out 5).trans rfl
                have hcz27_6 : w3.cell? ⟨gb156, 6, none⟩ = some (.slice A0_6 l0_6.length c0_6) := (blk_cell BK156.out 6).trans rfl
                have hcz27_7 : w3.cell? ⟨gb156, 7, none⟩ = some (.slice A0_7 l0_7.length c0_7) := (blk_cell BK156.out 7).trans rfl
                have hfz27_0 := blk_frozen BK156.out 0
                have hfz27_1 := blk_frozen BK156.out 1
                have hfz27_2 := blk_frozen BK156.out 2
                have hfz27_3 := blk_frozen BK156.out 3
                have hfz27_4 := blk_frozen BK156.out 4
                have hfz27_5 := blk_frozen BK156.out 5
                have hfz27_6 := blk_frozen BK156.out 6
                have hfz27_7 := blk_frozen BK156.out 7
                go_wp2_with (first | ((with_reducible refine gate_callee (f := 23) rfl ?_); refine goesL_ (some 6) rfl rfl Tryz.func23 (by kernel_rfl) rfl #[.int .i64 a0_0, .int .i64 1, .int .i64 8] rfl (by (try simp only [List.map_toArray, List.map_cons, List.map_nil]); first | done | rfl | (simp only [List.length_drop, List.length_take]; rfl)) ?_; (with_reducible refine (breadlineref04_in.calls a0_0 1 8 true _ A4.out).mono ?_); rintro e w' ⟨rfl, ⟨nd, rfl⟩⟩; refine ⟨_, rfl, ?_⟩) | (go_at_call 23; (with_reducible refine (breadlineref04_in.calls a0_2 1 1048576 true _ A19.out).mono ?_); rintro e w' ⟨rfl, ⟨nd, rfl⟩⟩) | (go_at_call 23; (with_reducible refine (breadlineref04_in.calls a0_3 0 1048576 true _ A21.out).mono ?_); rintro e w' ⟨rfl, ⟨nd, rfl⟩⟩) | (go_at_call 23; (with_reducible refine (breadlineref04_in.calls a0_4 1 8 false _ A23.out).mono ?_); rintro e w' ⟨rfl, ⟨nd, rfl⟩⟩))
                go_meet
                case rel => exact ⟨_, (true), (by first | rfl | (simp; done) | (simp [*]; done)), H', ⟨by first | omega | exact Nat.le_refl _⟩, ⟨by (with_reducible repeat (first | refine blk_drewN ?_ _ | refine blk_drew ?_ | refine blk_alloc ?_ _)); exact BK156.out⟩, ⟨by repeat (first | (with_reducible first | exact HB.out | apply below_alloc | apply pw_below_drewN | apply below_drew1 | refine below_set ?_ GE156.out) | exact HB.out)⟩⟩
            · replace c22 := Bool.eq_false_iff.mpr c22
              subst c22
              have H1 : (breadlineref04_Right.j0 k true a0_0 a0_1 a0_2 a0_3 a0_4 a0_5 l0_6 l0_7) = some r := by rw [if_neg (show ¬ (false = true) by decide)] at H; exact H
              clear H
              have H := H1
              clear H1
              have H' := Aside0.mk H
              clear H
              have hcz28_0 : w3.cell? ⟨gb156, 0, none⟩ = some (.int .i64 a0_0) := (blk_cell BK156.out 0).trans rfl
              have hcz28_1 : w3.cell? ⟨gb156, 1, none⟩ = some (.int .i64 a0_1) := (blk_cell BK156.out 1).trans rfl
              have hcz28_2 : w3.cell? ⟨gb156, 2, none⟩ = some (.int .i64 a0_2) := (blk_cell BK156.out 2).trans rfl
              have hcz28_3 : w3.cell? ⟨gb156, 3, none⟩ = some (.int .i64 a0_3) := (blk_cell BK156.out 3).trans rfl
              have hcz28_4 : w3.cell? ⟨gb156, 4, none⟩ = some (.int .i64 a0_4) := (blk_cell BK156.out 4).trans rfl
              have hcz28_5 : w3.cell? ⟨gb156, 5, none⟩ = some (.int .i64 a0_5) := (blk_cell BK156.out 5).trans rfl
              have hcz28_6 : w3.cell? ⟨gb156, 6, none⟩ = some (.slice A0_6 l0_6.length c0_6) := (blk_cell BK156.out 6).trans rfl
              have hcz28_7 : w3.cell? ⟨gb156, 7, none⟩ = some (.slice A0_7 l0_7.length c0_7) := (blk_cell BK156.out 7).trans rfl
              have hfz28_0 := blk_frozen BK156.out 0
              have hfz28_1 := blk_frozen BK156.out 1
              have hfz28_2 := blk_frozen BK156.out 2
              have hfz28_3 := blk_frozen BK156.out 3
              have hfz28_4 := blk_frozen BK156.out 4
              have hfz28_5 := blk_frozen BK156.out 5
              have hfz28_6 := blk_frozen BK156.out 6
              have hfz28_7 := blk_frozen BK156.out 7
              go_wp2_with (first | ((with_reducible refine gate_callee (f := 23) rfl ?_); refine goesL_ (some 6) rfl rfl Tryz.func23 (by kernel_rfl) rfl #[.int .i64 a0_0, .int .i64 1, .int .i64 8] rfl (by (try simp only [List.map_toArray, List.map_cons, List.map_nil]); first | done | rfl | (simp only [List.length_drop, List.length_take]; rfl)) ?_; (with_reducible refine (breadlineref04_in.calls a0_0 1 8 true _ A4.out).mono ?_); rintro e w' ⟨rfl, ⟨nd, rfl⟩⟩; refine ⟨_, rfl, ?_⟩) | (go_at_call 23; (with_reducible refine (breadlineref04_in.calls a0_2 1 1048576 true _ A19.out).mono ?_); rintro e w' ⟨rfl, ⟨nd, rfl⟩⟩) | (go_at_call 23; (with_reducible refine (breadlineref04_in.calls a0_3 0 1048576 false _ A21.out).mono ?_); rintro e w' ⟨rfl, ⟨nd, rfl⟩⟩))
              go_meet
              case rel => exact ⟨_, (true), (by first | rfl | (simp; done) | (simp [*]; done)), H', ⟨by first | omega | exact Nat.le_refl _⟩, ⟨by (with_reducible repeat (first | refine blk_drewN ?_ _ | refine blk_drew ?_ | refine blk_alloc ?_ _)); exact BK156.out⟩, ⟨by repeat (first | (with_reducible first | exact HB.out | apply below_alloc | apply pw_below_drewN | apply below_drew1 | refine below_set ?_ GE156.out) | exact HB.out)⟩⟩
          · replace c20 := Bool.eq_false_iff.mpr c20
            subst c20
            have H1 : (breadlineref04_Right.j0 k true a0_0 a0_1 a0_2 a0_3 a0_4 a0_5 l0_6 l0_7) = some r := by rw [if_neg (show ¬ (false = true) by decide)] at H; exact H
            clear H
            have H := H1
            clear H1
            have H' := Aside0.mk H
            clear H
            have hcz29_0 : w3.cell? ⟨gb156, 0, none⟩ = some (.int .i64 a0_0) := (blk_cell BK156.out 0).trans rfl
            have hcz29_1 : w3.cell? ⟨gb156, 1, none⟩ = some (.int .i64 a0_1) := (blk_cell BK156.out 1).trans rfl
            have hcz29_2 : w3.cell? ⟨gb156, 2, none⟩ = some (.int .i64 a0_2) := (blk_cell BK156.out 2).trans rfl
            have hcz29_3 : w3.cell? ⟨gb156, 3, none⟩ = some (.int .i64 a0_3) := (blk_cell BK156.out 3).trans rfl
            have hcz29_4 : w3.cell? ⟨gb156, 4, none⟩ = some (.int .i64 a0_4) := (blk_cell BK156.out 4).trans rfl
            have hcz29_5 : w3.cell? ⟨gb156, 5, none⟩ = some (.int .i64 a0_5) := (blk_cell BK156.out 5).trans rfl
            have hcz29_6 : w3.cell? ⟨gb156, 6, none⟩ = some (.slice A0_6 l0_6.length c0_6) := (blk_cell BK156.out 6).trans rfl
            have hcz29_7 : w3.cell? ⟨gb156, 7, none⟩ = some (.slice A0_7 l0_7.length c0_7) := (blk_cell BK156.out 7).trans rfl
            have hfz29_0 := blk_frozen BK156.out 0
            have hfz29_1 := blk_frozen BK156.out 1
            have hfz29_2 := blk_frozen BK156.out 2
            have hfz29_3 := blk_frozen BK156.out 3
            have hfz29_4 := blk_frozen BK156.out 4
            have hfz29_5 := blk_frozen BK156.out 5
            have hfz29_6 := blk_frozen BK156.out 6
            have hfz29_7 := blk_frozen BK156.out 7
            go_wp2_with (first | ((with_reducible refine gate_callee (f := 23) rfl ?_); refine goesL_ (some 6) rfl rfl Tryz.func23 (by kernel_rfl) rfl #[.int .i64 a0_0, .int .i64 1, .int .i64 8] rfl (by (try simp only [List.map_toArray, List.map_cons, List.map_nil]); first | done | rfl | (simp only [List.length_drop, List.length_take]; rfl)) ?_; (with_reducible refine (breadlineref04_in.calls a0_0 1 8 true _ A4.out).mono ?_); rintro e w' ⟨rfl, ⟨nd, rfl⟩⟩; refine ⟨_, rfl, ?_⟩) | (go_at_call 23; (with_reducible refine (breadlineref04_in.calls a0_2 1 1048576 false _ A19.out).mono ?_); rintro e w' ⟨rfl, ⟨nd, rfl⟩⟩))
            go_meet
            case rel => exact ⟨_, (true), (by first | rfl | (simp; done) | (simp [*]; done)), H', ⟨by first | omega | exact Nat.le_refl _⟩, ⟨by (with_reducible repeat (first | refine blk_drewN ?_ _ | refine blk_drew ?_ | refine blk_alloc ?_ _)); exact BK156.out⟩, ⟨by repeat (first | (with_reducible first | exact HB.out | apply below_alloc | apply pw_below_drewN | apply below_drew1 | refine below_set ?_ GE156.out) | exact HB.out)⟩⟩
        · rw [if_neg c18] at H
          have c18b0 : (a0_1 == 2) = false := beq_eq_false_iff_ne.mpr c18
          have c18b1 : (a0_1 != 2) = true := bne_iff_ne.mpr c18
          by_cases c30 : a0_1 = 4
          · rw [if_pos c30] at H
            have c30b0 : (a0_1 == 4) = true := beq_iff_eq.mpr c30
            have c30b1 : (a0_1 != 4) = false := bne_eq_false_iff_eq.mpr c30
            clear c30
            replace H := Option.bind_eq_some_iff.mp H
            obtain ⟨t166, A310, H⟩ := H
            replace H : (if t166 = true then ((breadlineref04_in.f a0_3 0 1048576).bind fun t167 => (if t167 = true then ((breadlineref04_in.f a0_4 1 8).bind fun t168 => (if t168 = true then ((breadlineref04_in.f a0_5 1 16).bind fun t169 => (breadlineref04_Right.j0 k (!t169) a0_0 a0_1 a0_2 a0_3 a0_4 a0_5 l0_6 l0_7)) else (breadlineref04_Right.j0 k true a0_0 a0_1 a0_2 a0_3 a0_4 a0_5 l0_6 l0_7))) else (breadlineref04_Right.j0 k true a0_0 a0_1 a0_2 a0_3 a0_4 a0_5 l0_6 l0_7))) else (breadlineref04_Right.j0 k true a0_0 a0_1 a0_2 a0_3 a0_4 a0_5 l0_6 l0_7)) = some r := H
            have A31 := Aside0.mk A310
            clear A310
            by_cases c32 : t166 = true
            · subst c32
              have H1 : ((breadlineref04_in.f a0_3 0 1048576).bind fun t167 => (if t167 = true then ((breadlineref04_in.f a0_4 1 8).bind fun t168 => (if t168 = true then ((breadlineref04_in.f a0_5 1 16).bind fun t169 => (breadlineref04_Right.j0 k (!t169) a0_0 a0_1 a0_2 a0_3 a0_4 a0_5 l0_6 l0_7)) else (breadlineref04_Right.j0 k true a0_0 a0_1 a0_2 a0_3 a0_4 a0_5 l0_6 l0_7))) else (breadlineref04_Right.j0 k true a0_0 a0_1 a0_2 a0_3 a0_4 a0_5 l0_6 l0_7))) = some r := by rw [if_pos rfl] at H; exact H
              clear H
              have H := H1
              clear H1
              replace H := Option.bind_eq_some_iff.mp H
              obtain ⟨t167, A330, H⟩ := H
              replace H : (if t167 = true then ((breadlineref04_in.f a0_4 1 8).bind fun t168 => (if t168 = true then ((breadlineref04_in.f a0_5 1 16).bind fun t169 => (breadlineref04_Right.j0 k (!t169) a0_0 a0_1 a0_2 a0_3 a0_4 a0_5 l0_6 l0_7)) else (breadlineref04_Right.j0 k true a0_0 a0_1 a0_2 a0_3 a0_4 a0_5 l0_6 l0_7))) else (breadlineref04_Right.j0 k true a0_0 a0_1 a0_2 a0_3 a0_4 a0_5 l0_6 l0_7)) = some r := H
              have A33 := Aside0.mk A330
              clear A330
              by_cases c34 : t167 = true
              · subst c34
                have H1 : ((breadlineref04_in.f a0_4 1 8).bind fun t168 => (if t168 = true then ((breadlineref04_in.f a0_5 1 16).bind fun t169 => (breadlineref04_Right.j0 k (!t169) a0_0 a0_1 a0_2 a0_3 a0_4 a0_5 l0_6 l0_7)) else (breadlineref04_Right.j0 k true a0_0 a0_1 a0_2 a0_3 a0_4 a0_5 l0_6 l0_7))) = some r := by rw [if_pos rfl] at H; exact H
                clear H
                have H := H1
                clear H1
                replace H := Option.bind_eq_some_iff.mp H
                obtain ⟨t168, A350, H⟩ := H
                replace H : (if t168 = true then ((breadlineref04_in.f a0_5 1 16).bind fun t169 => (breadlineref04_Right.j0 k (!t169) a0_0 a0_1 a0_2 a0_3 a0_4 a0_5 l0_6 l0_7)) else (breadlineref04_Right.j0 k true a0_0 a0_1 a0_2 a0_3 a0_4 a0_5 l0_6 l0_7)) = some r := H
                have A35 := Aside0.mk A350
                clear A350
                by_cases c36 : t168 = true
                · subst c36
                  have H1 : ((breadlineref04_in.f a0_5 1 16).bind fun t169 => (breadlineref04_Right.j0 k (!t169) a0_0 a0_1 a0_2 a0_3 a0_4 a0_5 l0_6 l0_7)) = some r := by rw [if_pos rfl] at H; exact H
                  clear H
                  have H := H1
                  clear H1
                  replace H := Option.bind_eq_some_iff.mp H
                  obtain ⟨t169, A370, H⟩ := H
                  replace H : (breadlineref04_Right.j0 k (!t169) a0_0 a0_1 a0_2 a0_3 a0_4 a0_5 l0_6 l0_7) = some r := H
                  have A37 := Aside0.mk A370
                  clear A370
                  have H' := Aside0.mk H
                  clear H
                  have hcz38_0 : w3.cell? ⟨gb156, 0, none⟩ = some (.int .i64 a0_0) := (blk_cell BK156.out 0).trans rfl
                  have hcz38_1 : w3.cell? ⟨gb156, 1, none⟩ = some (.int .i64 a0_1) := (blk_cell BK156.out 1).trans rfl
                  have hcz38_2 : w3.cell? ⟨gb156, 2, none⟩ = some (.int .i64 a0_2) := (blk_cell BK156.out 2).trans rfl
                  have hcz38_3 : w3.cell? ⟨gb156, 3, none⟩ = some (.int .i64 a0_3) := (blk_cell BK156.out 3).trans rfl
                  have hcz38_4 : w3.cell? ⟨gb156, 4, none⟩ = some (.int .i64 a0_4) := (blk_cell BK156.out 4).trans rfl
                  have hcz38_5 : w3.cell? ⟨gb156, 5, none⟩ = some (.int .i64 a0_5) := (blk_cell BK156.out 5).trans rfl
                  have hcz38_6 : w3.cell? ⟨gb156, 6, none⟩ = some (.slice A0_6 l0_6.length c0_6) := (blk_cell BK156.out 6).trans rfl
                  have hcz38_7 : w3.cell? ⟨gb156, 7, none⟩ = some (.slice A0_7 l0_7.length c0_7) := (blk_cell BK156.out 7).trans rfl
                  have hfz38_0 := blk_frozen BK156.out 0
                  have hfz38_1 := blk_frozen BK156.out 1
                  have hfz38_2 := blk_frozen BK156.out 2
                  have hfz38_3 := blk_frozen BK156.out 3
                  have hfz38_4 := blk_frozen BK156.out 4
                  have hfz38_5 := blk_frozen BK156.out 5
                  have hfz38_6 := blk_frozen BK156.out 6
                  have hfz38_7 := blk_frozen BK156.out 7
                  go_wp2_with (first | ((with_reducible refine gate_callee (f := 23) rfl ?_); refine goesL_ (some 6) rfl rfl Tryz.func23 (by kernel_rfl) rfl #[.int .i64 a0_0, .int .i64 1, .int .i64 8] rfl (by (try simp only [List.map_toArray, List.map_cons, List.map_nil]); first | done | rfl | (simp only [List.length_drop, List.length_take]; rfl)) ?_; (with_reducible refine (breadlineref04_in.calls a0_0 1 8 true _ A4.out).mono ?_); rintro e w' ⟨rfl, ⟨nd, rfl⟩⟩; refine ⟨_, rfl, ?_⟩) | (go_at_call 23; (with_reducible refine (breadlineref04_in.calls a0_2 1 1048576 true _ A31.out).mono ?_); rintro e w' ⟨rfl, ⟨nd, rfl⟩⟩) | (go_at_call 23; (with_reducible refine (breadlineref04_in.calls a0_3 0 1048576 true _ A33.out).mono ?_); rintro e w' ⟨rfl, ⟨nd, rfl⟩⟩) | (go_at_call 23; (with_reducible refine (breadlineref04_in.calls a0_4 1 8 true _ A35.out).mono ?_); rintro e w' ⟨rfl, ⟨nd, rfl⟩⟩) | (go_at_call 23; (with_reducible refine (breadlineref04_in.calls a0_5 1 16 t169 _ A37.out).mono ?_); rintro e w' ⟨rfl, ⟨nd, rfl⟩⟩))
                  go_meet
                  case rel => exact ⟨_, (!t169), (by first | rfl | (simp; done) | (simp [*]; done)), H', ⟨by first | omega | exact Nat.le_refl _⟩, ⟨by (with_reducible repeat (first | refine blk_drewN ?_ _ | refine blk_drew ?_ | refine blk_alloc ?_ _)); exact BK156.out⟩, ⟨by repeat (first | (with_reducible first | exact HB.out | apply below_alloc | apply pw_below_drewN | apply below_drew1 | refine below_set ?_ GE156.out) | exact HB.out)⟩⟩
                · replace c36 := Bool.eq_false_iff.mpr c36
                  subst c36
                  have H1 : (breadlineref04_Right.j0 k true a0_0 a0_1 a0_2 a0_3 a0_4 a0_5 l0_6 l0_7) = some r := by rw [if_neg (show ¬ (false = true) by decide)] at H; exact H
                  clear H
                  have H := H1
                  clear H1
                  have H' := Aside0.mk H
                  clear H
                  have hcz39_0 : w3.cell? ⟨gb156, 0, none⟩ = some (.int .i64 a0_0) := (blk_cell BK156.out 0).trans rfl
                  have hcz39_1 : w3.cell? ⟨gb156, 1, none⟩ = some (.int .i64 a0_1) := (blk_cell BK156.out 1).trans rfl
                  have hcz39_2 : w3.cell? ⟨gb156, 2, none⟩ = some (.int .i64 a0_2) := (blk_cell BK156.out 2).trans rfl
                  have hcz39_3 : w3.cell? ⟨gb156, 3, none⟩ = some (.int .i64 a0_3) := (blk_cell BK156.out 3).trans rfl
                  have hcz39_4 : w3.cell? ⟨gb156, 4, none⟩ = some (.int .i64 a0_4) := (blk_cell BK156.out 4).trans rfl
                  have hcz39_5 : w3.cell? ⟨gb156, 5, none⟩ = some (.int .i64 a0_5) := (blk_cell BK156.out 5).trans rfl
                  have hcz39_6 : w3.cell? ⟨gb156, 6, none⟩ = some (.slice A0_6 l0_6.length c0_6) := (blk_cell BK156.out 6).trans rfl
                  have hcz39_7 : w3.cell? ⟨gb156, 7, none⟩ = some (.slice A0_7 l0_7.length c0_7) := (blk_cell BK156.out 7).trans rfl
                  have hfz39_0 := blk_frozen BK156.out 0
                  have hfz39_1 := blk_frozen BK156.out 1
                  have hfz39_2 := blk_frozen BK156.out 2
                  have hfz39_3 := blk_frozen BK156.out 3
                  have hfz39_4 := blk_frozen BK156.out 4
                  have hfz39_5 := blk_frozen BK156.out 5
                  have hfz39_6 := blk_frozen BK156.out 6
                  have hfz39_7 := blk_frozen BK156.out 7
                  go_wp2_with (first | ((with_reducible refine gate_callee (f := 23) rfl ?_); refine goesL_ (some 6) rfl rfl Tryz.func23 (by kernel_rfl) rfl #[.int .i64 a0_0, .int .i64 1, .int .i64 8] rfl (by (try simp only [List.map_toArray, List.map_cons, List.map_nil]); first | done | rfl | (simp only [List.length_drop, List.length_take]; rfl)) ?_; (with_reducible refine (breadlineref04_in.calls a0_0 1 8 true _ A4.out).mono ?_); rintro e w' ⟨rfl, ⟨nd, rfl⟩⟩; refine ⟨_, rfl, ?_⟩) | (go_at_call 23; (with_reducible refine (breadlineref04_in.calls a0_2 1 1048576 true _ A31.out).mono ?_); rintro e w' ⟨rfl, ⟨nd, rfl⟩⟩) | (go_at_call 23; (with_reducible refine (breadlineref04_in.calls a0_3 0 1048576 true _ A33.out).mono ?_); rintro e w' ⟨rfl, ⟨nd, rfl⟩⟩) | (go_at_call 23; (with_reducible refine (breadlineref04_in.calls a0_4 1 8 false _ A35.out).mono ?_); rintro e w' ⟨rfl, ⟨nd, rfl⟩⟩))
                  go_meet
                  case rel => exact ⟨_, (true), (by first | rfl | (simp; done) | (simp [*]; done)), H', ⟨by first | omega | exact Nat.le_refl _⟩, ⟨by (with_reducible repeat (first | refine blk_drewN ?_ _ | refine blk_drew ?_ | refine blk_alloc ?_ _)); exact BK156.out⟩, ⟨by repeat (first | (with_reducible first | exact HB.out | apply below_alloc | apply pw_below_drewN | apply below_drew1 | refine below_set ?_ GE156.out) | exact HB.out)⟩⟩
              · replace c34 := Bool.eq_false_iff.mpr c34
                subst c34
                have H1 : (breadlineref04_Right.j0 k true a0_0 a0_1 a0_2 a0_3 a0_4 a0_5 l0_6 l0_7) = some r := by rw [if_neg (show ¬ (false = true) by decide)] at H; exact H
                clear H
                have H := H1
                clear H1
                have H' := Aside0.mk H
                clear H
                have hcz40_0 : w3.cell? ⟨gb156, 0, none⟩ = some (.int .i64 a0_0) := (blk_cell BK156.out 0).trans rfl
                have hcz40_1 : w3.cell? ⟨gb156, 1, none⟩ = some (.int .i64 a0_1) := (blk_cell BK156.out 1).trans rfl
                have hcz40_2 : w3.cell? ⟨gb156, 2, none⟩ = some (.int .i64 a0_2) := (blk_cell BK156.out 2).trans rfl
                have hcz40_3 : w3.cell? ⟨gb156, 3, none⟩ = some (.int .i64 a0_3) := (blk_cell BK156.out 3).trans rfl
                have hcz40_4 : w3.cell? ⟨gb156, 4, none⟩ = some (.int .i64 a0_4) := (blk_cell BK156.out 4).trans rfl
                have hcz40_5 : w3.cell? ⟨gb156, 5, none⟩ = some (.int .i64 a0_5) := (blk_cell BK156.out 5).trans rfl
                have hcz40_6 : w3.cell? ⟨gb156, 6, none⟩ = some (.slice A0_6 l0_6.length c0_6) := (blk_cell BK156.out 6).trans rfl
                have hcz40_7 : w3.cell? ⟨gb156, 7, none⟩ = some (.slice A0_7 l0_7.length c0_7) := (blk_cell BK156.out 7).trans rfl
                have hfz40_0 := blk_frozen BK156.out 0
                have hfz40_1 := blk_frozen BK156.out 1
                have hfz40_2 := blk_frozen BK156.out 2
                have hfz40_3 := blk_frozen BK156.out 3
                have hfz40_4 := blk_frozen BK156.out 4
                have hfz40_5 := blk_frozen BK156.out 5
                have hfz40_6 := blk_frozen BK156.out 6
                have hfz40_7 := blk_frozen BK156.out 7
                go_wp2_with (first | ((with_reducible refine gate_callee (f := 23) rfl ?_); refine goesL_ (some 6) rfl rfl Tryz.func23 (by kernel_rfl) rfl #[.int .i64 a0_0, .int .i64 1, .int .i64 8] rfl (by (try simp only [List.map_toArray, List.map_cons, List.map_nil]); first | done | rfl | (simp only [List.length_drop, List.length_take]; rfl)) ?_; (with_reducible refine (breadlineref04_in.calls a0_0 1 8 true _ A4.out).mono ?_); rintro e w' ⟨rfl, ⟨nd, rfl⟩⟩; refine ⟨_, rfl, ?_⟩) | (go_at_call 23; (with_reducible refine (breadlineref04_in.calls a0_2 1 1048576 true _ A31.out).mono ?_); rintro e w' ⟨rfl, ⟨nd, rfl⟩⟩) | (go_at_call 23; (with_reducible refine (breadlineref04_in.calls a0_3 0 1048576 false _ A33.out).mono ?_); rintro e w' ⟨rfl, ⟨nd, rfl⟩⟩))
                go_meet
                case rel => exact ⟨_, (true), (by first | rfl | (simp; done) | (simp [*]; done)), H', ⟨by first | omega | exact Nat.le_refl _⟩, ⟨by (with_reducible repeat (first | refine blk_drewN ?_ _ | refine blk_drew ?_ | refine blk_alloc ?_ _)); exact BK156.out⟩, ⟨by repeat (first | (with_reducible first | exact HB.out | apply below_alloc | apply pw_below_drewN | apply below_drew1 | refine below_set ?_ GE156.out) | exact HB.out)⟩⟩
            · replace c32 := Bool.eq_false_iff.mpr c32
              subst c32
              have H1 : (breadlineref04_Right.j0 k true a0_0 a0_1 a0_2 a0_3 a0_4 a0_5 l0_6 l0_7) = some r := by rw [if_neg (show ¬ (false = true) by decide)] at H; exact H
              clear H
              have H := H1
              clear H1
              have H' := Aside0.mk H
              clear H
              have hcz41_0 : w3.cell? ⟨gb156, 0, none⟩ = some (.int .i64 a0_0) := (blk_cell BK156.out 0).trans rfl
              have hcz41_1 : w3.cell? ⟨gb156, 1, none⟩ = some (.int .i64 a0_1) := (blk_cell BK156.out 1).trans rfl
              have hcz41_2 : w3.cell? ⟨gb156, 2, none⟩ = some (.int .i64 a0_2) := (blk_cell BK156.out 2).trans rfl
              have hcz41_3 : w3.cell? ⟨gb156, 3, none⟩ = some (.int .i64 a0_3) := (blk_cell BK156.out 3).trans rfl
              have hcz41_4 : w3.cell? ⟨gb156, 4, none⟩ = some (.int .i64 a0_4) := (blk_cell BK156.out 4).trans rfl
              have hcz41_5 : w3.cell? ⟨gb156, 5, none⟩ = some (.int .i64 a0_5) := (blk_cell BK156.out 5).trans rfl
              have hcz41_6 : w3.cell? ⟨gb156, 6, none⟩ = some (.slice A0_6 l0_6.length c0_6) := (blk_cell BK156.out 6).trans rfl
              have hcz41_7 : w3.cell? ⟨gb156, 7, none⟩ = some (.slice A0_7 l0_7.length c0_7) := (blk_cell BK156.out 7).trans rfl
              have hfz41_0 := blk_frozen BK156.out 0
              have hfz41_1 := blk_frozen BK156.out 1
              have hfz41_2 := blk_frozen BK156.out 2
              have hfz41_3 := blk_frozen BK156.out 3
              have hfz41_4 := blk_frozen BK156.out 4
              have hfz41_5 := blk_frozen BK156.out 5
              have hfz41_6 := blk_frozen BK156.out 6
              have hfz41_7 := blk_frozen BK156.out 7
              go_wp2_with (first | ((with_reducible refine gate_callee (f := 23) rfl ?_); refine goesL_ (some 6) rfl rfl Tryz.func23 (by kernel_rfl) rfl #[.int .i64 a0_0, .int .i64 1, .int .i64 8] rfl (by (try simp only [List.map_toArray, List.map_cons, List.map_nil]); first | done | rfl | (simp only [List.length_drop, List.length_take]; rfl)) ?_; (with_reducible refine (breadlineref04_in.calls a0_0 1 8 true _ A4.out).mono ?_); rintro e w' ⟨rfl, ⟨nd, rfl⟩⟩; refine ⟨_, rfl, ?_⟩) | (go_at_call 23; (with_reducible refine (breadlineref04_in.calls a0_2 1 1048576 false _ A31.out).mono ?_); rintro e w' ⟨rfl, ⟨nd, rfl⟩⟩))
              go_meet
              case rel => exact ⟨_, (true), (by first | rfl | (simp; done) | (simp [*]; done)), H', ⟨by first | omega | exact Nat.le_refl _⟩, ⟨by (with_reducible repeat (first | refine blk_drewN ?_ _ | refine blk_drew ?_ | refine blk_alloc ?_ _)); exact BK156.out⟩, ⟨by repeat (first | (with_reducible first | exact HB.out | apply below_alloc | apply pw_below_drewN | apply below_drew1 | refine below_set ?_ GE156.out) | exact HB.out)⟩⟩
          · rw [if_neg c30] at H
            have c30b0 : (a0_1 == 4) = false := beq_eq_false_iff_ne.mpr c30
            have c30b1 : (a0_1 != 4) = true := bne_iff_ne.mpr c30
            by_cases c42 : a0_1 = 8
            · rw [if_pos c42] at H
              have c42b0 : (a0_1 == 8) = true := beq_iff_eq.mpr c42
              have c42b1 : (a0_1 != 8) = false := bne_eq_false_iff_eq.mpr c42
              clear c42
              replace H := Option.bind_eq_some_iff.mp H
              obtain ⟨t170, A430, H⟩ := H
              replace H : (if t170 = true then ((breadlineref04_in.f a0_3 0 1048576).bind fun t171 => (if t171 = true then ((breadlineref04_in.f a0_4 1 8).bind fun t172 => (if t172 = true then ((breadlineref04_in.f a0_5 1 16).bind fun t173 => (breadlineref04_Right.j0 k (!t173) a0_0 a0_1 a0_2 a0_3 a0_4 a0_5 l0_6 l0_7)) else (breadlineref04_Right.j0 k true a0_0 a0_1 a0_2 a0_3 a0_4 a0_5 l0_6 l0_7))) else (breadlineref04_Right.j0 k true a0_0 a0_1 a0_2 a0_3 a0_4 a0_5 l0_6 l0_7))) else (breadlineref04_Right.j0 k true a0_0 a0_1 a0_2 a0_3 a0_4 a0_5 l0_6 l0_7)) = some r := H
              have A43 := Aside0.mk A430
              clear A430
              by_cases c44 : t170 = true
              · subst c44
                have H1 : ((breadlineref04_in.f a0_3 0 1048576).bind fun t171 => (if t171 = true then ((breadlineref04_in.f a0_4 1 8).bind fun t172 => (if t172 = true then ((breadlineref04_in.f a0_5 1 16).bind fun t173 => (breadlineref04_Right.j0 k (!t173) a0_0 a0_1 a0_2 a0_3 a0_4 a0_5 l0_6 l0_7)) else (breadlineref04_Right.j0 k true a0_0 a0_1 a0_2 a0_3 a0_4 a0_5 l0_6 l0_7))) else (breadlineref04_Right.j0 k true a0_0 a0_1 a0_2 a0_3 a0_4 a0_5 l0_6 l0_7))) = some r := by rw [if_pos rfl] at H; exact H
                clear H
                have H := H1
                clear H1
                replace H := Option.bind_eq_some_iff.mp H
                obtain ⟨t171, A450, H⟩ := H
                replace H : (if t171 = true then ((breadlineref04_in.f a0_4 1 8).bind fun t172 => (if t172 = true then ((breadlineref04_in.f a0_5 1 16).bind fun t173 => (breadlineref04_Right.j0 k (!t173) a0_0 a0_1 a0_2 a0_3 a0_4 a0_5 l0_6 l0_7)) else (breadlineref04_Right.j0 k true a0_0 a0_1 a0_2 a0_3 a0_4 a0_5 l0_6 l0_7))) else (breadlineref04_Right.j0 k true a0_0 a0_1 a0_2 a0_3 a0_4 a0_5 l0_6 l0_7)) = some r := H
                have A45 := Aside0.mk A450
                clear A450
                by_cases c46 : t171 = true
                · subst c46
                  have H1 : ((breadlineref04_in.f a0_4 1 8).bind fun t172 => (if t172 = true then ((breadlineref04_in.f a0_5 1 16).bind fun t173 => (breadlineref04_Right.j0 k (!t173) a0_0 a0_1 a0_2 a0_3 a0_4 a0_5 l0_6 l0_7)) else (breadlineref04_Right.j0 k true a0_0 a0_1 a0_2 a0_3 a0_4 a0_5 l0_6 l0_7))) = some r := by rw [if_pos rfl] at H; exact H
                  clear H
                  have H := H1
                  clear H1
                  replace H := Option.bind_eq_some_iff.mp H
                  obtain ⟨t172, A470, H⟩ := H
                  replace H : (if t172 = true then ((breadlineref04_in.f a0_5 1 16).bind fun t173 => (breadlineref04_Right.j0 k (!t173) a0_0 a0_1 a0_2 a0_3 a0_4 a0_5 l0_6 l0_7)) else (breadlineref04_Right.j0 k true a0_0 a0_1 a0_2 a0_3 a0_4 a0_5 l0_6 l0_7)) = some r := H
                  have A47 := Aside0.mk A470
                  clear A470
                  by_cases c48 : t172 = true
                  · subst c48
                    have H1 : ((breadlineref04_in.f a0_5 1 16).bind fun t173 => (breadlineref04_Right.j0 k (!t173) a0_0 a0_1 a0_2 a0_3 a0_4 a0_5 l0_6 l0_7)) = some r := by rw [if_pos rfl] at H; exact H
                    clear H
                    have H := H1
                    clear H1
                    replace H := Option.bind_eq_some_iff.mp H
                    obtain ⟨t173, A490, H⟩ := H
                    replace H : (breadlineref04_Right.j0 k (!t173) a0_0 a0_1 a0_2 a0_3 a0_4 a0_5 l0_6 l0_7) = some r := H
                    have A49 := Aside0.mk A490
                    clear A490
                    have H' := Aside0.mk H
                    clear H
                    have hcz50_0 : w3.cell? ⟨gb156, 0, none⟩ = some (.int .i64 a0_0) := (blk_cell BK156.out 0).trans rfl
                    have hcz50_1 : w3.cell? ⟨gb156, 1, none⟩ = some (.int .i64 a0_1) := (blk_cell BK156.out 1).trans rfl
                    have hcz50_2 : w3.cell? ⟨gb156, 2, none⟩ = some (.int .i64 a0_2) := (blk_cell BK156.out 2).trans rfl
                    have hcz50_3 : w3.cell? ⟨gb156, 3, none⟩ = some (.int .i64 a0_3) := (blk_cell BK156.out 3).trans rfl
                    have hcz50_4 : w3.cell? ⟨gb156, 4, none⟩ = some (.int .i64 a0_4) := (blk_cell BK156.out 4).trans rfl
                    have hcz50_5 : w3.cell? ⟨gb156, 5, none⟩ = some (.int .i64 a0_5) := (blk_cell BK156.out 5).trans rfl
                    have hcz50_6 : w3.cell? ⟨gb156, 6, none⟩ = some (.slice A0_6 l0_6.length c0_6) := (blk_cell BK156.out 6).trans rfl
                    have hcz50_7 : w3.cell? ⟨gb156, 7, none⟩ = some (.slice A0_7 l0_7.length c0_7) := (blk_cell BK156.out 7).trans rfl
                    have hfz50_0 := blk_frozen BK156.out 0
                    have hfz50_1 := blk_frozen BK156.out 1
                    have hfz50_2 := blk_frozen BK156.out 2
                    have hfz50_3 := blk_frozen BK156.out 3
                    have hfz50_4 := blk_frozen BK156.out 4
                    have hfz50_5 := blk_frozen BK156.out 5
                    have hfz50_6 := blk_frozen BK156.out 6
                    have hfz50_7 := blk_frozen BK156.out 7
                    go_wp2_with (first | ((with_reducible refine gate_callee (f := 23) rfl ?_); refine goesL_ (some 6) rfl rfl Tryz.func23 (by kernel_rfl) rfl #[.int .i64 a0_0, .int .i64 1, .int .i64 8] rfl (by (try simp only [List.map_toArray, List.map_cons, List.map_nil]); first | done | rfl | (simp only [List.length_drop, List.length_take]; rfl)) ?_; (with_reducible refine (breadlineref04_in.calls a0_0 1 8 true _ A4.out).mono ?_); rintro e w' ⟨rfl, ⟨nd, rfl⟩⟩; refine ⟨_, rfl, ?_⟩) | (go_at_call 23; (with_reducible refine (breadlineref04_in.calls a0_2 1 1048576 true _ A43.out).mono ?_); rintro e w' ⟨rfl, ⟨nd, rfl⟩⟩) | (go_at_call 23; (with_reducible refine (breadlineref04_in.calls a0_3 0 1048576 true _ A45.out).mono ?_); rintro e w' ⟨rfl, ⟨nd, rfl⟩⟩) | (go_at_call 23; (with_reducible refine (breadlineref04_in.calls a0_4 1 8 true _ A47.out).mono ?_); rintro e w' ⟨rfl, ⟨nd, rfl⟩⟩) | (go_at_call 23; (with_reducible refine (breadlineref04_in.calls a0_5 1 16 t173 _ A49.out).mono ?_); rintro e w' ⟨rfl, ⟨nd, rfl⟩⟩))
                    go_meet
                    case rel => exact ⟨_, (!t173), (by first | rfl | (simp; done) | (simp [*]; done)), H', ⟨by first | omega | exact Nat.le_refl _⟩, ⟨by (with_reducible repeat (first | refine blk_drewN ?_ _ | refine blk_drew ?_ | refine blk_alloc ?_ _)); exact BK156.out⟩, ⟨by repeat (first | (with_reducible first | exact HB.out | apply below_alloc | apply pw_below_drewN | apply below_drew1 | refine below_set ?_ GE156.out) | exact HB.out)⟩⟩
                  · replace c48 := Bool.eq_false_iff.mpr c48
                    subst c48
                    have H1 : (breadlineref04_Right.j0 k true a0_0 a0_1 a0_2 a0_3 a0_4 a0_5 l0_6 l0_7) = some r := by rw [if_neg (show ¬ (false = true) by decide)] at H; exact H
                    clear H
                    have H := H1
                    clear H1
                    have H' := Aside0.mk H
                    clear H
                    have hcz51_0 : w3.cell? ⟨gb156, 0, none⟩ = some (.int .i64 a0_0) := (blk_cell BK156.out 0).trans rfl
                    have hcz51_1 : w3.cell? ⟨gb156, 1, none⟩ = some (.int .i64 a0_1) := (blk_cell BK156.out 1).trans rfl
                    have hcz51_2 : w3.cell? ⟨gb156, 2, none⟩ = some (.int .i64 a0_2) := (blk_cell BK156.out 2).trans rfl
                    have hcz51_3 : w3.cell? ⟨gb156, 3, none⟩ = some (.int .i64 a0_3) := (blk_cell BK156.out 3).trans rfl
                    have hcz51_4 : w3.cell? ⟨gb156, 4, none⟩ = some (.int .i64 a0_4) := (blk_cell BK156.out 4).trans rfl
                    have hcz51_5 : w3.cell? ⟨gb156, 5, none⟩ = some (.int .i64 a0_5) := (blk_cell BK156.out 5).trans rfl
                    have hcz51_6 : w3.cell? ⟨gb156, 6, none⟩ = some (.slice A0_6 l0_6.length c0_6) := (blk_cell BK156.out 6).trans rfl
                    have hcz51_7 : w3.cell? ⟨gb156, 7, none⟩ = some (.slice A0_7 l0_7.length c0_7) := (blk_cell BK156.out 7).trans rfl
                    have hfz51_0 := blk_frozen BK156.out 0
                    have hfz51_1 := blk_frozen BK156.out 1
                    have hfz51_2 := blk_frozen BK156.out 2
                    have hfz51_3 := blk_frozen BK156.out 3
                    have hfz51_4 := blk_frozen BK156.out 4
                    have hfz51_5 := blk_frozen BK156.out 5
                    have hfz51_6 := blk_frozen BK156.out 6
                    have hfz51_7 := blk_frozen BK156.out 7
                    go_wp2_with (first | ((with_reducible refine gate_callee (f := 23) rfl ?_); refine goesL_ (some 6) rfl rfl Tryz.func23 (by kernel_rfl) rfl #[.int .i64 a0_0, .int .i64 1, .int .i64 8] rfl (by (try simp only [List.map_toArray, List.map_cons, List.map_nil]); first | done | rfl | (simp only [List.length_drop, List.length_take]; rfl)) ?_; (with_reducible refine (breadlineref04_in.calls a0_0 1 8 true _ A4.out).mono ?_); rintro e w' ⟨rfl, ⟨nd, rfl⟩⟩; refine ⟨_, rfl, ?_⟩) | (go_at_call 23; (with_reducible refine (breadlineref04_in.calls a0_2 1 1048576 true _ A43.out).mono ?_); rintro e w' ⟨rfl, ⟨nd, rfl⟩⟩) | (go_at_call 23; (with_reducible refine (breadlineref04_in.calls a0_3 0 1048576 true _ A45.out).mono ?_); rintro e w' ⟨rfl, ⟨nd, rfl⟩⟩) | (go_at_call 23; (with_reducible refine (breadlineref04_in.calls a0_4 1 8 false _ A47.out).mono ?_); rintro e w' ⟨rfl, ⟨nd, rfl⟩⟩))
                    go_meet
                    case rel => exact ⟨_, (true), (by first | rfl | (simp; done) | (simp [*]; done)), H', ⟨by first | omega | exact Nat.le_refl _⟩, ⟨by (with_reducible repeat (first | refine blk_drewN ?_ _ | refine blk_drew ?_ | refine blk_alloc ?_ _)); exact BK156.out⟩, ⟨by repeat (first | (with_reducible first | exact HB.out | apply below_alloc | apply pw_below_drewN | apply below_drew1 | refine below_set ?_ GE156.out) | exact HB.out)⟩⟩
                · replace c46 := Bool.eq_false_iff.mpr c46
                  subst c46
                  have H1 : (breadlineref04_Right.j0 k true a0_0 a0_1 a0_2 a0_3 a0_4 a0_5 l0_6 l0_7) = some r := by rw [if_neg (show ¬ (false = true) by decide)] at H; exact H
                  clear H
                  have H := H1
                  clear H1
                  have H' := Aside0.mk H
                  clear H
                  have hcz52_0 : w3.cell? ⟨gb156, 0, none⟩ = some (.int .i64 a0_0) := (blk_cell BK156.out 0).trans rfl
                  have hcz52_1 : w3.cell? ⟨gb156, 1, none⟩ = some (.int .i64 a0_1) := (blk_cell BK156.out 1).trans rfl
                  have hcz52_2 : w3.cell? ⟨gb156, 2, none⟩ = some (.int .i64 a0_2) := (blk_cell BK156.out 2).trans rfl
                  have hcz52_3 : w3.cell? ⟨gb156, 3, none⟩ = some (.int .i64 a0_3) := (blk_cell BK156.out 3).trans rfl
                  have hcz52_4 : w3.cell? ⟨gb156, 4, none⟩ = some (.int .i64 a0_4) := (blk_cell BK156.out 4).trans rfl
                  have hcz52_5 : w3.cell? ⟨gb156, 5, none⟩ = some (.int .i64 a0_5) := (blk_cell BK156.out 5).trans rfl
                  have hcz52_6 : w3.cell? ⟨gb156, 6, none⟩ = some (.slice A0_6 l0_6.length c0_6) := (blk_cell BK156.out 6).trans rfl
                  have hcz52_7 : w3.cell? ⟨gb156, 7, none⟩ = some (.slice A0_7 l0_7.length c0_7) := (blk_cell BK156.out 7).trans rfl
                  have hfz52_0 := blk_frozen BK156.out 0
                  have hfz52_1 := blk_frozen BK156.out 1
                  have hfz52_2 := blk_frozen BK156.out 2
                  have hfz52_3 := blk_frozen BK156.out 3
                  have hfz52_4 := blk_frozen BK156.out 4
                  have hfz52_5 := blk_frozen BK156.out 5
                  have hfz52_6 := blk_frozen BK156.out 6
                  have hfz52_7 := blk_frozen BK156.out 7
                  go_wp2_with (first | ((with_reducible refine gate_callee (f := 23) rfl ?_); refine goesL_ (some 6) rfl rfl Tryz.func23 (by kernel_rfl) rfl #[.int .i64 a0_0, .int .i64 1, .int .i64 8] rfl (by (try simp only [List.map_toArray, List.map_cons, List.map_nil]); first | done | rfl | (simp only [List.length_drop, List.length_take]; rfl)) ?_; (with_reducible refine (breadlineref04_in.calls a0_0 1 8 true _ A4.out).mono ?_); rintro e w' ⟨rfl, ⟨nd, rfl⟩⟩; refine ⟨_, rfl, ?_⟩) | (go_at_call 23; (with_reducible refine (breadlineref04_in.calls a0_2 1 1048576 true _ A43.out).mono ?_); rintro e w' ⟨rfl, ⟨nd, rfl⟩⟩) | (go_at_call 23; (with_reducible refine (breadlineref04_in.calls a0_3 0 1048576 false _ A45.out).mono ?_); rintro e w' ⟨rfl, ⟨nd, rfl⟩⟩))
                  go_meet
                  case rel => exact ⟨_, (true), (by first | rfl | (simp; done) | (simp [*]; done)), H', ⟨by first | omega | exact Nat.le_refl _⟩, ⟨by (with_reducible repeat (first | refine blk_drewN ?_ _ | refine blk_drew ?_ | refine blk_alloc ?_ _)); exact BK156.out⟩, ⟨by repeat (first | (with_reducible first | exact HB.out | apply below_alloc | apply pw_below_drewN | apply below_drew1 | refine below_set ?_ GE156.out) | exact HB.out)⟩⟩
              · replace c44 := Bool.eq_false_iff.mpr c44
                subst c44
                have H1 : (breadlineref04_Right.j0 k true a0_0 a0_1 a0_2 a0_3 a0_4 a0_5 l0_6 l0_7) = some r := by rw [if_neg (show ¬ (false = true) by decide)] at H; exact H
                clear H
                have H := H1
                clear H1
                have H' := Aside0.mk H
                clear H
                have hcz53_0 : w3.cell? ⟨gb156, 0, none⟩ = some (.int .i64 a0_0) := (blk_cell BK156.out 0).trans rfl
                have hcz53_1 : w3.cell? ⟨gb156, 1, none⟩ = some (.int .i64 a0_1) := (blk_cell BK156.out 1).trans rfl
                have hcz53_2 : w3.cell? ⟨gb156, 2, none⟩ = some (.int .i64 a0_2) := (blk_cell BK156.out 2).trans rfl
                have hcz53_3 : w3.cell? ⟨gb156, 3, none⟩ = some (.int .i64 a0_3) := (blk_cell BK156.out 3).trans rfl
                have hcz53_4 : w3.cell? ⟨gb156, 4, none⟩ = some (.int .i64 a0_4) := (blk_cell BK156.out 4).trans rfl
                have hcz53_5 : w3.cell? ⟨gb156, 5, none⟩ = some (.int .i64 a0_5) := (blk_cell BK156.out 5).trans rfl
                have hcz53_6 : w3.cell? ⟨gb156, 6, none⟩ = some (.slice A0_6 l0_6.length c0_6) := (blk_cell BK156.out 6).trans rfl
                have hcz53_7 : w3.cell? ⟨gb156, 7, none⟩ = some (.slice A0_7 l0_7.length c0_7) := (blk_cell BK156.out 7).trans rfl
                have hfz53_0 := blk_frozen BK156.out 0
                have hfz53_1 := blk_frozen BK156.out 1
                have hfz53_2 := blk_frozen BK156.out 2
                have hfz53_3 := blk_frozen BK156.out 3
                have hfz53_4 := blk_frozen BK156.out 4
                have hfz53_5 := blk_frozen BK156.out 5
                have hfz53_6 := blk_frozen BK156.out 6
                have hfz53_7 := blk_frozen BK156.out 7
                go_wp2_with (first | ((with_reducible refine gate_callee (f := 23) rfl ?_); refine goesL_ (some 6) rfl rfl Tryz.func23 (by kernel_rfl) rfl #[.int .i64 a0_0, .int .i64 1, .int .i64 8] rfl (by (try simp only [List.map_toArray, List.map_cons, List.map_nil]); first | done | rfl | (simp only [List.length_drop, List.length_take]; rfl)) ?_; (with_reducible refine (breadlineref04_in.calls a0_0 1 8 true _ A4.out).mono ?_); rintro e w' ⟨rfl, ⟨nd, rfl⟩⟩; refine ⟨_, rfl, ?_⟩) | (go_at_call 23; (with_reducible refine (breadlineref04_in.calls a0_2 1 1048576 false _ A43.out).mono ?_); rintro e w' ⟨rfl, ⟨nd, rfl⟩⟩))
                go_meet
                case rel => exact ⟨_, (true), (by first | rfl | (simp; done) | (simp [*]; done)), H', ⟨by first | omega | exact Nat.le_refl _⟩, ⟨by (with_reducible repeat (first | refine blk_drewN ?_ _ | refine blk_drew ?_ | refine blk_alloc ?_ _)); exact BK156.out⟩, ⟨by repeat (first | (with_reducible first | exact HB.out | apply below_alloc | apply pw_below_drewN | apply below_drew1 | refine below_set ?_ GE156.out) | exact HB.out)⟩⟩
            · rw [if_neg c42] at H
              have c42b0 : (a0_1 == 8) = false := beq_eq_false_iff_ne.mpr c42
              have c42b1 : (a0_1 != 8) = true := bne_iff_ne.mpr c42
              have H' := Aside0.mk H
              clear H
              have hcz54_0 : w3.cell? ⟨gb156, 0, none⟩ = some (.int .i64 a0_0) := (blk_cell BK156.out 0).trans rfl
              have hcz54_1 : w3.cell? ⟨gb156, 1, none⟩ = some (.int .i64 a0_1) := (blk_cell BK156.out 1).trans rfl
              have hcz54_2 : w3.cell? ⟨gb156, 2, none⟩ = some (.int .i64 a0_2) := (blk_cell BK156.out 2).trans rfl
              have hcz54_3 : w3.cell? ⟨gb156, 3, none⟩ = some (.int .i64 a0_3) := (blk_cell BK156.out 3).trans rfl
              have hcz54_4 : w3.cell? ⟨gb156, 4, none⟩ = some (.int .i64 a0_4) := (blk_cell BK156.out 4).trans rfl
              have hcz54_5 : w3.cell? ⟨gb156, 5, none⟩ = some (.int .i64 a0_5) := (blk_cell BK156.out 5).trans rfl
              have hcz54_6 : w3.cell? ⟨gb156, 6, none⟩ = some (.slice A0_6 l0_6.length c0_6) := (blk_cell BK156.out 6).trans rfl
              have hcz54_7 : w3.cell? ⟨gb156, 7, none⟩ = some (.slice A0_7 l0_7.length c0_7) := (blk_cell BK156.out 7).trans rfl
              have hfz54_0 := blk_frozen BK156.out 0
              have hfz54_1 := blk_frozen BK156.out 1
              have hfz54_2 := blk_frozen BK156.out 2
              have hfz54_3 := blk_frozen BK156.out 3
              have hfz54_4 := blk_frozen BK156.out 4
              have hfz54_5 := blk_frozen BK156.out 5
              have hfz54_6 := blk_frozen BK156.out 6
              have hfz54_7 := blk_frozen BK156.out 7
              go_wp2_with (first | ((with_reducible refine gate_callee (f := 23) rfl ?_); refine goesL_ (some 6) rfl rfl Tryz.func23 (by kernel_rfl) rfl #[.int .i64 a0_0, .int .i64 1, .int .i64 8] rfl (by (try simp only [List.map_toArray, List.map_cons, List.map_nil]); first | done | rfl | (simp only [List.length_drop, List.length_take]; rfl)) ?_; (with_reducible refine (breadlineref04_in.calls a0_0 1 8 true _ A4.out).mono ?_); rintro e w' ⟨rfl, ⟨nd, rfl⟩⟩; refine ⟨_, rfl, ?_⟩))
              go_meet
              case rel => exact ⟨_, (true), (by first | rfl | (simp; done) | (simp [*]; done)), H', ⟨by first | omega | exact Nat.le_refl _⟩, ⟨by (with_reducible repeat (first | refine blk_drewN ?_ _ | refine blk_drew ?_ | refine blk_alloc ?_ _)); exact BK156.out⟩, ⟨by repeat (first | (with_reducible first | exact HB.out | apply below_alloc | apply pw_below_drewN | apply below_drew1 | refine below_set ?_ GE156.out) | exact HB.out)⟩⟩
    · replace c5 := Bool.eq_false_iff.mpr c5
      subst c5
      have H1 : (breadlineref04_Right.j0 k true a0_0 a0_1 a0_2 a0_3 a0_4 a0_5 l0_6 l0_7) = some r := by rw [if_neg (show ¬ (false = true) by decide)] at H; exact H
      clear H
      have H := H1
      clear H1
      have H' := Aside0.mk H
      clear H
      have hcz55_0 : w3.cell? ⟨gb156, 0, none⟩ = some (.int .i64 a0_0) := (blk_cell BK156.out 0).trans rfl
      have hcz55_1 : w3.cell? ⟨gb156, 1, none⟩ = some (.int .i64 a0_1) := (blk_cell BK156.out 1).trans rfl
      have hcz55_2 : w3.cell? ⟨gb156, 2, none⟩ = some (.int .i64 a0_2) := (blk_cell BK156.out 2).trans rfl
      have hcz55_3 : w3.cell? ⟨gb156, 3, none⟩ = some (.int .i64 a0_3) := (blk_cell BK156.out 3).trans rfl
      have hcz55_4 : w3.cell? ⟨gb156, 4, none⟩ = some (.int .i64 a0_4) := (blk_cell BK156.out 4).trans rfl
      have hcz55_5 : w3.cell? ⟨gb156, 5, none⟩ = some (.int .i64 a0_5) := (blk_cell BK156.out 5).trans rfl
      have hcz55_6 : w3.cell? ⟨gb156, 6, none⟩ = some (.slice A0_6 l0_6.length c0_6) := (blk_cell BK156.out 6).trans rfl
      have hcz55_7 : w3.cell? ⟨gb156, 7, none⟩ = some (.slice A0_7 l0_7.length c0_7) := (blk_cell BK156.out 7).trans rfl
      have hfz55_0 := blk_frozen BK156.out 0
      have hfz55_1 := blk_frozen BK156.out 1
      have hfz55_2 := blk_frozen BK156.out 2
      have hfz55_3 := blk_frozen BK156.out 3
      have hfz55_4 := blk_frozen BK156.out 4
      have hfz55_5 := blk_frozen BK156.out 5
      have hfz55_6 := blk_frozen BK156.out 6
      have hfz55_7 := blk_frozen BK156.out 7
      go_wp2_with (first | ((with_reducible refine gate_callee (f := 23) rfl ?_); refine goesL_ (some 6) rfl rfl Tryz.func23 (by kernel_rfl) rfl #[.int .i64 a0_0, .int .i64 1, .int .i64 8] rfl (by (try simp only [List.map_toArray, List.map_cons, List.map_nil]); first | done | rfl | (simp only [List.length_drop, List.length_take]; rfl)) ?_; (with_reducible refine (breadlineref04_in.calls a0_0 1 8 false _ A4.out).mono ?_); rintro e w' ⟨rfl, ⟨nd, rfl⟩⟩; refine ⟨_, rfl, ?_⟩))
      go_meet
      case rel => exact ⟨_, (true), (by first | rfl | (simp; done) | (simp [*]; done)), H', ⟨by first | omega | exact Nat.le_refl _⟩, ⟨by (with_reducible repeat (first | refine blk_drewN ?_ _ | refine blk_drew ?_ | refine blk_alloc ?_ _)); exact BK156.out⟩, ⟨by repeat (first | (with_reducible first | exact HB.out | apply below_alloc | apply pw_below_drewN | apply below_drew1 | refine below_set ?_ GE156.out) | exact HB.out)⟩⟩
  case rest =>
    clear HC2
    try clear c1
    try clear c2
    try clear p2
    try clear c3
    try clear c4
    try clear c5
    try clear c6
    try clear c6b0
    try clear c6b1
    try clear c8
    try clear c10
    try clear c12
    try clear c18
    try clear c18b0
    try clear c18b1
    try clear c20
    try clear c22
    try clear c23
    try clear c24
    try clear c30
    try clear c30b0
    try clear c30b1
    try clear c32
    try clear c34
    try clear c36
    try clear c42
    try clear c42b0
    try clear c42b1
    try clear c44
    try clear c46
    try clear c48
    try clear hcz14_0
    try clear hcz14_1
    try clear hcz14_2
    try clear hcz14_3
    try clear hcz14_4
    try clear hcz14_5
    try clear hcz14_6
    try clear hcz14_7
    try clear hcz15_0
    try clear hcz15_1
    try clear hcz15_2
    try clear hcz15_3
    try clear hcz15_4
    try clear hcz15_5
    try clear hcz15_6
    try clear hcz15_7
    try clear hcz16_0
    try clear hcz16_1
    try clear hcz16_2
    try clear hcz16_3
    try clear hcz16_4
    try clear hcz16_5
    try clear hcz16_6
    try clear hcz16_7
    try clear hcz17_0
    try clear hcz17_1
    try clear hcz17_2
    try clear hcz17_3
    try clear hcz17_4
    try clear hcz17_5
    try clear hcz17_6
    try clear hcz17_7
    try clear hcz26_0
    try clear hcz26_1
    try clear hcz26_2
    try clear hcz26_3
    try clear hcz26_4
    try clear hcz26_5
    try clear hcz26_6
    try clear hcz26_7
    try clear hcz27_0
    try clear hcz27_1
    try clear hcz27_2
    try clear hcz27_3
    try clear hcz27_4
    try clear hcz27_5
    try clear hcz27_6
    try clear hcz27_7
    try clear hcz28_0
    try clear hcz28_1
    try clear hcz28_2
    try clear hcz28_3
    try clear hcz28_4
    try clear hcz28_5
    try clear hcz28_6
    try clear hcz28_7
    try clear hcz29_0
    try clear hcz29_1
    try clear hcz29_2
    try clear hcz29_3
    try clear hcz29_4
    try clear hcz29_5
    try clear hcz29_6
    try clear hcz29_7
    try clear hcz38_0
    try clear hcz38_1
    try clear hcz38_2
    try clear hcz38_3
    try clear hcz38_4
    try clear hcz38_5
    try clear hcz38_6
    try clear hcz38_7
    try clear hcz39_0
    try clear hcz39_1
    try clear hcz39_2
    try clear hcz39_3
    try clear hcz39_4
    try clear hcz39_5
    try clear hcz39_6
    try clear hcz39_7
    try clear hcz40_0
    try clear hcz40_1
    try clear hcz40_2
    try clear hcz40_3
    try clear hcz40_4
    try clear hcz40_5
    try clear hcz40_6
    try clear hcz40_7
    try clear hcz41_0
    try clear hcz41_1
    try clear hcz41_2
    try clear hcz41_3
    try clear hcz41_4
    try clear hcz41_5
    try clear hcz41_6
    try clear hcz41_7
    try clear hcz50_0
    try clear hcz50_1
    try clear hcz50_2
    try clear hcz50_3
    try clear hcz50_4
    try clear hcz50_5
    try clear hcz50_6
    try clear hcz50_7
    try clear hcz51_0
    try clear hcz51_1
    try clear hcz51_2
    try clear hcz51_3
    try clear hcz51_4
    try clear hcz51_5
    try clear hcz51_6
    try clear hcz51_7
    try clear hcz52_0
    try clear hcz52_1
    try clear hcz52_2
    try clear hcz52_3
    try clear hcz52_4
    try clear hcz52_5
    try clear hcz52_6
    try clear hcz52_7
    try clear hcz53_0
    try clear hcz53_1
    try clear hcz53_2
    try clear hcz53_3
    try clear hcz53_4
    try clear hcz53_5
    try clear hcz53_6
    try clear hcz53_7
    try clear hcz54_0
    try clear hcz54_1
    try clear hcz54_2
    try clear hcz54_3
    try clear hcz54_4
    try clear hcz54_5
    try clear hcz54_6
    try clear hcz54_7
    try clear hcz55_0
    try clear hcz55_1
    try clear hcz55_2
    try clear hcz55_3
    try clear hcz55_4
    try clear hcz55_5
    try clear hcz55_6
    try clear hcz55_7
    try clear hfz14_0
    try clear hfz14_1
    try clear hfz14_2
    try clear hfz14_3
    try clear hfz14_4
    try clear hfz14_5
    try clear hfz14_6
    try clear hfz14_7
    try clear hfz15_0
    try clear hfz15_1
    try clear hfz15_2
    try clear hfz15_3
    try clear hfz15_4
    try clear hfz15_5
    try clear hfz15_6
    try clear hfz15_7
    try clear hfz16_0
    try clear hfz16_1
    try clear hfz16_2
    try clear hfz16_3
    try clear hfz16_4
    try clear hfz16_5
    try clear hfz16_6
    try clear hfz16_7
    try clear hfz17_0
    try clear hfz17_1
    try clear hfz17_2
    try clear hfz17_3
    try clear hfz17_4
    try clear hfz17_5
    try clear hfz17_6
    try clear hfz17_7
    try clear hfz26_0
    try clear hfz26_1
    try clear hfz26_2
    try clear hfz26_3
    try clear hfz26_4
    try clear hfz26_5
    try clear hfz26_6
    try clear hfz26_7
    try clear hfz27_0
    try clear hfz27_1
    try clear hfz27_2
    try clear hfz27_3
    try clear hfz27_4
    try clear hfz27_5
    try clear hfz27_6
    try clear hfz27_7
    try clear hfz28_0
    try clear hfz28_1
    try clear hfz28_2
    try clear hfz28_3
    try clear hfz28_4
    try clear hfz28_5
    try clear hfz28_6
    try clear hfz28_7
    try clear hfz29_0
    try clear hfz29_1
    try clear hfz29_2
    try clear hfz29_3
    try clear hfz29_4
    try clear hfz29_5
    try clear hfz29_6
    try clear hfz29_7
    try clear hfz38_0
    try clear hfz38_1
    try clear hfz38_2
    try clear hfz38_3
    try clear hfz38_4
    try clear hfz38_5
    try clear hfz38_6
    try clear hfz38_7
    try clear hfz39_0
    try clear hfz39_1
    try clear hfz39_2
    try clear hfz39_3
    try clear hfz39_4
    try clear hfz39_5
    try clear hfz39_6
    try clear hfz39_7
    try clear hfz40_0
    try clear hfz40_1
    try clear hfz40_2
    try clear hfz40_3
    try clear hfz40_4
    try clear hfz40_5
    try clear hfz40_6
    try clear hfz40_7
    try clear hfz41_0
    try clear hfz41_1
    try clear hfz41_2
    try clear hfz41_3
    try clear hfz41_4
    try clear hfz41_5
    try clear hfz41_6
    try clear hfz41_7
    try clear hfz50_0
    try clear hfz50_1
    try clear hfz50_2
    try clear hfz50_3
    try clear hfz50_4
    try clear hfz50_5
    try clear hfz50_6
    try clear hfz50_7
    try clear hfz51_0
    try clear hfz51_1
    try clear hfz51_2
    try clear hfz51_3
    try clear hfz51_4
    try clear hfz51_5
    try clear hfz51_6
    try clear hfz51_7
    try clear hfz52_0
    try clear hfz52_1
    try clear hfz52_2
    try clear hfz52_3
    try clear hfz52_4
    try clear hfz52_5
    try clear hfz52_6
    try clear hfz52_7
    try clear hfz53_0
    try clear hfz53_1
    try clear hfz53_2
    try clear hfz53_3
    try clear hfz53_4
    try clear hfz53_5
    try clear hfz53_6
    try clear hfz53_7
    try clear hfz54_0
    try clear hfz54_1
    try clear hfz54_2
    try clear hfz54_3
    try clear hfz54_4
    try clear hfz54_5
    try clear hfz54_6
    try clear hfz54_7
    try clear hfz55_0
    try clear hfz55_1
    try clear hfz55_2
    try clear hfz55_3
    try clear hfz55_4
    try clear hfz55_5
    try clear hfz55_6
    try clear hfz55_7
    obtain ⟨kq, x51_1, rfl, HA, HJ1, BK156, HB⟩ := hcut
    cases kq with
    | zero => exact absurd HA.out (by simp [breadlineref04_Right.j0])
    | succ kj1 =>
      have H := HA.out
      clear HA
      simp only [breadlineref04_Right.j0] at H
      by_cases c56 : x51_1 = true
      · subst c56
        have H1 : (some false) = some r := by rw [if_pos rfl] at H; exact H
        clear H
        have H := H1
        clear H1
        obtain rfl := Option.some.inj H
        go_wp2
        go_ret
        exact ⟨by first | rfl | (simp [errW_none, errW_some] <;> rfl) | (simp [*, errW_none, errW_some] <;> rfl), by repeat (first | (with_reducible first | exact HB.out | apply below_alloc | apply pw_below_drewN | apply below_drew1 | refine below_set ?_ GE156.out) | exact HB.out)⟩
      · replace c56 := Bool.eq_false_iff.mpr c56
        subst c56
        have H1 : ((breadlineref04_in.f (l0_6.length : Int) 1 12).bind fun t174 => (if t174 = true then (breadlineref04_Right.j1 kj1 ((l0_7.length : Int) != (l0_6.length : Int)) a0_0 a0_1 a0_2 a0_3 a0_4 a0_5 l0_6 l0_7) else (breadlineref04_Right.j1 kj1 true a0_0 a0_1 a0_2 a0_3 a0_4 a0_5 l0_6 l0_7))) = some r := by rw [if_neg (show ¬ (false = true) by decide)] at H; exact H
        clear H
        have H := H1
        clear H1
        have HC57 := Aside0.mk H
        clear H
        go_upto_region 3 with (fail)
        go_cut [65] (fun v65 wc => ∃ (kq : Nat) (x65_56 : Bool), v65 = .bool x65_56 ∧ Aside0 (breadlineref04_Right.j1 kq x65_56 a0_0 a0_1 a0_2 a0_3 a0_4 a0_5 l0_6 l0_7 = some r) ∧ Aside0 (kq ≤ kj1) ∧ Aside0 (wc.heap[gb156]? = some (.cells #[.int .i64 a0_0, .int .i64 a0_1, .int .i64 a0_2, .int .i64 a0_3, .int .i64 a0_4, .int .i64 a0_5, (.slice A0_6 l0_6.length c0_6), (.slice A0_7 l0_7.length c0_7)] 24 (0, 0))) ∧ Aside0 (Below w.heap.size w wc))
        case first =>
          have H := HC57.out
          clear HC57
          replace H := Option.bind_eq_some_iff.mp H
          obtain ⟨t174, A580, H⟩ := H
          replace H : (if t174 = true then (breadlineref04_Right.j1 kj1 ((l0_7.length : Int) != (l0_6.length : Int)) a0_0 a0_1 a0_2 a0_3 a0_4 a0_5 l0_6 l0_7) else (breadlineref04_Right.j1 kj1 true a0_0 a0_1 a0_2 a0_3 a0_4 a0_5 l0_6 l0_7)) = some r := H
          have A58 := Aside0.mk A580
          clear A580
          by_cases c59 : t174 = true
          · subst c59
            have H1 : (breadlineref04_Right.j1 kj1 ((l0_7.length : Int) != (l0_6.length : Int)) a0_0 a0_1 a0_2 a0_3 a0_4 a0_5 l0_6 l0_7) = some r := by rw [if_pos rfl] at H; exact H
            clear H
            have H := H1
            clear H1
            have H' := Aside0.mk H
            clear H
            have hcz60_0 : wc.cell? ⟨gb156, 0, none⟩ = some (.int .i64 a0_0) := (blk_cell BK156.out 0).trans rfl
            have hcz60_1 : wc.cell? ⟨gb156, 1, none⟩ = some (.int .i64 a0_1) := (blk_cell BK156.out 1).trans rfl
            have hcz60_2 : wc.cell? ⟨gb156, 2, none⟩ = some (.int .i64 a0_2) := (blk_cell BK156.out 2).trans rfl
            have hcz60_3 : wc.cell? ⟨gb156, 3, none⟩ = some (.int .i64 a0_3) := (blk_cell BK156.out 3).trans rfl
            have hcz60_4 : wc.cell? ⟨gb156, 4, none⟩ = some (.int .i64 a0_4) := (blk_cell BK156.out 4).trans rfl
            have hcz60_5 : wc.cell? ⟨gb156, 5, none⟩ = some (.int .i64 a0_5) := (blk_cell BK156.out 5).trans rfl
            have hcz60_6 : wc.cell? ⟨gb156, 6, none⟩ = some (.slice A0_6 l0_6.length c0_6) := (blk_cell BK156.out 6).trans rfl
            have hcz60_7 : wc.cell? ⟨gb156, 7, none⟩ = some (.slice A0_7 l0_7.length c0_7) := (blk_cell BK156.out 7).trans rfl
            have hfz60_0 := blk_frozen BK156.out 0
            have hfz60_1 := blk_frozen BK156.out 1
            have hfz60_2 := blk_frozen BK156.out 2
            have hfz60_3 := blk_frozen BK156.out 3
            have hfz60_4 := blk_frozen BK156.out 4
            have hfz60_5 := blk_frozen BK156.out 5
            have hfz60_6 := blk_frozen BK156.out 6
            have hfz60_7 := blk_frozen BK156.out 7
            go_wp2_with (first | ((with_reducible refine gate_callee (f := 23) rfl ?_); refine goesL_ (some 55) rfl rfl Tryz.func23 (by kernel_rfl) rfl #[.int .i64 (l0_6.length : Int), .int .i64 1, .int .i64 12] rfl (by (try simp only [List.map_toArray, List.map_cons, List.map_nil]); first | done | rfl | (simp only [List.length_drop, List.length_take]; rfl)) ?_; (with_reducible refine (breadlineref04_in.calls (l0_6.length : Int) 1 12 true _ A58.out).mono ?_); rintro e w' ⟨rfl, ⟨nd, rfl⟩⟩; refine ⟨_, rfl, ?_⟩))
            go_meet
            case rel => exact ⟨_, (((l0_7.length : Int) != (l0_6.length : Int))), (by first | rfl | (simp; done) | (simp [*]; done)), H', ⟨by have := HJ1.out; first | omega | exact Nat.le_refl _⟩, ⟨by (with_reducible repeat (first | refine blk_drewN ?_ _ | refine blk_drew ?_ | refine blk_alloc ?_ _)); exact BK156.out⟩, ⟨by repeat (first | (with_reducible first | exact HB.out | apply below_alloc | apply pw_below_drewN | apply below_drew1 | refine below_set ?_ GE156.out) | exact HB.out)⟩⟩
          · replace c59 := Bool.eq_false_iff.mpr c59
            subst c59
            have H1 : (breadlineref04_Right.j1 kj1 true a0_0 a0_1 a0_2 a0_3 a0_4 a0_5 l0_6 l0_7) = some r := by rw [if_neg (show ¬ (false = true) by decide)] at H; exact H
            clear H
            have H := H1
            clear H1
            have H' := Aside0.mk H
            clear H
            have hcz61_0 : wc.cell? ⟨gb156, 0, none⟩ = some (.int .i64 a0_0) := (blk_cell BK156.out 0).trans rfl
            have hcz61_1 : wc.cell? ⟨gb156, 1, none⟩ = some (.int .i64 a0_1) := (blk_cell BK156.out 1).trans rfl
            have hcz61_2 : wc.cell? ⟨gb156, 2, none⟩ = some (.int .i64 a0_2) := (blk_cell BK156.out 2).trans rfl
            have hcz61_3 : wc.cell? ⟨gb156, 3, none⟩ = some (.int .i64 a0_3) := (blk_cell BK156.out 3).trans rfl
            have hcz61_4 : wc.cell? ⟨gb156, 4, none⟩ = some (.int .i64 a0_4) := (blk_cell BK156.out 4).trans rfl
            have hcz61_5 : wc.cell? ⟨gb156, 5, none⟩ = some (.int .i64 a0_5) := (blk_cell BK156.out 5).trans rfl
            have hcz61_6 : wc.cell? ⟨gb156, 6, none⟩ = some (.slice A0_6 l0_6.length c0_6) := (blk_cell BK156.out 6).trans rfl
            have hcz61_7 : wc.cell? ⟨gb156, 7, none⟩ = some (.slice A0_7 l0_7.length c0_7) := (blk_cell BK156.out 7).trans rfl
            have hfz61_0 := blk_frozen BK156.out 0
            have hfz61_1 := blk_frozen BK156.out 1
            have hfz61_2 := blk_frozen BK156.out 2
            have hfz61_3 := blk_frozen BK156.out 3
            have hfz61_4 := blk_frozen BK156.out 4
            have hfz61_5 := blk_frozen BK156.out 5
            have hfz61_6 := blk_frozen BK156.out 6
            have hfz61_7 := blk_frozen BK156.out 7
            go_wp2_with (first | ((with_reducible refine gate_callee (f := 23) rfl ?_); refine goesL_ (some 55) rfl rfl Tryz.func23 (by kernel_rfl) rfl #[.int .i64 (l0_6.length : Int), .int .i64 1, .int .i64 12] rfl (by (try simp only [List.map_toArray, List.map_cons, List.map_nil]); first | done | rfl | (simp only [List.length_drop, List.length_take]; rfl)) ?_; (with_reducible refine (breadlineref04_in.calls (l0_6.length : Int) 1 12 false _ A58.out).mono ?_); rintro e w' ⟨rfl, ⟨nd, rfl⟩⟩; refine ⟨_, rfl, ?_⟩))
            go_meet
            case rel => exact ⟨_, (true), (by first | rfl | (simp; done) | (simp [*]; done)), H', ⟨by have := HJ1.out; first | omega | exact Nat.le_refl _⟩, ⟨by (with_reducible repeat (first | refine blk_drewN ?_ _ | refine blk_drew ?_ | refine blk_alloc ?_ _)); exact BK156.out⟩, ⟨by repeat (first | (with_reducible first | exact HB.out | apply below_alloc | apply pw_below_drewN | apply below_drew1 | refine below_set ?_ GE156.out) | exact HB.out)⟩⟩
        case rest =>
          clear HC57
          try clear c1
          try clear c2
          try clear p2
          try clear c3
          try clear c4
          try clear c5
          try clear c6
          try clear c6b0
          try clear c6b1
          try clear c8
          try clear c10
          try clear c12
          try clear c18
          try clear c18b0
          try clear c18b1
          try clear c20
          try clear c22
          try clear c23
          try clear c24
          try clear c30
          try clear c30b0
          try clear c30b1
          try clear c32
          try clear c34
          try clear c36
          try clear c42
          try clear c42b0
          try clear c42b1
          try clear c44
          try clear c46
          try clear c48
          try clear c56
          try clear c59
          try clear hcz14_0
          try clear hcz14_1
          try clear hcz14_2
          try clear hcz14_3
          try clear hcz14_4
          try clear hcz14_5
          try clear hcz14_6
          try clear hcz14_7
          try clear hcz15_0
          try clear hcz15_1
          try clear hcz15_2
          try clear hcz15_3
          try clear hcz15_4
          try clear hcz15_5
          try clear hcz15_6
          try clear hcz15_7
          try clear hcz16_0
          try clear hcz16_1
          try clear hcz16_2
          try clear hcz16_3
          try clear hcz16_4
          try clear hcz16_5
          try clear hcz16_6
          try clear hcz16_7
          try clear hcz17_0
          try clear hcz17_1
          try clear hcz17_2
          try clear hcz17_3
          try clear hcz17_4
          try clear hcz17_5
          try clear hcz17_6
          try clear hcz17_7
          try clear hcz26_0
          try clear hcz26_1
          try clear hcz26_2
          try clear hcz26_3
          try clear hcz26_4
          try clear hcz26_5
          try clear hcz26_6
          try clear hcz26_7
          try clear hcz27_0
          try clear hcz27_1
          try clear hcz27_2
          try clear hcz27_3
          try clear hcz27_4
          try clear hcz27_5
          try clear hcz27_6
          try clear hcz27_7
          try clear hcz28_0
          try clear hcz28_1
          try clear hcz28_2
          try clear hcz28_3
          try clear hcz28_4
          try clear hcz28_5
          try clear hcz28_6
          try clear hcz28_7
          try clear hcz29_0
          try clear hcz29_1
          try clear hcz29_2
          try clear hcz29_3
          try clear hcz29_4
          try clear hcz29_5
          try clear hcz29_6
          try clear hcz29_7
          try clear hcz38_0
          try clear hcz38_1
          try clear hcz38_2
          try clear hcz38_3
          try clear hcz38_4
          try clear hcz38_5
          try clear hcz38_6
          try clear hcz38_7
          try clear hcz39_0
          try clear hcz39_1
          try clear hcz39_2
          try clear hcz39_3
          try clear hcz39_4
          try clear hcz39_5
          try clear hcz39_6
          try clear hcz39_7
          try clear hcz40_0
          try clear hcz40_1
          try clear hcz40_2
          try clear hcz40_3
          try clear hcz40_4
          try clear hcz40_5
          try clear hcz40_6
          try clear hcz40_7
          try clear hcz41_0
          try clear hcz41_1
          try clear hcz41_2
          try clear hcz41_3
          try clear hcz41_4
          try clear hcz41_5
          try clear hcz41_6
          try clear hcz41_7
          try clear hcz50_0
          try clear hcz50_1
          try clear hcz50_2
          try clear hcz50_3
          try clear hcz50_4
          try clear hcz50_5
          try clear hcz50_6
          try clear hcz50_7
          try clear hcz51_0
          try clear hcz51_1
          try clear hcz51_2
          try clear hcz51_3
          try clear hcz51_4
          try clear hcz51_5
          try clear hcz51_6
          try clear hcz51_7
          try clear hcz52_0
          try clear hcz52_1
          try clear hcz52_2
          try clear hcz52_3
          try clear hcz52_4
          try clear hcz52_5
          try clear hcz52_6
          try clear hcz52_7
          try clear hcz53_0
          try clear hcz53_1
          try clear hcz53_2
          try clear hcz53_3
          try clear hcz53_4
          try clear hcz53_5
          try clear hcz53_6
          try clear hcz53_7
          try clear hcz54_0
          try clear hcz54_1
          try clear hcz54_2
          try clear hcz54_3
          try clear hcz54_4
          try clear hcz54_5
          try clear hcz54_6
          try clear hcz54_7
          try clear hcz55_0
          try clear hcz55_1
          try clear hcz55_2
          try clear hcz55_3
          try clear hcz55_4
          try clear hcz55_5
          try clear hcz55_6
          try clear hcz55_7
          try clear hcz60_0
          try clear hcz60_1
          try clear hcz60_2
          try clear hcz60_3
          try clear hcz60_4
          try clear hcz60_5
          try clear hcz60_6
          try clear hcz60_7
          try clear hcz61_0
          try clear hcz61_1
          try clear hcz61_2
          try clear hcz61_3
          try clear hcz61_4
          try clear hcz61_5
          try clear hcz61_6
          try clear hcz61_7
          try clear hfz14_0
          try clear hfz14_1
          try clear hfz14_2
          try clear hfz14_3
          try clear hfz14_4
          try clear hfz14_5
          try clear hfz14_6
          try clear hfz14_7
          try clear hfz15_0
          try clear hfz15_1
          try clear hfz15_2
          try clear hfz15_3
          try clear hfz15_4
          try clear hfz15_5
          try clear hfz15_6
          try clear hfz15_7
          try clear hfz16_0
          try clear hfz16_1
          try clear hfz16_2
          try clear hfz16_3
          try clear hfz16_4
          try clear hfz16_5
          try clear hfz16_6
          try clear hfz16_7
          try clear hfz17_0
          try clear hfz17_1
          try clear hfz17_2
          try clear hfz17_3
          try clear hfz17_4
          try clear hfz17_5
          try clear hfz17_6
          try clear hfz17_7
          try clear hfz26_0
          try clear hfz26_1
          try clear hfz26_2
          try clear hfz26_3
          try clear hfz26_4
          try clear hfz26_5
          try clear hfz26_6
          try clear hfz26_7
          try clear hfz27_0
          try clear hfz27_1
          try clear hfz27_2
          try clear hfz27_3
          try clear hfz27_4
          try clear hfz27_5
          try clear hfz27_6
          try clear hfz27_7
          try clear hfz28_0
          try clear hfz28_1
          try clear hfz28_2
          try clear hfz28_3
          try clear hfz28_4
          try clear hfz28_5
          try clear hfz28_6
          try clear hfz28_7
          try clear hfz29_0
          try clear hfz29_1
          try clear hfz29_2
          try clear hfz29_3
          try clear hfz29_4
          try clear hfz29_5
          try clear hfz29_6
          try clear hfz29_7
          try clear hfz38_0
          try clear hfz38_1
          try clear hfz38_2
          try clear hfz38_3
          try clear hfz38_4
          try clear hfz38_5
          try clear hfz38_6
          try clear hfz38_7
          try clear hfz39_0
          try clear hfz39_1
          try clear hfz39_2
          try clear hfz39_3
          try clear hfz39_4
          try clear hfz39_5
          try clear hfz39_6
          try clear hfz39_7
          try clear hfz40_0
          try clear hfz40_1
          try clear hfz40_2
          try clear hfz40_3
          try clear hfz40_4
          try clear hfz40_5
          try clear hfz40_6
          try clear hfz40_7
          try clear hfz41_0
          try clear hfz41_1
          try clear hfz41_2
          try clear hfz41_3
          try clear hfz41_4
          try clear hfz41_5
          try clear hfz41_6
          try clear hfz41_7
          try clear hfz50_0
          try clear hfz50_1
          try clear hfz50_2
          try clear hfz50_3
          try clear hfz50_4
          try clear hfz50_5
          try clear hfz50_6
          try clear hfz50_7
          try clear hfz51_0
          try clear hfz51_1
          try clear hfz51_2
          try clear hfz51_3
          try clear hfz51_4
          try clear hfz51_5
          try clear hfz51_6
          try clear hfz51_7
          try clear hfz52_0
          try clear hfz52_1
          try clear hfz52_2
          try clear hfz52_3
          try clear hfz52_4
          try clear hfz52_5
          try clear hfz52_6
          try clear hfz52_7
          try clear hfz53_0
          try clear hfz53_1
          try clear hfz53_2
          try clear hfz53_3
          try clear hfz53_4
          try clear hfz53_5
          try clear hfz53_6
          try clear hfz53_7
          try clear hfz54_0
          try clear hfz54_1
          try clear hfz54_2
          try clear hfz54_3
          try clear hfz54_4
          try clear hfz54_5
          try clear hfz54_6
          try clear hfz54_7
          try clear hfz55_0
          try clear hfz55_1
          try clear hfz55_2
          try clear hfz55_3
          try clear hfz55_4
          try clear hfz55_5
          try clear hfz55_6
          try clear hfz55_7
          try clear hfz60_0
          try clear hfz60_1
          try clear hfz60_2
          try clear hfz60_3
          try clear hfz60_4
          try clear hfz60_5
          try clear hfz60_6
          try clear hfz60_7
          try clear hfz61_0
          try clear hfz61_1
          try clear hfz61_2
          try clear hfz61_3
          try clear hfz61_4
          try clear hfz61_5
          try clear hfz61_6
          try clear hfz61_7
          try clear p2
          obtain ⟨kq, x65_56, rfl, HA, HJ56, BK156, HB⟩ := hcut
          cases kq with
          | zero => exact absurd HA.out (by simp [breadlineref04_Right.j1])
          | succ kj56 =>
            have H := HA.out
            clear HA
            simp only [breadlineref04_Right.j1] at H
            by_cases c62 : x65_56 = true
            · subst c62
              have H1 : (some false) = some r := by rw [if_pos rfl] at H; exact H
              clear H
              have H := H1
              clear H1
              obtain rfl := Option.some.inj H
              go_wp2
              go_ret
              exact ⟨by first | rfl | (simp [errW_none, errW_some] <;> rfl) | (simp [*, errW_none, errW_some] <;> rfl), by repeat (first | (with_reducible first | exact HB.out | apply below_alloc | apply pw_below_drewN | apply below_drew1 | refine below_set ?_ GE156.out) | exact HB.out)⟩
            · replace c62 := Bool.eq_false_iff.mpr c62
              subst c62
              have H1 : (breadlineref04_Right.l0 kj56 0 a0_0 a0_1 a0_2 a0_3 a0_4 a0_5 l0_6 l0_7) = some r := by rw [if_neg (show ¬ (false = true) by decide)] at H; exact H
              clear H
              have H := H1
              clear H1
              have H' := Aside0.mk H
              clear H
              go_wp2
              go_loopg [3] kj56 (fun kq v3 w' => ∃ (x3_3 : Int), v3 = .int .i64 x3_3 ∧ Aside0 (breadlineref04_Right.l0 kq x3_3 a0_0 a0_1 a0_2 a0_3 a0_4 a0_5 l0_6 l0_7 = some r) ∧ Aside0 (kq ≤ kj56) ∧ Aside0 (w'.heap[gb156]? = some (.cells #[.int .i64 a0_0, .int .i64 a0_1, .int .i64 a0_2, .int .i64 a0_3, .int .i64 a0_4, .int .i64 a0_5, (.slice A0_6 l0_6.length c0_6), (.slice A0_7 l0_7.length c0_7)] 24 (0, 0))) ∧ Aside0 (Below w.heap.size w w'))
              case atStart => exact ⟨(0), (by first | rfl | (simp; done) | (simp [*]; done)), H', ⟨Nat.le_refl _⟩, ⟨by (with_reducible repeat (first | refine blk_drewN ?_ _ | refine blk_drew ?_ | refine blk_alloc ?_ _)); exact BK156.out⟩, ⟨by repeat (first | (with_reducible first | exact HB.out | apply below_alloc | apply pw_below_drewN | apply below_drew1 | refine below_set ?_ GE156.out) | exact HB.out)⟩⟩
              case round =>
                clear H'
                try clear c1
                try clear c2
                try clear p2
                try clear c3
                try clear c4
                try clear c5
                try clear c6
                try clear c6b0
                try clear c6b1
                try clear c8
                try clear c10
                try clear c12
                try clear c18
                try clear c18b0
                try clear c18b1
                try clear c20
                try clear c22
                try clear c23
                try clear c24
                try clear c30
                try clear c30b0
                try clear c30b1
                try clear c32
                try clear c34
                try clear c36
                try clear c42
                try clear c42b0
                try clear c42b1
                try clear c44
                try clear c46
                try clear c48
                try clear c56
                try clear c59
                try clear c62
                try clear hcz14_0
                try clear hcz14_1
                try clear hcz14_2
                try clear hcz14_3
                try clear hcz14_4
                try clear hcz14_5
                try clear hcz14_6
                try clear hcz14_7
                try clear hcz15_0
                try clear hcz15_1
                try clear hcz15_2
                try clear hcz15_3
                try clear hcz15_4
                try clear hcz15_5
                try clear hcz15_6
                try clear hcz15_7
                try clear hcz16_0
                try clear hcz16_1
                try clear hcz16_2
                try clear hcz16_3
                try clear hcz16_4
                try clear hcz16_5
                try clear hcz16_6
                try clear hcz16_7
                try clear hcz17_0
                try clear hcz17_1
                try clear hcz17_2
                try clear hcz17_3
                try clear hcz17_4
                try clear hcz17_5
                try clear hcz17_6
                try clear hcz17_7
                try clear hcz26_0
                try clear hcz26_1
                try clear hcz26_2
                try clear hcz26_3
                try clear hcz26_4
                try clear hcz26_5
                try clear hcz26_6
                try clear hcz26_7
                try clear hcz27_0
                try clear hcz27_1
                try clear hcz27_2
                try clear hcz27_3
                try clear hcz27_4
                try clear hcz27_5
                try clear hcz27_6
                try clear hcz27_7
                try clear hcz28_0
                try clear hcz28_1
                try clear hcz28_2
                try clear hcz28_3
                try clear hcz28_4
                try clear hcz28_5
                try clear hcz28_6
                try clear hcz28_7
                try clear hcz29_0
                try clear hcz29_1
                try clear hcz29_2
                try clear hcz29_3
                try clear hcz29_4
                try clear hcz29_5
                try clear hcz29_6
                try clear hcz29_7
                try clear hcz38_0
                try clear hcz38_1
                try clear hcz38_2
                try clear hcz38_3
                try clear hcz38_4
                try clear hcz38_5
                try clear hcz38_6
                try clear hcz38_7
                try clear hcz39_0
                try clear hcz39_1
                try clear hcz39_2
                try clear hcz39_3
                try clear hcz39_4
                try clear hcz39_5
                try clear hcz39_6
                try clear hcz39_7
                try clear hcz40_0
                try clear hcz40_1
                try clear hcz40_2
                try clear hcz40_3
                try clear hcz40_4
                try clear hcz40_5
                try clear hcz40_6
                try clear hcz40_7
                try clear hcz41_0
                try clear hcz41_1
                try clear hcz41_2
                try clear hcz41_3
                try clear hcz41_4
                try clear hcz41_5
                try clear hcz41_6
                try clear hcz41_7
                try clear hcz50_0
                try clear hcz50_1
                try clear hcz50_2
                try clear hcz50_3
                try clear hcz50_4
                try clear hcz50_5
                try clear hcz50_6
                try clear hcz50_7
                try clear hcz51_0
                try clear hcz51_1
                try clear hcz51_2
                try clear hcz51_3
                try clear hcz51_4
                try clear hcz51_5
                try clear hcz51_6
                try clear hcz51_7
                try clear hcz52_0
                try clear hcz52_1
                try clear hcz52_2
                try clear hcz52_3
                try clear hcz52_4
                try clear hcz52_5
                try clear hcz52_6
                try clear hcz52_7
                try clear hcz53_0
                try clear hcz53_1
                try clear hcz53_2
                try clear hcz53_3
                try clear hcz53_4
                try clear hcz53_5
                try clear hcz53_6
                try clear hcz53_7
                try clear hcz54_0
                try clear hcz54_1
                try clear hcz54_2
                try clear hcz54_3
                try clear hcz54_4
                try clear hcz54_5
                try clear hcz54_6
                try clear hcz54_7
                try clear hcz55_0
                try clear hcz55_1
                try clear hcz55_2
                try clear hcz55_3
                try clear hcz55_4
                try clear hcz55_5
                try clear hcz55_6
                try clear hcz55_7
                try clear hcz60_0
                try clear hcz60_1
                try clear hcz60_2
                try clear hcz60_3
                try clear hcz60_4
                try clear hcz60_5
                try clear hcz60_6
                try clear hcz60_7
                try clear hcz61_0
                try clear hcz61_1
                try clear hcz61_2
                try clear hcz61_3
                try clear hcz61_4
                try clear hcz61_5
                try clear hcz61_6
                try clear hcz61_7
                try clear hfz14_0
                try clear hfz14_1
                try clear hfz14_2
                try clear hfz14_3
                try clear hfz14_4
                try clear hfz14_5
                try clear hfz14_6
                try clear hfz14_7
                try clear hfz15_0
                try clear hfz15_1
                try clear hfz15_2
                try clear hfz15_3
                try clear hfz15_4
                try clear hfz15_5
                try clear hfz15_6
                try clear hfz15_7
                try clear hfz16_0
                try clear hfz16_1
                try clear hfz16_2
                try clear hfz16_3
                try clear hfz16_4
                try clear hfz16_5
                try clear hfz16_6
                try clear hfz16_7
                try clear hfz17_0
                try clear hfz17_1
                try clear hfz17_2
                try clear hfz17_3
                try clear hfz17_4
                try clear hfz17_5
                try clear hfz17_6
                try clear hfz17_7
                try clear hfz26_0
                try clear hfz26_1
                try clear hfz26_2
                try clear hfz26_3
                try clear hfz26_4
                try clear hfz26_5
                try clear hfz26_6
                try clear hfz26_7
                try clear hfz27_0
                try clear hfz27_1
                try clear hfz27_2
                try clear hfz27_3
                try clear hfz27_4
                try clear hfz27_5
                try clear hfz27_6
                try clear hfz27_7
                try clear hfz28_0
                try clear hfz28_1
                try clear hfz28_2
                try clear hfz28_3
                try clear hfz28_4
                try clear hfz28_5
                try clear hfz28_6
                try clear hfz28_7
                try clear hfz29_0
                try clear hfz29_1
                try clear hfz29_2
                try clear hfz29_3
                try clear hfz29_4
                try clear hfz29_5
                try clear hfz29_6
                try clear hfz29_7
                try clear hfz38_0
                try clear hfz38_1
                try clear hfz38_2
                try clear hfz38_3
                try clear hfz38_4
                try clear hfz38_5
                try clear hfz38_6
                try clear hfz38_7
                try clear hfz39_0
                try clear hfz39_1
                try clear hfz39_2
                try clear hfz39_3
                try clear hfz39_4
                try clear hfz39_5
                try clear hfz39_6
                try clear hfz39_7
                try clear hfz40_0
                try clear hfz40_1
                try clear hfz40_2
                try clear hfz40_3
                try clear hfz40_4
                try clear hfz40_5
                try clear hfz40_6
                try clear hfz40_7
                try clear hfz41_0
                try clear hfz41_1
                try clear hfz41_2
                try clear hfz41_3
                try clear hfz41_4
                try clear hfz41_5
                try clear hfz41_6
                try clear hfz41_7
                try clear hfz50_0
                try clear hfz50_1
                try clear hfz50_2
                try clear hfz50_3
                try clear hfz50_4
                try clear hfz50_5
                try clear hfz50_6
                try clear hfz50_7
                try clear hfz51_0
                try clear hfz51_1
                try clear hfz51_2
                try clear hfz51_3
                try clear hfz51_4
                try clear hfz51_5
                try clear hfz51_6
                try clear hfz51_7
                try clear hfz52_0
                try clear hfz52_1
                try clear hfz52_2
                try clear hfz52_3
                try clear hfz52_4
                try clear hfz52_5
                try clear hfz52_6
                try clear hfz52_7
                try clear hfz53_0
                try clear hfz53_1
                try clear hfz53_2
                try clear hfz53_3
                try clear hfz53_4
                try clear hfz53_5
                try clear hfz53_6
                try clear hfz53_7
                try clear hfz54_0
                try clear hfz54_1
                try clear hfz54_2
                try clear hfz54_3
                try clear hfz54_4
                try clear hfz54_5
                try clear hfz54_6
                try clear hfz54_7
                try clear hfz55_0
                try clear hfz55_1
                try clear hfz55_2
                try clear hfz55_3
                try clear hfz55_4
                try clear hfz55_5
                try clear hfz55_6
                try clear hfz55_7
                try clear hfz60_0
                try clear hfz60_1
                try clear hfz60_2
                try clear hfz60_3
                try clear hfz60_4
                try clear hfz60_5
                try clear hfz60_6
                try clear hfz60_7
                try clear hfz61_0
                try clear hfz61_1
                try clear hfz61_2
                try clear hfz61_3
                try clear hfz61_4
                try clear hfz61_5
                try clear hfz61_6
                try clear hfz61_7
                try clear p2
                obtain ⟨x3_3, rfl, HA, HK3, BK156, HB⟩ := hrel
                cases gk with
                | zero => exact absurd HA.out (by simp [breadlineref04_Right.l0])
                | succ k3 =>
                  have H := HA.out
                  clear HA
                  simp only [breadlineref04_Right.l0] at H
                  by_cases c63 : x3_3 < (l0_6.length : Int)
                  · rw [if_pos c63] at H
                    have c63b0 : decide (x3_3 < (l0_6.length : Int)) = true := decide_eq_true c63
                    clear c63
                    by_cases c64 : 0 ≤ x3_3
                    · rw [if_pos c64] at H
                      have c64b0 : decide (0 ≤ x3_3) = true := decide_eq_true c64
                      clear c64
                      by_cases c65 : x3_3 < (l0_7.length : Int)
                      · rw [if_pos c65] at H
                        have c65b0 : decide (x3_3 < (l0_7.length : Int)) = true := decide_eq_true c65
                        clear c65
                        replace H := Option.bind_eq_some_iff.mp H
                        obtain ⟨t176, A660, H⟩ := H
                        replace H : (if t176 = true then (if x3_3 = 0 then (if (rd l0_6 x3_3) = (-1) then (if x3_3 > 0 then ((breadlineref04_in.f (rd l0_6 x3_3) 0 (wrap64 (x3_3 - 1))).bind fun t179 => (if t179 = true then (breadlineref04_Right.l0 k3 (wrap64 (x3_3 + 1)) a0_0 a0_1 a0_2 a0_3 a0_4 a0_5 l0_6 l0_7) else (some false))) else (breadlineref04_Right.l0 k3 (wrap64 (x3_3 + 1)) a0_0 a0_1 a0_2 a0_3 a0_4 a0_5 l0_6 l0_7)) else (some false)) else (if x3_3 > 0 then ((breadlineref04_in.f (rd l0_6 x3_3) 0 (wrap64 (x3_3 - 1))).bind fun t181 => (if t181 = true then (breadlineref04_Right.l0 k3 (wrap64 (x3_3 + 1)) a0_0 a0_1 a0_2 a0_3 a0_4 a0_5 l0_6 l0_7) else (some false))) else (breadlineref04_Right.l0 k3 (wrap64 (x3_3 + 1)) a0_0 a0_1 a0_2 a0_3 a0_4 a0_5 l0_6 l0_7))) else (some false)) = some r := H
                        have A66 := Aside0.mk A660
                        clear A660
                        by_cases c67 : t176 = true
                        · subst c67
                          have H1 : (if x3_3 = 0 then (if (rd l0_6 x3_3) = (-1) then (if x3_3 > 0 then ((breadlineref04_in.f (rd l0_6 x3_3) 0 (wrap64 (x3_3 - 1))).bind fun t179 => (if t179 = true then (breadlineref04_Right.l0 k3 (wrap64 (x3_3 + 1)) a0_0 a0_1 a0_2 a0_3 a0_4 a0_5 l0_6 l0_7) else (some false))) else (breadlineref04_Right.l0 k3 (wrap64 (x3_3 + 1)) a0_0 a0_1 a0_2 a0_3 a0_4 a0_5 l0_6 l0_7)) else (some false)) else (if x3_3 > 0 then ((breadlineref04_in.f (rd l0_6 x3_3) 0 (wrap64 (x3_3 - 1))).bind fun t181 => (if t181 = true then (breadlineref04_Right.l0 k3 (wrap64 (x3_3 + 1)) a0_0 a0_1 a0_2 a0_3 a0_4 a0_5 l0_6 l0_7) else (some false))) else (breadlineref04_Right.l0 k3 (wrap64 (x3_3 + 1)) a0_0 a0_1 a0_2 a0_3 a0_4 a0_5 l0_6 l0_7))) = some r := by rw [if_pos rfl] at H; exact H
                          clear H
                          have H := H1
                          clear H1
                          by_cases c68 : x3_3 = 0
                          · rw [if_pos c68] at H
                            have c68b0 : (x3_3 == 0) = true := beq_iff_eq.mpr c68
                            have c68b1 : (x3_3 != 0) = false := bne_eq_false_iff_eq.mpr c68
                            clear c68
                            by_cases c69 : (rd l0_6 x3_3) = (-1)
                            · rw [if_pos c69] at H
                              have c69b0 : ((rd l0_6 x3_3) == (-1)) = true := beq_iff_eq.mpr c69
                              have c69b1 : ((rd l0_6 x3_3) != (-1)) = false := bne_eq_false_iff_eq.mpr c69
                              clear c69
                              by_cases c70 : x3_3 > 0
                              · rw [if_pos c70] at H
                                have c70b0 : decide (0 < x3_3) = true := decide_eq_true c70
                                clear c70
                                replace H := Option.bind_eq_some_iff.mp H
                                obtain ⟨t179, A710, H⟩ := H
                                replace H : (if t179 = true then (breadlineref04_Right.l0 k3 (wrap64 (x3_3 + 1)) a0_0 a0_1 a0_2 a0_3 a0_4 a0_5 l0_6 l0_7) else (some false)) = some r := H
                                have A71 := Aside0.mk A710
                                clear A710
                                by_cases c72 : t179 = true
                                · subst c72
                                  have H1 : (breadlineref04_Right.l0 k3 (wrap64 (x3_3 + 1)) a0_0 a0_1 a0_2 a0_3 a0_4 a0_5 l0_6 l0_7) = some r := by rw [if_pos rfl] at H; exact H
                                  clear H
                                  have H := H1
                                  clear H1
                                  have H' := Aside0.mk H
                                  clear H
                                  have hcz73_0 : wr.cell? ⟨gb156, 0, none⟩ = some (.int .i64 a0_0) := (blk_cell BK156.out 0).trans rfl
                                  have hcz73_1 : wr.cell? ⟨gb156, 1, none⟩ = some (.int .i64 a0_1) := (blk_cell BK156.out 1).trans rfl
                                  have hcz73_2 : wr.cell? ⟨gb156, 2, none⟩ = some (.int .i64 a0_2) := (blk_cell BK156.out 2).trans rfl
                                  have hcz73_3 : wr.cell? ⟨gb156, 3, none⟩ = some (.int .i64 a0_3) := (blk_cell BK156.out 3).trans rfl
                                  have hcz73_4 : wr.cell? ⟨gb156, 4, none⟩ = some (.int .i64 a0_4) := (blk_cell BK156.out 4).trans rfl
                                  have hcz73_5 : wr.cell? ⟨gb156, 5, none⟩ = some (.int .i64 a0_5) := (blk_cell BK156.out 5).trans rfl
                                  have hcz73_6 : wr.cell? ⟨gb156, 6, none⟩ = some (.slice A0_6 l0_6.length c0_6) := (blk_cell BK156.out 6).trans rfl
                                  have hcz73_7 : wr.cell? ⟨gb156, 7, none⟩ = some (.slice A0_7 l0_7.length c0_7) := (blk_cell BK156.out 7).trans rfl
                                  have hfz73_0 := blk_frozen BK156.out 0
                                  have hfz73_1 := blk_frozen BK156.out 1
                                  have hfz73_2 := blk_frozen BK156.out 2
                                  have hfz73_3 := blk_frozen BK156.out 3
                                  have hfz73_4 := blk_frozen BK156.out 4
                                  have hfz73_5 := blk_frozen BK156.out 5
                                  have hfz73_6 := blk_frozen BK156.out 6
                                  have hfz73_7 := blk_frozen BK156.out 7
                                  have p175 : 0 ≤ (x3_3 : Int) := of_decide_eq_true (by first | (with_reducible assumption) | assumption)
                                  have q175 : x3_3 < (l0_7.length : Int) := of_decide_eq_true (by first | (with_reducible assumption) | assumption)
                                  obtain ⟨ad175, e175, hx175_0⟩ := Kd.at_int HR0_7.out x3_3 p175 q175
                                  cases e175
                                  replace hx175_0 := (HB.out.cell (World.block_lt_of_cell? w _ hx175_0)).trans hx175_0
                                  replace p175 := eq_true p175
                                  replace q175 := eq_true q175
                                  go_wp2_with (first | ((with_reducible refine gate_callee (f := 23) rfl ?_); refine goesL_ (some 78) rfl rfl Tryz.func23 (by kernel_rfl) rfl #[.int .i64 (rd l0_7 x3_3), .int .i64 0, .int .i64 1099511627776] rfl (by (try simp only [List.map_toArray, List.map_cons, List.map_nil]); first | done | rfl | (simp only [List.length_drop, List.length_take]; rfl)) ?_; (with_reducible refine (breadlineref04_in.calls (rd l0_7 x3_3) 0 1099511627776 true _ A66.out).mono ?_); rintro e w' ⟨rfl, ⟨nd, rfl⟩⟩; refine ⟨_, rfl, ?_⟩; have p177 : 0 ≤ (x3_3 : Int) := of_decide_eq_true (by first | (with_reducible assumption) | assumption); have q177 : x3_3 < (l0_6.length : Int) := of_decide_eq_true (by first | (with_reducible assumption) | assumption); obtain ⟨ad177, e177, hx177_0⟩ := Kd.at_int HR0_6.out x3_3 p177 q177; cases e177; replace hx177_0 := (HB.out.cell (World.block_lt_of_cell? w _ hx177_0)).trans hx177_0; replace p177 := eq_true p177; replace q177 := eq_true q177; have p178 : 0 ≤ (x3_3 : Int) := of_decide_eq_true (by first | (with_reducible assumption) | assumption); have q178 : x3_3 < (l0_6.length : Int) := of_decide_eq_true (by first | (with_reducible assumption) | assumption); obtain ⟨ad178, e178, hx178_0⟩ := Kd.at_int HR0_6.out x3_3 p178 q178; obtain rfl : ad177 = ad178 := (by injection e178); replace hx178_0 := (HB.out.cell (World.block_lt_of_cell? w _ hx178_0)).trans hx178_0; replace p178 := eq_true p178; replace q178 := eq_true q178) | (go_at_call 23; (with_reducible refine (breadlineref04_in.calls (rd l0_6 x3_3) 0 (wrap64 (x3_3 - 1)) true _ A71.out).mono ?_); rintro e w' ⟨rfl, ⟨nd, rfl⟩⟩))
                                  go_roundg k3
                                  case measure => have := HJ1.out; have := HJ56.out; have := HK3.out; omega
                                  case rel => exact ⟨(wrap64 (x3_3 + 1)), (by first | rfl | (simp; done) | (simp [*]; done)), H', ⟨by have := HJ1.out; have := HJ56.out; have := HK3.out; omega⟩, ⟨by (with_reducible repeat (first | refine blk_drewN ?_ _ | refine blk_drew ?_ | refine blk_alloc ?_ _)); exact BK156.out⟩, ⟨by repeat (first | (with_reducible first | exact HB.out | apply below_alloc | apply pw_below_drewN | apply below_drew1 | refine below_set ?_ GE156.out) | exact HB.out)⟩⟩
                                · replace c72 := Bool.eq_false_iff.mpr c72
                                  subst c72
                                  have H1 : (some false) = some r := by rw [if_neg (show ¬ (false = true) by decide)] at H; exact H
                                  clear H
                                  have H := H1
                                  clear H1
                                  obtain rfl := Option.some.inj H
                                  have hcz74_0 : wr.cell? ⟨gb156, 0, none⟩ = some (.int .i64 a0_0) := (blk_cell BK156.out 0).trans rfl
                                  have hcz74_1 : wr.cell? ⟨gb156, 1, none⟩ = some (.int .i64 a0_1) := (blk_cell BK156.out 1).trans rfl
                                  have hcz74_2 : wr.cell? ⟨gb156, 2, none⟩ = some (.int .i64 a0_2) := (blk_cell BK156.out 2).trans rfl
                                  have hcz74_3 : wr.cell? ⟨gb156, 3, none⟩ = some (.int .i64 a0_3) := (blk_cell BK156.out 3).trans rfl
                                  have hcz74_4 : wr.cell? ⟨gb156, 4, none⟩ = some (.int .i64 a0_4) := (blk_cell BK156.out 4).trans rfl
                                  have hcz74_5 : wr.cell? ⟨gb156, 5, none⟩ = some (.int .i64 a0_5) := (blk_cell BK156.out 5).trans rfl
                                  have hcz74_6 : wr.cell? ⟨gb156, 6, none⟩ = some (.slice A0_6 l0_6.length c0_6) := (blk_cell BK156.out 6).trans rfl
                                  have hcz74_7 : wr.cell? ⟨gb156, 7, none⟩ = some (.slice A0_7 l0_7.length c0_7) := (blk_cell BK156.out 7).trans rfl
                                  have hfz74_0 := blk_frozen BK156.out 0
                                  have hfz74_1 := blk_frozen BK156.out 1
                                  have hfz74_2 := blk_frozen BK156.out 2
                                  have hfz74_3 := blk_frozen BK156.out 3
                                  have hfz74_4 := blk_frozen BK156.out 4
                                  have hfz74_5 := blk_frozen BK156.out 5
                                  have hfz74_6 := blk_frozen BK156.out 6
                                  have hfz74_7 := blk_frozen BK156.out 7
                                  have p175 : 0 ≤ (x3_3 : Int) := of_decide_eq_true (by first | (with_reducible assumption) | assumption)
                                  have q175 : x3_3 < (l0_7.length : Int) := of_decide_eq_true (by first | (with_reducible assumption) | assumption)
                                  obtain ⟨ad175, e175, hx175_0⟩ := Kd.at_int HR0_7.out x3_3 p175 q175
                                  cases e175
                                  replace hx175_0 := (HB.out.cell (World.block_lt_of_cell? w _ hx175_0)).trans hx175_0
                                  replace p175 := eq_true p175
                                  replace q175 := eq_true q175
                                  go_wp2_with (first | ((with_reducible refine gate_callee (f := 23) rfl ?_); refine goesL_ (some 78) rfl rfl Tryz.func23 (by kernel_rfl) rfl #[.int .i64 (rd l0_7 x3_3), .int .i64 0, .int .i64 1099511627776] rfl (by (try simp only [List.map_toArray, List.map_cons, List.map_nil]); first | done | rfl | (simp only [List.length_drop, List.length_take]; rfl)) ?_; (with_reducible refine (breadlineref04_in.calls (rd l0_7 x3_3) 0 1099511627776 true _ A66.out).mono ?_); rintro e w' ⟨rfl, ⟨nd, rfl⟩⟩; refine ⟨_, rfl, ?_⟩; have p177 : 0 ≤ (x3_3 : Int) := of_decide_eq_true (by first | (with_reducible assumption) | assumption); have q177 : x3_3 < (l0_6.length : Int) := of_decide_eq_true (by first | (with_reducible assumption) | assumption); obtain ⟨ad177, e177, hx177_0⟩ := Kd.at_int HR0_6.out x3_3 p177 q177; cases e177; replace hx177_0 := (HB.out.cell (World.block_lt_of_cell? w _ hx177_0)).trans hx177_0; replace p177 := eq_true p177; replace q177 := eq_true q177; have p178 : 0 ≤ (x3_3 : Int) := of_decide_eq_true (by first | (with_reducible assumption) | assumption); have q178 : x3_3 < (l0_6.length : Int) := of_decide_eq_true (by first | (with_reducible assumption) | assumption); obtain ⟨ad178, e178, hx178_0⟩ := Kd.at_int HR0_6.out x3_3 p178 q178; obtain rfl : ad177 = ad178 := (by injection e178); replace hx178_0 := (HB.out.cell (World.block_lt_of_cell? w _ hx178_0)).trans hx178_0; replace p178 := eq_true p178; replace q178 := eq_true q178) | (go_at_call 23; (with_reducible refine (breadlineref04_in.calls (rd l0_6 x3_3) 0 (wrap64 (x3_3 - 1)) false _ A71.out).mono ?_); rintro e w' ⟨rfl, ⟨nd, rfl⟩⟩))
                                  go_ret
                                  exact ⟨by first | rfl | (simp [errW_none, errW_some] <;> rfl) | (simp [*, errW_none, errW_some] <;> rfl), by repeat (first | (with_reducible first | exact HB.out | apply below_alloc | apply pw_below_drewN | apply below_drew1 | refine below_set ?_ GE156.out) | exact HB.out)⟩
                              · rw [if_neg c70] at H
                                have c70b0 : decide (0 < x3_3) = false := decide_eq_false c70
                                clear c70
                                have H' := Aside0.mk H
                                clear H
                                have hcz75_0 : wr.cell? ⟨gb156, 0, none⟩ = some (.int .i64 a0_0) := (blk_cell BK156.out 0).trans rfl
                                have hcz75_1 : wr.cell? ⟨gb156, 1, none⟩ = some (.int .i64 a0_1) := (blk_cell BK156.out 1).trans rfl
                                have hcz75_2 : wr.cell? ⟨gb156, 2, none⟩ = some (.int .i64 a0_2) := (blk_cell BK156.out 2).trans rfl
                                have hcz75_3 : wr.cell? ⟨gb156, 3, none⟩ = some (.int .i64 a0_3) := (blk_cell BK156.out 3).trans rfl
                                have hcz75_4 : wr.cell? ⟨gb156, 4, none⟩ = some (.int .i64 a0_4) := (blk_cell BK156.out 4).trans rfl
                                have hcz75_5 : wr.cell? ⟨gb156, 5, none⟩ = some (.int .i64 a0_5) := (blk_cell BK156.out 5).trans rfl
                                have hcz75_6 : wr.cell? ⟨gb156, 6, none⟩ = some (.slice A0_6 l0_6.length c0_6) := (blk_cell BK156.out 6).trans rfl
                                have hcz75_7 : wr.cell? ⟨gb156, 7, none⟩ = some (.slice A0_7 l0_7.length c0_7) := (blk_cell BK156.out 7).trans rfl
                                have hfz75_0 := blk_frozen BK156.out 0
                                have hfz75_1 := blk_frozen BK156.out 1
                                have hfz75_2 := blk_frozen BK156.out 2
                                have hfz75_3 := blk_frozen BK156.out 3
                                have hfz75_4 := blk_frozen BK156.out 4
                                have hfz75_5 := blk_frozen BK156.out 5
                                have hfz75_6 := blk_frozen BK156.out 6
                                have hfz75_7 := blk_frozen BK156.out 7
                                have p175 : 0 ≤ (x3_3 : Int) := of_decide_eq_true (by first | (with_reducible assumption) | assumption)
                                have q175 : x3_3 < (l0_7.length : Int) := of_decide_eq_true (by first | (with_reducible assumption) | assumption)
                                obtain ⟨ad175, e175, hx175_0⟩ := Kd.at_int HR0_7.out x3_3 p175 q175
                                cases e175
                                replace hx175_0 := (HB.out.cell (World.block_lt_of_cell? w _ hx175_0)).trans hx175_0
                                replace p175 := eq_true p175
                                replace q175 := eq_true q175
                                go_wp2_with (first | ((with_reducible refine gate_callee (f := 23) rfl ?_); refine goesL_ (some 78) rfl rfl Tryz.func23 (by kernel_rfl) rfl #[.int .i64 (rd l0_7 x3_3), .int .i64 0, .int .i64 1099511627776] rfl (by (try simp only [List.map_toArray, List.map_cons, List.map_nil]); first | done | rfl | (simp only [List.length_drop, List.length_take]; rfl)) ?_; (with_reducible refine (breadlineref04_in.calls (rd l0_7 x3_3) 0 1099511627776 true _ A66.out).mono ?_); rintro e w' ⟨rfl, ⟨nd, rfl⟩⟩; refine ⟨_, rfl, ?_⟩; have p177 : 0 ≤ (x3_3 : Int) := of_decide_eq_true (by first | (with_reducible assumption) | assumption); have q177 : x3_3 < (l0_6.length : Int) := of_decide_eq_true (by first | (with_reducible assumption) | assumption); obtain ⟨ad177, e177, hx177_0⟩ := Kd.at_int HR0_6.out x3_3 p177 q177; cases e177; replace hx177_0 := (HB.out.cell (World.block_lt_of_cell? w _ hx177_0)).trans hx177_0; replace p177 := eq_true p177; replace q177 := eq_true q177))
                                go_roundg k3
                                case measure => have := HJ1.out; have := HJ56.out; have := HK3.out; omega
                                case rel => exact ⟨(wrap64 (x3_3 + 1)), (by first | rfl | (simp; done) | (simp [*]; done)), H', ⟨by have := HJ1.out; have := HJ56.out; have := HK3.out; omega⟩, ⟨by (with_reducible repeat (first | refine blk_drewN ?_ _ | refine blk_drew ?_ | refine blk_alloc ?_ _)); exact BK156.out⟩, ⟨by repeat (first | (with_reducible first | exact HB.out | apply below_alloc | apply pw_below_drewN | apply below_drew1 | refine below_set ?_ GE156.out) | exact HB.out)⟩⟩
                            · rw [if_neg c69] at H
                              have c69b0 : ((rd l0_6 x3_3) == (-1)) = false := beq_eq_false_iff_ne.mpr c69
                              have c69b1 : ((rd l0_6 x3_3) != (-1)) = true := bne_iff_ne.mpr c69
                              obtain rfl := Option.some.inj H
                              have hcz76_0 : wr.cell? ⟨gb156, 0, none⟩ = some (.int .i64 a0_0) := (blk_cell BK156.out 0).trans rfl
                              have hcz76_1 : wr.cell? ⟨gb156, 1, none⟩ = some (.int .i64 a0_1) := (blk_cell BK156.out 1).trans rfl
                              have hcz76_2 : wr.cell? ⟨gb156, 2, none⟩ = some (.int .i64 a0_2) := (blk_cell BK156.out 2).trans rfl
                              have hcz76_3 : wr.cell? ⟨gb156, 3, none⟩ = some (.int .i64 a0_3) := (blk_cell BK156.out 3).trans rfl
                              have hcz76_4 : wr.cell? ⟨gb156, 4, none⟩ = some (.int .i64 a0_4) := (blk_cell BK156.out 4).trans rfl
                              have hcz76_5 : wr.cell? ⟨gb156, 5, none⟩ = some (.int .i64 a0_5) := (blk_cell BK156.out 5).trans rfl
                              have hcz76_6 : wr.cell? ⟨gb156, 6, none⟩ = some (.slice A0_6 l0_6.length c0_6) := (blk_cell BK156.out 6).trans rfl
                              have hcz76_7 : wr.cell? ⟨gb156, 7, none⟩ = some (.slice A0_7 l0_7.length c0_7) := (blk_cell BK156.out 7).trans rfl
                              have hfz76_0 := blk_frozen BK156.out 0
                              have hfz76_1 := blk_frozen BK156.out 1
                              have hfz76_2 := blk_frozen BK156.out 2
                              have hfz76_3 := blk_frozen BK156.out 3
                              have hfz76_4 := blk_frozen BK156.out 4
                              have hfz76_5 := blk_frozen BK156.out 5
                              have hfz76_6 := blk_frozen BK156.out 6
                              have hfz76_7 := blk_frozen BK156.out 7
                              have p175 : 0 ≤ (x3_3 : Int) := of_decide_eq_true (by first | (with_reducible assumption) | assumption)
                              have q175 : x3_3 < (l0_7.length : Int) := of_decide_eq_true (by first | (with_reducible assumption) | assumption)
                              obtain ⟨ad175, e175, hx175_0⟩ := Kd.at_int HR0_7.out x3_3 p175 q175
                              cases e175
                              replace hx175_0 := (HB.out.cell (World.block_lt_of_cell? w _ hx175_0)).trans hx175_0
                              replace p175 := eq_true p175
                              replace q175 := eq_true q175
                              go_wp2_with (first | ((with_reducible refine gate_callee (f := 23) rfl ?_); refine goesL_ (some 78) rfl rfl Tryz.func23 (by kernel_rfl) rfl #[.int .i64 (rd l0_7 x3_3), .int .i64 0, .int .i64 1099511627776] rfl (by (try simp only [List.map_toArray, List.map_cons, List.map_nil]); first | done | rfl | (simp only [List.length_drop, List.length_take]; rfl)) ?_; (with_reducible refine (breadlineref04_in.calls (rd l0_7 x3_3) 0 1099511627776 true _ A66.out).mono ?_); rintro e w' ⟨rfl, ⟨nd, rfl⟩⟩; refine ⟨_, rfl, ?_⟩; have p177 : 0 ≤ (x3_3 : Int) := of_decide_eq_true (by first | (with_reducible assumption) | assumption); have q177 : x3_3 < (l0_6.length : Int) := of_decide_eq_true (by first | (with_reducible assumption) | assumption); obtain ⟨ad177, e177, hx177_0⟩ := Kd.at_int HR0_6.out x3_3 p177 q177; cases e177; replace hx177_0 := (HB.out.cell (World.block_lt_of_cell? w _ hx177_0)).trans hx177_0; replace p177 := eq_true p177; replace q177 := eq_true q177))
                              go_ret
                              exact ⟨by first | rfl | (simp [errW_none, errW_some] <;> rfl) | (simp [*, errW_none, errW_some] <;> rfl), by repeat (first | (with_reducible first | exact HB.out | apply below_alloc | apply pw_below_drewN | apply below_drew1 | refine below_set ?_ GE156.out) | exact HB.out)⟩
                          · rw [if_neg c68] at H
                            have c68b0 : (x3_3 == 0) = false := beq_eq_false_iff_ne.mpr c68
                            have c68b1 : (x3_3 != 0) = true := bne_iff_ne.mpr c68
                            by_cases c77 : x3_3 > 0
                            · rw [if_pos c77] at H
                              have c77b0 : decide (0 < x3_3) = true := decide_eq_true c77
                              clear c77
                              replace H := Option.bind_eq_some_iff.mp H
                              obtain ⟨t181, A780, H⟩ := H
                              replace H : (if t181 = true then (breadlineref04_Right.l0 k3 (wrap64 (x3_3 + 1)) a0_0 a0_1 a0_2 a0_3 a0_4 a0_5 l0_6 l0_7) else (some false)) = some r := H
                              have A78 := Aside0.mk A780
                              clear A780
                              by_cases c79 : t181 = true
                              · subst c79
                                have H1 : (breadlineref04_Right.l0 k3 (wrap64 (x3_3 + 1)) a0_0 a0_1 a0_2 a0_3 a0_4 a0_5 l0_6 l0_7) = some r := by rw [if_pos rfl] at H; exact H
                                clear H
                                have H := H1
                                clear H1
                                have H' := Aside0.mk H
                                clear H
                                have hcz80_0 : wr.cell? ⟨gb156, 0, none⟩ = some (.int .i64 a0_0) := (blk_cell BK156.out 0).trans rfl
                                have hcz80_1 : wr.cell? ⟨gb156, 1, none⟩ = some (.int .i64 a0_1) := (blk_cell BK156.out 1).trans rfl
                                have hcz80_2 : wr.cell? ⟨gb156, 2, none⟩ = some (.int .i64 a0_2) := (blk_cell BK156.out 2).trans rfl
                                have hcz80_3 : wr.cell? ⟨gb156, 3, none⟩ = some (.int .i64 a0_3) := (blk_cell BK156.out 3).trans rfl
                                have hcz80_4 : wr.cell? ⟨gb156, 4, none⟩ = some (.int .i64 a0_4) := (blk_cell BK156.out 4).trans rfl
                                have hcz80_5 : wr.cell? ⟨gb156, 5, none⟩ = some (.int .i64 a0_5) := (blk_cell BK156.out 5).trans rfl
                                have hcz80_6 : wr.cell? ⟨gb156, 6, none⟩ = some (.slice A0_6 l0_6.length c0_6) := (blk_cell BK156.out 6).trans rfl
                                have hcz80_7 : wr.cell? ⟨gb156, 7, none⟩ = some (.slice A0_7 l0_7.length c0_7) := (blk_cell BK156.out 7).trans rfl
                                have hfz80_0 := blk_frozen BK156.out 0
                                have hfz80_1 := blk_frozen BK156.out 1
                                have hfz80_2 := blk_frozen BK156.out 2
                                have hfz80_3 := blk_frozen BK156.out 3
                                have hfz80_4 := blk_frozen BK156.out 4
                                have hfz80_5 := blk_frozen BK156.out 5
                                have hfz80_6 := blk_frozen BK156.out 6
                                have hfz80_7 := blk_frozen BK156.out 7
                                have p175 : 0 ≤ (x3_3 : Int) := of_decide_eq_true (by first | (with_reducible assumption) | assumption)
                                have q175 : x3_3 < (l0_7.length : Int) := of_decide_eq_true (by first | (with_reducible assumption) | assumption)
                                obtain ⟨ad175, e175, hx175_0⟩ := Kd.at_int HR0_7.out x3_3 p175 q175
                                cases e175
                                replace hx175_0 := (HB.out.cell (World.block_lt_of_cell? w _ hx175_0)).trans hx175_0
                                replace p175 := eq_true p175
                                replace q175 := eq_true q175
                                go_wp2_with (first | ((with_reducible refine gate_callee (f := 23) rfl ?_); refine goesL_ (some 78) rfl rfl Tryz.func23 (by kernel_rfl) rfl #[.int .i64 (rd l0_7 x3_3), .int .i64 0, .int .i64 1099511627776] rfl (by (try simp only [List.map_toArray, List.map_cons, List.map_nil]); first | done | rfl | (simp only [List.length_drop, List.length_take]; rfl)) ?_; (with_reducible refine (breadlineref04_in.calls (rd l0_7 x3_3) 0 1099511627776 true _ A66.out).mono ?_); rintro e w' ⟨rfl, ⟨nd, rfl⟩⟩; refine ⟨_, rfl, ?_⟩; have p180 : 0 ≤ (x3_3 : Int) := of_decide_eq_true (by first | (with_reducible assumption) | assumption); have q180 : x3_3 < (l0_6.length : Int) := of_decide_eq_true (by first | (with_reducible assumption) | assumption); obtain ⟨ad180, e180, hx180_0⟩ := Kd.at_int HR0_6.out x3_3 p180 q180; cases e180; replace hx180_0 := (HB.out.cell (World.block_lt_of_cell? w _ hx180_0)).trans hx180_0; replace p180 := eq_true p180; replace q180 := eq_true q180) | (go_at_call 23; (with_reducible refine (breadlineref04_in.calls (rd l0_6 x3_3) 0 (wrap64 (x3_3 - 1)) true _ A78.out).mono ?_); rintro e w' ⟨rfl, ⟨nd, rfl⟩⟩))
                                go_roundg k3
                                case measure => have := HJ1.out; have := HJ56.out; have := HK3.out; omega
                                case rel => exact ⟨(wrap64 (x3_3 + 1)), (by first | rfl | (simp; done) | (simp [*]; done)), H', ⟨by have := HJ1.out; have := HJ56.out; have := HK3.out; omega⟩, ⟨by (with_reducible repeat (first | refine blk_drewN ?_ _ | refine blk_drew ?_ | refine blk_alloc ?_ _)); exact BK156.out⟩, ⟨by repeat (first | (with_reducible first | exact HB.out | apply below_alloc | apply pw_below_drewN | apply below_drew1 | refine below_set ?_ GE156.out) | exact HB.out)⟩⟩
                              · replace c79 := Bool.eq_false_iff.mpr c79
                                subst c79
                                have H1 : (some false) = some r := by rw [if_neg (show ¬ (false = true) by decide)] at H; exact H
                                clear H
                                have H := H1
                                clear H1
                                obtain rfl := Option.some.inj H
                                have hcz81_0 : wr.cell? ⟨gb156, 0, none⟩ = some (.int .i64 a0_0) := (blk_cell BK156.out 0).trans rfl
                                have hcz81_1 : wr.cell? ⟨gb156, 1, none⟩ = some (.int .i64 a0_1) := (blk_cell BK156.out 1).trans rfl
                                have hcz81_2 : wr.cell? ⟨gb156, 2, none⟩ = some (.int .i64 a0_2) := (blk_cell BK156.out 2).trans rfl
                                have hcz81_3 : wr.cell? ⟨gb156, 3, none⟩ = some (.int .i64 a0_3) := (blk_cell BK156.out 3).trans rfl
                                have hcz81_4 : wr.cell? ⟨gb156, 4, none⟩ = some (.int .i64 a0_4) := (blk_cell BK156.out 4).trans rfl
                                have hcz81_5 : wr.cell? ⟨gb156, 5, none⟩ = some (.int .i64 a0_5) := (blk_cell BK156.out 5).trans rfl
                                have hcz81_6 : wr.cell? ⟨gb156, 6, none⟩ = some (.slice A0_6 l0_6.length c0_6) := (blk_cell BK156.out 6).trans rfl
                                have hcz81_7 : wr.cell? ⟨gb156, 7, none⟩ = some (.slice A0_7 l0_7.length c0_7) := (blk_cell BK156.out 7).trans rfl
                                have hfz81_0 := blk_frozen BK156.out 0
                                have hfz81_1 := blk_frozen BK156.out 1
                                have hfz81_2 := blk_frozen BK156.out 2
                                have hfz81_3 := blk_frozen BK156.out 3
                                have hfz81_4 := blk_frozen BK156.out 4
                                have hfz81_5 := blk_frozen BK156.out 5
                                have hfz81_6 := blk_frozen BK156.out 6
                                have hfz81_7 := blk_frozen BK156.out 7
                                have p175 : 0 ≤ (x3_3 : Int) := of_decide_eq_true (by first | (with_reducible assumption) | assumption)
                                have q175 : x3_3 < (l0_7.length : Int) := of_decide_eq_true (by first | (with_reducible assumption) | assumption)
                                obtain ⟨ad175, e175, hx175_0⟩ := Kd.at_int HR0_7.out x3_3 p175 q175
                                cases e175
                                replace hx175_0 := (HB.out.cell (World.block_lt_of_cell? w _ hx175_0)).trans hx175_0
                                replace p175 := eq_true p175
                                replace q175 := eq_true q175
                                go_wp2_with (first | ((with_reducible refine gate_callee (f := 23) rfl ?_); refine goesL_ (some 78) rfl rfl Tryz.func23 (by kernel_rfl) rfl #[.int .i64 (rd l0_7 x3_3), .int .i64 0, .int .i64 1099511627776] rfl (by (try simp only [List.map_toArray, List.map_cons, List.map_nil]); first | done | rfl | (simp only [List.length_drop, List.length_take]; rfl)) ?_; (with_reducible refine (breadlineref04_in.calls (rd l0_7 x3_3) 0 1099511627776 true _ A66.out).mono ?_); rintro e w' ⟨rfl, ⟨nd, rfl⟩⟩; refine ⟨_, rfl, ?_⟩; have p180 : 0 ≤ (x3_3 : Int) := of_decide_eq_true (by first | (with_reducible assumption) | assumption); have q180 : x3_3 < (l0_6.length : Int) := of_decide_eq_true (by first | (with_reducible assumption) | assumption); obtain ⟨ad180, e180, hx180_0⟩ := Kd.at_int HR0_6.out x3_3 p180 q180; cases e180; replace hx180_0 := (HB.out.cell (World.block_lt_of_cell? w _ hx180_0)).trans hx180_0; replace p180 := eq_true p180; replace q180 := eq_true q180) | (go_at_call 23; (with_reducible refine (breadlineref04_in.calls (rd l0_6 x3_3) 0 (wrap64 (x3_3 - 1)) false _ A78.out).mono ?_); rintro e w' ⟨rfl, ⟨nd, rfl⟩⟩))
                                go_ret
                                exact ⟨by first | rfl | (simp [errW_none, errW_some] <;> rfl) | (simp [*, errW_none, errW_some] <;> rfl), by repeat (first | (with_reducible first | exact HB.out | apply below_alloc | apply pw_below_drewN | apply below_drew1 | refine below_set ?_ GE156.out) | exact HB.out)⟩
                            · rw [if_neg c77] at H
                              have c77b0 : decide (0 < x3_3) = false := decide_eq_false c77
                              clear c77
                              have H' := Aside0.mk H
                              clear H
                              have hcz82_0 : wr.cell? ⟨gb156, 0, none⟩ = some (.int .i64 a0_0) := (blk_cell BK156.out 0).trans rfl
                              have hcz82_1 : wr.cell? ⟨gb156, 1, none⟩ = some (.int .i64 a0_1) := (blk_cell BK156.out 1).trans rfl
                              have hcz82_2 : wr.cell? ⟨gb156, 2, none⟩ = some (.int .i64 a0_2) := (blk_cell BK156.out 2).trans rfl
                              have hcz82_3 : wr.cell? ⟨gb156, 3, none⟩ = some (.int .i64 a0_3) := (blk_cell BK156.out 3).trans rfl
                              have hcz82_4 : wr.cell? ⟨gb156, 4, none⟩ = some (.int .i64 a0_4) := (blk_cell BK156.out 4).trans rfl
                              have hcz82_5 : wr.cell? ⟨gb156, 5, none⟩ = some (.int .i64 a0_5) := (blk_cell BK156.out 5).trans rfl
                              have hcz82_6 : wr.cell? ⟨gb156, 6, none⟩ = some (.slice A0_6 l0_6.length c0_6) := (blk_cell BK156.out 6).trans rfl
                              have hcz82_7 : wr.cell? ⟨gb156, 7, none⟩ = some (.slice A0_7 l0_7.length c0_7) := (blk_cell BK156.out 7).trans rfl
                              have hfz82_0 := blk_frozen BK156.out 0
                              have hfz82_1 := blk_frozen BK156.out 1
                              have hfz82_2 := blk_frozen BK156.out 2
                              have hfz82_3 := blk_frozen BK156.out 3
                              have hfz82_4 := blk_frozen BK156.out 4
                              have hfz82_5 := blk_frozen BK156.out 5
                              have hfz82_6 := blk_frozen BK156.out 6
                              have hfz82_7 := blk_frozen BK156.out 7
                              have p175 : 0 ≤ (x3_3 : Int) := of_decide_eq_true (by first | (with_reducible assumption) | assumption)
                              have q175 : x3_3 < (l0_7.length : Int) := of_decide_eq_true (by first | (with_reducible assumption) | assumption)
                              obtain ⟨ad175, e175, hx175_0⟩ := Kd.at_int HR0_7.out x3_3 p175 q175
                              cases e175
                              replace hx175_0 := (HB.out.cell (World.block_lt_of_cell? w _ hx175_0)).trans hx175_0
                              replace p175 := eq_true p175
                              replace q175 := eq_true q175
                              go_wp2_with (first | ((with_reducible refine gate_callee (f := 23) rfl ?_); refine goesL_ (some 78) rfl rfl Tryz.func23 (by kernel_rfl) rfl #[.int .i64 (rd l0_7 x3_3), .int .i64 0, .int .i64 1099511627776] rfl (by (try simp only [List.map_toArray, List.map_cons, List.map_nil]); first | done | rfl | (simp only [List.length_drop, List.length_take]; rfl)) ?_; (with_reducible refine (breadlineref04_in.calls (rd l0_7 x3_3) 0 1099511627776 true _ A66.out).mono ?_); rintro e w' ⟨rfl, ⟨nd, rfl⟩⟩; refine ⟨_, rfl, ?_⟩))
                              go_roundg k3
                              case measure => have := HJ1.out; have := HJ56.out; have := HK3.out; omega
                              case rel => exact ⟨(wrap64 (x3_3 + 1)), (by first | rfl | (simp; done) | (simp [*]; done)), H', ⟨by have := HJ1.out; have := HJ56.out; have := HK3.out; omega⟩, ⟨by (with_reducible repeat (first | refine blk_drewN ?_ _ | refine blk_drew ?_ | refine blk_alloc ?_ _)); exact BK156.out⟩, ⟨by repeat (first | (with_reducible first | exact HB.out | apply below_alloc | apply pw_below_drewN | apply below_drew1 | refine below_set ?_ GE156.out) | exact HB.out)⟩⟩
                        · replace c67 := Bool.eq_false_iff.mpr c67
                          subst c67
                          have H1 : (some false) = some r := by rw [if_neg (show ¬ (false = true) by decide)] at H; exact H
                          clear H
                          have H := H1
                          clear H1
                          obtain rfl := Option.some.inj H
                          have hcz83_0 : wr.cell? ⟨gb156, 0, none⟩ = some (.int .i64 a0_0) := (blk_cell BK156.out 0).trans rfl
                          have hcz83_1 : wr.cell? ⟨gb156, 1, none⟩ = some (.int .i64 a0_1) := (blk_cell BK156.out 1).trans rfl
                          have hcz83_2 : wr.cell? ⟨gb156, 2, none⟩ = some (.int .i64 a0_2) := (blk_cell BK156.out 2).trans rfl
                          have hcz83_3 : wr.cell? ⟨gb156, 3, none⟩ = some (.int .i64 a0_3) := (blk_cell BK156.out 3).trans rfl
                          have hcz83_4 : wr.cell? ⟨gb156, 4, none⟩ = some (.int .i64 a0_4) := (blk_cell BK156.out 4).trans rfl
                          have hcz83_5 : wr.cell? ⟨gb156, 5, none⟩ = some (.int .i64 a0_5) := (blk_cell BK156.out 5).trans rfl
                          have hcz83_6 : wr.cell? ⟨gb156, 6, none⟩ = some (.slice A0_6 l0_6.length c0_6) := (blk_cell BK156.out 6).trans rfl
                          have hcz83_7 : wr.cell? ⟨gb156, 7, none⟩ = some (.slice A0_7 l0_7.length c0_7) := (blk_cell BK156.out 7).trans rfl
                          have hfz83_0 := blk_frozen BK156.out 0
                          have hfz83_1 := blk_frozen BK156.out 1
                          have hfz83_2 := blk_frozen BK156.out 2
                          have hfz83_3 := blk_frozen BK156.out 3
                          have hfz83_4 := blk_frozen BK156.out 4
                          have hfz83_5 := blk_frozen BK156.out 5
                          have hfz83_6 := blk_frozen BK156.out 6
                          have hfz83_7 := blk_frozen BK156.out 7
                          have p175 : 0 ≤ (x3_3 : Int) := of_decide_eq_true (by first | (with_reducible assumption) | assumption)
                          have q175 : x3_3 < (l0_7.length : Int) := of_decide_eq_true (by first | (with_reducible assumption) | assumption)
                          obtain ⟨ad175, e175, hx175_0⟩ := Kd.at_int HR0_7.out x3_3 p175 q175
                          cases e175
                          replace hx175_0 := (HB.out.cell (World.block_lt_of_cell? w _ hx175_0)).trans hx175_0
                          replace p175 := eq_true p175
                          replace q175 := eq_true q175
                          go_wp2_with (first | ((with_reducible refine gate_callee (f := 23) rfl ?_); refine goesL_ (some 78) rfl rfl Tryz.func23 (by kernel_rfl) rfl #[.int .i64 (rd l0_7 x3_3), .int .i64 0, .int .i64 1099511627776] rfl (by (try simp only [List.map_toArray, List.map_cons, List.map_nil]); first | done | rfl | (simp only [List.length_drop, List.length_take]; rfl)) ?_; (with_reducible refine (breadlineref04_in.calls (rd l0_7 x3_3) 0 1099511627776 false _ A66.out).mono ?_); rintro e w' ⟨rfl, ⟨nd, rfl⟩⟩; refine ⟨_, rfl, ?_⟩))
                          go_ret
                          exact ⟨by first | rfl | (simp [errW_none, errW_some] <;> rfl) | (simp [*, errW_none, errW_some] <;> rfl), by repeat (first | (with_reducible first | exact HB.out | apply below_alloc | apply pw_below_drewN | apply below_drew1 | refine below_set ?_ GE156.out) | exact HB.out)⟩
                      · rw [if_neg c65] at H
                        exact absurd H (by simp)
                    · rw [if_neg c64] at H
                      exact absurd H (by simp)
                  · rw [if_neg c63] at H
                    have c63b0 : decide (x3_3 < (l0_6.length : Int)) = false := decide_eq_false c63
                    clear c63
                    obtain rfl := Option.some.inj H
                    have hcz84_0 : wr.cell? ⟨gb156, 0, none⟩ = some (.int .i64 a0_0) := (blk_cell BK156.out 0).trans rfl
                    have hcz84_1 : wr.cell? ⟨gb156, 1, none⟩ = some (.int .i64 a0_1) := (blk_cell BK156.out 1).trans rfl
                    have hcz84_2 : wr.cell? ⟨gb156, 2, none⟩ = some (.int .i64 a0_2) := (blk_cell BK156.out 2).trans rfl
                    have hcz84_3 : wr.cell? ⟨gb156, 3, none⟩ = some (.int .i64 a0_3) := (blk_cell BK156.out 3).trans rfl
                    have hcz84_4 : wr.cell? ⟨gb156, 4, none⟩ = some (.int .i64 a0_4) := (blk_cell BK156.out 4).trans rfl
                    have hcz84_5 : wr.cell? ⟨gb156, 5, none⟩ = some (.int .i64 a0_5) := (blk_cell BK156.out 5).trans rfl
                    have hcz84_6 : wr.cell? ⟨gb156, 6, none⟩ = some (.slice A0_6 l0_6.length c0_6) := (blk_cell BK156.out 6).trans rfl
                    have hcz84_7 : wr.cell? ⟨gb156, 7, none⟩ = some (.slice A0_7 l0_7.length c0_7) := (blk_cell BK156.out 7).trans rfl
                    have hfz84_0 := blk_frozen BK156.out 0
                    have hfz84_1 := blk_frozen BK156.out 1
                    have hfz84_2 := blk_frozen BK156.out 2
                    have hfz84_3 := blk_frozen BK156.out 3
                    have hfz84_4 := blk_frozen BK156.out 4
                    have hfz84_5 := blk_frozen BK156.out 5
                    have hfz84_6 := blk_frozen BK156.out 6
                    have hfz84_7 := blk_frozen BK156.out 7
                    go_wp2
                    go_ret
                    exact ⟨by first | rfl | (simp [errW_none, errW_some] <;> rfl) | (simp [*, errW_none, errW_some] <;> rfl), by repeat (first | (with_reducible first | exact HB.out | apply below_alloc | apply pw_below_drewN | apply below_drew1 | refine below_set ?_ GE156.out) | exact HB.out)⟩

end Go.Proofs.YteaidhoimaphlaaGreat.PM
