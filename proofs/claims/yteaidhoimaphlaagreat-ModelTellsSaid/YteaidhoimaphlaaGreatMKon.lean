import Derived.Test.YteaidhoimaphlaaGreatMTree
import Derived.Test.YteaidhoimaphlaaGreatPMx2
import Derived.Test.YteaidhoimaphlaaGreatPMx3
import Derived.Shelf.Abstract
namespace Go.Proofs.YteaidhoimaphlaaGreat.PM
open Go.RowKit Go.Shelf Go.Proofs.YteaidhoimaphlaaGreatW.PrintWords Go.Proofs.YteaidhoimaphlaaGreatW.PrintLast Go.Proofs.YteaidhoimaphlaaGreatW.PrintMore
attribute [local go_sem] max2_int min2_int max_two min_two max_three min_three max_four min_four
set_option linter.unusedVariables false
set_option linter.unusedSimpArgs false
def amountE (e n : Int) : Int := if e = 0 then (if n < 1 then 1 else if n > 1048576 then 1 else e) else e
def nodeE (ps : List Int) (v : Int) : Int := if v < 0 then 2 else if v ≥ (ps.length : Int) then 2 else 0
def namedOk (n ti : Int) : Bool := decide (0 ≤ n ∧ n % 16 < ti ∧ n / 16 < 4294967296)
def leafE (ps : List Int) (v n : Int) : Int := amountE (if leafB ps v = true then 0 else 2) n
def nameE (n ti : Int) : Int := if namedOk n ti = true then 0 else 5
def movedE (ps : List Int) (v n : Int) : Int := amountE (nodeE ps v) n
def tkOf (n ti : Int) : Int := if namedOk n ti = true then n % 16 else 0
def verOf (n ti : Int) : Int := if namedOk n ti = true then n / 16 else 0
/-- what is wrong with a call. -/
def checkE (c : LConf) (k v n : Int) : Int :=
  if k = 1 then leafE c.ps v n
  else if k = 2 then nameE n c.ti
  else if k = 3 ∨ k = 4 then movedE c.ps v n
  else if k = 5 ∨ k = 6 then nodeE c.ps v
  else 1
theorem named_f (n ti : Int) (hn : n ≤ 9223372036854775807) : slot_Named.f n ti = some (if namedOk n ti = true then (n % 16, n / 16, true) else (0, 0, false)) := by
  unfold slot_Named.f slot_named.f namedOk
  simp only [Option.bind_some]
  by_cases h0 : n < 0
  · rw [if_pos h0, decide_eq_false (by omega)]; rfl
  · rw [if_neg h0, Int.tmod_eq_emod_of_nonneg (by omega), Int.tdiv_eq_ediv_of_nonneg (by omega), w64 (x := n / 16) (by omega) (by omega)]
    by_cases h1 : n % 16 ≥ ti
    · rw [if_pos h1, decide_eq_false (by omega)]; rfl
    · rw [if_neg h1]
      by_cases h2 : n / 16 / 4294967296 = 0
      · rw [if_pos h2, decide_eq_true (by omega)]; rfl
      · rw [if_neg h2, decide_eq_false (by omega)]; rfl
theorem K_Named (n ti : Int) (hn : n ≤ 9223372036854775807) (W : World) : Calls Tryz.prog 20 #[.int .i64 n, .int .i64 ti] W fun e w' => e = .returned (.tuple #[.int .i64 (tkOf n ti), .int .i64 (verOf n ti), .bool (namedOk n ti)]) ∧ Below W.heap.size W w' := by
  have h := named_f n ti hn
  unfold tkOf verOf
  cases hb : namedOk n ti with
  | true => rw [hb, if_pos rfl] at h; rw [if_pos rfl, if_pos rfl]; exact slot_Named.calls n ti _ _ _ W h
  | false => rw [hb, if_neg (by simp)] at h; rw [if_neg (by simp), if_neg (by simp)]; exact slot_Named.calls n ti _ _ _ W h
theorem amount_f (e k v n : Int) : call_amount.f e k v n = some (amountE e n) := by
  unfold call_amount.f amountE
  repeat' split
  all_goals rfl
theorem node_f (c : LConf) (k v n : Int) : call_node.f c.th c.st c.ga c.le c.re c.ti c.ps c.ls k v n = some (nodeE c.ps v) := by
  unfold call_node.f nodeE
  repeat' split
  all_goals rfl
theorem K_callleaf (c : LConf) (v6 v7 : Value) (k v n : Int) (W : World) (h6 : IsInts W v6 c.ps) (h7 : IsInts W v7 c.ls) (hn : c.ps.length ≤ 12) :
    Calls Tryz.prog 43 #[.agg #[.int .i64 c.th, .int .i64 c.st, .int .i64 c.ga, .int .i64 c.le, .int .i64 c.re, .int .i64 c.ti, v6, v7], .agg #[.int .i64 k, .int .i64 v, .int .i64 n]] W fun e w' => e = .returned (.int .i64 (leafE c.ps v n)) ∧ Below W.heap.size W w' := by
  obtain ⟨A6, c6, rfl, hc6, hr6⟩ := h6
  obtain ⟨A7, c7, rfl, hc7, hr7⟩ := h7
  refine call_leaf.calls 20 _ _ _ _ _ _ A6 c6 c.ps A7 c7 c.ls k v n _ W hr6 hc6 hr7 hc7 ?_
  unfold call_leaf.f
  rw [leaf_f c hn v]
  simp only [Option.bind_some, amount_f]
  unfold leafE
  split <;> rfl
theorem K_callmoved (c : LConf) (v6 v7 : Value) (k v n : Int) (W : World) (h6 : IsInts W v6 c.ps) (h7 : IsInts W v7 c.ls) :
    Calls Tryz.prog 49 #[.agg #[.int .i64 c.th, .int .i64 c.st, .int .i64 c.ga, .int .i64 c.le, .int .i64 c.re, .int .i64 c.ti, v6, v7], .agg #[.int .i64 k, .int .i64 v, .int .i64 n]] W fun e w' => e = .returned (.int .i64 (movedE c.ps v n)) ∧ Below W.heap.size W w' := by
  obtain ⟨A6, c6, rfl, hc6, hr6⟩ := h6
  obtain ⟨A7, c7, rfl, hc7, hr7⟩ := h7
  refine call_moved.calls _ _ _ _ _ _ A6 c6 c.ps A7 c7 c.ls k v n _ W hr6 hc6 hr7 hc7 ?_
  unfold call_moved.f
  rw [node_f]
  simp only [Option.bind_some, amount_f]
  rfl
theorem K_callnode (c : LConf) (v6 v7 : Value) (k v n : Int) (W : World) (h6 : IsInts W v6 c.ps) (h7 : IsInts W v7 c.ls) :
    Calls Tryz.prog 54 #[.agg #[.int .i64 c.th, .int .i64 c.st, .int .i64 c.ga, .int .i64 c.le, .int .i64 c.re, .int .i64 c.ti, v6, v7], .agg #[.int .i64 k, .int .i64 v, .int .i64 n]] W fun e w' => e = .returned (.int .i64 (nodeE c.ps v)) ∧ Below W.heap.size W w' := by
  obtain ⟨A6, c6, rfl, hc6, hr6⟩ := h6
  obtain ⟨A7, c7, rfl, hc7, hr7⟩ := h7
  exact call_node.calls _ _ _ _ _ _ A6 c6 c.ps A7 c7 c.ls k v n _ W hr6 hc6 hr7 hc7 (node_f c k v n)
theorem K_callnamed (c : LConf) (v6 v7 : Value) (k v n : Int) (hn : n ≤ 9223372036854775807) (W : World) (h6 : IsInts W v6 c.ps) (h7 : IsInts W v7 c.ls) :
    Calls Tryz.prog 46 #[.agg #[.int .i64 c.th, .int .i64 c.st, .int .i64 c.ga, .int .i64 c.le, .int .i64 c.re, .int .i64 c.ti, v6, v7], .agg #[.int .i64 k, .int .i64 v, .int .i64 n]] W fun e w' => e = .returned (.int .i64 (nameE n c.ti)) ∧ Below W.heap.size W w' := by
  obtain ⟨A6, c6, rfl, hc6, hr6⟩ := h6
  obtain ⟨A7, c7, rfl, hc7, hr7⟩ := h7
  refine call_named.calls _ _ _ _ _ _ A6 c6 c.ps A7 c7 c.ls k v n _ W hr6 hc6 hr7 hc7 ?_
  unfold call_named.f
  rw [named_f n c.ti hn]
  simp only [Option.bind_some]
  unfold nameE
  cases namedOk n c.ti <;> rfl
/-- a map of the call's own, made last: what an insertion of a new key does. -/
theorem run_ins (W : World) (es : Array MapEntry) (c : Nat) (k : Int) (v : Value) (h : Instr.findNow (.int .i64) (.int .i64 k) es.toList 0 = some none) :
    (Instr.mapUpdate 68 (.map (some W.heap.size)) (.int .i64 k) v).run Tryz.prog (W.alloc (.map es c)) = .ok () (W.alloc (.map (es.push { key := .int .i64 k, val := v, born := c }) (c + 1))) := by
  have hu := Tryz.underlying68
  have h3 := Tryz.underlying3
  have hb : (W.alloc (.map es c)).heap[W.heap.size]? = some (.map es c) := World.alloc_heap_new W _
  have hs : (W.heap.push (.map es c)).setIfInBounds W.heap.size (.map (es.push { key := .int .i64 k, val := v, born := c }) (c + 1)) = W.heap.push (.map (es.push { key := .int .i64 k, val := v, born := c }) (c + 1)) := by
    apply Array.ext
    · simp
    · intro i h1 h2
      by_cases e : i = W.heap.size
      · subst e; simp
      · simp at h2
        rw [Array.getElem_setIfInBounds_ne (h := fun e' => e e'.symm), Array.getElem_push_lt (by omega), Array.getElem_push_lt (by omega)]
        simp; omega
  have hc : (Instr.checkKey false 10000 3 (.int .i64 k)).run Tryz.prog (W.alloc (.map es c)) = .ok () (W.alloc (.map es c)) := MapKept.run_checkKey h3 (by simp [MapKept.IsKey]) false 9999
  simp [Instr.mapUpdate, run_underlying hu, MapKept.run_getObj_map hb, hc, MapKept.run_findKey h3 h, MapKept.run_setObj_map _ hb, Result.andThen]
  show ({ W with heap := (W.heap.push (.map es c)).setIfInBounds W.heap.size (.map (es.push { key := .int .i64 k, val := v, born := c }) (c + 1)) } : World) = { W with heap := W.heap.push (.map (es.push { key := .int .i64 k, val := v, born := c }) (c + 1)) }
  rw [hs]
/-- what a look-up of an int key does. -/
theorem run_look (W : World) (b : Nat) (es : Array MapEntry) (c : Nat) (k : Int) (i : Nat) (v : Value) (hb : W.heap[b]? = some (.map es c)) (h : Instr.findNow (.int .i64) (.int .i64 k) es.toList 0 = some (some (i, v))) :
    (Instr.lookup 68 (.map (some b)) (.int .i64 k) true).run Tryz.prog W = .ok (.tuple #[v, .bool true]) W := by
  have hu := Tryz.underlying68
  have h3 := Tryz.underlying3
  have hc : (Instr.checkKey es.isEmpty 10000 3 (.int .i64 k)).run Tryz.prog W = .ok () W := MapKept.run_checkKey h3 (by simp [MapKept.IsKey]) _ 9999
  simp [Instr.lookup, run_underlying hu, MapKept.run_getObj_map hb, hc, MapKept.run_findKey h3 h, Result.andThen]
theorem run_look_no (W : World) (b : Nat) (es : Array MapEntry) (c : Nat) (k : Int) (hb : W.heap[b]? = some (.map es c)) (h : Instr.findNow (.int .i64) (.int .i64 k) es.toList 0 = some none) :
    (Instr.lookup 68 (.map (some b)) (.int .i64 k) true).run Tryz.prog W = .ok (.tuple #[.agg #[.nilFunc, .nilFunc], .bool false]) W := by
  have hu := Tryz.underlying68
  have h3 := Tryz.underlying3
  have hz : (zeroValue 66).run Tryz.prog W = .ok (.agg #[.nilFunc, .nilFunc]) W := by kernel_rfl
  have hc : (Instr.checkKey es.isEmpty 10000 3 (.int .i64 k)).run Tryz.prog W = .ok () W := MapKept.run_checkKey h3 (by simp [MapKept.IsKey]) _ 9999
  simp [Instr.lookup, run_underlying hu, MapKept.run_getObj_map hb, hc, MapKept.run_findKey h3 h, Result.andThen, hz]
def kindE (i : Nat) (f g : Nat) : MapEntry := { key := .int .i64 ((i : Int) + 1), val := .agg #[.func (.func f) #[] #[], .func (.func g) #[] #[]], born := i }
def kindsE : Array MapEntry := #[kindE 0 43 44, kindE 1 46 47, kindE 2 49 50, kindE 3 49 52, kindE 4 54 55, kindE 5 54 57]
set_option maxHeartbeats 2000000 in
theorem kinds_any (w : World) : Calls Tryz.prog 32 #[] w fun e w' => e = .returned (.map (some w.heap.size)) ∧ w' = w.alloc (.map kindsE 6) := by
  have hmm := @run_makeMap Tryz.prog 68
  have i0 : (Instr.mapUpdate 68 (.map (some w.heap.size)) (.int .i64 1) (.agg #[.func (.func 43) #[] #[], .func (.func 44) #[] #[]])).run Tryz.prog (w.alloc (.map #[] 0)) = .ok () (w.alloc (.map #[kindE 0 43 44] 1)) := run_ins w #[] 0 1 (.agg #[.func (.func 43) #[] #[], .func (.func 44) #[] #[]]) (by rfl)
  have i1 : (Instr.mapUpdate 68 (.map (some w.heap.size)) (.int .i64 2) (.agg #[.func (.func 46) #[] #[], .func (.func 47) #[] #[]])).run Tryz.prog (w.alloc (.map #[kindE 0 43 44] 1)) = .ok () (w.alloc (.map #[kindE 0 43 44, kindE 1 46 47] 2)) := run_ins w #[kindE 0 43 44] 1 2 (.agg #[.func (.func 46) #[] #[], .func (.func 47) #[] #[]]) (by rfl)
  have i2 : (Instr.mapUpdate 68 (.map (some w.heap.size)) (.int .i64 3) (.agg #[.func (.func 49) #[] #[], .func (.func 50) #[] #[]])).run Tryz.prog (w.alloc (.map #[kindE 0 43 44, kindE 1 46 47] 2)) = .ok () (w.alloc (.map #[kindE 0 43 44, kindE 1 46 47, kindE 2 49 50] 3)) := run_ins w #[kindE 0 43 44, kindE 1 46 47] 2 3 (.agg #[.func (.func 49) #[] #[], .func (.func 50) #[] #[]]) (by rfl)
  have i3 : (Instr.mapUpdate 68 (.map (some w.heap.size)) (.int .i64 4) (.agg #[.func (.func 49) #[] #[], .func (.func 52) #[] #[]])).run Tryz.prog (w.alloc (.map #[kindE 0 43 44, kindE 1 46 47, kindE 2 49 50] 3)) = .ok () (w.alloc (.map #[kindE 0 43 44, kindE 1 46 47, kindE 2 49 50, kindE 3 49 52] 4)) := run_ins w #[kindE 0 43 44, kindE 1 46 47, kindE 2 49 50] 3 4 (.agg #[.func (.func 49) #[] #[], .func (.func 52) #[] #[]]) (by rfl)
  have i4 : (Instr.mapUpdate 68 (.map (some w.heap.size)) (.int .i64 5) (.agg #[.func (.func 54) #[] #[], .func (.func 55) #[] #[]])).run Tryz.prog (w.alloc (.map #[kindE 0 43 44, kindE 1 46 47, kindE 2 49 50, kindE 3 49 52] 4)) = .ok () (w.alloc (.map #[kindE 0 43 44, kindE 1 46 47, kindE 2 49 50, kindE 3 49 52, kindE 4 54 55] 5)) := run_ins w #[kindE 0 43 44, kindE 1 46 47, kindE 2 49 50, kindE 3 49 52] 4 5 (.agg #[.func (.func 54) #[] #[], .func (.func 55) #[] #[]]) (by rfl)
  have i5 : (Instr.mapUpdate 68 (.map (some w.heap.size)) (.int .i64 6) (.agg #[.func (.func 54) #[] #[], .func (.func 57) #[] #[]])).run Tryz.prog (w.alloc (.map #[kindE 0 43 44, kindE 1 46 47, kindE 2 49 50, kindE 3 49 52, kindE 4 54 55] 5)) = .ok () (w.alloc (.map #[kindE 0 43 44, kindE 1 46 47, kindE 2 49 50, kindE 3 49 52, kindE 4 54 55, kindE 5 54 57] 6)) := run_ins w #[kindE 0 43 44, kindE 1 46 47, kindE 2 49 50, kindE 3 49 52, kindE 4 54 55] 5 6 (.agg #[.func (.func 54) #[] #[], .func (.func 57) #[] #[]]) (by rfl)
  go_enter Tryz.func32, Tryz.ntmps32
  go_wp2
  go_ret
  exact ⟨rfl, rfl⟩
end Go.Proofs.YteaidhoimaphlaaGreat.PM
