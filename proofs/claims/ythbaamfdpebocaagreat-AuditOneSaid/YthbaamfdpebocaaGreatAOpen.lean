import Derived.Test.YthbaamfdpebocaaGreatHTree
import Derived.RangeFuncNested
import Derived.RangeFuncBound
import Derived.RangeFuncCalls
import Derived.RangeFuncLeaves
import Derived.RangeFuncBox
import Derived.Shelf.Abstract
import Derived.Shelf.RegionOpen
import Derived.OwnWalkIn
import Derived.TacticsInMore
import Derived.LoopNIn
import Derived.LoopIn
import Derived.Lib.QuietBelow
import Derived.Deep.RegionHeld3
import Derived.Deep.RegionLaw
import Derived.Laws.CopyOwn
import Derived.Laws.EntriesVeiled
import Derived.Deep.DeepCutAuto
import Derived.Deep.MidRow
import Derived.Deep.Heap
import Derived.Lib.SmallJoins
import Derived.ChangeKeysEq
import Derived.ChangeArms
import Derived.WalkKit
import Derived.ProofKit
import Derived.OpenShut
import Derived.ShutString
import Derived.ChangeOld
import Derived.SizedLaws
namespace Go.Proofs.YthbaamfdpebocaaGreat.PA
open Go.RowKit Go.Shelf Go.Proofs.YthbaamfdpebocaaGreatW.PrintWords Go.Proofs.YthbaamfdpebocaaGreatW.PrintLast Go.Proofs.YthbaamfdpebocaaGreatW.PrintMore
attribute [local go_sem] max2_int min2_int max_two min_two max_three min_three max_four min_four
set_option linter.unusedVariables false
set_option linter.unusedSimpArgs false
theorem array8 {α : Type} {cs : Array α} (h : cs.size = 8) : ∃ c0 c1 c2 c3 c4 c5 c6 c7, cs = #[c0, c1, c2, c3, c4, c5, c6, c7] := by
  obtain ⟨l⟩ := cs
  match l, h with
  | [c0, c1, c2, c3, c4, c5, c6, c7], _ => exact ⟨c0, c1, c2, c3, c4, c5, c6, c7, rfl⟩
section
variable {H : Type} {enc : TypeId × Value → H} {W : World}
/-- a field of type int. -/
theorem field_int {fuel : Nat} {v : Value} {y : DataW H × List MemPlace} (h : DataW.trod enc Tryz.prog W 0 (fun _ => true) true fuel 3 [v] = some y) : ∃ n : Int, v = .int .i64 n ∧ (-9223372036854775808 ≤ n ∧ n ≤ 9223372036854775807) := by
  obtain ⟨n, hn, _, hw⟩ := DataW.trod_int Tryz.underlying3 h
  refine ⟨n, by simpa using hn, ?_⟩
  have e1 : IntKind.i64.min = -9223372036854775808 := by kernel_rfl
  have e2 : IntKind.i64.max = 9223372036854775807 := by kernel_rfl
  simp only [Lit.wf, Bool.and_eq_true, decide_eq_true_eq, e1, e2] at hw
  exact hw
/-- a field of type []int. -/
theorem field_ints {fuel : Nat} {v : Value} {y : DataW H × List MemPlace} (h : DataW.trod enc Tryz.prog W 0 (fun _ => true) true fuel 22 [v] = some y) : ∃ xs, IsInts W v xs := by
  rcases Go.ChangeShapes.open_ints Tryz.underlying22 Tryz.underlying3 (by kernel_rfl) h with ⟨hcs, _⟩ | ⟨a, len, cap, zs, hcs, _, hl, hm, hz, _, hcell, _⟩
  · obtain rfl : v = .slice none 0 0 := by simpa using hcs
    exact ⟨[], .nil W⟩
  · obtain rfl : v = .slice (some a) len cap := by simpa using hcs
    have hz' : zs.length = cap := by simpa using hz
    refine ⟨zs.take len, some a, cap, by simp; omega, by simp; omega, rfl, ?_, fun _ => ⟨a, rfl, ?_⟩⟩
    · unfold maxLen at hm; simp; omega
    · intro j p hj
      have hj1 : j < len := by have := (List.getElem?_eq_some_iff.1 hj).1; simp at this; omega
      have hp : p = zs.getD j 0 := by
        rw [List.getElem?_take_of_lt hj1] at hj
        simp [List.getD, hj]
      refine ⟨[.int .i64 p], rfl, rfl, ?_⟩
      intro i u hi
      obtain ⟨rfl, rfl⟩ : i = 0 ∧ u = .int .i64 p := by
        cases i with
        | zero => simpa using hi.symm
        | succ i => simp at hi
      rw [show j * (Kd.int .i64).sz + 0 = j from by show j * 1 + 0 = j; omega, hp]
      exact hcell j (by omega)
set_option maxRecDepth 100000 in
/-- a setting by value. -/
theorem open_conf {r : Reach} {b0 : Nat} {v : Value} {d : DataW H} {p : List MemPlace} (hv : Value.okWide Tryz.prog W r b0 24 v) (h : DataW.Trod enc Tryz.prog W 0 (fun _ => true) true 24 v d p) :
    ∃ (c : LConf) (A6 : Option Addr) (n6 d6 : Nat) (A7 : Option Addr) (n7 d7 : Nat), v = .agg #[.int .i64 c.th, .int .i64 c.st, .int .i64 c.ga, .int .i64 c.le, .int .i64 c.re, .int .i64 c.ti, .slice A6 n6 d6, .slice A7 n7 d7] ∧ IsInts W (.slice A6 n6 d6) c.ps ∧ IsInts W (.slice A7 n7 d7) c.ls := by
  have hu := Tryz.underlying24
  obtain ⟨cs, rfl, hsz⟩ := Go.WideShapes.okWide_struct hu hv
  have hC : Tryz.prog.cellsOf 24 = 8 := by kernel_rfl
  obtain ⟨c0, c1, c2, c3, c4, c5, c6, c7, rfl⟩ := array8 (hsz.trans hC)
  obtain ⟨fuel, hf⟩ := h
  obtain ⟨xs, n, _, _, _, hlen, hfd⟩ := DataW.trod_struct hu hf
  have c3' : Tryz.prog.cellsOf 3 = 1 := by kernel_rfl
  have c22 : Tryz.prog.cellsOf 22 = 1 := by kernel_rfl
  match xs, hlen with
  | [y0, y1, y2, y3, y4, y5, y6, y7], _ =>
    have g0 := hfd 0 _ rfl
    have g1 := hfd 1 _ rfl
    have g2 := hfd 2 _ rfl
    have g3 := hfd 3 _ rfl
    have g4 := hfd 4 _ rfl
    have g5 := hfd 5 _ rfl
    have g6 := hfd 6 _ rfl
    have g7 := hfd 7 _ rfl
    simp only [Value.cells, c3', c22, List.drop_zero, List.drop_succ_cons, List.take_succ_cons, List.take_zero, List.getElem?_cons_zero, List.getElem?_cons_succ] at g0 g1 g2 g3 g4 g5 g6 g7
    obtain ⟨n0, rfl, _⟩ := field_int g0
    obtain ⟨n1, rfl, _⟩ := field_int g1
    obtain ⟨n2, rfl, _⟩ := field_int g2
    obtain ⟨n3, rfl, _⟩ := field_int g3
    obtain ⟨n4, rfl, _⟩ := field_int g4
    obtain ⟨n5, rfl, _⟩ := field_int g5
    obtain ⟨x6, h6⟩ := field_ints g6
    obtain ⟨x7, h7⟩ := field_ints g7
    obtain ⟨A6, n6, d6, rfl⟩ := h6.slice
    obtain ⟨A7, n7, d7, rfl⟩ := h7.slice
    exact ⟨⟨n0, n1, n2, n3, n4, n5, x6, x7⟩, A6, n6, d6, A7, n7, d7, rfl, h6, h7⟩
end
section
variable {H : Type} {enc : TypeId × Value → H} {W : World}
set_option maxRecDepth 100000 in
/-- a parameter of type []int. -/
theorem open_intsV {r : Reach} {b0 : Nat} {v : Value} {d : DataW H} {p : List MemPlace} (hv : Value.okWide Tryz.prog W r b0 22 v) (h : DataW.Trod enc Tryz.prog W 0 (fun _ => true) true 22 v d p) :
    ∃ (l : List Int) (A : Option Addr) (n c : Nat), v = .slice A n c ∧ IsInts W (.slice A n c) l := by
  obtain ⟨A, n, c, rfl⟩ := Go.WideShapes.okWide_slice Tryz.underlying22 hv
  obtain ⟨fuel, hf⟩ := h
  have hf' : DataW.trod enc Tryz.prog W 0 (fun _ => true) true fuel 22 [.slice A n c] = some (d, p) := hf
  obtain ⟨xs, hx⟩ := field_ints hf'
  exact ⟨xs, A, n, c, rfl, hx⟩
end
end Go.Proofs.YthbaamfdpebocaaGreat.PA
