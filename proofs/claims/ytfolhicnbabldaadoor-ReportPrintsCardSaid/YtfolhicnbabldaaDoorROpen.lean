import Derived.Test.YtfolhicnbabldaaDoorRHead
import Derived.RangeFuncNested
import Derived.RangeFuncBound
import Derived.RangeFuncCalls
import Derived.RangeFuncLeaves
import Derived.RangeFuncBox
import Derived.Shelf.Abstract
import Derived.Shelf.RegionOpen
import Derived.OwnWalkIn
import Derived.TacticsInMore
import Derived.LoopNIn
import Derived.LoopIn
import Derived.Deep.RegionHeld3
import Derived.Deep.RegionLaw
import Derived.Laws.CopyOwn
import Derived.Laws.EntriesVeiled
import Derived.WalkKit
import Derived.BigCall
import Derived.Lib.ItoaLen
import Derived.ChangeArms
import Derived.WalkKit
import Derived.ProofKit
import Derived.OpenShut
import Derived.ShutString
import Derived.ChangeOld
import Derived.SizedLaws
import Derived.Lib.SmallJoins
namespace Go.Proofs.YtfolhicnbabldaaDoor.PR
open Go.RowKit Go.Shelf Go.Proofs.YtfolhicnbabldaaDoorW.PrintWords Go.Proofs.YtfolhicnbabldaaDoorW.PrintLast Go.Proofs.YtfolhicnbabldaaDoorW.PrintMore
attribute [local go_sem] max2_int min2_int max_two min_two max_three min_three max_four min_four
set_option linter.unusedVariables false
set_option linter.unusedSimpArgs false
theorem u8_range {x : Int} (h : (Lit.int .u8 x).wf = true) : 0 ≤ x ∧ x ≤ 255 := by
  have e1 : IntKind.u8.min = 0 := by kernel_rfl
  have e2 : IntKind.u8.max = 255 := by kernel_rfl
  simp only [Lit.wf, Bool.and_eq_true, decide_eq_true_eq, e1, e2] at h
  exact h
theorem evs_nil (W : World) : IsEvs W (.slice none 0 0) [] := ⟨none, 0, rfl, Nat.le_refl _, Kd.C_nil _ _, fun x hx => by cases hx⟩
section
variable {H : Type} {enc : TypeId × Value → H} {W : World}
theorem cells?_get {w : World} {base : Nat} {a : Addr} {n : Nat} {cs : List Value} (h : w.cells? base a n = some cs) : cs.length = n ∧ ∀ i u, cs[i]? = some u → w.cell? (a.add i) = some u := by
  unfold World.cells? at h
  split at h
  · have hl : cs.length = n := by simpa using mapM_some_length h
    refine ⟨hl, fun i u hi => ?_⟩
    have hlt : i < n := by have := (List.getElem?_eq_some_iff.1 hi).1; omega
    have := mapM_some_get h i i (by simp [hlt])
    rw [this, hi]
  · cases h
/-- a slice whose elements read. -/
theorem open_row {α : Type} (k : Kd α) (Pr : α → Prop) {t e : TypeId} (ht : Tryd.prog.underlying t = some (.slice e)) (hsz : Tryd.prog.cellsOf e = k.sz)
    (h1 : ∀ n cs y, cs.length = k.sz → DataW.trod enc Tryd.prog W 0 (fun _ => true) true n e cs = some y → ∃ x, k.K W x cs ∧ Pr x)
    {fuel : Nat} {v : Value} {y : DataW H × List MemPlace} (h : DataW.trod enc Tryd.prog W 0 (fun _ => true) true fuel t [v] = some y) :
    ∃ (xs : List α) (A : Option Addr) (c : Nat), v = .slice A xs.length c ∧ xs.length ≤ c ∧ Kd.C k W A xs.length xs ∧ ∀ x ∈ xs, Pr x := by
  rcases DataW.trod_slice ht h with ⟨hcs, _⟩ | ⟨a, len, cap, elems, rest, n, _, hcs, _, _, hl, hm, he, hx, _⟩
  · obtain rfl : v = .slice none 0 0 := by simpa using hcs
    exact ⟨[], none, 0, rfl, Nat.le_refl _, ⟨rfl, by simp, fun h => absurd h (by simp)⟩, fun x hx => by cases hx⟩
  · obtain rfl : v = .slice (some a) len cap := by simpa using hcs
    have hel : ∀ i, i < len → ∃ x cs, k.K W x cs ∧ Pr x ∧ ∀ j u, cs[j]? = some u → W.cell? ((a.add (i * k.sz)).add j) = some u := fun i hi => by
      have := hx i hi
      rw [hsz] at this
      cases hc : W.cells? 0 (a.add (i * k.sz)) k.sz with
      | none => rw [hc] at this; simp only [Option.bind_none] at this; rw [List.getElem?_eq_getElem (by omega)] at this; cases this
      | some cs =>
        rw [hc, List.getElem?_eq_getElem (by omega)] at this
        simp only [Option.bind_some] at this
        have hg := cells?_get hc
        obtain ⟨x, hK, hP⟩ := h1 n cs _ hg.1 this
        exact ⟨x, cs, hK, hP, hg.2⟩
    have hall : ∀ m, m ≤ len → ∃ xs : List α, xs.length = m ∧ ∀ i p, xs[i]? = some p → Pr p ∧ ∃ cs, k.K W p cs ∧ ∀ j u, cs[j]? = some u → W.cell? ((a.add (i * k.sz)).add j) = some u := by
      intro m
      induction m with
      | zero => exact fun _ => ⟨[], rfl, fun i p h => by simp at h⟩
      | succ m ih =>
        intro hm
        obtain ⟨xs, hxl, hxs⟩ := ih (by omega)
        obtain ⟨x, cs, hK, hP, hg⟩ := hel m (by omega)
        refine ⟨xs ++ [x], by simp [hxl], fun i p h => ?_⟩
        by_cases e : i < xs.length
        · rw [List.getElem?_append_left e] at h; exact hxs i p h
        · rw [List.getElem?_append_right (by omega)] at h
          have : i = m := by
            have := (List.getElem?_eq_some_iff.1 h).1
            simp at this; omega
          subst this
          rw [hxl, Nat.sub_self] at h
          simp at h
          subst h
          exact ⟨hP, cs, hK, hg⟩
    obtain ⟨xs, hxl, hxs⟩ := hall len (Nat.le_refl _)
    refine ⟨xs, some a, cap, by rw [hxl], by omega, ⟨rfl, ?_, fun _ => ⟨a, rfl, fun j p hj => ?_⟩⟩, fun x hx => ?_⟩
    · unfold maxLen at hm; omega
    · obtain ⟨_, cs, hK, hg⟩ := hxs j p hj
      refine ⟨cs, k.K_len hK, hK, fun i u hi => ?_⟩
      have := hg i u hi
      rw [Addr.add_add] at this
      exact this
    · obtain ⟨i, hi, e⟩ := List.getElem_of_mem hx
      exact (hxs i x (by rw [List.getElem?_eq_getElem hi, e])).1
theorem field_i {fuel : Nat} {v : Value} {y : DataW H × List MemPlace} (h : DataW.trod enc Tryd.prog W 0 (fun _ => true) true fuel 3 [v] = some y) : ∃ n : Int, v = .int .i64 n ∧ I64 n := by
  obtain ⟨n, hn, _, hw⟩ := DataW.trod_int Tryd.underlying3 h
  refine ⟨n, by simpa using hn, ?_⟩
  have e1 : IntKind.i64.min = -9223372036854775808 := by kernel_rfl
  have e2 : IntKind.i64.max = 9223372036854775807 := by kernel_rfl
  simp only [Lit.wf, Bool.and_eq_true, decide_eq_true_eq, e1, e2] at hw
  exact hw
theorem field_errno {fuel : Nat} {v : Value} {y : DataW H × List MemPlace} (h : DataW.trod enc Tryd.prog W 0 (fun _ => true) true fuel 24 [v] = some y) : ∃ n : Int, v = .int .i64 n ∧ I64 n := by
  obtain ⟨n, hn, _, hw⟩ := DataW.trod_int Tryd.underlying24 h
  refine ⟨n, by simpa using hn, ?_⟩
  have e1 : IntKind.i64.min = -9223372036854775808 := by kernel_rfl
  have e2 : IntKind.i64.max = 9223372036854775807 := by kernel_rfl
  simp only [Lit.wf, Bool.and_eq_true, decide_eq_true_eq, e1, e2] at hw
  exact hw
theorem field_b {fuel : Nat} {v : Value} {y : DataW H × List MemPlace} (h : DataW.trod enc Tryd.prog W 0 (fun _ => true) true fuel 4 [v] = some y) : ∃ b : Bool, v = .bool b := by
  obtain ⟨b, hb, _⟩ := DataW.trod_bool Tryd.underlying4 h
  exact ⟨b, by simpa using hb⟩
theorem len1 {α : Type} {l : List α} (h : l.length = 1) : ∃ a, l = [a] := List.length_eq_one_iff.1 h
set_option maxRecDepth 100000 in
set_option maxHeartbeats 1000000 in
/-- an event that reads. -/
theorem field_ev {n : Nat} {cs : List Value} {y : DataW H × List MemPlace} (hl : cs.length = 10) (h : DataW.trod enc Tryd.prog W 0 (fun _ => true) true n 28 cs = some y) :
    ∃ x : Ev, cs = [.int .i64 x.wh, .int .i64 x.th, .int .i64 x.kd, .int .i64 x.ck, .int .i64 x.cv, .int .i64 x.cn, .int .i64 x.er, .int .i64 x.an, .bool x.ex, .int .i64 x.nd] ∧ EvOk x := by
  obtain ⟨xs, n, _, _, _, hlen, hfd⟩ := DataW.trod_struct Tryd.underlying28 h
  have c3' : Tryd.prog.cellsOf 3 = 1 := by kernel_rfl
  have c4' : Tryd.prog.cellsOf 4 = 1 := by kernel_rfl
  have ce : Tryd.prog.cellsOf 24 = 1 := by kernel_rfl
  have cc : Tryd.prog.cellsOf 23 = 3 := by kernel_rfl
  have ca : Tryd.prog.cellsOf 26 = 4 := by kernel_rfl
  match cs, hl, xs, hlen with
  | [c0, c1, c2, c3, c4, c5, c6, c7, c8, c9], _, [y0, y1, y2, y3, y4], _ =>
    have g0 := hfd 0 _ rfl
    have g1 := hfd 1 _ rfl
    have g2 := hfd 2 _ rfl
    have g3 := hfd 3 _ rfl
    have g4 := hfd 4 _ rfl
    simp only [c3', cc, ca, List.drop_zero, List.drop_succ_cons, List.take_succ_cons, List.take_zero, List.getElem?_cons_zero, List.getElem?_cons_succ] at g0 g1 g2 g3 g4
    obtain ⟨n0, rfl, b0⟩ := field_i g0
    obtain ⟨n1, rfl, b1⟩ := field_i g1
    obtain ⟨n2, rfl, b2⟩ := field_i g2
    obtain ⟨zs, m, _, _, _, hlen3, hf3⟩ := DataW.trod_struct Tryd.underlying23 g3
    obtain ⟨us, m4, _, _, _, hlen4, hf4⟩ := DataW.trod_struct Tryd.underlying26 g4
    match zs, hlen3, us, hlen4 with
    | [z0, z1, z2], _, [u0, u1, u2, u3], _ =>
      have k0 := hf3 0 _ rfl
      have k1 := hf3 1 _ rfl
      have k2 := hf3 2 _ rfl
      have l0 := hf4 0 _ rfl
      have l1 := hf4 1 _ rfl
      have l2 := hf4 2 _ rfl
      have l3 := hf4 3 _ rfl
      simp only [c3', c4', ce, List.drop_zero, List.drop_succ_cons, List.take_succ_cons, List.take_zero, List.getElem?_cons_zero, List.getElem?_cons_succ] at k0 k1 k2 l0 l1 l2 l3
      obtain ⟨n3, rfl, b3⟩ := field_i k0
      obtain ⟨n4, rfl, b4⟩ := field_i k1
      obtain ⟨n5, rfl, b5⟩ := field_i k2
      obtain ⟨n6, rfl, b6⟩ := field_errno l0
      obtain ⟨n7, rfl, b7⟩ := field_i l1
      obtain ⟨b, rfl⟩ := field_b l2
      obtain ⟨n8, rfl, b8⟩ := field_i l3
      exact ⟨⟨n0, n1, n2, n3, n4, n5, n6, n7, b, n8⟩, rfl, ⟨b0, b1, b2, b3, b4, b5, b6, b7, b8⟩⟩
set_option maxRecDepth 100000 in
theorem open_ev {r : Reach} {b0 : Nat} {v : Value} {d : DataW H} {p : List MemPlace} (hv : Value.okWide Tryd.prog W r b0 28 v) (h : DataW.Trod enc Tryd.prog W 0 (fun _ => true) true 28 v d p) :
    ∃ x : Ev, v = .agg #[.int .i64 x.wh, .int .i64 x.th, .int .i64 x.kd, .int .i64 x.ck, .int .i64 x.cv, .int .i64 x.cn, .int .i64 x.er, .int .i64 x.an, .bool x.ex, .int .i64 x.nd] ∧ EvOk x := by
  have hu := Tryd.underlying28
  obtain ⟨cs, rfl, hsz⟩ := Go.WideShapes.okWide_struct hu hv
  have hC : Tryd.prog.cellsOf 28 = 10 := by kernel_rfl
  obtain ⟨fuel, hf⟩ := h
  obtain ⟨x, hx, hb⟩ := field_ev (n := fuel) (cs := cs.toList) (by rw [Array.length_toList]; exact hsz.trans hC) hf
  refine ⟨x, ?_, hb⟩
  obtain ⟨cl⟩ := cs
  simp only at hx
  rw [hx]
set_option maxRecDepth 100000 in
theorem open_evs {r : Reach} {b0 : Nat} {v : Value} {d : DataW H} {p : List MemPlace} (hv : Value.okWide Tryd.prog W r b0 29 v) (h : DataW.Trod enc Tryd.prog W 0 (fun _ => true) true 29 v d p) :
    (v = .slice none 0 0) ∨ ∃ (l : List Ev) (ad : Addr) (n c : Nat), v = .slice (some ad) n c ∧ IsEvs W (.slice (some ad) n c) l := by
  obtain ⟨A, n, c, rfl⟩ := Go.WideShapes.okWide_slice Tryd.underlying29 hv
  obtain ⟨fuel, hf⟩ := h
  have hf' : DataW.trod enc Tryd.prog W 0 (fun _ => true) true fuel 29 [.slice A n c] = some (d, p) := hf
  rcases DataW.trod_slice Tryd.underlying29 hf' with ⟨hcs, _⟩ | ⟨a, len, cap, _, _, _, _, hcs, _⟩
  · exact .inl (by simpa using hcs)
  · obtain ⟨rfl, rfl, rfl⟩ : A = some a ∧ n = len ∧ c = cap := by simpa using hcs
    obtain ⟨xs, A', c', he, hc, hC, hP⟩ := open_row kEv EvOk Tryd.underlying29 (by kernel_rfl) (fun n cs y hl hh => by
      obtain ⟨x, rfl, hb⟩ := field_ev hl hh
      exact ⟨x, kEv_mk _ x, hb⟩) hf'
    exact .inr ⟨xs, a, n, c, rfl, A', c', he, hc, hC, hP⟩
end
end Go.Proofs.YtfolhicnbabldaaDoor.PR
