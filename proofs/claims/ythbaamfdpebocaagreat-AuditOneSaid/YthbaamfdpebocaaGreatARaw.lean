import Derived.Test.YthbaamfdpebocaaGreatHPlan
import Derived.RangeFuncNested
import Derived.RangeFuncBound
import Derived.RangeFuncCalls
import Derived.RangeFuncLeaves
import Derived.RangeFuncBox
import Derived.Shelf.Abstract
import Derived.Shelf.RegionOpen
import Derived.OwnWalkIn
import Derived.TacticsInMore
import Derived.LoopNIn
import Derived.LoopIn
import Derived.Lib.QuietBelow
import Derived.Deep.RegionHeld3
import Derived.Deep.RegionLaw
import Derived.Laws.CopyOwn
import Derived.Laws.EntriesVeiled
import Derived.Deep.DeepCutAuto
import Derived.Deep.MidRow
import Derived.Deep.Heap
import Derived.Lib.SmallJoins
import Derived.ChangeKeysEq
namespace Go.Proofs.YthbaamfdpebocaaGreat.PA
open Go.RowKit Go.Shelf Go.Proofs.YthbaamfdpebocaaGreatW.PrintWords Go.Proofs.YthbaamfdpebocaaGreatW.PrintLast Go.Proofs.YthbaamfdpebocaaGreatW.PrintMore
attribute [local go_sem] max2_int min2_int max_two min_two max_three min_three max_four min_four
set_option linter.unusedVariables false
set_option linter.unusedSimpArgs false
section
def OW (B : Nat) (w : World) (g n cap : Nat) (xs : List Int) : Prop := Kd.R (Kd.int .i64) 3 w B (fun _ => True) (.slice (some ⟨g, 0, none⟩) n cap) xs
theorem OW.of_R {B : Nat} {w : World} {v : Value} {xs : List Int} (h : Kd.R (Kd.int .i64) 3 w B (fun _ => True) v xs) (hp : 0 < xs.length) : ∃ g cap, v = .slice (some ⟨g, 0, none⟩) xs.length cap ∧ OW B w g xs.length cap xs := by
  obtain ⟨g, cap, rfl, _⟩ := Kd.R_form h hp
  exact ⟨g, cap, rfl, h⟩
theorem RI_below {B : Nat} {w w' : World} {v : Value} {xs : List Int} (h : Kd.R (Kd.int .i64) 3 w B (fun _ => True) v xs) (hb : Below w.heap.size w w') : Kd.R (Kd.int .i64) 3 w' B (fun _ => True) v xs :=
  Kd.R_mono (Kd.R_step (Kd.R_bound h) (fun k hk _ => hb.block k hk.2.2.1)) (fun _ _ => trivial)
theorem OW.len {B : Nat} {w : World} {g n cap : Nat} {xs : List Int} (h : OW B w g n cap xs) : n = xs.length := (IsInts.of_R h).len
theorem OW.below {B : Nat} {w w' : World} {g n cap : Nat} {xs : List Int} (h : OW B w g n cap xs) (hb : Below w.heap.size w w') : OW B w' g n cap xs :=
  Kd.R_mono (Kd.R_step (Kd.R_bound h) (fun k hk _ => hb.block k hk.2.2.1)) (fun _ _ => trivial)
theorem OW.lower {B B' : Nat} {w : World} {g n cap : Nat} {xs : List Int} (h : OW B w g n cap xs) (hb : B' ≤ B) : OW B' w g n cap xs := Kd.R_lower h hb
theorem OW.ge {B : Nat} {w : World} {g n cap : Nat} {xs : List Int} (h : OW B w g n cap xs) : B ≤ g := ((Kd.R_bound h).1 g rfl).2.1
theorem OW.put {B : Nat} {w : World} {g n cap : Nat} {xs : List Int} (h : OW B w g n cap xs) (i : Nat) (x : Int) : OW B (w.setCell ⟨g, i, none⟩ (.int .i64 x)) g n cap (xs.set i x) := by
  have := Kd.R_putn h (i : Int) x
  rwa [Int.toNat_natCast] at this
theorem OW.cell {B : Nat} {w : World} {g n cap : Nat} {xs : List Int} (h : OW B w g n cap xs) (i : Nat) (hi : i < xs.length) : w.cell? ⟨g, i, none⟩ = some (.int .i64 (rd xs (i : Int))) ∧ w.frozen? ⟨g, i, none⟩ = false := by
  have hn := OW.len h
  obtain ⟨ce, hcl, hM, hcc, hfr⟩ := Kd.R_elem h 0 (i : Int) (by omega) (by omega)
  have hq := hfr 0
  have hI := IsInts.of_R h
  obtain ⟨ad, e, hc⟩ := hI.get i hi
  cases e
  refine ⟨?_, ?_⟩
  · rw [Addr.add_lit, Nat.zero_add] at hc
    exact hc
  · simpa [show (Kd.int .i64).sz = 1 from rfl] using hq
theorem ints_C {w : World} {A : Option Addr} {n c : Nat} {xs : List Int} (h : IsInts w (.slice A n c) xs) : Kd.C (Kd.int .i64) w A n xs := by
  obtain ⟨_, _, e, _, hC⟩ := h
  cases e
  exact hC
theorem OW.ints {B : Nat} {w : World} {g n cap : Nat} {xs : List Int} (h : OW B w g n cap xs) : IsInts w (.slice (some ⟨g, 0, none⟩) n cap) xs := IsInts.of_R h
/-- k words of l lie at the end of w, the first one last. -/
def rawN (l : List Int) (w : List Int) : Nat → List Int
  | 0 => w
  | k + 1 => (rawN l w k).set (w.length - 1 - k) (rd l (k : Int))
theorem rawN_len (l w : List Int) : ∀ k, (rawN l w k).length = w.length
  | 0 => rfl
  | k + 1 => by rw [rawN, List.length_set, rawN_len l w k]
theorem freshW_len (c : LConf) : (freshW c).length = (aSz c).toNat := freshL_len c _
theorem aSz_pos (c : LConf) (hc : CB c) : 10 ≤ aSz c := by
  have h1 := hc.1
  have h2 := hc.2.1
  have h3 := hc.2.2.1
  unfold aSz aTi aLim
  have : (1 : Int) * (6 + 2 * c.st) ≤ (c.ps.length : Int) * (6 + 2 * c.st) := Int.mul_le_mul_of_nonneg_right (by omega) (by omega)
  omega

set_option maxHeartbeats 8000000 in
set_option maxRecDepth 100000 in
theorem K_Raw (W : World) (c : LConf) (hc : CB c) (A6 : Option Addr) (n6 d6 : Nat) (A7 : Option Addr) (n7 d7 : Nat) (A : Option Addr) (n d : Nat) (l : List Int) (h6 : IsInts W (.slice A6 n6 d6) c.ps) (h7 : IsInts W (.slice A7 n7 d7) c.ls) (hl : IsInts W (.slice A n d) l) (hln : l.length ≤ 1000) :
    Calls Tryz.prog 12 #[.agg #[.int .i64 c.th, .int .i64 c.st, .int .i64 c.ga, .int .i64 c.le, .int .i64 c.re, .int .i64 c.ti, .slice A6 n6 d6, .slice A7 n7 d7], .slice A n d] W fun e w' => ∃ g cap, e = .returned (.slice (some ⟨g, 0, none⟩) (aSz c).toNat cap) ∧ OW W.heap.size w' g (aSz c).toNat cap (rawN l (freshW c) (min l.length (freshW c).length)) ∧ Below W.heap.size W w' := by
  have hus := Tryz.underlying24
  have hum := Tryz.underlying43
  have HC := Aside0.mk hc
  have H6 := Aside0.mk h6
  have H7 := Aside0.mk h7
  have HL := Aside0.mk hl
  have hn := Aside0.mk hl.len
  have HLN := Aside0.mk hln
  obtain ⟨sz, hsz⟩ : ∃ sz : Nat, (aSz c).toNat = sz := ⟨_, rfl⟩
  have hsz2 : 10 ≤ sz ∧ sz ≤ 100000 := by have h1 := aSz_bound c hc; have h2 := aSz_pos c hc; omega
  have HSZ := Aside0.mk hsz2
  have hfl : Aside0 ((freshW c).length = sz) := ⟨(freshW_len c).trans hsz⟩
  rw [hsz]
  clear h6 h7 hl hc hln hsz hsz2
  go_enter Tryz.func12, Tryz.ntmps12
  go_upto_region 1 with (fail)
  obtain ⟨w1, hX⟩ : ∃ X, W.alloc (.cells #[.int .i64 c.th, .int .i64 c.st, .int .i64 c.ga, .int .i64 c.le, .int .i64 c.re, .int .i64 c.ti, .slice A6 n6 d6, .slice A7 n7 d7] 24) = X := ⟨_, rfl⟩
  have B1 : Aside0 (Below W.heap.size W w1) := ⟨by rw [← hX]; exact below_alloc (Below.refl _ _) _⟩
  have X1 : Aside0 (w1.heap[W.heap.size]? = some (.cells #[.int .i64 c.th, .int .i64 c.st, .int .i64 c.ga, .int .i64 c.le, .int .i64 c.re, .int .i64 c.ti, .slice A6 n6 d6, .slice A7 n7 d7] 24 (0, 0))) := ⟨by rw [← hX]; exact blk_new _ _⟩
  rw [hX]
  clear hX
  go_wp2_with (first
    | ((with_reducible refine gate_builtin (b := .append) (xs := #[.tmp 7, .tmp 12]) rfl ?_); at_builtin; refine Kd.R_append_rows (Kd.int .i64) (w0 := W) W.heap.size rfl (.tmp 7) (.tmp 12) 22 3 (.int .i64 0) 8 rfl Tryz.underlying22 info3 rfl (by decide) (by decide) v1 [] (freshW c) _ _ _ (fun _ => True) (fun _ => False) rfl rfl HO3.out (ints_C HWi.out) (fun _ _ h => h) (fun _ h => h.elim) (fun _ _ => trivial) BB3.out BB3.out.size ?apl ?_; (case apl => have e := HWi.out.len; rw [hfl.out] at e; have := HSZ.out; simp; omega); intro v2 w4 ho hb hg hat; clear hg hat; rw [List.nil_append] at ho; obtain ⟨g, cap, e, ho⟩ := OW.of_R ho (by rw [hfl.out]; have := HSZ.out; omega); rw [hfl.out] at e ho; subst e; have HO2 := Aside0.mk ho; have HB2 := Aside0.mk hb; clear ho hb m0)
    | (go_at_call 25; (with_reducible refine KF.out.mono ?_); rintro e w3 ⟨mb, rfl, hmb, hm, hb⟩; have BB3 : Aside0 (Below W.heap.size W w3) := ⟨B2.out.trans (hb.mono B2.out.size)⟩; have HO3 := Aside0.mk (RI_below HO1.out hb); obtain ⟨hB, Am, nm, cm, vL, hh, hw, -⟩ := hm; have HWi := Aside0.mk hw.1; have m0 : w3.cell? ⟨mb, 0, none⟩ = some (.slice Am nm cm) := (blk_cell hh 0).trans rfl; clear hb hmb hB hh hw z0 z1 z2 z3 z4 z5 z6 z7)
    | ((with_reducible refine gate_dst (N := 7) rfl ?_); refine Kd.R_lit (Kd.int .i64) (w0 := w1) w1.heap.size 3 ?hg (N := 7) ?hd (xs := ([] : List Int)) (inner := []) (ok := fun _ => True) (okp := fun _ => True) ?hr ?hp (fun _ hk => hk) trivial (Below.refl _ _) (Nat.le_refl _) (by simp) ?_; (case hd => rfl); (case hg => rfl); (case hr => first | (go_simp; done) | (go_simp; rfl)); (case hp => exact (Reps.none _ _)); intro v1 w2 ho hb hg_ hnew_; clear hg_ hnew_; have HO1 := Aside0.mk (Kd.R_lower ho B1.out.size); have B2 : Aside0 (Below W.heap.size W w2) := ⟨B1.out.trans (hb.mono B1.out.size)⟩; have X2 : Aside0 (w2.heap[W.heap.size]? = some (.cells #[.int .i64 c.th, .int .i64 c.st, .int .i64 c.ga, .int .i64 c.le, .int .i64 c.re, .int .i64 c.ti, .slice A6 n6 d6, .slice A7 n7 d7] 24 (0, 0))) := ⟨(hb.block _ (blk_lt X1.out)).trans X1.out⟩; clear ho hb; have KF := Aside0.mk (K_Fresh w2 c HC.out A6 n6 d6 A7 n7 d7 (H6.out.below B2.out) (H7.out.below B2.out)); obtain ⟨z0, z1, z2, z3, z4, z5, z6, z7⟩ := box8 X2.out))
  go_loopg [6] sz (fun gg s6 wr => ∃ kk : Nat, kk ≤ l.length ∧ kk ≤ sz ∧ sz - kk ≤ gg ∧ s6 = .int .i64 kk ∧ Aside0 (Below W.heap.size W wr) ∧ Aside0 (OW W.heap.size wr g sz cap (rawN l (freshW c) kk)))
  case atStart => exact ⟨0, Nat.zero_le _, Nat.zero_le _, by omega, rfl, HB2, HO2⟩
  case round =>
    obtain ⟨kk, hkl, hkz, hg', rfl, BW, BO⟩ := hrel
    clear HB2 HO2
    by_cases h1 : kk < l.length
    · have t1 : decide ((kk : Int) < (n : Int)) = true := decide_eq_true (by have := hn.out; omega)
      by_cases h2 : kk < sz
      · have t2 : decide ((kk : Int) < (sz : Int)) = true := decide_eq_true (by omega)
        obtain ⟨j, hj⟩ : ∃ j, sz - 1 - kk = j := ⟨_, rfl⟩
        have hz := HSZ.out
        have HJ := Aside0.mk (OW.cell BO.out j (by rw [rawN_len, hfl.out]; omega))
        have f0 := HJ.out.2
        have c0 := HJ.out.1
        have e1 : IntKind.i64.wrap ((sz : Int) - 1) = ((sz - 1 : Nat) : Int) := by rw [IntKind.wrap_i64]; omega
        have e2 : IntKind.i64.wrap (((sz - 1 : Nat) : Int) - (kk : Int)) = (j : Int) := by rw [IntKind.wrap_i64]; omega
        have k0 : (0 : Int) ≤ (kk : Int) := by omega
        have k1 : (kk : Int) < (n : Int) := by have := hn.out; omega
        have j0 : (0 : Int) ≤ (j : Int) := by omega
        have j1 : (j : Int) < (sz : Int) := by omega
        obtain ⟨ad, rfl, y0⟩ := (HL.out.below BW.out).get kk h1
        have HJ2 : Aside0 (sz - 1 - kk = j) := ⟨hj⟩
        clear hz hj
        go_wp2_with (fail)
        go_roundg (sz - (kk + 1))
        case measure => omega
        case rel => exact ⟨kk + 1, by omega, by omega, by omega, congrArg (Value.int .i64) (by have := HSZ.out; rw [w64 (by omega) (by omega)]; omega), ⟨BW.out.setCell (p := ⟨g, j, none⟩) BO.out.ge _⟩, ⟨by rw [rawN, hfl.out, HJ2.out]; exact BO.out.put j _⟩⟩
      · have t2 : decide ((kk : Int) < (sz : Int)) = false := decide_eq_false (by omega)
        have k1 : (kk : Int) < (n : Int) := by have := hn.out; omega
        have z1 : (sz : Int) ≤ (kk : Int) := by omega
        have e0 : min l.length (freshW c).length = kk := by rw [hfl.out]; omega
        have HE := Aside0.mk e0
        clear e0
        go_wp2_with (fail)
        go_ret
        exact ⟨g, cap, rfl, by rw [HE.out]; exact BO.out, BW.out⟩
    · have t1 : decide ((kk : Int) < (n : Int)) = false := decide_eq_false (by have := hn.out; omega)
      have z1 : (n : Int) ≤ (kk : Int) := by have := hn.out; omega
      have e0 : min l.length (freshW c).length = kk := by rw [hfl.out]; omega
      have HE := Aside0.mk e0
      clear e0
      go_wp2_with (fail)
      go_ret
      exact ⟨g, cap, rfl, by rw [HE.out]; exact BO.out, BW.out⟩
end
end Go.Proofs.YthbaamfdpebocaaGreat.PA
