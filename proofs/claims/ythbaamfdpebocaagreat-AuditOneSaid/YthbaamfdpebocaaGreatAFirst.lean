import Derived.Test.YthbaamfdpebocaaGreatPAx2
import Derived.RangeFuncNested
import Derived.RangeFuncBound
import Derived.RangeFuncCalls
import Derived.RangeFuncLeaves
import Derived.RangeFuncBox
import Derived.Shelf.Abstract
import Derived.Shelf.RegionOpen
import Derived.OwnWalkIn
import Derived.TacticsInMore
import Derived.LoopNIn
import Derived.LoopIn
import Derived.Lib.QuietBelow
import Derived.Deep.RegionHeld3
import Derived.Deep.RegionLaw
import Derived.Laws.CopyOwn
import Derived.Laws.EntriesVeiled
import Derived.Deep.DeepCutAuto
import Derived.Deep.MidRow
namespace Go.Proofs.YthbaamfdpebocaaGreat.PA
open Go.RowKit Go.Shelf Go.Proofs.YthbaamfdpebocaaGreatW.PrintWords Go.Proofs.YthbaamfdpebocaaGreatW.PrintLast Go.Proofs.YthbaamfdpebocaaGreatW.PrintMore
attribute [local go_sem] max2_int min2_int max_two min_two max_three min_three max_four min_four
set_option linter.unusedVariables false
set_option linter.unusedSimpArgs false
section
/-- does a node pass? -/
def allG (g : Nat → Int → Int → Option Bool) (v at_ : Int) : List Nat → Option Bool
  | [] => some true
  | f :: l => (g f v at_).bind fun b => if b = true then allG g v at_ l else some false
theorem allG_nil {g : Nat → Int → Int → Option Bool} {v at_ : Int} {b : Bool} (h : allG g v at_ [] = some b) : b = true := by cases h; rfl
theorem hf_true {b : Bool} {A B r : Option Int} (hb : b = true) (h : (if b = true then A else B) = r) : A = r := by subst hb; exact h
theorem hf_false {b : Bool} {A B r : Option Int} (hb : b = false) (h : (if b = true then A else B) = r) : B = r := by subst hb; exact h
theorem meas_next {l v : Nat} {x : Int} (hx : x = ((v + 1 : Nat) : Int)) (h : v + 1 ≤ l) : ((l : Int) - intOf (.int .i64 x)).toNat < ((l : Int) - intOf (.int .i64 (v : Int))).toNat := by
  subst hx
  simp only [intOf]
  omega
theorem there_of {w : World} {b : Nat} {cs : Array Value} {t : TypeId} {n : Nat} (h : w.heap[b]? = some (.cells cs t (0, 0))) (hn : cs.size = n) : w.there b 0 n := fun j hj => by
  subst hn
  rw [Nat.zero_add]
  exact ⟨by rw [blk_cell h j]; simp [hj], blk_frozen h j⟩
theorem below_cells {B : Nat} {a : World} : ∀ {vs : List Value} {b : World} (_ : Below B a b) {g : Nat} (_ : B ≤ g) (o : Nat), Below B a (b.setCells g o vs)
  | [], _, h, _, _, _ => h
  | v :: l, b, h, g, hg, o => below_cells (vs := l) (h.setCell (p := ⟨g, o, none⟩) hg v) hg (o + 1)
def firstL (ctr : Int → Option Int) (g : Nat → Int → Int → Option Bool) (fs : List Nat) : Nat → Int → Option Int
  | 0, _ => some (-1)
  | m + 1, v => (ctr v).bind fun at_ => (allG g v at_ fs).bind fun b => if b = true then firstL ctr g fs m (v + 1) else some v
set_option maxRecDepth 100000 in
set_option maxHeartbeats 8000000 in
theorem first3_calls (g : Nat → Int → Int → Option Bool) (a0_0 : Int) (a0_1 : Int) (a0_2 : Int) (a0_3 : Int) (a0_4 : Int) (a0_5 : Int) (A0_6 : Option Addr) (c0_6 : Nat) (l0_6 : List Int) (A0_7 : Option Addr) (c0_7 : Nat) (l0_7 : List Int) (A1 : Option Addr) (c1 : Nat) (l1 : List Int) (B : Addr) (ca : Nat) (r : Int) (w : World) (hr0_6 : Kd.C (Kd.int .i64) w A0_6 l0_6.length l0_6) (hc0_6 : l0_6.length ≤ c0_6) (hr0_7 : Kd.C (Kd.int .i64) w A0_7 l0_7.length l0_7) (hc0_7 : l0_7.length ≤ c0_7)
    (hlen : l0_6.length < 1000000)
    (hask : ∀ (i f : Nat), ([33, 34, 35] : List Nat)[i]? = some f → w.cell? (B.add i) = some (.func (.func f) #[] #[]))
    (hG : ∀ f ∈ ([33, 34, 35] : List Nat), ∀ (v at_ : Int) (b : Bool) (W : World), Below w.heap.size w W → g f v at_ = some b → Calls Tryz.prog f #[.agg #[.int .i64 a0_0, .int .i64 a0_1, .int .i64 a0_2, .int .i64 a0_3, .int .i64 a0_4, .int .i64 a0_5, .slice A0_6 l0_6.length c0_6, .slice A0_7 l0_7.length c0_7, .slice A1 l1.length c1, .int .i64 v, .int .i64 at_]] W fun e w' => e = .returned (.bool b) ∧ Below W.heap.size W w')
    (h : firstL (plan_Counter.f a0_0 a0_1 a0_2 a0_3 a0_4 a0_5 l0_6 l0_7) g [33, 34, 35] l0_6.length 0 = some r) :
    Calls Tryz.prog 32 #[.agg #[.int .i64 a0_0, .int .i64 a0_1, .int .i64 a0_2, .int .i64 a0_3, .int .i64 a0_4, .int .i64 a0_5, .slice A0_6 l0_6.length c0_6, .slice A0_7 l0_7.length c0_7], .slice A1 l1.length c1, .slice (some B) 3 ca] w fun e w' => e = .returned (.int .i64 r) ∧ Below w.heap.size w w' := by
  have hu := Tryz.underlying24
  have hB0 : Below w.heap.size w (w.alloc (.cells #[.int .i64 a0_0, .int .i64 a0_1, .int .i64 a0_2, .int .i64 a0_3, .int .i64 a0_4, .int .i64 a0_5, .slice A0_6 l0_6.length c0_6, .slice A0_7 l0_7.length c0_7] 24)) := (Below.refl _ w).alloc (Nat.le_refl _) _
  have H6 := Aside0.mk hr0_6
  have H7 := Aside0.mk hr0_7
  have HA := Aside0.mk hask
  have HG := Aside0.mk hG
  have H := Aside0.mk h
  have HB0 := Aside0.mk hB0
  have HL := Aside0.mk hlen
  clear hr0_6 hr0_7 hask hG h hB0 hlen
  go_enter Tryz.func32, Tryz.ntmps32
  go_wp2
  go_loopw [14] (fun p wr => ∃ v : Nat, p = .int .i64 (v : Int) ∧ v ≤ l0_6.length ∧ firstL (plan_Counter.f a0_0 a0_1 a0_2 a0_3 a0_4 a0_5 l0_6 l0_7) g [33, 34, 35] (l0_6.length - v) (v : Int) = some r ∧ Below w.heap.size w wr ∧ w.heap.size < wr.heap.size ∧ wr.heap[w.heap.size]? = some (.cells #[.int .i64 a0_0, .int .i64 a0_1, .int .i64 a0_2, .int .i64 a0_3, .int .i64 a0_4, .int .i64 a0_5, .slice A0_6 l0_6.length c0_6, .slice A0_7 l0_7.length c0_7] 24 (0, 0)))
    (fun p _ => (l0_6.length - intOf p).toNat)
  case atStart => exact ⟨0, rfl, Nat.zero_le _, H.out, HB0.out, by simp, blk_new w _⟩
  case round =>
    obtain ⟨v, rfl, hv, hfirst, hB, hsz, hbc⟩ := hrel
    obtain ⟨wo, rfl⟩ : ∃ X, X = wr := ⟨wr, rfl⟩
    by_cases hlt : (v : Int) < (l0_6.length : Int)
    · have hlb : decide ((v : Int) < (l0_6.length : Int)) = true := decide_eq_true hlt
      obtain ⟨m, hm⟩ : ∃ m, l0_6.length - v = m + 1 := ⟨l0_6.length - v - 1, by omega⟩
      rw [hm] at hfirst
      simp only [firstL] at hfirst
      obtain ⟨at_, hat, hfirst⟩ := Option.bind_eq_some_iff.1 hfirst
      obtain ⟨b, hall, hfirst⟩ := Option.bind_eq_some_iff.1 hfirst
      have f0 : wo.cell? ⟨w.heap.size, 0, none⟩ = some (.int .i64 a0_0) := (blk_cell hbc 0).trans rfl
      have f1 : wo.cell? ⟨w.heap.size, 1, none⟩ = some (.int .i64 a0_1) := (blk_cell hbc 1).trans rfl
      have f2 : wo.cell? ⟨w.heap.size, 2, none⟩ = some (.int .i64 a0_2) := (blk_cell hbc 2).trans rfl
      have f3 : wo.cell? ⟨w.heap.size, 3, none⟩ = some (.int .i64 a0_3) := (blk_cell hbc 3).trans rfl
      have f4 : wo.cell? ⟨w.heap.size, 4, none⟩ = some (.int .i64 a0_4) := (blk_cell hbc 4).trans rfl
      have f5 : wo.cell? ⟨w.heap.size, 5, none⟩ = some (.int .i64 a0_5) := (blk_cell hbc 5).trans rfl
      have f6 : wo.cell? ⟨w.heap.size, 6, none⟩ = some (.slice A0_6 l0_6.length c0_6) := (blk_cell hbc 6).trans rfl
      have f7 : wo.cell? ⟨w.heap.size, 7, none⟩ = some (.slice A0_7 l0_7.length c0_7) := (blk_cell hbc 7).trans rfl
      have BW := Aside0.mk hB
      have KC := Aside0.mk (plan_Counter.calls a0_0 a0_1 a0_2 a0_3 a0_4 a0_5 A0_6 c0_6 l0_6 A0_7 c0_7 l0_7 (v : Int) at_)
      have HAT := Aside0.mk hat
      have HF := Aside0.mk (And.intro hall hfirst)
      have HBC := Aside0.mk hbc
      clear hB hat hall hfirst hbc
      have keepS : ∀ w' : World, Below wo.heap.size wo w' → (Below wo.heap.size wo w' ∧ w'.cell? ⟨w.heap.size, 0, none⟩ = some (.int .i64 a0_0) ∧ w'.cell? ⟨w.heap.size, 1, none⟩ = some (.int .i64 a0_1) ∧ w'.cell? ⟨w.heap.size, 2, none⟩ = some (.int .i64 a0_2) ∧ w'.cell? ⟨w.heap.size, 3, none⟩ = some (.int .i64 a0_3) ∧ w'.cell? ⟨w.heap.size, 4, none⟩ = some (.int .i64 a0_4) ∧ w'.cell? ⟨w.heap.size, 5, none⟩ = some (.int .i64 a0_5) ∧ w'.cell? ⟨w.heap.size, 6, none⟩ = some (.slice A0_6 l0_6.length c0_6) ∧ w'.cell? ⟨w.heap.size, 7, none⟩ = some (.slice A0_7 l0_7.length c0_7)) := fun w' hb => ⟨hb, (hb.cell (p := ⟨w.heap.size, 0, none⟩) (World.block_lt_of_cell? wo _ f0)).trans f0, (hb.cell (p := ⟨w.heap.size, 1, none⟩) (World.block_lt_of_cell? wo _ f1)).trans f1, (hb.cell (p := ⟨w.heap.size, 2, none⟩) (World.block_lt_of_cell? wo _ f2)).trans f2, (hb.cell (p := ⟨w.heap.size, 3, none⟩) (World.block_lt_of_cell? wo _ f3)).trans f3, (hb.cell (p := ⟨w.heap.size, 4, none⟩) (World.block_lt_of_cell? wo _ f4)).trans f4, (hb.cell (p := ⟨w.heap.size, 5, none⟩) (World.block_lt_of_cell? wo _ f5)).trans f5, (hb.cell (p := ⟨w.heap.size, 6, none⟩) (World.block_lt_of_cell? wo _ f6)).trans f6, (hb.cell (p := ⟨w.heap.size, 7, none⟩) (World.block_lt_of_cell? wo _ f7)).trans f7⟩
      have KS := Aside0.mk keepS
      clear keepS
      go_wp2_with (fail)
      refine wp_region_held_drew (S := (fun w' => Below wo.heap.size wo w' ∧ w'.cell? ⟨w.heap.size, 0, none⟩ = some (.int .i64 a0_0) ∧ w'.cell? ⟨w.heap.size, 1, none⟩ = some (.int .i64 a0_1) ∧ w'.cell? ⟨w.heap.size, 2, none⟩ = some (.int .i64 a0_2) ∧ w'.cell? ⟨w.heap.size, 3, none⟩ = some (.int .i64 a0_3) ∧ w'.cell? ⟨w.heap.size, 4, none⟩ = some (.int .i64 a0_4) ∧ w'.cell? ⟨w.heap.size, 5, none⟩ = some (.int .i64 a0_5) ∧ w'.cell? ⟨w.heap.size, 6, none⟩ = some (.slice A0_6 l0_6.length c0_6) ∧ w'.cell? ⟨w.heap.size, 7, none⟩ = some (.slice A0_7 l0_7.length c0_7))) (by kernel_rfl) ?_ (fun hHeld => ?_)
      · (try dsimp only)
        exact KS.out _ (by with_reducible first | exact below_drew1 (Below.refl _ _) | exact below_drew1 ((Below.refl _ _).alloc (Nat.le_refl _) _) | exact hHeld.1.trans (hb.mono hHeld.1.size) | exact hHeld.1.alloc hHeld.1.size _ | exact HW2.out.alloc HW2.out.size _ | exact below_cells HW2.out (Nat.le_refl _) _)
      refine wpAnyH_take (i := 0) (oi := _) (v := ?_) ((List.getElem?_toArray ..).trans rfl) (by kernel_rfl) (by kernel_rfl) (by kernel_rfl) (fun _ _ _ h => h) (Or.inl ⟨by rfl, ?_⟩) (by assumption) ?_
      rotate_left
      · (intro w hSw; (try dsimp only at hSw); go_simp; (try with_reducible rfl))
      (try simp only [Act.put, List.setIfInBounds_toArray, List.set_cons_zero, List.set_cons_succ])
      refine wpAnyH_take (i := 1) (oi := _) (v := ?_) ((List.getElem?_toArray ..).trans rfl) (by kernel_rfl) (by kernel_rfl) (by kernel_rfl) (fun _ _ _ h => h) (Or.inl ⟨by rfl, ?_⟩) (by assumption) ?_
      rotate_left
      · (intro w hSw; (try dsimp only at hSw); go_simp; (try with_reducible rfl))
      (try simp only [Act.put, List.setIfInBounds_toArray, List.set_cons_zero, List.set_cons_succ])
      refine wpAnyH_take (i := 2) (oi := _) (v := ?_) ((List.getElem?_toArray ..).trans rfl) (by kernel_rfl) (by kernel_rfl) (by kernel_rfl) (fun _ _ _ h => h) (Or.inl ⟨by rfl, ?_⟩) (by assumption) ?_
      rotate_left
      · (intro w hSw; (try dsimp only at hSw); go_simp; (try with_reducible rfl))
      (try simp only [Act.put, List.setIfInBounds_toArray, List.set_cons_zero, List.set_cons_succ])
      refine wpAnyH_take (i := 3) (oi := _) (v := ?_) ((List.getElem?_toArray ..).trans rfl) (by kernel_rfl) (by kernel_rfl) (by kernel_rfl) (fun _ _ _ h => h) (Or.inl ⟨by rfl, ?_⟩) (by assumption) ?_
      rotate_left
      · (intro w hSw; (try dsimp only at hSw); go_simp; (try with_reducible rfl))
      (try simp only [Act.put, List.setIfInBounds_toArray, List.set_cons_zero, List.set_cons_succ])
      refine wpAnyH_take (i := 4) (oi := _) (v := ?_) ((List.getElem?_toArray ..).trans rfl) (by kernel_rfl) (by kernel_rfl) (by kernel_rfl) (fun _ _ _ h => h) (Or.inl ⟨by rfl, ?_⟩) (by assumption) ?_
      rotate_left
      · (intro w hSw; (try dsimp only at hSw); go_simp; (try with_reducible rfl))
      (try simp only [Act.put, List.setIfInBounds_toArray, List.set_cons_zero, List.set_cons_succ])
      refine wpAnyH_ready (rs := [5, 7]) (by kernel_rfl) (by simp) ?_
      refine AllReadyH.cons (i := 5) (o := _) ((List.getElem?_toArray ..).trans rfl) (fun K hK => ?_) ?_
      · go_simp
        refine (KC.out _ (Kd.C_below H6.out (BW.out.trans (hHeld.1.mono BW.out.size))) hc0_6 (Kd.C_below H7.out (BW.out.trans (hHeld.1.mono BW.out.size))) hc0_7 HAT.out).mono ?_; rintro e w2 ⟨rfl, hb⟩; have HW2 := Aside0.mk (hHeld.1.trans (hb.mono hHeld.1.size))
        refine hK.out _ _ ?_ (fun hHeld => ?_)
        · (try dsimp only)
          exact KS.out _ (by with_reducible first | exact below_drew1 (Below.refl _ _) | exact below_drew1 ((Below.refl _ _).alloc (Nat.le_refl _) _) | exact hHeld.1.trans (hb.mono hHeld.1.size) | exact hHeld.1.alloc hHeld.1.size _ | exact HW2.out.alloc HW2.out.size _ | exact below_cells HW2.out (Nat.le_refl _) _)
        clear hK K
        (try simp only [Act.put, List.setIfInBounds_toArray, List.set_cons_zero, List.set_cons_succ])
        refine wpAnyH_take (i := 6) (oi := _) (v := ?_) ((List.getElem?_toArray ..).trans rfl) (by kernel_rfl) (by kernel_rfl) (by kernel_rfl) (fun _ _ _ h => h) (Or.inl ⟨by rfl, ?_⟩) (by assumption) ?_
        rotate_left
        · (intro w hSw; (try dsimp only at hSw); go_simp; (try with_reducible rfl))
        (try simp only [Act.put, List.setIfInBounds_toArray, List.set_cons_zero, List.set_cons_succ])
        refine wpAnyH_ready (rs := [7]) (by kernel_rfl) (by simp) ?_
        refine AllReadyH.cons (i := 7) (o := _) ((List.getElem?_toArray ..).trans rfl) (fun K hK => ?_) ?_
        · go_simp
          refine hK.out _ _ ?_ (fun hHeld => ?_)
          · (try dsimp only)
            exact KS.out _ (by with_reducible first | exact below_drew1 (Below.refl _ _) | exact below_drew1 ((Below.refl _ _).alloc (Nat.le_refl _) _) | exact hHeld.1.trans (hb.mono hHeld.1.size) | exact hHeld.1.alloc hHeld.1.size _ | exact HW2.out.alloc HW2.out.size _ | exact below_cells HW2.out (Nat.le_refl _) _)
          clear hK K
          (try simp only [Act.put, List.setIfInBounds_toArray, List.set_cons_zero, List.set_cons_succ])
          refine wpAnyH_ready (rs := [8]) (by kernel_rfl) (by simp) ?_
          refine AllReadyH.cons (i := 8) (o := _) ((List.getElem?_toArray ..).trans rfl) (fun K hK => ?_) ?_
          · go_simp
            refine hK.out _ _ ?_ (fun hHeld => ?_)
            · (try dsimp only)
              exact KS.out _ (by with_reducible first | exact below_drew1 (Below.refl _ _) | exact below_drew1 ((Below.refl _ _).alloc (Nat.le_refl _) _) | exact hHeld.1.trans (hb.mono hHeld.1.size) | exact hHeld.1.alloc hHeld.1.size _ | exact HW2.out.alloc HW2.out.size _ | exact below_cells HW2.out (Nat.le_refl _) _)
            clear hK K
            (try simp only [Act.put, List.setIfInBounds_toArray, List.set_cons_zero, List.set_cons_succ])
            refine wpAnyH_done (by kernel_rfl) ?_ _
            have hW := HW2.out.alloc HW2.out.size (.cells #[.int .i64 a0_0, .int .i64 a0_1, .int .i64 a0_2, .int .i64 a0_3, .int .i64 a0_4, .int .i64 a0_5, .slice A0_6 l0_6.length c0_6, .slice A0_7 l0_7.length c0_7, .slice A1 l1.length c1, .int .i64 (v : Int), .int .i64 at_] 86)
            have hN : ∀ (j : Nat) (x : Value), (#[.int .i64 a0_0, .int .i64 a0_1, .int .i64 a0_2, .int .i64 a0_3, .int .i64 a0_4, .int .i64 a0_5, .slice A0_6 l0_6.length c0_6, .slice A0_7 l0_7.length c0_7, .slice A1 l1.length c1, .int .i64 (v : Int), .int .i64 at_]).toList[j]? = some x → (w2.alloc (.cells #[.int .i64 a0_0, .int .i64 a0_1, .int .i64 a0_2, .int .i64 a0_3, .int .i64 a0_4, .int .i64 a0_5, .slice A0_6 l0_6.length c0_6, .slice A0_7 l0_7.length c0_7, .slice A1 l1.length c1, .int .i64 (v : Int), .int .i64 at_] 86)).cell? ⟨w2.heap.size, j, none⟩ = some x := fun j x hx => (blk_cell (blk_new w2 _) j).trans (by simpa using hx)
            generalize hW3 : w2.alloc (.cells #[.int .i64 a0_0, .int .i64 a0_1, .int .i64 a0_2, .int .i64 a0_3, .int .i64 a0_4, .int .i64 a0_5, .slice A0_6 l0_6.length c0_6, .slice A0_7 l0_7.length c0_7, .slice A1 l1.length c1, .int .i64 (v : Int), .int .i64 at_] 86) = W3 at hW hN hHeld ⊢
            clear hW3 hb
            generalize w2.heap.size = nb at hN ⊢
            have n0 := hN 0 _ rfl
            have n1 := hN 1 _ rfl
            have n2 := hN 2 _ rfl
            have n3 := hN 3 _ rfl
            have n4 := hN 4 _ rfl
            have n5 := hN 5 _ rfl
            have n6 := hN 6 _ rfl
            have n7 := hN 7 _ rfl
            have n8 := hN 8 _ rfl
            have n9 := hN 9 _ rfl
            have n10 := hN 10 _ rfl
            go_wp2_with (fail)
            go_loopw [26] (fun p wi => ∃ i : Nat, p = .int .i64 (i : Int) ∧ i ≤ 3 ∧ allG g (v : Int) at_ (([33, 34, 35] : List Nat).drop i) = some b ∧ Below W3.heap.size W3 wi) (fun p _ => (3 - intOf p).toNat)
            case atStart => exact ⟨0, rfl, Nat.zero_le _, HF.out.1, Below.refl _ _⟩
            case round =>
              obtain ⟨i, rfl, hi, hal, hWi⟩ := hrel
              obtain ⟨wi, rfl⟩ : ∃ X, X = wr := ⟨wr, rfl⟩
              have hle3 : w.heap.size ≤ W3.heap.size := Nat.le_trans BW.out.size hW.size
              have hBt : Below w.heap.size w wi := BW.out.trans ((hW.mono BW.out.size).trans (hWi.mono hle3))
              by_cases hlt2 : i < 3
              · have hlb2 : decide ((i : Int) < 3) = true := decide_eq_true (by omega)
                have m0 := (hWi.cell (World.block_lt_of_cell? W3 _ n0)).trans n0
                have m1 := (hWi.cell (World.block_lt_of_cell? W3 _ n1)).trans n1
                have m2 := (hWi.cell (World.block_lt_of_cell? W3 _ n2)).trans n2
                have m3 := (hWi.cell (World.block_lt_of_cell? W3 _ n3)).trans n3
                have m4 := (hWi.cell (World.block_lt_of_cell? W3 _ n4)).trans n4
                have m5 := (hWi.cell (World.block_lt_of_cell? W3 _ n5)).trans n5
                have m6 := (hWi.cell (World.block_lt_of_cell? W3 _ n6)).trans n6
                have m7 := (hWi.cell (World.block_lt_of_cell? W3 _ n7)).trans n7
                have m8 := (hWi.cell (World.block_lt_of_cell? W3 _ n8)).trans n8
                have m9 := (hWi.cell (World.block_lt_of_cell? W3 _ n9)).trans n9
                have m10 := (hWi.cell (World.block_lt_of_cell? W3 _ n10)).trans n10
                obtain rfl | rfl | rfl : i = 0 ∨ i = 1 ∨ i = 2 := by omega
                · replace hal : (g 33 (v : Int) at_).bind (fun b => if b = true then allG g (v : Int) at_ (([33, 34, 35] : List Nat).drop 1) else some false) = some b := hal
                  obtain ⟨b1, hg1, hal⟩ := Option.bind_eq_some_iff.1 hal
                  have hcf := (hBt.cell (World.block_lt_of_cell? w _ (HA.out 0 33 rfl))).trans (HA.out 0 33 rfl)
                  have hcg : wi.cell? B = some (.func (.func 33) #[] #[]) := hcf
                  clear hcf
                  have q0 := (((Below.refl wi.heap.size wi).alloc (Nat.le_refl _) (.cells #[.func (.func 33) #[] #[]] 64)).cell (World.block_lt_of_cell? wi _ m0)).trans m0
                  have q1 := (((Below.refl wi.heap.size wi).alloc (Nat.le_refl _) (.cells #[.func (.func 33) #[] #[]] 64)).cell (World.block_lt_of_cell? wi _ m1)).trans m1
                  have q2 := (((Below.refl wi.heap.size wi).alloc (Nat.le_refl _) (.cells #[.func (.func 33) #[] #[]] 64)).cell (World.block_lt_of_cell? wi _ m2)).trans m2
                  have q3 := (((Below.refl wi.heap.size wi).alloc (Nat.le_refl _) (.cells #[.func (.func 33) #[] #[]] 64)).cell (World.block_lt_of_cell? wi _ m3)).trans m3
                  have q4 := (((Below.refl wi.heap.size wi).alloc (Nat.le_refl _) (.cells #[.func (.func 33) #[] #[]] 64)).cell (World.block_lt_of_cell? wi _ m4)).trans m4
                  have q5 := (((Below.refl wi.heap.size wi).alloc (Nat.le_refl _) (.cells #[.func (.func 33) #[] #[]] 64)).cell (World.block_lt_of_cell? wi _ m5)).trans m5
                  have q6 := (((Below.refl wi.heap.size wi).alloc (Nat.le_refl _) (.cells #[.func (.func 33) #[] #[]] 64)).cell (World.block_lt_of_cell? wi _ m6)).trans m6
                  have q7 := (((Below.refl wi.heap.size wi).alloc (Nat.le_refl _) (.cells #[.func (.func 33) #[] #[]] 64)).cell (World.block_lt_of_cell? wi _ m7)).trans m7
                  have q8 := (((Below.refl wi.heap.size wi).alloc (Nat.le_refl _) (.cells #[.func (.func 33) #[] #[]] 64)).cell (World.block_lt_of_cell? wi _ m8)).trans m8
                  have q9 := (((Below.refl wi.heap.size wi).alloc (Nat.le_refl _) (.cells #[.func (.func 33) #[] #[]] 64)).cell (World.block_lt_of_cell? wi _ m9)).trans m9
                  have q10 := (((Below.refl wi.heap.size wi).alloc (Nat.le_refl _) (.cells #[.func (.func 33) #[] #[]] 64)).cell (World.block_lt_of_cell? wi _ m10)).trans m10
                  have kG := HG.out 33 (by simp) (v : Int) at_ b1
                  cases b1 with
                  | false =>
                    have hbf : b = false := (Option.some.inj (show some false = some b from hal)).symm
                    have HFS := Aside0.mk (Option.some.inj (hf_false hbf HF.out.2))
                    go_wp2_with (go_at_call 33; (with_reducible refine (kG _ ?_ hg1).mono ?_); exact hBt.alloc (Nat.le_trans hle3 hWi.size) _; rintro e w5 ⟨rfl, hb5⟩)
                    go_ret
                    exact ⟨congrArg (fun x => Ending.returned (Value.int .i64 x)) HFS.out, (hBt.alloc hBt.size _).trans (hb5.mono (hBt.alloc hBt.size _).size)⟩
                  | true =>
                    replace hal : allG g (v : Int) at_ (([33, 34, 35] : List Nat).drop 1) = some b := hal
                    go_wp2_with (go_at_call 33; (with_reducible refine (kG _ ?_ hg1).mono ?_); exact hBt.alloc (Nat.le_trans hle3 hWi.size) _; rintro e w5 ⟨rfl, hb5⟩)
                    exact ⟨⟨1, rfl, by omega, hal, (hWi.alloc hWi.size _).trans (hb5.mono (hWi.alloc hWi.size _).size)⟩, by simp [intOf]⟩
                · replace hal : (g 34 (v : Int) at_).bind (fun b => if b = true then allG g (v : Int) at_ (([33, 34, 35] : List Nat).drop 2) else some false) = some b := hal
                  obtain ⟨b1, hg1, hal⟩ := Option.bind_eq_some_iff.1 hal
                  have hcf := (hBt.cell (World.block_lt_of_cell? w _ (HA.out 1 34 rfl))).trans (HA.out 1 34 rfl)
                  have hcg : wi.cell? ⟨B.block, B.off + 1, none⟩ = some (.func (.func 34) #[] #[]) := hcf
                  clear hcf
                  have q0 := (((Below.refl wi.heap.size wi).alloc (Nat.le_refl _) (.cells #[.func (.func 34) #[] #[]] 64)).cell (World.block_lt_of_cell? wi _ m0)).trans m0
                  have q1 := (((Below.refl wi.heap.size wi).alloc (Nat.le_refl _) (.cells #[.func (.func 34) #[] #[]] 64)).cell (World.block_lt_of_cell? wi _ m1)).trans m1
                  have q2 := (((Below.refl wi.heap.size wi).alloc (Nat.le_refl _) (.cells #[.func (.func 34) #[] #[]] 64)).cell (World.block_lt_of_cell? wi _ m2)).trans m2
                  have q3 := (((Below.refl wi.heap.size wi).alloc (Nat.le_refl _) (.cells #[.func (.func 34) #[] #[]] 64)).cell (World.block_lt_of_cell? wi _ m3)).trans m3
                  have q4 := (((Below.refl wi.heap.size wi).alloc (Nat.le_refl _) (.cells #[.func (.func 34) #[] #[]] 64)).cell (World.block_lt_of_cell? wi _ m4)).trans m4
                  have q5 := (((Below.refl wi.heap.size wi).alloc (Nat.le_refl _) (.cells #[.func (.func 34) #[] #[]] 64)).cell (World.block_lt_of_cell? wi _ m5)).trans m5
                  have q6 := (((Below.refl wi.heap.size wi).alloc (Nat.le_refl _) (.cells #[.func (.func 34) #[] #[]] 64)).cell (World.block_lt_of_cell? wi _ m6)).trans m6
                  have q7 := (((Below.refl wi.heap.size wi).alloc (Nat.le_refl _) (.cells #[.func (.func 34) #[] #[]] 64)).cell (World.block_lt_of_cell? wi _ m7)).trans m7
                  have q8 := (((Below.refl wi.heap.size wi).alloc (Nat.le_refl _) (.cells #[.func (.func 34) #[] #[]] 64)).cell (World.block_lt_of_cell? wi _ m8)).trans m8
                  have q9 := (((Below.refl wi.heap.size wi).alloc (Nat.le_refl _) (.cells #[.func (.func 34) #[] #[]] 64)).cell (World.block_lt_of_cell? wi _ m9)).trans m9
                  have q10 := (((Below.refl wi.heap.size wi).alloc (Nat.le_refl _) (.cells #[.func (.func 34) #[] #[]] 64)).cell (World.block_lt_of_cell? wi _ m10)).trans m10
                  have kG := HG.out 34 (by simp) (v : Int) at_ b1
                  cases b1 with
                  | false =>
                    have hbf : b = false := (Option.some.inj (show some false = some b from hal)).symm
                    have HFS := Aside0.mk (Option.some.inj (hf_false hbf HF.out.2))
                    go_wp2_with (go_at_call 34; (with_reducible refine (kG _ ?_ hg1).mono ?_); exact hBt.alloc (Nat.le_trans hle3 hWi.size) _; rintro e w5 ⟨rfl, hb5⟩)
                    go_ret
                    exact ⟨congrArg (fun x => Ending.returned (Value.int .i64 x)) HFS.out, (hBt.alloc hBt.size _).trans (hb5.mono (hBt.alloc hBt.size _).size)⟩
                  | true =>
                    replace hal : allG g (v : Int) at_ (([33, 34, 35] : List Nat).drop 2) = some b := hal
                    go_wp2_with (go_at_call 34; (with_reducible refine (kG _ ?_ hg1).mono ?_); exact hBt.alloc (Nat.le_trans hle3 hWi.size) _; rintro e w5 ⟨rfl, hb5⟩)
                    exact ⟨⟨2, rfl, by omega, hal, (hWi.alloc hWi.size _).trans (hb5.mono (hWi.alloc hWi.size _).size)⟩, by simp [intOf]⟩
                · replace hal : (g 35 (v : Int) at_).bind (fun b => if b = true then allG g (v : Int) at_ (([33, 34, 35] : List Nat).drop 3) else some false) = some b := hal
                  obtain ⟨b1, hg1, hal⟩ := Option.bind_eq_some_iff.1 hal
                  have hcf := (hBt.cell (World.block_lt_of_cell? w _ (HA.out 2 35 rfl))).trans (HA.out 2 35 rfl)
                  have hcg : wi.cell? ⟨B.block, B.off + 2, none⟩ = some (.func (.func 35) #[] #[]) := hcf
                  clear hcf
                  have q0 := (((Below.refl wi.heap.size wi).alloc (Nat.le_refl _) (.cells #[.func (.func 35) #[] #[]] 64)).cell (World.block_lt_of_cell? wi _ m0)).trans m0
                  have q1 := (((Below.refl wi.heap.size wi).alloc (Nat.le_refl _) (.cells #[.func (.func 35) #[] #[]] 64)).cell (World.block_lt_of_cell? wi _ m1)).trans m1
                  have q2 := (((Below.refl wi.heap.size wi).alloc (Nat.le_refl _) (.cells #[.func (.func 35) #[] #[]] 64)).cell (World.block_lt_of_cell? wi _ m2)).trans m2
                  have q3 := (((Below.refl wi.heap.size wi).alloc (Nat.le_refl _) (.cells #[.func (.func 35) #[] #[]] 64)).cell (World.block_lt_of_cell? wi _ m3)).trans m3
                  have q4 := (((Below.refl wi.heap.size wi).alloc (Nat.le_refl _) (.cells #[.func (.func 35) #[] #[]] 64)).cell (World.block_lt_of_cell? wi _ m4)).trans m4
                  have q5 := (((Below.refl wi.heap.size wi).alloc (Nat.le_refl _) (.cells #[.func (.func 35) #[] #[]] 64)).cell (World.block_lt_of_cell? wi _ m5)).trans m5
                  have q6 := (((Below.refl wi.heap.size wi).alloc (Nat.le_refl _) (.cells #[.func (.func 35) #[] #[]] 64)).cell (World.block_lt_of_cell? wi _ m6)).trans m6
                  have q7 := (((Below.refl wi.heap.size wi).alloc (Nat.le_refl _) (.cells #[.func (.func 35) #[] #[]] 64)).cell (World.block_lt_of_cell? wi _ m7)).trans m7
                  have q8 := (((Below.refl wi.heap.size wi).alloc (Nat.le_refl _) (.cells #[.func (.func 35) #[] #[]] 64)).cell (World.block_lt_of_cell? wi _ m8)).trans m8
                  have q9 := (((Below.refl wi.heap.size wi).alloc (Nat.le_refl _) (.cells #[.func (.func 35) #[] #[]] 64)).cell (World.block_lt_of_cell? wi _ m9)).trans m9
                  have q10 := (((Below.refl wi.heap.size wi).alloc (Nat.le_refl _) (.cells #[.func (.func 35) #[] #[]] 64)).cell (World.block_lt_of_cell? wi _ m10)).trans m10
                  have kG := HG.out 35 (by simp) (v : Int) at_ b1
                  cases b1 with
                  | false =>
                    have hbf : b = false := (Option.some.inj (show some false = some b from hal)).symm
                    have HFS := Aside0.mk (Option.some.inj (hf_false hbf HF.out.2))
                    go_wp2_with (go_at_call 35; (with_reducible refine (kG _ ?_ hg1).mono ?_); exact hBt.alloc (Nat.le_trans hle3 hWi.size) _; rintro e w5 ⟨rfl, hb5⟩)
                    go_ret
                    exact ⟨congrArg (fun x => Ending.returned (Value.int .i64 x)) HFS.out, (hBt.alloc hBt.size _).trans (hb5.mono (hBt.alloc hBt.size _).size)⟩
                  | true =>
                    replace hal : allG g (v : Int) at_ (([33, 34, 35] : List Nat).drop 3) = some b := hal
                    go_wp2_with (go_at_call 35; (with_reducible refine (kG _ ?_ hg1).mono ?_); exact hBt.alloc (Nat.le_trans hle3 hWi.size) _; rintro e w5 ⟨rfl, hb5⟩)
                    exact ⟨⟨3, rfl, by omega, hal, (hWi.alloc hWi.size _).trans (hb5.mono (hWi.alloc hWi.size _).size)⟩, by simp [intOf]⟩
              · have hie : i = 3 := by omega
                subst hie
                have hb1 : b = true := allG_nil hal
                have hfst := hf_true hb1 HF.out.2
                have hv1 : v + 1 ≤ l0_6.length := by omega
                have hms : (l0_6.length - (v + 1)) < (l0_6.length - v) := by omega
                have hm2 : l0_6.length - (v + 1) = m := by omega
                have hwv : wrap64 ((v : Int) + 1) = ((v + 1 : Nat) : Int) := by have := HL.out; rw [wu64 (by omega) (by omega)]; omega
                go_wp2
                go_roundw
                case rel => exact ⟨v + 1, by first | rfl | (rw [hwv]; done) | (simp [hwv]; done), hv1, by rw [hm2]; exact hfst, hBt, Nat.lt_of_lt_of_le hsz (Nat.le_trans hW.size hWi.size), ((hWi.block _ (Nat.lt_of_lt_of_le hsz hW.size)).trans (hW.block _ hsz)).trans HBC.out⟩
                case measure => exact meas_next hwv hv1
          exact AllReadyH.nil
        exact AllReadyH.nil
      refine AllReadyH.cons (i := 7) (o := _) ((List.getElem?_toArray ..).trans rfl) (fun K hK => ?_) ?_
      · go_simp
        refine hK.out _ _ ?_ (fun hHeld => ?_)
        · (try dsimp only)
          exact KS.out _ (by with_reducible first | exact below_drew1 (Below.refl _ _) | exact below_drew1 ((Below.refl _ _).alloc (Nat.le_refl _) _) | exact hHeld.1.trans (hb.mono hHeld.1.size) | exact hHeld.1.alloc hHeld.1.size _ | exact HW2.out.alloc HW2.out.size _ | exact below_cells HW2.out (Nat.le_refl _) _)
        clear hK K
        (try simp only [Act.put, List.setIfInBounds_toArray, List.set_cons_zero, List.set_cons_succ])
        refine wpAnyH_ready (rs := [5]) (by kernel_rfl) (by simp) ?_
        refine AllReadyH.cons (i := 5) (o := _) ((List.getElem?_toArray ..).trans rfl) (fun K hK => ?_) ?_
        · go_simp
          refine (KC.out _ (Kd.C_below H6.out (BW.out.trans (hHeld.1.mono BW.out.size))) hc0_6 (Kd.C_below H7.out (BW.out.trans (hHeld.1.mono BW.out.size))) hc0_7 HAT.out).mono ?_; rintro e w2 ⟨rfl, hb⟩; have HW2 := Aside0.mk (hHeld.1.trans (hb.mono hHeld.1.size))
          refine hK.out _ _ ?_ (fun hHeld => ?_)
          · (try dsimp only)
            exact KS.out _ (by with_reducible first | exact below_drew1 (Below.refl _ _) | exact below_drew1 ((Below.refl _ _).alloc (Nat.le_refl _) _) | exact hHeld.1.trans (hb.mono hHeld.1.size) | exact hHeld.1.alloc hHeld.1.size _ | exact HW2.out.alloc HW2.out.size _ | exact below_cells HW2.out (Nat.le_refl _) _)
          clear hK K
          (try simp only [Act.put, List.setIfInBounds_toArray, List.set_cons_zero, List.set_cons_succ])
          refine wpAnyH_take (i := 6) (oi := _) (v := ?_) ((List.getElem?_toArray ..).trans rfl) (by kernel_rfl) (by kernel_rfl) (by kernel_rfl) (fun _ _ _ h => h) (Or.inl ⟨by rfl, ?_⟩) (by assumption) ?_
          rotate_left
          · (intro w hSw; (try dsimp only at hSw); go_simp; (try with_reducible rfl))
          (try simp only [Act.put, List.setIfInBounds_toArray, List.set_cons_zero, List.set_cons_succ])
          have hzb : w2.heap[wo.heap.size]? = some (.cells #[.int .i64 0, .int .i64 0, .int .i64 0, .int .i64 0, .int .i64 0, .int .i64 0, .slice none 0 0, .slice none 0 0, .slice none 0 0, .int .i64 0, .int .i64 0] 86 (0, 0)) := (hb.block wo.heap.size (by simp)).trans (blk_drew (blk_new wo (.cells #[.int .i64 0, .int .i64 0, .int .i64 0, .int .i64 0, .int .i64 0, .int .i64 0, .slice none 0 0, .slice none 0 0, .slice none 0 0, .int .i64 0, .int .i64 0] 86))); have HZ := Aside0.mk hzb
          refine wpAnyH_ready (rs := [8]) (by kernel_rfl) (by simp) ?_
          refine AllReadyH.cons (i := 8) (o := _) ((List.getElem?_toArray ..).trans rfl) (fun K hK => ?_) ?_
          · refine wp_store_mid 86 _ _ rfl wo.heap.size 0 #[.int .i64 a0_0, .int .i64 a0_1, .int .i64 a0_2, .int .i64 a0_3, .int .i64 a0_4, .int .i64 a0_5, .slice A0_6 l0_6.length c0_6, .slice A0_7 l0_7.length c0_7, .slice A1 l1.length c1, .int .i64 (v : Int), .int .i64 at_] rfl rfl (there_of HZ.out rfl) rfl (by simp [Value.oneCell']) ?_
            refine hK.out _ _ ?_ (fun hHeld => ?_)
            · (try dsimp only)
              exact KS.out _ (by with_reducible first | exact below_drew1 (Below.refl _ _) | exact below_drew1 ((Below.refl _ _).alloc (Nat.le_refl _) _) | exact hHeld.1.trans (hb.mono hHeld.1.size) | exact hHeld.1.alloc hHeld.1.size _ | exact HW2.out.alloc HW2.out.size _ | exact below_cells HW2.out (Nat.le_refl _) _)
            clear hK K
            (try simp only [Act.put, List.setIfInBounds_toArray, List.set_cons_zero, List.set_cons_succ])
            refine wpAnyH_done (by kernel_rfl) ?_ _
            have hW := below_cells HW2.out (Nat.le_refl _) (vs := (#[.int .i64 a0_0, .int .i64 a0_1, .int .i64 a0_2, .int .i64 a0_3, .int .i64 a0_4, .int .i64 a0_5, .slice A0_6 l0_6.length c0_6, .slice A0_7 l0_7.length c0_7, .slice A1 l1.length c1, .int .i64 (v : Int), .int .i64 at_]).toList) 0
            have hN : ∀ (j : Nat) (x : Value), (#[.int .i64 a0_0, .int .i64 a0_1, .int .i64 a0_2, .int .i64 a0_3, .int .i64 a0_4, .int .i64 a0_5, .slice A0_6 l0_6.length c0_6, .slice A0_7 l0_7.length c0_7, .slice A1 l1.length c1, .int .i64 (v : Int), .int .i64 at_]).toList[j]? = some x → (w2.setCells wo.heap.size 0 (#[.int .i64 a0_0, .int .i64 a0_1, .int .i64 a0_2, .int .i64 a0_3, .int .i64 a0_4, .int .i64 a0_5, .slice A0_6 l0_6.length c0_6, .slice A0_7 l0_7.length c0_7, .slice A1 l1.length c1, .int .i64 (v : Int), .int .i64 at_]).toList).cell? ⟨wo.heap.size, j, none⟩ = some x := fun j x hx => by have := World.rangeAt_setCells_same w2 wo.heap.size 0 (#[.int .i64 a0_0, .int .i64 a0_1, .int .i64 a0_2, .int .i64 a0_3, .int .i64 a0_4, .int .i64 a0_5, .slice A0_6 l0_6.length c0_6, .slice A0_7 l0_7.length c0_7, .slice A1 l1.length c1, .int .i64 (v : Int), .int .i64 at_]).toList (there_of HZ.out rfl) j x hx; rwa [Nat.zero_add] at this
            generalize hW3 : w2.setCells wo.heap.size 0 (#[.int .i64 a0_0, .int .i64 a0_1, .int .i64 a0_2, .int .i64 a0_3, .int .i64 a0_4, .int .i64 a0_5, .slice A0_6 l0_6.length c0_6, .slice A0_7 l0_7.length c0_7, .slice A1 l1.length c1, .int .i64 (v : Int), .int .i64 at_]).toList = W3 at hW hN hHeld ⊢
            clear hW3 hb
            have hnb := Nat.le_refl wo.heap.size
            have n0 := hN 0 _ rfl
            have n1 := hN 1 _ rfl
            have n2 := hN 2 _ rfl
            have n3 := hN 3 _ rfl
            have n4 := hN 4 _ rfl
            have n5 := hN 5 _ rfl
            have n6 := hN 6 _ rfl
            have n7 := hN 7 _ rfl
            have n8 := hN 8 _ rfl
            have n9 := hN 9 _ rfl
            have n10 := hN 10 _ rfl
            go_wp2_with (fail)
            go_loopw [26] (fun p wi => ∃ i : Nat, p = .int .i64 (i : Int) ∧ i ≤ 3 ∧ allG g (v : Int) at_ (([33, 34, 35] : List Nat).drop i) = some b ∧ Below W3.heap.size W3 wi) (fun p _ => (3 - intOf p).toNat)
            case atStart => exact ⟨0, rfl, Nat.zero_le _, HF.out.1, Below.refl _ _⟩
            case round =>
              obtain ⟨i, rfl, hi, hal, hWi⟩ := hrel
              obtain ⟨wi, rfl⟩ : ∃ X, X = wr := ⟨wr, rfl⟩
              have hle3 : w.heap.size ≤ W3.heap.size := Nat.le_trans BW.out.size hW.size
              have hBt : Below w.heap.size w wi := BW.out.trans ((hW.mono BW.out.size).trans (hWi.mono hle3))
              by_cases hlt2 : i < 3
              · have hlb2 : decide ((i : Int) < 3) = true := decide_eq_true (by omega)
                have m0 := (hWi.cell (World.block_lt_of_cell? W3 _ n0)).trans n0
                have m1 := (hWi.cell (World.block_lt_of_cell? W3 _ n1)).trans n1
                have m2 := (hWi.cell (World.block_lt_of_cell? W3 _ n2)).trans n2
                have m3 := (hWi.cell (World.block_lt_of_cell? W3 _ n3)).trans n3
                have m4 := (hWi.cell (World.block_lt_of_cell? W3 _ n4)).trans n4
                have m5 := (hWi.cell (World.block_lt_of_cell? W3 _ n5)).trans n5
                have m6 := (hWi.cell (World.block_lt_of_cell? W3 _ n6)).trans n6
                have m7 := (hWi.cell (World.block_lt_of_cell? W3 _ n7)).trans n7
                have m8 := (hWi.cell (World.block_lt_of_cell? W3 _ n8)).trans n8
                have m9 := (hWi.cell (World.block_lt_of_cell? W3 _ n9)).trans n9
                have m10 := (hWi.cell (World.block_lt_of_cell? W3 _ n10)).trans n10
                obtain rfl | rfl | rfl : i = 0 ∨ i = 1 ∨ i = 2 := by omega
                · replace hal : (g 33 (v : Int) at_).bind (fun b => if b = true then allG g (v : Int) at_ (([33, 34, 35] : List Nat).drop 1) else some false) = some b := hal
                  obtain ⟨b1, hg1, hal⟩ := Option.bind_eq_some_iff.1 hal
                  have hcf := (hBt.cell (World.block_lt_of_cell? w _ (HA.out 0 33 rfl))).trans (HA.out 0 33 rfl)
                  have hcg : wi.cell? B = some (.func (.func 33) #[] #[]) := hcf
                  clear hcf
                  have q0 := (((Below.refl wi.heap.size wi).alloc (Nat.le_refl _) (.cells #[.func (.func 33) #[] #[]] 64)).cell (World.block_lt_of_cell? wi _ m0)).trans m0
                  have q1 := (((Below.refl wi.heap.size wi).alloc (Nat.le_refl _) (.cells #[.func (.func 33) #[] #[]] 64)).cell (World.block_lt_of_cell? wi _ m1)).trans m1
                  have q2 := (((Below.refl wi.heap.size wi).alloc (Nat.le_refl _) (.cells #[.func (.func 33) #[] #[]] 64)).cell (World.block_lt_of_cell? wi _ m2)).trans m2
                  have q3 := (((Below.refl wi.heap.size wi).alloc (Nat.le_refl _) (.cells #[.func (.func 33) #[] #[]] 64)).cell (World.block_lt_of_cell? wi _ m3)).trans m3
                  have q4 := (((Below.refl wi.heap.size wi).alloc (Nat.le_refl _) (.cells #[.func (.func 33) #[] #[]] 64)).cell (World.block_lt_of_cell? wi _ m4)).trans m4
                  have q5 := (((Below.refl wi.heap.size wi).alloc (Nat.le_refl _) (.cells #[.func (.func 33) #[] #[]] 64)).cell (World.block_lt_of_cell? wi _ m5)).trans m5
                  have q6 := (((Below.refl wi.heap.size wi).alloc (Nat.le_refl _) (.cells #[.func (.func 33) #[] #[]] 64)).cell (World.block_lt_of_cell? wi _ m6)).trans m6
                  have q7 := (((Below.refl wi.heap.size wi).alloc (Nat.le_refl _) (.cells #[.func (.func 33) #[] #[]] 64)).cell (World.block_lt_of_cell? wi _ m7)).trans m7
                  have q8 := (((Below.refl wi.heap.size wi).alloc (Nat.le_refl _) (.cells #[.func (.func 33) #[] #[]] 64)).cell (World.block_lt_of_cell? wi _ m8)).trans m8
                  have q9 := (((Below.refl wi.heap.size wi).alloc (Nat.le_refl _) (.cells #[.func (.func 33) #[] #[]] 64)).cell (World.block_lt_of_cell? wi _ m9)).trans m9
                  have q10 := (((Below.refl wi.heap.size wi).alloc (Nat.le_refl _) (.cells #[.func (.func 33) #[] #[]] 64)).cell (World.block_lt_of_cell? wi _ m10)).trans m10
                  have kG := HG.out 33 (by simp) (v : Int) at_ b1
                  cases b1 with
                  | false =>
                    have hbf : b = false := (Option.some.inj (show some false = some b from hal)).symm
                    have HFS := Aside0.mk (Option.some.inj (hf_false hbf HF.out.2))
                    go_wp2_with (go_at_call 33; (with_reducible refine (kG _ ?_ hg1).mono ?_); exact hBt.alloc (Nat.le_trans hle3 hWi.size) _; rintro e w5 ⟨rfl, hb5⟩)
                    go_ret
                    exact ⟨congrArg (fun x => Ending.returned (Value.int .i64 x)) HFS.out, (hBt.alloc hBt.size _).trans (hb5.mono (hBt.alloc hBt.size _).size)⟩
                  | true =>
                    replace hal : allG g (v : Int) at_ (([33, 34, 35] : List Nat).drop 1) = some b := hal
                    go_wp2_with (go_at_call 33; (with_reducible refine (kG _ ?_ hg1).mono ?_); exact hBt.alloc (Nat.le_trans hle3 hWi.size) _; rintro e w5 ⟨rfl, hb5⟩)
                    exact ⟨⟨1, rfl, by omega, hal, (hWi.alloc hWi.size _).trans (hb5.mono (hWi.alloc hWi.size _).size)⟩, by simp [intOf]⟩
                · replace hal : (g 34 (v : Int) at_).bind (fun b => if b = true then allG g (v : Int) at_ (([33, 34, 35] : List Nat).drop 2) else some false) = some b := hal
                  obtain ⟨b1, hg1, hal⟩ := Option.bind_eq_some_iff.1 hal
                  have hcf := (hBt.cell (World.block_lt_of_cell? w _ (HA.out 1 34 rfl))).trans (HA.out 1 34 rfl)
                  have hcg : wi.cell? ⟨B.block, B.off + 1, none⟩ = some (.func (.func 34) #[] #[]) := hcf
                  clear hcf
                  have q0 := (((Below.refl wi.heap.size wi).alloc (Nat.le_refl _) (.cells #[.func (.func 34) #[] #[]] 64)).cell (World.block_lt_of_cell? wi _ m0)).trans m0
                  have q1 := (((Below.refl wi.heap.size wi).alloc (Nat.le_refl _) (.cells #[.func (.func 34) #[] #[]] 64)).cell (World.block_lt_of_cell? wi _ m1)).trans m1
                  have q2 := (((Below.refl wi.heap.size wi).alloc (Nat.le_refl _) (.cells #[.func (.func 34) #[] #[]] 64)).cell (World.block_lt_of_cell? wi _ m2)).trans m2
                  have q3 := (((Below.refl wi.heap.size wi).alloc (Nat.le_refl _) (.cells #[.func (.func 34) #[] #[]] 64)).cell (World.block_lt_of_cell? wi _ m3)).trans m3
                  have q4 := (((Below.refl wi.heap.size wi).alloc (Nat.le_refl _) (.cells #[.func (.func 34) #[] #[]] 64)).cell (World.block_lt_of_cell? wi _ m4)).trans m4
                  have q5 := (((Below.refl wi.heap.size wi).alloc (Nat.le_refl _) (.cells #[.func (.func 34) #[] #[]] 64)).cell (World.block_lt_of_cell? wi _ m5)).trans m5
                  have q6 := (((Below.refl wi.heap.size wi).alloc (Nat.le_refl _) (.cells #[.func (.func 34) #[] #[]] 64)).cell (World.block_lt_of_cell? wi _ m6)).trans m6
                  have q7 := (((Below.refl wi.heap.size wi).alloc (Nat.le_refl _) (.cells #[.func (.func 34) #[] #[]] 64)).cell (World.block_lt_of_cell? wi _ m7)).trans m7
                  have q8 := (((Below.refl wi.heap.size wi).alloc (Nat.le_refl _) (.cells #[.func (.func 34) #[] #[]] 64)).cell (World.block_lt_of_cell? wi _ m8)).trans m8
                  have q9 := (((Below.refl wi.heap.size wi).alloc (Nat.le_refl _) (.cells #[.func (.func 34) #[] #[]] 64)).cell (World.block_lt_of_cell? wi _ m9)).trans m9
                  have q10 := (((Below.refl wi.heap.size wi).alloc (Nat.le_refl _) (.cells #[.func (.func 34) #[] #[]] 64)).cell (World.block_lt_of_cell? wi _ m10)).trans m10
                  have kG := HG.out 34 (by simp) (v : Int) at_ b1
                  cases b1 with
                  | false =>
                    have hbf : b = false := (Option.some.inj (show some false = some b from hal)).symm
                    have HFS := Aside0.mk (Option.some.inj (hf_false hbf HF.out.2))
                    go_wp2_with (go_at_call 34; (with_reducible refine (kG _ ?_ hg1).mono ?_); exact hBt.alloc (Nat.le_trans hle3 hWi.size) _; rintro e w5 ⟨rfl, hb5⟩)
                    go_ret
                    exact ⟨congrArg (fun x => Ending.returned (Value.int .i64 x)) HFS.out, (hBt.alloc hBt.size _).trans (hb5.mono (hBt.alloc hBt.size _).size)⟩
                  | true =>
                    replace hal : allG g (v : Int) at_ (([33, 34, 35] : List Nat).drop 2) = some b := hal
                    go_wp2_with (go_at_call 34; (with_reducible refine (kG _ ?_ hg1).mono ?_); exact hBt.alloc (Nat.le_trans hle3 hWi.size) _; rintro e w5 ⟨rfl, hb5⟩)
                    exact ⟨⟨2, rfl, by omega, hal, (hWi.alloc hWi.size _).trans (hb5.mono (hWi.alloc hWi.size _).size)⟩, by simp [intOf]⟩
                · replace hal : (g 35 (v : Int) at_).bind (fun b => if b = true then allG g (v : Int) at_ (([33, 34, 35] : List Nat).drop 3) else some false) = some b := hal
                  obtain ⟨b1, hg1, hal⟩ := Option.bind_eq_some_iff.1 hal
                  have hcf := (hBt.cell (World.block_lt_of_cell? w _ (HA.out 2 35 rfl))).trans (HA.out 2 35 rfl)
                  have hcg : wi.cell? ⟨B.block, B.off + 2, none⟩ = some (.func (.func 35) #[] #[]) := hcf
                  clear hcf
                  have q0 := (((Below.refl wi.heap.size wi).alloc (Nat.le_refl _) (.cells #[.func (.func 35) #[] #[]] 64)).cell (World.block_lt_of_cell? wi _ m0)).trans m0
                  have q1 := (((Below.refl wi.heap.size wi).alloc (Nat.le_refl _) (.cells #[.func (.func 35) #[] #[]] 64)).cell (World.block_lt_of_cell? wi _ m1)).trans m1
                  have q2 := (((Below.refl wi.heap.size wi).alloc (Nat.le_refl _) (.cells #[.func (.func 35) #[] #[]] 64)).cell (World.block_lt_of_cell? wi _ m2)).trans m2
                  have q3 := (((Below.refl wi.heap.size wi).alloc (Nat.le_refl _) (.cells #[.func (.func 35) #[] #[]] 64)).cell (World.block_lt_of_cell? wi _ m3)).trans m3
                  have q4 := (((Below.refl wi.heap.size wi).alloc (Nat.le_refl _) (.cells #[.func (.func 35) #[] #[]] 64)).cell (World.block_lt_of_cell? wi _ m4)).trans m4
                  have q5 := (((Below.refl wi.heap.size wi).alloc (Nat.le_refl _) (.cells #[.func (.func 35) #[] #[]] 64)).cell (World.block_lt_of_cell? wi _ m5)).trans m5
                  have q6 := (((Below.refl wi.heap.size wi).alloc (Nat.le_refl _) (.cells #[.func (.func 35) #[] #[]] 64)).cell (World.block_lt_of_cell? wi _ m6)).trans m6
                  have q7 := (((Below.refl wi.heap.size wi).alloc (Nat.le_refl _) (.cells #[.func (.func 35) #[] #[]] 64)).cell (World.block_lt_of_cell? wi _ m7)).trans m7
                  have q8 := (((Below.refl wi.heap.size wi).alloc (Nat.le_refl _) (.cells #[.func (.func 35) #[] #[]] 64)).cell (World.block_lt_of_cell? wi _ m8)).trans m8
                  have q9 := (((Below.refl wi.heap.size wi).alloc (Nat.le_refl _) (.cells #[.func (.func 35) #[] #[]] 64)).cell (World.block_lt_of_cell? wi _ m9)).trans m9
                  have q10 := (((Below.refl wi.heap.size wi).alloc (Nat.le_refl _) (.cells #[.func (.func 35) #[] #[]] 64)).cell (World.block_lt_of_cell? wi _ m10)).trans m10
                  have kG := HG.out 35 (by simp) (v : Int) at_ b1
                  cases b1 with
                  | false =>
                    have hbf : b = false := (Option.some.inj (show some false = some b from hal)).symm
                    have HFS := Aside0.mk (Option.some.inj (hf_false hbf HF.out.2))
                    go_wp2_with (go_at_call 35; (with_reducible refine (kG _ ?_ hg1).mono ?_); exact hBt.alloc (Nat.le_trans hle3 hWi.size) _; rintro e w5 ⟨rfl, hb5⟩)
                    go_ret
                    exact ⟨congrArg (fun x => Ending.returned (Value.int .i64 x)) HFS.out, (hBt.alloc hBt.size _).trans (hb5.mono (hBt.alloc hBt.size _).size)⟩
                  | true =>
                    replace hal : allG g (v : Int) at_ (([33, 34, 35] : List Nat).drop 3) = some b := hal
                    go_wp2_with (go_at_call 35; (with_reducible refine (kG _ ?_ hg1).mono ?_); exact hBt.alloc (Nat.le_trans hle3 hWi.size) _; rintro e w5 ⟨rfl, hb5⟩)
                    exact ⟨⟨3, rfl, by omega, hal, (hWi.alloc hWi.size _).trans (hb5.mono (hWi.alloc hWi.size _).size)⟩, by simp [intOf]⟩
              · have hie : i = 3 := by omega
                subst hie
                have hb1 : b = true := allG_nil hal
                have hfst := hf_true hb1 HF.out.2
                have hv1 : v + 1 ≤ l0_6.length := by omega
                have hms : (l0_6.length - (v + 1)) < (l0_6.length - v) := by omega
                have hm2 : l0_6.length - (v + 1) = m := by omega
                have hwv : wrap64 ((v : Int) + 1) = ((v + 1 : Nat) : Int) := by have := HL.out; rw [wu64 (by omega) (by omega)]; omega
                go_wp2
                go_roundw
                case rel => exact ⟨v + 1, by first | rfl | (rw [hwv]; done) | (simp [hwv]; done), hv1, by rw [hm2]; exact hfst, hBt, Nat.lt_of_lt_of_le hsz (Nat.le_trans hW.size hWi.size), ((hWi.block _ (Nat.lt_of_lt_of_le hsz hW.size)).trans (hW.block _ hsz)).trans HBC.out⟩
                case measure => exact meas_next hwv hv1
          exact AllReadyH.nil
        exact AllReadyH.nil
      exact AllReadyH.nil
    · have hlb : decide ((v : Int) < (l0_6.length : Int)) = false := decide_eq_false hlt
      have e0 : l0_6.length - v = 0 := by omega
      rw [e0] at hfirst
      simp only [firstL, Option.some.injEq] at hfirst
      subst hfirst
      go_wp2
      go_ret
      exact ⟨rfl, hB⟩
set_option maxRecDepth 100000 in
set_option maxHeartbeats 8000000 in
theorem first1_calls (g : Nat → Int → Int → Option Bool) (a0_0 : Int) (a0_1 : Int) (a0_2 : Int) (a0_3 : Int) (a0_4 : Int) (a0_5 : Int) (A0_6 : Option Addr) (c0_6 : Nat) (l0_6 : List Int) (A0_7 : Option Addr) (c0_7 : Nat) (l0_7 : List Int) (A1 : Option Addr) (c1 : Nat) (l1 : List Int) (B : Addr) (ca : Nat) (r : Int) (w : World) (hr0_6 : Kd.C (Kd.int .i64) w A0_6 l0_6.length l0_6) (hc0_6 : l0_6.length ≤ c0_6) (hr0_7 : Kd.C (Kd.int .i64) w A0_7 l0_7.length l0_7) (hc0_7 : l0_7.length ≤ c0_7)
    (hlen : l0_6.length < 1000000)
    (hask : ∀ (i f : Nat), ([37] : List Nat)[i]? = some f → w.cell? (B.add i) = some (.func (.func f) #[] #[]))
    (hG : ∀ f ∈ ([37] : List Nat), ∀ (v at_ : Int) (b : Bool) (W : World), Below w.heap.size w W → g f v at_ = some b → Calls Tryz.prog f #[.agg #[.int .i64 a0_0, .int .i64 a0_1, .int .i64 a0_2, .int .i64 a0_3, .int .i64 a0_4, .int .i64 a0_5, .slice A0_6 l0_6.length c0_6, .slice A0_7 l0_7.length c0_7, .slice A1 l1.length c1, .int .i64 v, .int .i64 at_]] W fun e w' => e = .returned (.bool b) ∧ Below W.heap.size W w')
    (h : firstL (plan_Counter.f a0_0 a0_1 a0_2 a0_3 a0_4 a0_5 l0_6 l0_7) g [37] l0_6.length 0 = some r) :
    Calls Tryz.prog 32 #[.agg #[.int .i64 a0_0, .int .i64 a0_1, .int .i64 a0_2, .int .i64 a0_3, .int .i64 a0_4, .int .i64 a0_5, .slice A0_6 l0_6.length c0_6, .slice A0_7 l0_7.length c0_7], .slice A1 l1.length c1, .slice (some B) 1 ca] w fun e w' => e = .returned (.int .i64 r) ∧ Below w.heap.size w w' := by
  have hu := Tryz.underlying24
  have hB0 : Below w.heap.size w (w.alloc (.cells #[.int .i64 a0_0, .int .i64 a0_1, .int .i64 a0_2, .int .i64 a0_3, .int .i64 a0_4, .int .i64 a0_5, .slice A0_6 l0_6.length c0_6, .slice A0_7 l0_7.length c0_7] 24)) := (Below.refl _ w).alloc (Nat.le_refl _) _
  have H6 := Aside0.mk hr0_6
  have H7 := Aside0.mk hr0_7
  have HA := Aside0.mk hask
  have HG := Aside0.mk hG
  have H := Aside0.mk h
  have HB0 := Aside0.mk hB0
  have HL := Aside0.mk hlen
  clear hr0_6 hr0_7 hask hG h hB0 hlen
  go_enter Tryz.func32, Tryz.ntmps32
  go_wp2
  go_loopw [14] (fun p wr => ∃ v : Nat, p = .int .i64 (v : Int) ∧ v ≤ l0_6.length ∧ firstL (plan_Counter.f a0_0 a0_1 a0_2 a0_3 a0_4 a0_5 l0_6 l0_7) g [37] (l0_6.length - v) (v : Int) = some r ∧ Below w.heap.size w wr ∧ w.heap.size < wr.heap.size ∧ wr.heap[w.heap.size]? = some (.cells #[.int .i64 a0_0, .int .i64 a0_1, .int .i64 a0_2, .int .i64 a0_3, .int .i64 a0_4, .int .i64 a0_5, .slice A0_6 l0_6.length c0_6, .slice A0_7 l0_7.length c0_7] 24 (0, 0)))
    (fun p _ => (l0_6.length - intOf p).toNat)
  case atStart => exact ⟨0, rfl, Nat.zero_le _, H.out, HB0.out, by simp, blk_new w _⟩
  case round =>
    obtain ⟨v, rfl, hv, hfirst, hB, hsz, hbc⟩ := hrel
    obtain ⟨wo, rfl⟩ : ∃ X, X = wr := ⟨wr, rfl⟩
    by_cases hlt : (v : Int) < (l0_6.length : Int)
    · have hlb : decide ((v : Int) < (l0_6.length : Int)) = true := decide_eq_true hlt
      obtain ⟨m, hm⟩ : ∃ m, l0_6.length - v = m + 1 := ⟨l0_6.length - v - 1, by omega⟩
      rw [hm] at hfirst
      simp only [firstL] at hfirst
      obtain ⟨at_, hat, hfirst⟩ := Option.bind_eq_some_iff.1 hfirst
      obtain ⟨b, hall, hfirst⟩ := Option.bind_eq_some_iff.1 hfirst
      have f0 : wo.cell? ⟨w.heap.size, 0, none⟩ = some (.int .i64 a0_0) := (blk_cell hbc 0).trans rfl
      have f1 : wo.cell? ⟨w.heap.size, 1, none⟩ = some (.int .i64 a0_1) := (blk_cell hbc 1).trans rfl
      have f2 : wo.cell? ⟨w.heap.size, 2, none⟩ = some (.int .i64 a0_2) := (blk_cell hbc 2).trans rfl
      have f3 : wo.cell? ⟨w.heap.size, 3, none⟩ = some (.int .i64 a0_3) := (blk_cell hbc 3).trans rfl
      have f4 : wo.cell? ⟨w.heap.size, 4, none⟩ = some (.int .i64 a0_4) := (blk_cell hbc 4).trans rfl
      have f5 : wo.cell? ⟨w.heap.size, 5, none⟩ = some (.int .i64 a0_5) := (blk_cell hbc 5).trans rfl
      have f6 : wo.cell? ⟨w.heap.size, 6, none⟩ = some (.slice A0_6 l0_6.length c0_6) := (blk_cell hbc 6).trans rfl
      have f7 : wo.cell? ⟨w.heap.size, 7, none⟩ = some (.slice A0_7 l0_7.length c0_7) := (blk_cell hbc 7).trans rfl
      have BW := Aside0.mk hB
      have KC := Aside0.mk (plan_Counter.calls a0_0 a0_1 a0_2 a0_3 a0_4 a0_5 A0_6 c0_6 l0_6 A0_7 c0_7 l0_7 (v : Int) at_)
      have HAT := Aside0.mk hat
      have HF := Aside0.mk (And.intro hall hfirst)
      have HBC := Aside0.mk hbc
      clear hB hat hall hfirst hbc
      have keepS : ∀ w' : World, Below wo.heap.size wo w' → (Below wo.heap.size wo w' ∧ w'.cell? ⟨w.heap.size, 0, none⟩ = some (.int .i64 a0_0) ∧ w'.cell? ⟨w.heap.size, 1, none⟩ = some (.int .i64 a0_1) ∧ w'.cell? ⟨w.heap.size, 2, none⟩ = some (.int .i64 a0_2) ∧ w'.cell? ⟨w.heap.size, 3, none⟩ = some (.int .i64 a0_3) ∧ w'.cell? ⟨w.heap.size, 4, none⟩ = some (.int .i64 a0_4) ∧ w'.cell? ⟨w.heap.size, 5, none⟩ = some (.int .i64 a0_5) ∧ w'.cell? ⟨w.heap.size, 6, none⟩ = some (.slice A0_6 l0_6.length c0_6) ∧ w'.cell? ⟨w.heap.size, 7, none⟩ = some (.slice A0_7 l0_7.length c0_7)) := fun w' hb => ⟨hb, (hb.cell (p := ⟨w.heap.size, 0, none⟩) (World.block_lt_of_cell? wo _ f0)).trans f0, (hb.cell (p := ⟨w.heap.size, 1, none⟩) (World.block_lt_of_cell? wo _ f1)).trans f1, (hb.cell (p := ⟨w.heap.size, 2, none⟩) (World.block_lt_of_cell? wo _ f2)).trans f2, (hb.cell (p := ⟨w.heap.size, 3, none⟩) (World.block_lt_of_cell? wo _ f3)).trans f3, (hb.cell (p := ⟨w.heap.size, 4, none⟩) (World.block_lt_of_cell? wo _ f4)).trans f4, (hb.cell (p := ⟨w.heap.size, 5, none⟩) (World.block_lt_of_cell? wo _ f5)).trans f5, (hb.cell (p := ⟨w.heap.size, 6, none⟩) (World.block_lt_of_cell? wo _ f6)).trans f6, (hb.cell (p := ⟨w.heap.size, 7, none⟩) (World.block_lt_of_cell? wo _ f7)).trans f7⟩
      have KS := Aside0.mk keepS
      clear keepS
      go_wp2_with (fail)
      refine wp_region_held_drew (S := (fun w' => Below wo.heap.size wo w' ∧ w'.cell? ⟨w.heap.size, 0, none⟩ = some (.int .i64 a0_0) ∧ w'.cell? ⟨w.heap.size, 1, none⟩ = some (.int .i64 a0_1) ∧ w'.cell? ⟨w.heap.size, 2, none⟩ = some (.int .i64 a0_2) ∧ w'.cell? ⟨w.heap.size, 3, none⟩ = some (.int .i64 a0_3) ∧ w'.cell? ⟨w.heap.size, 4, none⟩ = some (.int .i64 a0_4) ∧ w'.cell? ⟨w.heap.size, 5, none⟩ = some (.int .i64 a0_5) ∧ w'.cell? ⟨w.heap.size, 6, none⟩ = some (.slice A0_6 l0_6.length c0_6) ∧ w'.cell? ⟨w.heap.size, 7, none⟩ = some (.slice A0_7 l0_7.length c0_7))) (by kernel_rfl) ?_ (fun hHeld => ?_)
      · (try dsimp only)
        exact KS.out _ (by with_reducible first | exact below_drew1 (Below.refl _ _) | exact below_drew1 ((Below.refl _ _).alloc (Nat.le_refl _) _) | exact hHeld.1.trans (hb.mono hHeld.1.size) | exact hHeld.1.alloc hHeld.1.size _ | exact HW2.out.alloc HW2.out.size _ | exact below_cells HW2.out (Nat.le_refl _) _)
      refine wpAnyH_take (i := 0) (oi := _) (v := ?_) ((List.getElem?_toArray ..).trans rfl) (by kernel_rfl) (by kernel_rfl) (by kernel_rfl) (fun _ _ _ h => h) (Or.inl ⟨by rfl, ?_⟩) (by assumption) ?_
      rotate_left
      · (intro w hSw; (try dsimp only at hSw); go_simp; (try with_reducible rfl))
      (try simp only [Act.put, List.setIfInBounds_toArray, List.set_cons_zero, List.set_cons_succ])
      refine wpAnyH_take (i := 1) (oi := _) (v := ?_) ((List.getElem?_toArray ..).trans rfl) (by kernel_rfl) (by kernel_rfl) (by kernel_rfl) (fun _ _ _ h => h) (Or.inl ⟨by rfl, ?_⟩) (by assumption) ?_
      rotate_left
      · (intro w hSw; (try dsimp only at hSw); go_simp; (try with_reducible rfl))
      (try simp only [Act.put, List.setIfInBounds_toArray, List.set_cons_zero, List.set_cons_succ])
      refine wpAnyH_take (i := 2) (oi := _) (v := ?_) ((List.getElem?_toArray ..).trans rfl) (by kernel_rfl) (by kernel_rfl) (by kernel_rfl) (fun _ _ _ h => h) (Or.inl ⟨by rfl, ?_⟩) (by assumption) ?_
      rotate_left
      · (intro w hSw; (try dsimp only at hSw); go_simp; (try with_reducible rfl))
      (try simp only [Act.put, List.setIfInBounds_toArray, List.set_cons_zero, List.set_cons_succ])
      refine wpAnyH_take (i := 3) (oi := _) (v := ?_) ((List.getElem?_toArray ..).trans rfl) (by kernel_rfl) (by kernel_rfl) (by kernel_rfl) (fun _ _ _ h => h) (Or.inl ⟨by rfl, ?_⟩) (by assumption) ?_
      rotate_left
      · (intro w hSw; (try dsimp only at hSw); go_simp; (try with_reducible rfl))
      (try simp only [Act.put, List.setIfInBounds_toArray, List.set_cons_zero, List.set_cons_succ])
      refine wpAnyH_take (i := 4) (oi := _) (v := ?_) ((List.getElem?_toArray ..).trans rfl) (by kernel_rfl) (by kernel_rfl) (by kernel_rfl) (fun _ _ _ h => h) (Or.inl ⟨by rfl, ?_⟩) (by assumption) ?_
      rotate_left
      · (intro w hSw; (try dsimp only at hSw); go_simp; (try with_reducible rfl))
      (try simp only [Act.put, List.setIfInBounds_toArray, List.set_cons_zero, List.set_cons_succ])
      refine wpAnyH_ready (rs := [5, 7]) (by kernel_rfl) (by simp) ?_
      refine AllReadyH.cons (i := 5) (o := _) ((List.getElem?_toArray ..).trans rfl) (fun K hK => ?_) ?_
      · go_simp
        refine (KC.out _ (Kd.C_below H6.out (BW.out.trans (hHeld.1.mono BW.out.size))) hc0_6 (Kd.C_below H7.out (BW.out.trans (hHeld.1.mono BW.out.size))) hc0_7 HAT.out).mono ?_; rintro e w2 ⟨rfl, hb⟩; have HW2 := Aside0.mk (hHeld.1.trans (hb.mono hHeld.1.size))
        refine hK.out _ _ ?_ (fun hHeld => ?_)
        · (try dsimp only)
          exact KS.out _ (by with_reducible first | exact below_drew1 (Below.refl _ _) | exact below_drew1 ((Below.refl _ _).alloc (Nat.le_refl _) _) | exact hHeld.1.trans (hb.mono hHeld.1.size) | exact hHeld.1.alloc hHeld.1.size _ | exact HW2.out.alloc HW2.out.size _ | exact below_cells HW2.out (Nat.le_refl _) _)
        clear hK K
        (try simp only [Act.put, List.setIfInBounds_toArray, List.set_cons_zero, List.set_cons_succ])
        refine wpAnyH_take (i := 6) (oi := _) (v := ?_) ((List.getElem?_toArray ..).trans rfl) (by kernel_rfl) (by kernel_rfl) (by kernel_rfl) (fun _ _ _ h => h) (Or.inl ⟨by rfl, ?_⟩) (by assumption) ?_
        rotate_left
        · (intro w hSw; (try dsimp only at hSw); go_simp; (try with_reducible rfl))
        (try simp only [Act.put, List.setIfInBounds_toArray, List.set_cons_zero, List.set_cons_succ])
        refine wpAnyH_ready (rs := [7]) (by kernel_rfl) (by simp) ?_
        refine AllReadyH.cons (i := 7) (o := _) ((List.getElem?_toArray ..).trans rfl) (fun K hK => ?_) ?_
        · go_simp
          refine hK.out _ _ ?_ (fun hHeld => ?_)
          · (try dsimp only)
            exact KS.out _ (by with_reducible first | exact below_drew1 (Below.refl _ _) | exact below_drew1 ((Below.refl _ _).alloc (Nat.le_refl _) _) | exact hHeld.1.trans (hb.mono hHeld.1.size) | exact hHeld.1.alloc hHeld.1.size _ | exact HW2.out.alloc HW2.out.size _ | exact below_cells HW2.out (Nat.le_refl _) _)
          clear hK K
          (try simp only [Act.put, List.setIfInBounds_toArray, List.set_cons_zero, List.set_cons_succ])
          refine wpAnyH_ready (rs := [8]) (by kernel_rfl) (by simp) ?_
          refine AllReadyH.cons (i := 8) (o := _) ((List.getElem?_toArray ..).trans rfl) (fun K hK => ?_) ?_
          · go_simp
            refine hK.out _ _ ?_ (fun hHeld => ?_)
            · (try dsimp only)
              exact KS.out _ (by with_reducible first | exact below_drew1 (Below.refl _ _) | exact below_drew1 ((Below.refl _ _).alloc (Nat.le_refl _) _) | exact hHeld.1.trans (hb.mono hHeld.1.size) | exact hHeld.1.alloc hHeld.1.size _ | exact HW2.out.alloc HW2.out.size _ | exact below_cells HW2.out (Nat.le_refl _) _)
            clear hK K
            (try simp only [Act.put, List.setIfInBounds_toArray, List.set_cons_zero, List.set_cons_succ])
            refine wpAnyH_done (by kernel_rfl) ?_ _
            have hW := HW2.out.alloc HW2.out.size (.cells #[.int .i64 a0_0, .int .i64 a0_1, .int .i64 a0_2, .int .i64 a0_3, .int .i64 a0_4, .int .i64 a0_5, .slice A0_6 l0_6.length c0_6, .slice A0_7 l0_7.length c0_7, .slice A1 l1.length c1, .int .i64 (v : Int), .int .i64 at_] 86)
            have hN : ∀ (j : Nat) (x : Value), (#[.int .i64 a0_0, .int .i64 a0_1, .int .i64 a0_2, .int .i64 a0_3, .int .i64 a0_4, .int .i64 a0_5, .slice A0_6 l0_6.length c0_6, .slice A0_7 l0_7.length c0_7, .slice A1 l1.length c1, .int .i64 (v : Int), .int .i64 at_]).toList[j]? = some x → (w2.alloc (.cells #[.int .i64 a0_0, .int .i64 a0_1, .int .i64 a0_2, .int .i64 a0_3, .int .i64 a0_4, .int .i64 a0_5, .slice A0_6 l0_6.length c0_6, .slice A0_7 l0_7.length c0_7, .slice A1 l1.length c1, .int .i64 (v : Int), .int .i64 at_] 86)).cell? ⟨w2.heap.size, j, none⟩ = some x := fun j x hx => (blk_cell (blk_new w2 _) j).trans (by simpa using hx)
            generalize hW3 : w2.alloc (.cells #[.int .i64 a0_0, .int .i64 a0_1, .int .i64 a0_2, .int .i64 a0_3, .int .i64 a0_4, .int .i64 a0_5, .slice A0_6 l0_6.length c0_6, .slice A0_7 l0_7.length c0_7, .slice A1 l1.length c1, .int .i64 (v : Int), .int .i64 at_] 86) = W3 at hW hN hHeld ⊢
            clear hW3 hb
            generalize w2.heap.size = nb at hN ⊢
            have n0 := hN 0 _ rfl
            have n1 := hN 1 _ rfl
            have n2 := hN 2 _ rfl
            have n3 := hN 3 _ rfl
            have n4 := hN 4 _ rfl
            have n5 := hN 5 _ rfl
            have n6 := hN 6 _ rfl
            have n7 := hN 7 _ rfl
            have n8 := hN 8 _ rfl
            have n9 := hN 9 _ rfl
            have n10 := hN 10 _ rfl
            go_wp2_with (fail)
            go_loopw [26] (fun p wi => ∃ i : Nat, p = .int .i64 (i : Int) ∧ i ≤ 1 ∧ allG g (v : Int) at_ (([37] : List Nat).drop i) = some b ∧ Below W3.heap.size W3 wi) (fun p _ => (1 - intOf p).toNat)
            case atStart => exact ⟨0, rfl, Nat.zero_le _, HF.out.1, Below.refl _ _⟩
            case round =>
              obtain ⟨i, rfl, hi, hal, hWi⟩ := hrel
              obtain ⟨wi, rfl⟩ : ∃ X, X = wr := ⟨wr, rfl⟩
              have hle3 : w.heap.size ≤ W3.heap.size := Nat.le_trans BW.out.size hW.size
              have hBt : Below w.heap.size w wi := BW.out.trans ((hW.mono BW.out.size).trans (hWi.mono hle3))
              by_cases hlt2 : i < 1
              · have hlb2 : decide ((i : Int) < 1) = true := decide_eq_true (by omega)
                have m0 := (hWi.cell (World.block_lt_of_cell? W3 _ n0)).trans n0
                have m1 := (hWi.cell (World.block_lt_of_cell? W3 _ n1)).trans n1
                have m2 := (hWi.cell (World.block_lt_of_cell? W3 _ n2)).trans n2
                have m3 := (hWi.cell (World.block_lt_of_cell? W3 _ n3)).trans n3
                have m4 := (hWi.cell (World.block_lt_of_cell? W3 _ n4)).trans n4
                have m5 := (hWi.cell (World.block_lt_of_cell? W3 _ n5)).trans n5
                have m6 := (hWi.cell (World.block_lt_of_cell? W3 _ n6)).trans n6
                have m7 := (hWi.cell (World.block_lt_of_cell? W3 _ n7)).trans n7
                have m8 := (hWi.cell (World.block_lt_of_cell? W3 _ n8)).trans n8
                have m9 := (hWi.cell (World.block_lt_of_cell? W3 _ n9)).trans n9
                have m10 := (hWi.cell (World.block_lt_of_cell? W3 _ n10)).trans n10
                obtain rfl : i = 0 := by omega
                · replace hal : (g 37 (v : Int) at_).bind (fun b => if b = true then allG g (v : Int) at_ (([37] : List Nat).drop 1) else some false) = some b := hal
                  obtain ⟨b1, hg1, hal⟩ := Option.bind_eq_some_iff.1 hal
                  have hcf := (hBt.cell (World.block_lt_of_cell? w _ (HA.out 0 37 rfl))).trans (HA.out 0 37 rfl)
                  have hcg : wi.cell? B = some (.func (.func 37) #[] #[]) := hcf
                  clear hcf
                  have q0 := (((Below.refl wi.heap.size wi).alloc (Nat.le_refl _) (.cells #[.func (.func 37) #[] #[]] 64)).cell (World.block_lt_of_cell? wi _ m0)).trans m0
                  have q1 := (((Below.refl wi.heap.size wi).alloc (Nat.le_refl _) (.cells #[.func (.func 37) #[] #[]] 64)).cell (World.block_lt_of_cell? wi _ m1)).trans m1
                  have q2 := (((Below.refl wi.heap.size wi).alloc (Nat.le_refl _) (.cells #[.func (.func 37) #[] #[]] 64)).cell (World.block_lt_of_cell? wi _ m2)).trans m2
                  have q3 := (((Below.refl wi.heap.size wi).alloc (Nat.le_refl _) (.cells #[.func (.func 37) #[] #[]] 64)).cell (World.block_lt_of_cell? wi _ m3)).trans m3
                  have q4 := (((Below.refl wi.heap.size wi).alloc (Nat.le_refl _) (.cells #[.func (.func 37) #[] #[]] 64)).cell (World.block_lt_of_cell? wi _ m4)).trans m4
                  have q5 := (((Below.refl wi.heap.size wi).alloc (Nat.le_refl _) (.cells #[.func (.func 37) #[] #[]] 64)).cell (World.block_lt_of_cell? wi _ m5)).trans m5
                  have q6 := (((Below.refl wi.heap.size wi).alloc (Nat.le_refl _) (.cells #[.func (.func 37) #[] #[]] 64)).cell (World.block_lt_of_cell? wi _ m6)).trans m6
                  have q7 := (((Below.refl wi.heap.size wi).alloc (Nat.le_refl _) (.cells #[.func (.func 37) #[] #[]] 64)).cell (World.block_lt_of_cell? wi _ m7)).trans m7
                  have q8 := (((Below.refl wi.heap.size wi).alloc (Nat.le_refl _) (.cells #[.func (.func 37) #[] #[]] 64)).cell (World.block_lt_of_cell? wi _ m8)).trans m8
                  have q9 := (((Below.refl wi.heap.size wi).alloc (Nat.le_refl _) (.cells #[.func (.func 37) #[] #[]] 64)).cell (World.block_lt_of_cell? wi _ m9)).trans m9
                  have q10 := (((Below.refl wi.heap.size wi).alloc (Nat.le_refl _) (.cells #[.func (.func 37) #[] #[]] 64)).cell (World.block_lt_of_cell? wi _ m10)).trans m10
                  have kG := HG.out 37 (by simp) (v : Int) at_ b1
                  cases b1 with
                  | false =>
                    have hbf : b = false := (Option.some.inj (show some false = some b from hal)).symm
                    have HFS := Aside0.mk (Option.some.inj (hf_false hbf HF.out.2))
                    go_wp2_with (go_at_call 37; (with_reducible refine (kG _ ?_ hg1).mono ?_); exact hBt.alloc (Nat.le_trans hle3 hWi.size) _; rintro e w5 ⟨rfl, hb5⟩)
                    go_ret
                    exact ⟨congrArg (fun x => Ending.returned (Value.int .i64 x)) HFS.out, (hBt.alloc hBt.size _).trans (hb5.mono (hBt.alloc hBt.size _).size)⟩
                  | true =>
                    replace hal : allG g (v : Int) at_ (([37] : List Nat).drop 1) = some b := hal
                    go_wp2_with (go_at_call 37; (with_reducible refine (kG _ ?_ hg1).mono ?_); exact hBt.alloc (Nat.le_trans hle3 hWi.size) _; rintro e w5 ⟨rfl, hb5⟩)
                    exact ⟨⟨1, rfl, by omega, hal, (hWi.alloc hWi.size _).trans (hb5.mono (hWi.alloc hWi.size _).size)⟩, by simp [intOf]⟩
              · have hie : i = 1 := by omega
                subst hie
                have hb1 : b = true := allG_nil hal
                have hfst := hf_true hb1 HF.out.2
                have hv1 : v + 1 ≤ l0_6.length := by omega
                have hms : (l0_6.length - (v + 1)) < (l0_6.length - v) := by omega
                have hm2 : l0_6.length - (v + 1) = m := by omega
                have hwv : wrap64 ((v : Int) + 1) = ((v + 1 : Nat) : Int) := by have := HL.out; rw [wu64 (by omega) (by omega)]; omega
                go_wp2
                go_roundw
                case rel => exact ⟨v + 1, by first | rfl | (rw [hwv]; done) | (simp [hwv]; done), hv1, by rw [hm2]; exact hfst, hBt, Nat.lt_of_lt_of_le hsz (Nat.le_trans hW.size hWi.size), ((hWi.block _ (Nat.lt_of_lt_of_le hsz hW.size)).trans (hW.block _ hsz)).trans HBC.out⟩
                case measure => exact meas_next hwv hv1
          exact AllReadyH.nil
        exact AllReadyH.nil
      refine AllReadyH.cons (i := 7) (o := _) ((List.getElem?_toArray ..).trans rfl) (fun K hK => ?_) ?_
      · go_simp
        refine hK.out _ _ ?_ (fun hHeld => ?_)
        · (try dsimp only)
          exact KS.out _ (by with_reducible first | exact below_drew1 (Below.refl _ _) | exact below_drew1 ((Below.refl _ _).alloc (Nat.le_refl _) _) | exact hHeld.1.trans (hb.mono hHeld.1.size) | exact hHeld.1.alloc hHeld.1.size _ | exact HW2.out.alloc HW2.out.size _ | exact below_cells HW2.out (Nat.le_refl _) _)
        clear hK K
        (try simp only [Act.put, List.setIfInBounds_toArray, List.set_cons_zero, List.set_cons_succ])
        refine wpAnyH_ready (rs := [5]) (by kernel_rfl) (by simp) ?_
        refine AllReadyH.cons (i := 5) (o := _) ((List.getElem?_toArray ..).trans rfl) (fun K hK => ?_) ?_
        · go_simp
          refine (KC.out _ (Kd.C_below H6.out (BW.out.trans (hHeld.1.mono BW.out.size))) hc0_6 (Kd.C_below H7.out (BW.out.trans (hHeld.1.mono BW.out.size))) hc0_7 HAT.out).mono ?_; rintro e w2 ⟨rfl, hb⟩; have HW2 := Aside0.mk (hHeld.1.trans (hb.mono hHeld.1.size))
          refine hK.out _ _ ?_ (fun hHeld => ?_)
          · (try dsimp only)
            exact KS.out _ (by with_reducible first | exact below_drew1 (Below.refl _ _) | exact below_drew1 ((Below.refl _ _).alloc (Nat.le_refl _) _) | exact hHeld.1.trans (hb.mono hHeld.1.size) | exact hHeld.1.alloc hHeld.1.size _ | exact HW2.out.alloc HW2.out.size _ | exact below_cells HW2.out (Nat.le_refl _) _)
          clear hK K
          (try simp only [Act.put, List.setIfInBounds_toArray, List.set_cons_zero, List.set_cons_succ])
          refine wpAnyH_take (i := 6) (oi := _) (v := ?_) ((List.getElem?_toArray ..).trans rfl) (by kernel_rfl) (by kernel_rfl) (by kernel_rfl) (fun _ _ _ h => h) (Or.inl ⟨by rfl, ?_⟩) (by assumption) ?_
          rotate_left
          · (intro w hSw; (try dsimp only at hSw); go_simp; (try with_reducible rfl))
          (try simp only [Act.put, List.setIfInBounds_toArray, List.set_cons_zero, List.set_cons_succ])
          have hzb : w2.heap[wo.heap.size]? = some (.cells #[.int .i64 0, .int .i64 0, .int .i64 0, .int .i64 0, .int .i64 0, .int .i64 0, .slice none 0 0, .slice none 0 0, .slice none 0 0, .int .i64 0, .int .i64 0] 86 (0, 0)) := (hb.block wo.heap.size (by simp)).trans (blk_drew (blk_new wo (.cells #[.int .i64 0, .int .i64 0, .int .i64 0, .int .i64 0, .int .i64 0, .int .i64 0, .slice none 0 0, .slice none 0 0, .slice none 0 0, .int .i64 0, .int .i64 0] 86))); have HZ := Aside0.mk hzb
          refine wpAnyH_ready (rs := [8]) (by kernel_rfl) (by simp) ?_
          refine AllReadyH.cons (i := 8) (o := _) ((List.getElem?_toArray ..).trans rfl) (fun K hK => ?_) ?_
          · refine wp_store_mid 86 _ _ rfl wo.heap.size 0 #[.int .i64 a0_0, .int .i64 a0_1, .int .i64 a0_2, .int .i64 a0_3, .int .i64 a0_4, .int .i64 a0_5, .slice A0_6 l0_6.length c0_6, .slice A0_7 l0_7.length c0_7, .slice A1 l1.length c1, .int .i64 (v : Int), .int .i64 at_] rfl rfl (there_of HZ.out rfl) rfl (by simp [Value.oneCell']) ?_
            refine hK.out _ _ ?_ (fun hHeld => ?_)
            · (try dsimp only)
              exact KS.out _ (by with_reducible first | exact below_drew1 (Below.refl _ _) | exact below_drew1 ((Below.refl _ _).alloc (Nat.le_refl _) _) | exact hHeld.1.trans (hb.mono hHeld.1.size) | exact hHeld.1.alloc hHeld.1.size _ | exact HW2.out.alloc HW2.out.size _ | exact below_cells HW2.out (Nat.le_refl _) _)
            clear hK K
            (try simp only [Act.put, List.setIfInBounds_toArray, List.set_cons_zero, List.set_cons_succ])
            refine wpAnyH_done (by kernel_rfl) ?_ _
            have hW := below_cells HW2.out (Nat.le_refl _) (vs := (#[.int .i64 a0_0, .int .i64 a0_1, .int .i64 a0_2, .int .i64 a0_3, .int .i64 a0_4, .int .i64 a0_5, .slice A0_6 l0_6.length c0_6, .slice A0_7 l0_7.length c0_7, .slice A1 l1.length c1, .int .i64 (v : Int), .int .i64 at_]).toList) 0
            have hN : ∀ (j : Nat) (x : Value), (#[.int .i64 a0_0, .int .i64 a0_1, .int .i64 a0_2, .int .i64 a0_3, .int .i64 a0_4, .int .i64 a0_5, .slice A0_6 l0_6.length c0_6, .slice A0_7 l0_7.length c0_7, .slice A1 l1.length c1, .int .i64 (v : Int), .int .i64 at_]).toList[j]? = some x → (w2.setCells wo.heap.size 0 (#[.int .i64 a0_0, .int .i64 a0_1, .int .i64 a0_2, .int .i64 a0_3, .int .i64 a0_4, .int .i64 a0_5, .slice A0_6 l0_6.length c0_6, .slice A0_7 l0_7.length c0_7, .slice A1 l1.length c1, .int .i64 (v : Int), .int .i64 at_]).toList).cell? ⟨wo.heap.size, j, none⟩ = some x := fun j x hx => by have := World.rangeAt_setCells_same w2 wo.heap.size 0 (#[.int .i64 a0_0, .int .i64 a0_1, .int .i64 a0_2, .int .i64 a0_3, .int .i64 a0_4, .int .i64 a0_5, .slice A0_6 l0_6.length c0_6, .slice A0_7 l0_7.length c0_7, .slice A1 l1.length c1, .int .i64 (v : Int), .int .i64 at_]).toList (there_of HZ.out rfl) j x hx; rwa [Nat.zero_add] at this
            generalize hW3 : w2.setCells wo.heap.size 0 (#[.int .i64 a0_0, .int .i64 a0_1, .int .i64 a0_2, .int .i64 a0_3, .int .i64 a0_4, .int .i64 a0_5, .slice A0_6 l0_6.length c0_6, .slice A0_7 l0_7.length c0_7, .slice A1 l1.length c1, .int .i64 (v : Int), .int .i64 at_]).toList = W3 at hW hN hHeld ⊢
            clear hW3 hb
            have hnb := Nat.le_refl wo.heap.size
            have n0 := hN 0 _ rfl
            have n1 := hN 1 _ rfl
            have n2 := hN 2 _ rfl
            have n3 := hN 3 _ rfl
            have n4 := hN 4 _ rfl
            have n5 := hN 5 _ rfl
            have n6 := hN 6 _ rfl
            have n7 := hN 7 _ rfl
            have n8 := hN 8 _ rfl
            have n9 := hN 9 _ rfl
            have n10 := hN 10 _ rfl
            go_wp2_with (fail)
            go_loopw [26] (fun p wi => ∃ i : Nat, p = .int .i64 (i : Int) ∧ i ≤ 1 ∧ allG g (v : Int) at_ (([37] : List Nat).drop i) = some b ∧ Below W3.heap.size W3 wi) (fun p _ => (1 - intOf p).toNat)
            case atStart => exact ⟨0, rfl, Nat.zero_le _, HF.out.1, Below.refl _ _⟩
            case round =>
              obtain ⟨i, rfl, hi, hal, hWi⟩ := hrel
              obtain ⟨wi, rfl⟩ : ∃ X, X = wr := ⟨wr, rfl⟩
              have hle3 : w.heap.size ≤ W3.heap.size := Nat.le_trans BW.out.size hW.size
              have hBt : Below w.heap.size w wi := BW.out.trans ((hW.mono BW.out.size).trans (hWi.mono hle3))
              by_cases hlt2 : i < 1
              · have hlb2 : decide ((i : Int) < 1) = true := decide_eq_true (by omega)
                have m0 := (hWi.cell (World.block_lt_of_cell? W3 _ n0)).trans n0
                have m1 := (hWi.cell (World.block_lt_of_cell? W3 _ n1)).trans n1
                have m2 := (hWi.cell (World.block_lt_of_cell? W3 _ n2)).trans n2
                have m3 := (hWi.cell (World.block_lt_of_cell? W3 _ n3)).trans n3
                have m4 := (hWi.cell (World.block_lt_of_cell? W3 _ n4)).trans n4
                have m5 := (hWi.cell (World.block_lt_of_cell? W3 _ n5)).trans n5
                have m6 := (hWi.cell (World.block_lt_of_cell? W3 _ n6)).trans n6
                have m7 := (hWi.cell (World.block_lt_of_cell? W3 _ n7)).trans n7
                have m8 := (hWi.cell (World.block_lt_of_cell? W3 _ n8)).trans n8
                have m9 := (hWi.cell (World.block_lt_of_cell? W3 _ n9)).trans n9
                have m10 := (hWi.cell (World.block_lt_of_cell? W3 _ n10)).trans n10
                obtain rfl : i = 0 := by omega
                · replace hal : (g 37 (v : Int) at_).bind (fun b => if b = true then allG g (v : Int) at_ (([37] : List Nat).drop 1) else some false) = some b := hal
                  obtain ⟨b1, hg1, hal⟩ := Option.bind_eq_some_iff.1 hal
                  have hcf := (hBt.cell (World.block_lt_of_cell? w _ (HA.out 0 37 rfl))).trans (HA.out 0 37 rfl)
                  have hcg : wi.cell? B = some (.func (.func 37) #[] #[]) := hcf
                  clear hcf
                  have q0 := (((Below.refl wi.heap.size wi).alloc (Nat.le_refl _) (.cells #[.func (.func 37) #[] #[]] 64)).cell (World.block_lt_of_cell? wi _ m0)).trans m0
                  have q1 := (((Below.refl wi.heap.size wi).alloc (Nat.le_refl _) (.cells #[.func (.func 37) #[] #[]] 64)).cell (World.block_lt_of_cell? wi _ m1)).trans m1
                  have q2 := (((Below.refl wi.heap.size wi).alloc (Nat.le_refl _) (.cells #[.func (.func 37) #[] #[]] 64)).cell (World.block_lt_of_cell? wi _ m2)).trans m2
                  have q3 := (((Below.refl wi.heap.size wi).alloc (Nat.le_refl _) (.cells #[.func (.func 37) #[] #[]] 64)).cell (World.block_lt_of_cell? wi _ m3)).trans m3
                  have q4 := (((Below.refl wi.heap.size wi).alloc (Nat.le_refl _) (.cells #[.func (.func 37) #[] #[]] 64)).cell (World.block_lt_of_cell? wi _ m4)).trans m4
                  have q5 := (((Below.refl wi.heap.size wi).alloc (Nat.le_refl _) (.cells #[.func (.func 37) #[] #[]] 64)).cell (World.block_lt_of_cell? wi _ m5)).trans m5
                  have q6 := (((Below.refl wi.heap.size wi).alloc (Nat.le_refl _) (.cells #[.func (.func 37) #[] #[]] 64)).cell (World.block_lt_of_cell? wi _ m6)).trans m6
                  have q7 := (((Below.refl wi.heap.size wi).alloc (Nat.le_refl _) (.cells #[.func (.func 37) #[] #[]] 64)).cell (World.block_lt_of_cell? wi _ m7)).trans m7
                  have q8 := (((Below.refl wi.heap.size wi).alloc (Nat.le_refl _) (.cells #[.func (.func 37) #[] #[]] 64)).cell (World.block_lt_of_cell? wi _ m8)).trans m8
                  have q9 := (((Below.refl wi.heap.size wi).alloc (Nat.le_refl _) (.cells #[.func (.func 37) #[] #[]] 64)).cell (World.block_lt_of_cell? wi _ m9)).trans m9
                  have q10 := (((Below.refl wi.heap.size wi).alloc (Nat.le_refl _) (.cells #[.func (.func 37) #[] #[]] 64)).cell (World.block_lt_of_cell? wi _ m10)).trans m10
                  have kG := HG.out 37 (by simp) (v : Int) at_ b1
                  cases b1 with
                  | false =>
                    have hbf : b = false := (Option.some.inj (show some false = some b from hal)).symm
                    have HFS := Aside0.mk (Option.some.inj (hf_false hbf HF.out.2))
                    go_wp2_with (go_at_call 37; (with_reducible refine (kG _ ?_ hg1).mono ?_); exact hBt.alloc (Nat.le_trans hle3 hWi.size) _; rintro e w5 ⟨rfl, hb5⟩)
                    go_ret
                    exact ⟨congrArg (fun x => Ending.returned (Value.int .i64 x)) HFS.out, (hBt.alloc hBt.size _).trans (hb5.mono (hBt.alloc hBt.size _).size)⟩
                  | true =>
                    replace hal : allG g (v : Int) at_ (([37] : List Nat).drop 1) = some b := hal
                    go_wp2_with (go_at_call 37; (with_reducible refine (kG _ ?_ hg1).mono ?_); exact hBt.alloc (Nat.le_trans hle3 hWi.size) _; rintro e w5 ⟨rfl, hb5⟩)
                    exact ⟨⟨1, rfl, by omega, hal, (hWi.alloc hWi.size _).trans (hb5.mono (hWi.alloc hWi.size _).size)⟩, by simp [intOf]⟩
              · have hie : i = 1 := by omega
                subst hie
                have hb1 : b = true := allG_nil hal
                have hfst := hf_true hb1 HF.out.2
                have hv1 : v + 1 ≤ l0_6.length := by omega
                have hms : (l0_6.length - (v + 1)) < (l0_6.length - v) := by omega
                have hm2 : l0_6.length - (v + 1) = m := by omega
                have hwv : wrap64 ((v : Int) + 1) = ((v + 1 : Nat) : Int) := by have := HL.out; rw [wu64 (by omega) (by omega)]; omega
                go_wp2
                go_roundw
                case rel => exact ⟨v + 1, by first | rfl | (rw [hwv]; done) | (simp [hwv]; done), hv1, by rw [hm2]; exact hfst, hBt, Nat.lt_of_lt_of_le hsz (Nat.le_trans hW.size hWi.size), ((hWi.block _ (Nat.lt_of_lt_of_le hsz hW.size)).trans (hW.block _ hsz)).trans HBC.out⟩
                case measure => exact meas_next hwv hv1
          exact AllReadyH.nil
        exact AllReadyH.nil
      exact AllReadyH.nil
    · have hlb : decide ((v : Int) < (l0_6.length : Int)) = false := decide_eq_false hlt
      have e0 : l0_6.length - v = 0 := by omega
      rw [e0] at hfirst
      simp only [firstL, Option.some.injEq] at hfirst
      subst hfirst
      go_wp2
      go_ret
      exact ⟨rfl, hB⟩
end
end Go.Proofs.YthbaamfdpebocaaGreat.PA
