import Derived.Test.YthbaamfdpebocaaGreatHMem
import Derived.Test.YthbaamfdpebocaaGreatPAx7
import Derived.Test.YthbaamfdpebocaaGreatPAx9
import Derived.RangeFuncNested
import Derived.RangeFuncBound
import Derived.RangeFuncCalls
import Derived.RangeFuncLeaves
import Derived.RangeFuncBox
import Derived.Shelf.Abstract
import Derived.Shelf.RegionOpen
import Derived.OwnWalkIn
import Derived.TacticsInMore
import Derived.LoopNIn
import Derived.LoopIn
import Derived.Deep.RegionHeld3
import Derived.Deep.RegionLaw
import Derived.Laws.CopyOwn
import Derived.Laws.EntriesVeiled
import Derived.Deep.DeepCutAuto
namespace Go.Proofs.YthbaamfdpebocaaGreat.PA
open Go.RowKit Go.Shelf Go.Proofs.YthbaamfdpebocaaGreatW.PrintWords Go.Proofs.YthbaamfdpebocaaGreatW.PrintLast Go.Proofs.YthbaamfdpebocaaGreatW.PrintMore
attribute [local go_sem] max2_int min2_int max_two min_two max_three min_three max_four min_four
set_option linter.unusedVariables false
set_option linter.unusedSimpArgs false
/-- a setting's numbers are small. -/
def CB (c : LConf) : Prop := (1 ≤ c.st ∧ c.st ≤ 8) ∧ (1 ≤ c.ps.length ∧ c.ps.length ≤ 12) ∧ (1 ≤ c.ti ∧ c.ti ≤ 16) ∧ c.ls.length = c.ps.length
theorem Right.cb {c : LConf} (h : Right c) : CB c := by
  have h1 := h.1
  unfold HeadOk at h1
  unfold CB
  omega
def aLim (c : LConf) (v : Int) : Int := v * (6 + 2 * c.st)
def aAv (c : LConf) (v : Int) : Int := aLim c v + 1
def aLe (c : LConf) (v s : Int) : Int := aLim c v + 2 + s
def aCo (c : LConf) (v : Int) : Int := aLim c v + 2 + c.st
def aTi (c : LConf) (k : Int) : Int := aLim c (c.ps.length : Int) + 2 * k
def aSz (c : LConf) : Int := aTi c c.ti
theorem aLim_bound (c : LConf) (hc : CB c) (v : Int) (hv : 0 ≤ v ∧ v ≤ 1000) : 0 ≤ aLim c v ∧ aLim c v ≤ 22000 := by
  have h1 : 0 ≤ 6 + 2 * c.st := by have := hc.1; omega
  have h2 : 6 + 2 * c.st ≤ 22 := by have := hc.1; omega
  exact ⟨Int.mul_nonneg hv.1 h1, Int.le_trans (Int.mul_le_mul hv.2 h2 h1 (by omega)) (by omega)⟩
theorem aLim_step (c : LConf) (hc : CB c) (v u : Int) (h : v < u) : aLim c v + (6 + 2 * c.st) ≤ aLim c u := by
  have h1 : 0 ≤ 6 + 2 * c.st := by have := hc.1; omega
  have h2 : (v + 1) * (6 + 2 * c.st) ≤ u * (6 + 2 * c.st) := Int.mul_le_mul_of_nonneg_right (by omega) h1
  rw [Int.add_mul, Int.one_mul] at h2
  exact h2
theorem Limit_a (c : LConf) (hc : CB c) (v : Int) (hv : 0 ≤ v ∧ v ≤ 1000) : breadlineref05_Limit.f c.th c.st c.ga c.le c.re c.ti c.ps c.ls v = some (aLim c v) := by
  have hb := aLim_bound c hc v hv
  have h1 := hc.1
  unfold breadlineref05_Limit.f
  rw [w64 (x := 2 * c.st) (by omega) (by omega), w64 (x := 6 + 2 * c.st) (by omega) (by omega)]
  exact congrArg some (w64 (x := v * (6 + 2 * c.st)) (by have := hb.1; unfold aLim at this; omega) (by have := hb.2; unfold aLim at this; omega))
theorem K_aLimit (c : LConf) (hc : CB c) (A6 : Option Addr) (n6 d6 : Nat) (A7 : Option Addr) (n7 d7 : Nat) (v : Int) (hv : 0 ≤ v ∧ v ≤ 1000) (W : World) (h6 : IsInts W (.slice A6 n6 d6) c.ps) (h7 : IsInts W (.slice A7 n7 d7) c.ls) :
    Calls Tryz.prog 26 #[.agg #[.int .i64 c.th, .int .i64 c.st, .int .i64 c.ga, .int .i64 c.le, .int .i64 c.re, .int .i64 c.ti, .slice A6 n6 d6, .slice A7 n7 d7], .int .i64 v] W fun e w' => e = .returned (.int .i64 (aLim c v)) ∧ Below W.heap.size W w' := by
  obtain ⟨_, _, e0, hc0, hC0⟩ := h6
  obtain ⟨_, _, e1, hc1, hC1⟩ := h7
  cases e0
  cases e1
  exact breadlineref05_Limit.calls _ _ _ _ _ _ A6 d6 c.ps A7 d7 c.ls v _ W hC0 hc0 hC1 hc1 (Limit_a c hc v hv)
theorem Avail_a (c : LConf) (hc : CB c) (v : Int) (hv : 0 ≤ v ∧ v ≤ 1000) : breadlineref05_Avail.f c.th c.st c.ga c.le c.re c.ti c.ps c.ls v = some (aAv c v) := by
  have hb := aLim_bound c hc v hv
  have h1 := hc.1
  unfold breadlineref05_Avail.f
  rw [Limit_a c hc v hv, Option.bind_some]
  rw [w64 (by omega) (by omega)]
  rfl
theorem K_aAvail (c : LConf) (hc : CB c) (A6 : Option Addr) (n6 d6 : Nat) (A7 : Option Addr) (n7 d7 : Nat) (v : Int) (hv : 0 ≤ v ∧ v ≤ 1000) (W : World) (h6 : IsInts W (.slice A6 n6 d6) c.ps) (h7 : IsInts W (.slice A7 n7 d7) c.ls) :
    Calls Tryz.prog 27 #[.agg #[.int .i64 c.th, .int .i64 c.st, .int .i64 c.ga, .int .i64 c.le, .int .i64 c.re, .int .i64 c.ti, .slice A6 n6 d6, .slice A7 n7 d7], .int .i64 v] W fun e w' => e = .returned (.int .i64 (aAv c v)) ∧ Below W.heap.size W w' := by
  obtain ⟨_, _, e0, hc0, hC0⟩ := h6
  obtain ⟨_, _, e1, hc1, hC1⟩ := h7
  cases e0
  cases e1
  exact breadlineref05_Avail.calls _ _ _ _ _ _ A6 d6 c.ps A7 d7 c.ls v _ W hC0 hc0 hC1 hc1 (Avail_a c hc v hv)
theorem Counter_a (c : LConf) (hc : CB c) (v : Int) (hv : 0 ≤ v ∧ v ≤ 1000) : breadlineref05_Counter.f c.th c.st c.ga c.le c.re c.ti c.ps c.ls v = some (aCo c v) := by
  have hb := aLim_bound c hc v hv
  have h1 := hc.1
  unfold breadlineref05_Counter.f
  rw [Limit_a c hc v hv, Option.bind_some]
  rw [w64 (x := aLim c v + 2) (by omega) (by omega), w64 (by omega) (by omega)]
  rfl
theorem K_aCounter (c : LConf) (hc : CB c) (A6 : Option Addr) (n6 d6 : Nat) (A7 : Option Addr) (n7 d7 : Nat) (v : Int) (hv : 0 ≤ v ∧ v ≤ 1000) (W : World) (h6 : IsInts W (.slice A6 n6 d6) c.ps) (h7 : IsInts W (.slice A7 n7 d7) c.ls) :
    Calls Tryz.prog 29 #[.agg #[.int .i64 c.th, .int .i64 c.st, .int .i64 c.ga, .int .i64 c.le, .int .i64 c.re, .int .i64 c.ti, .slice A6 n6 d6, .slice A7 n7 d7], .int .i64 v] W fun e w' => e = .returned (.int .i64 (aCo c v)) ∧ Below W.heap.size W w' := by
  obtain ⟨_, _, e0, hc0, hC0⟩ := h6
  obtain ⟨_, _, e1, hc1, hC1⟩ := h7
  cases e0
  cases e1
  exact breadlineref05_Counter.calls _ _ _ _ _ _ A6 d6 c.ps A7 d7 c.ls v _ W hC0 hc0 hC1 hc1 (Counter_a c hc v hv)
theorem Lease_a (c : LConf) (hc : CB c) (v : Int) (s : Int) (hv : 0 ≤ v ∧ v ≤ 1000) (hs : 0 ≤ s ∧ s ≤ 1000) : breadlineref05_Lease.f c.th c.st c.ga c.le c.re c.ti c.ps c.ls v s = some (aLe c v s) := by
  have hb := aLim_bound c hc v hv
  have h1 := hc.1
  unfold breadlineref05_Lease.f
  rw [Limit_a c hc v hv, Option.bind_some]
  rw [w64 (x := aLim c v + 2) (by omega) (by omega), w64 (by omega) (by omega)]
  rfl
theorem K_aLease (c : LConf) (hc : CB c) (A6 : Option Addr) (n6 d6 : Nat) (A7 : Option Addr) (n7 d7 : Nat) (v : Int) (s : Int) (hv : 0 ≤ v ∧ v ≤ 1000) (hs : 0 ≤ s ∧ s ≤ 1000) (W : World) (h6 : IsInts W (.slice A6 n6 d6) c.ps) (h7 : IsInts W (.slice A7 n7 d7) c.ls) :
    Calls Tryz.prog 28 #[.agg #[.int .i64 c.th, .int .i64 c.st, .int .i64 c.ga, .int .i64 c.le, .int .i64 c.re, .int .i64 c.ti, .slice A6 n6 d6, .slice A7 n7 d7], .int .i64 v, .int .i64 s] W fun e w' => e = .returned (.int .i64 (aLe c v s)) ∧ Below W.heap.size W w' := by
  obtain ⟨_, _, e0, hc0, hC0⟩ := h6
  obtain ⟨_, _, e1, hc1, hC1⟩ := h7
  cases e0
  cases e1
  exact breadlineref05_Lease.calls _ _ _ _ _ _ A6 d6 c.ps A7 d7 c.ls v s _ W hC0 hc0 hC1 hc1 (Lease_a c hc v s hv hs)
theorem Ticket_a (c : LConf) (hc : CB c) (k : Int) (hv : 0 ≤ k ∧ k ≤ 1000) : breadlineref05_Ticket.f c.th c.st c.ga c.le c.re c.ti c.ps c.ls k = some (aTi c k) := by
  have hp := hc.2.1
  have hb := aLim_bound c hc (c.ps.length : Int) (by omega)
  unfold breadlineref05_Ticket.f
  rw [Limit_a c hc _ (by omega), Option.bind_some, w64 (x := 2 * k) (by omega) (by omega), w64 (by omega) (by omega)]
  rfl
theorem Size_a (c : LConf) (hc : CB c) : breadlineref05_Size.f c.th c.st c.ga c.le c.re c.ti c.ps c.ls = some (aSz c) := by
  have h2 := hc.2.2
  unfold breadlineref05_Size.f
  rw [Ticket_a c hc c.ti (by omega)]
  rfl
theorem K_aSize (c : LConf) (hc : CB c) (A6 : Option Addr) (n6 d6 : Nat) (A7 : Option Addr) (n7 d7 : Nat) (W : World) (h6 : IsInts W (.slice A6 n6 d6) c.ps) (h7 : IsInts W (.slice A7 n7 d7) c.ls) :
    Calls Tryz.prog 54 #[.agg #[.int .i64 c.th, .int .i64 c.st, .int .i64 c.ga, .int .i64 c.le, .int .i64 c.re, .int .i64 c.ti, .slice A6 n6 d6, .slice A7 n7 d7]] W fun e w' => e = .returned (.int .i64 (aSz c)) ∧ Below W.heap.size W w' := by
  obtain ⟨_, _, e0, hc0, hC0⟩ := h6
  obtain ⟨_, _, e1, hc1, hC1⟩ := h7
  cases e0
  cases e1
  exact breadlineref05_Size.calls _ _ _ _ _ _ A6 d6 c.ps A7 d7 c.ls _ W hC0 hc0 hC1 hc1 (Size_a c hc)
theorem MemAt.lower {B B' : Nat} {w : World} {mb : Nat} {M : LMem} (h : MemAt B w mb M) (hb : B' ≤ B) : MemAt B' w mb M := by
  obtain ⟨hB, A, n, c, vL, hh, hw, hl⟩ := h
  exact ⟨Nat.le_trans hb hB, A, n, c, vL, hh, hw, Kd.R_lower hl hb⟩
theorem IsInts.blk_lt {w : World} {A : Option Addr} {n c : Nat} {xs : List Int} (h : IsInts w (.slice A n c) xs) {a : Addr} (ha : A = some a) (h0 : 0 < n) : a.block < w.heap.size := by
  obtain ⟨ad, rfl, hc⟩ := h.get 0 (by have := h.len; omega)
  cases ha
  have := World.block_lt_of_cell? w _ hc
  rwa [add_blk] at this
/-- a row that lies in no block of bs. -/
theorem KMI {bs : Nat → Prop} {w w5 w6 : World} {A : Option Addr} {n c : Nat} {xs : List Int} (h : IsInts w (.slice A n c) xs) (hb : Below w.heap.size w w5) (hk : KM bs w5 w6) (hq : ∀ a, A = some a → 0 < n → ¬ bs a.block) : IsInts w6 (.slice A n c) xs := by
  have h5 := h.below hb
  have hlt := fun (a : Addr) (ha : A = some a) (h0 : 0 < n) => h5.blk_lt ha h0
  obtain ⟨A', c', e, hc, h1, h2, h3⟩ := h5
  cases e
  refine ⟨A, c, rfl, hc, h1, h2, fun h0 => ?_⟩
  obtain ⟨ad, rfl, hx⟩ := h3 h0
  have hs := hk.same _ (hlt ad rfl h0) (hq ad rfl h0)
  exact ⟨ad, rfl, fun j p hj => by
    obtain ⟨cs, l, r, hcell⟩ := hx j p hj
    exact ⟨cs, l, r, fun i u hi => (cell_of_blk (by rw [add_blk]; exact hs)).trans (hcell i u hi)⟩⟩
theorem KM.cell {bs : Nat → Prop} {w w' : World} (h : KM bs w w') {p : Addr} {v : Value} (hc : w.cell? p = some v) (hn : ¬ bs p.block) : w'.cell? p = some v :=
  (cell_of_blk (h.same p.block (World.block_lt_of_cell? w p hc) hn)).trans hc
def freshL (c : LConf) : Nat → List Int
  | 0 => List.replicate (aSz c).toNat 0
  | k + 1 => pokeL (pokeL (pokeL (freshL c k) (aLim c (k : Int)) (rd c.ls (k : Int))) (aAv c (k : Int)) (rd c.ls (k : Int))) (aCo c (k : Int) + 3) 1
def freshW (c : LConf) : List Int := freshL c c.ps.length
theorem aSz_bound (c : LConf) (hc : CB c) : 0 ≤ aSz c ∧ aSz c ≤ 100000 := by
  have hp := hc.2
  have hb := aLim_bound c hc (c.ps.length : Int) (by omega)
  unfold aSz aTi
  omega
theorem freshL_len (c : LConf) : ∀ k, (freshL c k).length = (aSz c).toNat
  | 0 => List.length_replicate
  | k + 1 => by
    unfold freshL
    rw [pokeL_len, pokeL_len, pokeL_len, freshL_len c k]
set_option maxHeartbeats 4000000 in
set_option maxRecDepth 100000 in
theorem K_Fresh (W : World) (c : LConf) (hc : CB c) (A6 : Option Addr) (n6 d6 : Nat) (A7 : Option Addr) (n7 d7 : Nat) (h6 : IsInts W (.slice A6 n6 d6) c.ps) (h7 : IsInts W (.slice A7 n7 d7) c.ls) :
    Calls Tryz.prog 25 #[.agg #[.int .i64 c.th, .int .i64 c.st, .int .i64 c.ga, .int .i64 c.le, .int .i64 c.re, .int .i64 c.ti, .slice A6 n6 d6, .slice A7 n7 d7]] W fun e w' => ∃ mb, e = .returned (.pointer (some ⟨mb, 0, none⟩)) ∧ W.heap.size ≤ mb ∧ MemAt W.heap.size w' mb ⟨freshW c, []⟩ ∧ Below W.heap.size W w' := by
  have hus := Tryz.underlying24
  have HC := Aside0.mk hc
  have HN6 := Aside0.mk h6.len
  have HN7 := Aside0.mk h7.len
  have H6' := Aside0.mk h6
  have H7' := Aside0.mk h7
  obtain ⟨sz, hsz⟩ : ∃ sz : Nat, aSz c = (sz : Int) := ⟨(aSz c).toNat, by have := aSz_bound c hc; omega⟩
  have HSZ := Aside0.mk hsz
  have hszb : Aside0 (sz ≤ 100000) := ⟨by have := aSz_bound c hc; omega⟩
  have hsn : Aside0 ((aSz c).toNat = sz) := ⟨by omega⟩
  clear h6 h7 hc hsz
  go_enter Tryz.func25, Tryz.ntmps25
  go_upto_region 1 with (fail)
  obtain ⟨w1, hX⟩ : ∃ X, W.alloc (.cells #[.int .i64 c.th, .int .i64 c.st, .int .i64 c.ga, .int .i64 c.le, .int .i64 c.re, .int .i64 c.ti, .slice A6 n6 d6, .slice A7 n7 d7] 24) = X := ⟨_, rfl⟩
  have B1 : Aside0 (Below W.heap.size W w1) := ⟨by rw [← hX]; exact below_alloc (Below.refl _ _) _⟩
  have X1 : Aside0 (w1.heap[W.heap.size]? = some (.cells #[.int .i64 c.th, .int .i64 c.st, .int .i64 c.ga, .int .i64 c.le, .int .i64 c.re, .int .i64 c.ti, .slice A6 n6 d6, .slice A7 n7 d7] 24 (0, 0))) := ⟨by rw [← hX]; exact blk_new _ _⟩
  rw [hX]
  clear hX
  have H6 := Aside0.mk (H6'.out.below B1.out)
  have H7 := Aside0.mk (H7'.out.below B1.out)
  have z0 : w1.cell? ⟨W.heap.size, 0, none⟩ = some (.int .i64 c.th) := (blk_cell X1.out 0).trans rfl
  have z1 : w1.cell? ⟨W.heap.size, 1, none⟩ = some (.int .i64 c.st) := (blk_cell X1.out 1).trans rfl
  have z2 : w1.cell? ⟨W.heap.size, 2, none⟩ = some (.int .i64 c.ga) := (blk_cell X1.out 2).trans rfl
  have z3 : w1.cell? ⟨W.heap.size, 3, none⟩ = some (.int .i64 c.le) := (blk_cell X1.out 3).trans rfl
  have z4 : w1.cell? ⟨W.heap.size, 4, none⟩ = some (.int .i64 c.re) := (blk_cell X1.out 4).trans rfl
  have z5 : w1.cell? ⟨W.heap.size, 5, none⟩ = some (.int .i64 c.ti) := (blk_cell X1.out 5).trans rfl
  have z6 : w1.cell? ⟨W.heap.size, 6, none⟩ = some (.slice A6 n6 d6) := (blk_cell X1.out 6).trans rfl
  have z7 : w1.cell? ⟨W.heap.size, 7, none⟩ = some (.slice A7 n7 d7) := (blk_cell X1.out 7).trans rfl
  go_wp2_with (first | (go_at_call 53; rw [HSZ.out]; (with_reducible refine (K_memNew _ sz hszb.out).mono ?_); rintro e w3 ⟨mb, rfl, hmb, hm, hb⟩; have HM3 := Aside0.mk hm; have HMB : Aside0 (W.heap.size + 1 ≤ mb) := ⟨by have h1 := blk_lt X1.out; have h2 := BB2.out.size; omega⟩; have BB3 := Aside0.mk (below_step BB2.out hb); clear hm hb hmb z0 z1 z2 z3 z4 z5 z6 z7) | (go_at_call 54; (with_reducible refine (K_aSize c HC.out _ _ _ _ _ _ _ ?_ ?_).mono ?_); exact H6.out; exact H7.out; rintro e w2 ⟨rfl, hb⟩; have BB2 := Aside0.mk hb; clear hb))
  have HM4 : Aside0 (MemAt W.heap.size w3 mb ⟨freshL c 0, []⟩) := ⟨by rw [show freshL c 0 = List.replicate sz 0 from congrArg (fun x => List.replicate x (0 : Int)) hsn.out]; exact HM3.out.lower (by have h1 := B1.out.size; have h2 := BB2.out.size; omega)⟩
  have BW : Aside0 (Below W.heap.size W w3) := ⟨B1.out.trans (BB3.out.mono B1.out.size)⟩
  have BX := Aside0.mk (blk_below X1.out BB3.out)
  have hbq : Aside0 (¬ (W.heap.size = mb)) := ⟨by have := HMB.out; omega⟩
  have HNW : Aside0 (∀ i, i < W.heap.size → ¬ (i = mb)) := ⟨fun i hi => by have := HMB.out; omega⟩
  have HQ6 : Aside0 (∀ a, A6 = some a → 0 < n6 → a.block ≠ mb) := ⟨fun a ha h0 => Ne.symm (Nat.ne_of_gt (Nat.lt_of_lt_of_le (H6'.out.blk_lt ha h0) (by have := HMB.out; omega)))⟩
  clear HM3 BB2 BB3 X1 H6 H7
  go_loopg [4] c.ps.length (fun gg s4 wr => ∃ k : Nat, k ≤ c.ps.length ∧ c.ps.length - k ≤ gg ∧ s4 = .int .i64 k ∧ Aside0 (Below W.heap.size W wr) ∧ Aside0 (wr.heap[W.heap.size]? = some (.cells #[.int .i64 c.th, .int .i64 c.st, .int .i64 c.ga, .int .i64 c.le, .int .i64 c.re, .int .i64 c.ti, .slice A6 n6 d6, .slice A7 n7 d7] 24 (0, 0))) ∧ Aside0 (MemAt W.heap.size wr mb ⟨freshL c k, []⟩))
  case atStart => exact ⟨0, Nat.zero_le _, by omega, rfl, BW, BX, HM4⟩
  case round =>
    obtain ⟨k, hk, hg, rfl, BW, BX, HM5⟩ := hrel
    clear HM4
    have z0 : wr.cell? ⟨W.heap.size, 0, none⟩ = some (.int .i64 c.th) := (blk_cell BX.out 0).trans rfl
    have z1 : wr.cell? ⟨W.heap.size, 1, none⟩ = some (.int .i64 c.st) := (blk_cell BX.out 1).trans rfl
    have z2 : wr.cell? ⟨W.heap.size, 2, none⟩ = some (.int .i64 c.ga) := (blk_cell BX.out 2).trans rfl
    have z3 : wr.cell? ⟨W.heap.size, 3, none⟩ = some (.int .i64 c.le) := (blk_cell BX.out 3).trans rfl
    have z4 : wr.cell? ⟨W.heap.size, 4, none⟩ = some (.int .i64 c.re) := (blk_cell BX.out 4).trans rfl
    have z5 : wr.cell? ⟨W.heap.size, 5, none⟩ = some (.int .i64 c.ti) := (blk_cell BX.out 5).trans rfl
    have z6 : wr.cell? ⟨W.heap.size, 6, none⟩ = some (.slice A6 n6 d6) := (blk_cell BX.out 6).trans rfl
    have z7 : wr.cell? ⟨W.heap.size, 7, none⟩ = some (.slice A7 n7 d7) := (blk_cell BX.out 7).trans rfl
    by_cases hlt : k < c.ps.length
    · have hk0 : (0 : Int) ≤ (k : Int) := by omega
      have hk12 : k < 12 := by have := HC.out.2.1; omega
      have hk6 : (k : Int) < (n6 : Int) := by have := HN6.out; omega
      have hk7 : (k : Int) < (n7 : Int) := by have h1 := HN7.out; have h2 := HC.out.2.2.2; omega
      have HKB : Aside0 (0 ≤ (k : Int) ∧ (k : Int) ≤ 1000) := ⟨by have := HC.out.2.1; omega⟩
      obtain ⟨ad7, rfl, cl0⟩ := H7'.out.get k (by have := HC.out.2.2.2; omega)
      have cl := below_cell_of BW.out cl0
      have hbq7 : Aside0 (¬ ((ad7.add k).block = mb)) := ⟨by have h1 := World.block_lt_of_cell? W _ cl0; have h2 := HMB.out; omega⟩
      have HQ7 : Aside0 (∀ a, some ad7 = some a → 0 < n7 → a.block ≠ mb) := ⟨fun a ha _ => by cases ha; have h := hbq7.out; rw [add_blk] at h; exact h⟩
      have HL5 : Aside0 ((freshL c k).length ≤ 100000) := ⟨by rw [freshL_len, hsn.out]; exact hszb.out⟩
      have hco : Aside0 (0 ≤ aCo c (k : Int) ∧ aCo c (k : Int) ≤ 30000) := ⟨by have h1 := aLim_bound c HC.out (k : Int) HKB.out; have h2 := HC.out.1; unfold aCo; omega⟩
      have hw3 : IntKind.i64.wrap (aCo c (k : Int) + 3) = aCo c (k : Int) + 3 := IntWalk.i64_in _ (by have := hco.out; omega)
      have H6b : Aside0 (IsInts wr (.slice A6 n6 d6) c.ps) := ⟨H6'.out.below BW.out⟩
      have H7b : Aside0 (IsInts wr (.slice (some ad7) n7 d7) c.ls) := ⟨H7'.out.below BW.out⟩
      clear cl0
      go_wp2_with (fail)
      go_region_held3 (fun w' => w'.cell? ⟨W.heap.size, 0, none⟩ = some (.int .i64 c.th) ∧ w'.cell? ⟨W.heap.size, 1, none⟩ = some (.int .i64 c.st) ∧ w'.cell? ⟨W.heap.size, 2, none⟩ = some (.int .i64 c.ga) ∧ w'.cell? ⟨W.heap.size, 3, none⟩ = some (.int .i64 c.le) ∧ w'.cell? ⟨W.heap.size, 4, none⟩ = some (.int .i64 c.re) ∧ w'.cell? ⟨W.heap.size, 5, none⟩ = some (.int .i64 c.ti) ∧ w'.cell? ⟨W.heap.size, 6, none⟩ = some (.slice A6 n6 d6) ∧ w'.cell? ⟨W.heap.size, 7, none⟩ = some (.slice (some ad7) n7 d7) ∧ w'.cell? (ad7.add k) = some (.int .i64 (rd c.ls (k : Int)))) ((go_split_ands; (repeat' apply And.intro); all_goals (first | ((with_reducible refine KM.cell K6.out (below_cell_of B5.out ?_) ?_); assumption; (first | exact hbq.out | exact hbq7.out)) | exact below_cell_of (w := wr) (by with_reducible repeat (first | exact Below.refl _ _ | assumption | exact Aside0.out (by assumption) | apply below_alloc | apply below_drew1 | apply pw_below_drewN)) (by assumption)))) (first | (go_at_call 55; (with_reducible refine (K_Poke W.heap.size _ mb ⟨freshL c k, []⟩ ?_ ?_ _ _).mono ?_); exact HM5.out.below B5.out; exact HL5.out; rintro e w6 ⟨rfl, hm, hk⟩; have HM6 : Aside0 (MemAt W.heap.size w6 mb ⟨pokeL (freshL c k) (aLim c (k : Int)) (rd c.ls (k : Int)), []⟩) := ⟨hm⟩; have K6 := Aside0.mk hk; clear hm hk) | (go_at_call 26; (with_reducible refine (K_aLimit c HC.out _ _ _ _ _ _ (k : Int) HKB.out _ ?_ ?_).mono ?_); exact H6b.out.below (by with_reducible repeat (first | exact Below.refl _ _ | assumption | exact Aside0.out (by assumption) | apply below_alloc | apply below_drew1 | apply pw_below_drewN)); exact H7b.out.below (by with_reducible repeat (first | exact Below.refl _ _ | assumption | exact Aside0.out (by assumption) | apply below_alloc | apply below_drew1 | apply pw_below_drewN)); rintro e w5 ⟨rfl, hb⟩; have B5 : Aside0 (Below wr.heap.size wr w5) := ⟨below_step (w := wr) (by with_reducible repeat (first | exact Below.refl _ _ | assumption | exact Aside0.out (by assumption) | apply below_alloc | apply below_drew1 | apply pw_below_drewN)) hb⟩; clear hb))
      rename_i hHeld
      clear z0 z1 z2 z3 z4 z5 z6 z7 cl
      obtain ⟨z0, z1, z2, z3, z4, z5, z6, z7, cl⟩ := hHeld
      have H6c : Aside0 (IsInts w6 (.slice A6 n6 d6) c.ps) := ⟨KMI H6b.out B5.out K6.out HQ6.out⟩
      have H7c : Aside0 (IsInts w6 (.slice (some ad7) n7 d7) c.ls) := ⟨KMI H7b.out B5.out K6.out HQ7.out⟩
      have BWn : Aside0 (Below W.heap.size W w6) := ⟨K6.out.below (BW.out.trans (B5.out.mono BW.out.size)) HNW.out⟩
      clear H6b H7b BW
      have H6b := H6c
      have H7b := H7c
      have BW := BWn
      have BXn : Aside0 (w6.heap[W.heap.size]? = some (.cells #[.int .i64 c.th, .int .i64 c.st, .int .i64 c.ga, .int .i64 c.le, .int .i64 c.re, .int .i64 c.ti, .slice A6 n6 d6, .slice (some ad7) n7 d7] 24 (0, 0))) := ⟨K6.out.blk (blk_below BX.out B5.out) hbq.out⟩
      clear H6c H7c BWn HM5 B5 K6 BX
      have BX6 := BXn
      clear BXn
      go_wp2_with (fail)
      go_region_held3 (fun w' => w'.cell? ⟨W.heap.size, 0, none⟩ = some (.int .i64 c.th) ∧ w'.cell? ⟨W.heap.size, 1, none⟩ = some (.int .i64 c.st) ∧ w'.cell? ⟨W.heap.size, 2, none⟩ = some (.int .i64 c.ga) ∧ w'.cell? ⟨W.heap.size, 3, none⟩ = some (.int .i64 c.le) ∧ w'.cell? ⟨W.heap.size, 4, none⟩ = some (.int .i64 c.re) ∧ w'.cell? ⟨W.heap.size, 5, none⟩ = some (.int .i64 c.ti) ∧ w'.cell? ⟨W.heap.size, 6, none⟩ = some (.slice A6 n6 d6) ∧ w'.cell? ⟨W.heap.size, 7, none⟩ = some (.slice (some ad7) n7 d7) ∧ w'.cell? (ad7.add k) = some (.int .i64 (rd c.ls (k : Int)))) ((go_split_ands; (repeat' apply And.intro); all_goals (first | ((with_reducible refine KM.cell K8.out (below_cell_of B7.out ?_) ?_); assumption; (first | exact hbq.out | exact hbq7.out)) | exact below_cell_of (w := w6) (by with_reducible repeat (first | exact Below.refl _ _ | assumption | exact Aside0.out (by assumption) | apply below_alloc | apply below_drew1 | apply pw_below_drewN)) (by assumption)))) (first | (go_at_call 55; (with_reducible refine (K_Poke W.heap.size _ mb ⟨pokeL (freshL c k) (aLim c (k : Int)) (rd c.ls (k : Int)), []⟩ ?_ ?_ _ _).mono ?_); exact HM6.out.below B7.out; exact (by show (pokeL _ _ _).length ≤ 100000; rw [pokeL_len]; exact HL5.out); rintro e w8 ⟨rfl, hm, hk⟩; have HM8 : Aside0 (MemAt W.heap.size w8 mb ⟨pokeL (pokeL (freshL c k) (aLim c (k : Int)) (rd c.ls (k : Int))) (aAv c (k : Int)) (rd c.ls (k : Int)), []⟩) := ⟨hm⟩; have K8 := Aside0.mk hk; clear hm hk) | (go_at_call 27; (with_reducible refine (K_aAvail c HC.out _ _ _ _ _ _ (k : Int) HKB.out _ ?_ ?_).mono ?_); exact H6b.out.below (by with_reducible repeat (first | exact Below.refl _ _ | assumption | exact Aside0.out (by assumption) | apply below_alloc | apply below_drew1 | apply pw_below_drewN)); exact H7b.out.below (by with_reducible repeat (first | exact Below.refl _ _ | assumption | exact Aside0.out (by assumption) | apply below_alloc | apply below_drew1 | apply pw_below_drewN)); rintro e w7 ⟨rfl, hb⟩; have B7 : Aside0 (Below w6.heap.size w6 w7) := ⟨below_step (w := w6) (by with_reducible repeat (first | exact Below.refl _ _ | assumption | exact Aside0.out (by assumption) | apply below_alloc | apply below_drew1 | apply pw_below_drewN)) hb⟩; clear hb))
      rename_i hHeld
      clear z0 z1 z2 z3 z4 z5 z6 z7 cl
      obtain ⟨z0, z1, z2, z3, z4, z5, z6, z7, cl⟩ := hHeld
      have H6c : Aside0 (IsInts w8 (.slice A6 n6 d6) c.ps) := ⟨KMI H6b.out B7.out K8.out HQ6.out⟩
      have H7c : Aside0 (IsInts w8 (.slice (some ad7) n7 d7) c.ls) := ⟨KMI H7b.out B7.out K8.out HQ7.out⟩
      have BWn : Aside0 (Below W.heap.size W w8) := ⟨K8.out.below (BW.out.trans (B7.out.mono BW.out.size)) HNW.out⟩
      clear H6b H7b BW
      have H6b := H6c
      have H7b := H7c
      have BW := BWn
      have BXn : Aside0 (w8.heap[W.heap.size]? = some (.cells #[.int .i64 c.th, .int .i64 c.st, .int .i64 c.ga, .int .i64 c.le, .int .i64 c.re, .int .i64 c.ti, .slice A6 n6 d6, .slice (some ad7) n7 d7] 24 (0, 0))) := ⟨K8.out.blk (blk_below BX6.out B7.out) hbq.out⟩
      clear H6c H7c BWn HM6 B7 K8 BX6
      have BX8 := BXn
      clear BXn
      go_wp2_with (first | (go_at_call 55; (with_reducible refine (K_Poke W.heap.size _ mb ⟨pokeL (pokeL (freshL c k) (aLim c (k : Int)) (rd c.ls (k : Int))) (aAv c (k : Int)) (rd c.ls (k : Int)), []⟩ ?_ ?_ _ _).mono ?_); exact HM8.out.below B9.out; exact (by show (pokeL _ _ _).length ≤ 100000; rw [pokeL_len, pokeL_len]; exact HL5.out); rintro e wA ⟨rfl, hm, hk⟩; have HMA : Aside0 (MemAt W.heap.size wA mb ⟨pokeL (pokeL (pokeL (freshL c k) (aLim c (k : Int)) (rd c.ls (k : Int))) (aAv c (k : Int)) (rd c.ls (k : Int))) (aCo c (k : Int) + 3) 1, []⟩) := ⟨hm⟩; have KA := Aside0.mk hk; clear hm hk) | (go_at_call 29; (with_reducible refine (K_aCounter c HC.out _ _ _ _ _ _ (k : Int) HKB.out _ ?_ ?_).mono ?_); exact H6b.out.below (by with_reducible repeat (first | exact Below.refl _ _ | assumption | exact Aside0.out (by assumption) | apply below_alloc | apply below_drew1 | apply pw_below_drewN)); exact H7b.out.below (by with_reducible repeat (first | exact Below.refl _ _ | assumption | exact Aside0.out (by assumption) | apply below_alloc | apply below_drew1 | apply pw_below_drewN)); rintro e w9 ⟨rfl, hb⟩; have B9 := Aside0.mk hb; clear hb z0 z1 z2 z3 z4 z5 z6 z7))
      have BWA : Aside0 (Below W.heap.size W wA) := ⟨KA.out.below (BW.out.trans (B9.out.mono BW.out.size)) HNW.out⟩
      have BXA : Aside0 (wA.heap[W.heap.size]? = some (.cells #[.int .i64 c.th, .int .i64 c.st, .int .i64 c.ga, .int .i64 c.le, .int .i64 c.re, .int .i64 c.ti, .slice A6 n6 d6, .slice (some ad7) n7 d7] 24 (0, 0))) := ⟨KA.out.blk (blk_below BX8.out B9.out) hbq.out⟩
      go_roundg (c.ps.length - (k + 1))
      case measure => omega
      case rel => exact ⟨k + 1, by omega, by omega, by go_num, BWA, BXA, HMA⟩
    · have hk6 : (n6 : Int) ≤ (k : Int) := by have := HN6.out; omega
      have hke : k = c.ps.length := by omega
      have HKE := Aside0.mk hke
      clear hlt hke
      go_wp2_with (fail)
      go_ret
      refine ⟨mb, rfl, by have := HMB.out; omega, ?_, BW.out⟩
      have h := HM5.out
      rw [HKE.out] at h
      exact h
end Go.Proofs.YthbaamfdpebocaaGreat.PA
