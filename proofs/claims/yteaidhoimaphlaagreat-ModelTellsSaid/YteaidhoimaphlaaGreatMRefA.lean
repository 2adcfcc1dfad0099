import Derived.Test.YteaidhoimaphlaaGreatMInv
import Derived.Test.YteaidhoimaphlaaGreatPMx6
import Derived.Test.YteaidhoimaphlaaGreatPMx5
import Derived.Test.YteaidhoimaphlaaGreatPMx7
import Derived.Test.YteaidhoimaphlaaGreatPMx7
import Derived.RangeFuncNested
import Derived.RangeFuncBound
import Derived.RangeFuncCalls
import Derived.RangeFuncLeaves
import Derived.RangeFuncBox
import Derived.Shelf.Abstract
import Derived.Shelf.RegionOpen
import Derived.OwnWalkIn
import Derived.TacticsInMore
import Derived.LoopNIn
import Derived.LoopIn
import Derived.Deep.RegionHeld3
import Derived.Deep.RegionLaw
import Derived.Laws.CopyOwn
import Derived.Laws.EntriesVeiled
namespace Go.Proofs.YteaidhoimaphlaaGreat.PM
open Go.RowKit Go.Shelf Go.Proofs.YteaidhoimaphlaaGreatW.PrintWords Go.Proofs.YteaidhoimaphlaaGreatW.PrintLast Go.Proofs.YteaidhoimaphlaaGreatW.PrintMore
attribute [local go_sem] max2_int min2_int max_two min_two max_three min_three max_four min_four
set_option linter.unusedVariables false
set_option linter.unusedSimpArgs false
/-! the reference's model, said by the program's: a row a node, a ticket's live is that it is not free. -/
def rtk (t : TK) : S81 := ⟨t.ver, !isFree t, t.node, t.n⟩
def limR (M : ML) : List Int := M.lim.take M.c.ps.length
def useR (M : ML) : List Int := M.use.take M.c.ps.length
def tksR (M : ML) : List S81 := (M.tk.take M.c.ti.toNat).map rtk
def IsTks (W : World) (v : Value) (l : List S81) : Prop := ∃ A c, v = .slice A l.length c ∧ l.length ≤ c ∧ Kd.C k81 W A l.length l
theorem IsTks.below {W W' : World} {v : Value} {l : List S81} (h : IsTks W v l) (hb : Below W.heap.size W W') : IsTks W' v l := by
  obtain ⟨A, c, e, hc, hr⟩ := h
  exact ⟨A, c, e, hc, Kd.C_below hr hb⟩
theorem IsTks.slice {W : World} {v : Value} {l : List S81} (h : IsTks W v l) : ∃ A n c, v = .slice A n c := by
  obtain ⟨A, c, e, _⟩ := h
  exact ⟨A, _, c, e⟩
theorem IsTks.len {W : World} {A : Option Addr} {n c : Nat} {l : List S81} (h : IsTks W (.slice A n c) l) : n = l.length := by
  obtain ⟨A', c', e, _⟩ := h
  injection e
theorem IsTks.of_R {e : Nat} {W : World} {base : Nat} {ok : Nat → Prop} {v : Value} {l : List S81} (h : Kd.R k81 e W base ok v l) : IsTks W v l := by
  obtain ⟨A, c, e1, h1, h2⟩ := Kd.R_reads h
  exact ⟨A, c, e1, h1, h2⟩
theorem add_blk (a : Addr) (n : Nat) : (a.add n).block = a.block := by unfold Addr.add; split <;> rfl
/-- a row's address lies from B on, not in block b, nor in block g, and below N. -/
def NB (B b : Nat) (g : Nat → Prop) (N : Nat) (A : Option Addr) : Prop := ∀ a, A = some a → B ≤ a.block ∧ a.block ≠ b ∧ ¬ g a.block ∧ a.block < N
/-- a function's own answer box and the holes of its caller. -/
def HO (W : World) (g : Nat → Prop) : Nat → Prop := fun x => x = W.heap.size + 1 ∨ g x
theorem HO.lt {W : World} {g : Nat → Prop} {N : Nat} (hg : ∀ x, g x → x < W.heap.size) (h : W.heap.size + 1 < N) : ∀ x, HO W g x → x < N := fun x hx => by
  cases hx with
  | inl e => omega
  | inr e => have := hg x e; omega
theorem HO.new {W : World} {g : Nat → Prop} {b : Nat} : ∀ x, HO W g x → W.heap.size ≤ x ∨ x = b ∨ g x := fun x hx => by
  cases hx with
  | inl e => exact .inl (by omega)
  | inr e => exact .inr (.inr e)
theorem NB.of_new {B b : Nat} {g : Nat → Prop} {w w' : World} {A : Option Addr} (h : ∀ a, A = some a → w.heap.size ≤ a.block ∧ a.block < w'.heap.size) (hB : B ≤ w.heap.size) (hb : b < w.heap.size) (hg : ∀ x, g x → x < w.heap.size) : NB B b g w'.heap.size A := fun a ha => by
  have := h a ha
  exact ⟨by omega, by omega, fun hx => by have := hg _ hx; omega, by omega⟩
theorem NB.mono {B b : Nat} {g : Nat → Prop} {N N' : Nat} {A : Option Addr} (h : NB B b g N A) (hN : N ≤ N') : NB B b g N' A := fun a ha => ⟨(h a ha).1, (h a ha).2.1, (h a ha).2.2.1, Nat.lt_of_lt_of_le (h a ha).2.2.2 hN⟩
theorem IsInts.kb {W W' : World} {A : Option Addr} {n c g : Nat} {xs : List Int} (h : IsInts W (.slice A n c) xs) (hk : KB W W' g) (hne : ∀ a, A = some a → a.block ≠ g) : IsInts W' (.slice A n c) xs := by
  obtain ⟨A', c', e, hc, h1, h2, h3⟩ := h
  cases e
  refine ⟨A, c, rfl, hc, h1, h2, fun h0 => ?_⟩
  obtain ⟨ad, rfl, hx⟩ := h3 h0
  exact ⟨ad, rfl, fun j p hj => by
    obtain ⟨cs, l, r, hcell⟩ := hx j p hj
    exact ⟨cs, l, r, fun i u hi => hk.cell (hcell i u hi) (by rw [add_blk]; exact hne ad rfl)⟩⟩
theorem IsTks.kb {W W' : World} {A : Option Addr} {n c g : Nat} {xs : List S81} (h : IsTks W (.slice A n c) xs) (hk : KB W W' g) (hne : ∀ a, A = some a → a.block ≠ g) : IsTks W' (.slice A n c) xs := by
  obtain ⟨A', c', e, hc, h1, h2, h3⟩ := h
  cases e
  refine ⟨A, c, rfl, hc, h1, h2, fun h0 => ?_⟩
  obtain ⟨ad, rfl, hx⟩ := h3 h0
  exact ⟨ad, rfl, fun j p hj => by
    obtain ⟨cs, l, r, hcell⟩ := hx j p hj
    exact ⟨cs, l, r, fun i u hi => hk.cell (hcell i u hi) (by rw [add_blk]; exact hne ad rfl)⟩⟩
/-- block b of w holds the reference's model M; it and its rows lie from B on. -/
def RAt (B : Nat) (g : Nat → Prop) (w : World) (b : Nat) (M : ML) : Prop := B ≤ b ∧ ∃ A6 n6 d6 A7 n7 d7 A8 n8 d8 A9 n9 d9 A10 n10 d10,
  w.heap[b]? = some (.cells #[.int .i64 M.c.th, .int .i64 M.c.st, .int .i64 M.c.ga, .int .i64 M.c.le, .int .i64 M.c.re, .int .i64 M.c.ti, .slice A6 n6 d6, .slice A7 n7 d7, .slice A8 n8 d8, .slice A9 n9 d9, .slice A10 n10 d10] 61 (0, 0)) ∧
  (IsInts w (.slice A6 n6 d6) M.c.ps ∧ NB B b g w.heap.size A6) ∧ (IsInts w (.slice A7 n7 d7) M.c.ls ∧ NB B b g w.heap.size A7) ∧ (IsInts w (.slice A8 n8 d8) (limR M) ∧ NB B b g w.heap.size A8) ∧ (IsInts w (.slice A9 n9 d9) (useR M) ∧ NB B b g w.heap.size A9) ∧ (IsTks w (.slice A10 n10 d10) (tksR M) ∧ NB B b g w.heap.size A10)
theorem RAt.below {B : Nat} {g : Nat → Prop} {w w' : World} {b : Nat} {M : ML} (h : RAt B g w b M) (hb : Below w.heap.size w w') : RAt B g w' b M := by
  obtain ⟨hB, A6, n6, d6, A7, n7, d7, A8, n8, d8, A9, n9, d9, A10, n10, d10, hh, h6, h7, h8, h9, h10⟩ := h
  exact ⟨hB, A6, n6, d6, A7, n7, d7, A8, n8, d8, A9, n9, d9, A10, n10, d10, blk_below hh hb, ⟨h6.1.below hb, h6.2.mono hb.size⟩, ⟨h7.1.below hb, h7.2.mono hb.size⟩, ⟨h8.1.below hb, h8.2.mono hb.size⟩, ⟨h9.1.below hb, h9.2.mono hb.size⟩, ⟨h10.1.below hb, h10.2.mono hb.size⟩⟩
theorem RAt.kb {B : Nat} {g : Nat → Prop} {w w' : World} {b q : Nat} {M : ML} (h : RAt B g w b M) (hk : KB w w' q) (hg : q < B) : RAt B g w' b M := by
  obtain ⟨hB, A6, n6, d6, A7, n7, d7, A8, n8, d8, A9, n9, d9, A10, n10, d10, hh, h6, h7, h8, h9, h10⟩ := h
  have q : ∀ {A : Option Addr}, NB B b g w.heap.size A → ∀ a, A = some a → a.block ≠ q := fun hn a ha => by have := (hn a ha).1; omega
  exact ⟨hB, A6, n6, d6, A7, n7, d7, A8, n8, d8, A9, n9, d9, A10, n10, d10, hk.blk hh (by omega), ⟨h6.1.kb hk (q h6.2), h6.2.mono hk.size⟩, ⟨h7.1.kb hk (q h7.2), h7.2.mono hk.size⟩, ⟨h8.1.kb hk (q h8.2), h8.2.mono hk.size⟩, ⟨h9.1.kb hk (q h9.2), h9.2.mono hk.size⟩, ⟨h10.1.kb hk (q h10.2), h10.2.mono hk.size⟩⟩
/-- what happens in the hole is nothing to it. -/
theorem RAt.inHole {B : Nat} {g : Nat → Prop} {w w' : World} {b p : Nat} {M : ML} (h : RAt B g w b M) (hk : KB w w' p) (hp : g p) (hg : b ≠ p) : RAt B g w' b M := by
  obtain ⟨hB, A6, n6, d6, A7, n7, d7, A8, n8, d8, A9, n9, d9, A10, n10, d10, hh, h6, h7, h8, h9, h10⟩ := h
  have q : ∀ {A : Option Addr}, NB B b g w.heap.size A → ∀ a, A = some a → a.block ≠ p := fun hn a ha e => (hn a ha).2.2.1 (by rw [e]; exact hp)
  exact ⟨hB, A6, n6, d6, A7, n7, d7, A8, n8, d8, A9, n9, d9, A10, n10, d10, hk.blk hh hg, ⟨h6.1.kb hk (q h6.2), h6.2.mono hk.size⟩, ⟨h7.1.kb hk (q h7.2), h7.2.mono hk.size⟩, ⟨h8.1.kb hk (q h8.2), h8.2.mono hk.size⟩, ⟨h9.1.kb hk (q h9.2), h9.2.mono hk.size⟩, ⟨h10.1.kb hk (q h10.2), h10.2.mono hk.size⟩⟩
theorem RAt.hole {B : Nat} {g : Nat → Prop} {w : World} {b : Nat} {M : ML} (h : RAt B g w b M) (g' : Nat → Prop) (hg : ∀ x, g' x → w.heap.size ≤ x ∨ x = b ∨ g x) : RAt B g' w b M := by
  obtain ⟨hB, A6, n6, d6, A7, n7, d7, A8, n8, d8, A9, n9, d9, A10, n10, d10, hh, h6, h7, h8, h9, h10⟩ := h
  have q : ∀ {A : Option Addr}, NB B b g w.heap.size A → NB B b g' w.heap.size A := fun hn a ha => ⟨(hn a ha).1, (hn a ha).2.1, fun hx => by
    have h0 := hn a ha
    rcases hg _ hx with h1 | h1 | h1
    · omega
    · exact h0.2.1 h1
    · exact h0.2.2.1 h1, (hn a ha).2.2.2⟩
  exact ⟨hB, A6, n6, d6, A7, n7, d7, A8, n8, d8, A9, n9, d9, A10, n10, d10, hh, ⟨h6.1, q h6.2⟩, ⟨h7.1, q h7.2⟩, ⟨h8.1, q h8.2⟩, ⟨h9.1, q h9.2⟩, ⟨h10.1, q h10.2⟩⟩
theorem RAt.lt {B : Nat} {g : Nat → Prop} {w : World} {b : Nat} {M : ML} (h : RAt B g w b M) : b < w.heap.size := by
  obtain ⟨hB, A6, n6, d6, A7, n7, d7, A8, n8, d8, A9, n9, d9, A10, n10, d10, hh, _⟩ := h
  exact blk_lt hh
/-- one of the rows is another one. -/
theorem RAt.setL {B : Nat} {g : Nat → Prop} {w : World} {b : Nat} {M : ML} (h : RAt B g w b M) (tk' : List TK) {A : Option Addr} {n c : Nat} (hv : IsTks w (.slice A n c) (tksR { M with tk := tk' })) (hn : NB B b g w.heap.size A) : RAt B g (w.setCell ⟨b, 10, none⟩ (.slice A n c)) b { M with tk := tk' } := by
  obtain ⟨hB, A6, n6, d6, A7, n7, d7, A8, n8, d8, A9, n9, d9, A10, n10, d10, hh, h6, h7, h8, h9, h10⟩ := h
  have hk : KB w (w.setCell ⟨b, 10, none⟩ (.slice A n c)) b := (KB.refl w b).set 10 _
  have q : ∀ {A : Option Addr}, NB B b g w.heap.size A → ∀ a, A = some a → a.block ≠ b := fun hn a ha => (hn a ha).2.1
  refine ⟨hB, A6, n6, d6, A7, n7, d7, A8, n8, d8, A9, n9, d9, A, n, c, ?_, ⟨h6.1.kb hk (q h6.2), h6.2.mono hk.size⟩, ⟨h7.1.kb hk (q h7.2), h7.2.mono hk.size⟩, ⟨h8.1.kb hk (q h8.2), h8.2.mono hk.size⟩, ⟨h9.1.kb hk (q h9.2), h9.2.mono hk.size⟩, ⟨hv.kb hk (q hn), hn.mono hk.size⟩⟩
  rw [blk_set hh 10]
  rfl
theorem RAt.setU {B : Nat} {g : Nat → Prop} {w : World} {b : Nat} {M : ML} (h : RAt B g w b M) (use' : List Int) {A : Option Addr} {n c : Nat} (hv : IsInts w (.slice A n c) (useR { M with use := use' })) (hn : NB B b g w.heap.size A) : RAt B g (w.setCell ⟨b, 9, none⟩ (.slice A n c)) b { M with use := use' } := by
  obtain ⟨hB, A6, n6, d6, A7, n7, d7, A8, n8, d8, A9, n9, d9, A10, n10, d10, hh, h6, h7, h8, h9, h10⟩ := h
  have hk : KB w (w.setCell ⟨b, 9, none⟩ (.slice A n c)) b := (KB.refl w b).set 9 _
  have q : ∀ {A : Option Addr}, NB B b g w.heap.size A → ∀ a, A = some a → a.block ≠ b := fun hn a ha => (hn a ha).2.1
  refine ⟨hB, A6, n6, d6, A7, n7, d7, A8, n8, d8, A, n, c, A10, n10, d10, ?_, ⟨h6.1.kb hk (q h6.2), h6.2.mono hk.size⟩, ⟨h7.1.kb hk (q h7.2), h7.2.mono hk.size⟩, ⟨h8.1.kb hk (q h8.2), h8.2.mono hk.size⟩, ⟨hv.kb hk (q hn), hn.mono hk.size⟩, ⟨h10.1.kb hk (q h10.2), h10.2.mono hk.size⟩⟩
  rw [blk_set hh 9]
  rfl
theorem RAt.setLim {B : Nat} {g : Nat → Prop} {w : World} {b : Nat} {M : ML} (h : RAt B g w b M) (lim' : List Int) {A : Option Addr} {n c : Nat} (hv : IsInts w (.slice A n c) (limR { M with lim := lim' })) (hn : NB B b g w.heap.size A) : RAt B g (w.setCell ⟨b, 8, none⟩ (.slice A n c)) b { M with lim := lim' } := by
  obtain ⟨hB, A6, n6, d6, A7, n7, d7, A8, n8, d8, A9, n9, d9, A10, n10, d10, hh, h6, h7, h8, h9, h10⟩ := h
  have hk : KB w (w.setCell ⟨b, 8, none⟩ (.slice A n c)) b := (KB.refl w b).set 8 _
  have q : ∀ {A : Option Addr}, NB B b g w.heap.size A → ∀ a, A = some a → a.block ≠ b := fun hn a ha => (hn a ha).2.1
  refine ⟨hB, A6, n6, d6, A7, n7, d7, A, n, c, A9, n9, d9, A10, n10, d10, ?_, ⟨h6.1.kb hk (q h6.2), h6.2.mono hk.size⟩, ⟨h7.1.kb hk (q h7.2), h7.2.mono hk.size⟩, ⟨hv.kb hk (q hn), hn.mono hk.size⟩, ⟨h9.1.kb hk (q h9.2), h9.2.mono hk.size⟩, ⟨h10.1.kb hk (q h10.2), h10.2.mono hk.size⟩⟩
  rw [blk_set hh 8]
  rfl
theorem box11 {W : World} {g t : Nat} {x0 x1 x2 x3 x4 x5 x6 x7 x8 x9 x10 : Value} (h : W.heap[g]? = some (.cells #[x0, x1, x2, x3, x4, x5, x6, x7, x8, x9, x10] t (0, 0))) :
    W.cell? ⟨g, 0, none⟩ = some x0 ∧ W.cell? ⟨g, 1, none⟩ = some x1 ∧ W.cell? ⟨g, 2, none⟩ = some x2 ∧ W.cell? ⟨g, 3, none⟩ = some x3 ∧ W.cell? ⟨g, 4, none⟩ = some x4 ∧ W.cell? ⟨g, 5, none⟩ = some x5 ∧ W.cell? ⟨g, 6, none⟩ = some x6 ∧ W.cell? ⟨g, 7, none⟩ = some x7 ∧ W.cell? ⟨g, 8, none⟩ = some x8 ∧ W.cell? ⟨g, 9, none⟩ = some x9 ∧ W.cell? ⟨g, 10, none⟩ = some x10 ∧ (∀ c, W.frozen? ⟨g, c, none⟩ = false) :=
  ⟨(blk_cell h 0).trans rfl, (blk_cell h 1).trans rfl, (blk_cell h 2).trans rfl, (blk_cell h 3).trans rfl, (blk_cell h 4).trans rfl, (blk_cell h 5).trans rfl, (blk_cell h 6).trans rfl, (blk_cell h 7).trans rfl, (blk_cell h 8).trans rfl, (blk_cell h 9).trans rfl, (blk_cell h 10).trans rfl, fun c => blk_frozen h c⟩
theorem rd_take (l : List Int) (n v : Nat) (hv : v < n) : rd (l.take n) (v : Int) = rd l (v : Int) := by
  simp [rd, rdOf, List.getD, List.getElem?_take, hv]
theorem IsInts.get {W : World} {A : Option Addr} {n c : Nat} {l : List Int} (h : IsInts W (.slice A n c) l) (k : Nat) (hk : k < l.length) : ∃ ad, A = some ad ∧ W.cell? (ad.add k) = some (.int .i64 (rd l (k : Int))) := by
  obtain ⟨A', c', e, hc, hC⟩ := h
  cases e
  obtain ⟨ad, e, h2⟩ := Kd.at_int hC (k : Int) (by omega) (by omega)
  exact ⟨ad, e, by simpa using h2⟩
set_option maxHeartbeats 4000000 in
set_option maxRecDepth 100000 in
theorem K_rLimit (B : Nat) (g : Nat → Prop) (w : World) (b : Nat) (M : ML) (h : RAt B g w b M) (v : Nat) (hv : v < M.c.ps.length) (hl : M.c.ps.length ≤ M.lim.length) : Calls Tryz.prog 16 #[.pointer (some ⟨b, 0, none⟩), .int .i64 v] w fun e w' => e = .returned (.int .i64 (rd M.lim (v : Int))) ∧ w' = w := by
  obtain ⟨_, A6, n6, d6, A7, n7, d7, A8, n8, d8, A9, n9, d9, A10, n10, d10, hb, _, _, ⟨h8, _⟩, _, _⟩ := h
  have hL : (limR M).length = M.c.ps.length := by unfold limR; rw [List.length_take]; omega
  obtain ⟨ad, rfl, hc⟩ := h8.get v (by omega)
  have hn := h8.len
  have e : rd (limR M) (v : Int) = rd M.lim (v : Int) := rd_take _ _ _ hv
  rw [e] at hc
  obtain ⟨x0, x1, x2, x3, x4, x5, x6, x7, x8, x9, x10, fr⟩ := box11 hb
  have hv0 : (0 : Int) ≤ (v : Int) := by omega
  have hv1 : (v : Int) < (n8 : Int) := by omega
  clear x0 x1 x2 x3 x4 x5 x6 x7 x9 x10 fr e hL hn h8 hb
  go_enter Tryz.func16, Tryz.ntmps16
  go_wp2_with (fail)
  go_ret
  exact ⟨rfl, rfl⟩
set_option maxHeartbeats 4000000 in
set_option maxRecDepth 100000 in
theorem K_rUsed (B : Nat) (g : Nat → Prop) (w : World) (b : Nat) (M : ML) (h : RAt B g w b M) (v : Nat) (hv : v < M.c.ps.length) (hl : M.c.ps.length ≤ M.use.length) : Calls Tryz.prog 18 #[.pointer (some ⟨b, 0, none⟩), .int .i64 v] w fun e w' => e = .returned (.int .i64 (rd M.use (v : Int))) ∧ w' = w := by
  obtain ⟨_, A6, n6, d6, A7, n7, d7, A8, n8, d8, A9, n9, d9, A10, n10, d10, hb, _, _, _, ⟨h9, _⟩, _⟩ := h
  have hL : (useR M).length = M.c.ps.length := by unfold useR; rw [List.length_take]; omega
  obtain ⟨ad, rfl, hc⟩ := h9.get v (by omega)
  have hn := h9.len
  have e : rd (useR M) (v : Int) = rd M.use (v : Int) := rd_take _ _ _ hv
  rw [e] at hc
  obtain ⟨x0, x1, x2, x3, x4, x5, x6, x7, x8, x9, x10, fr⟩ := box11 hb
  have hv0 : (0 : Int) ≤ (v : Int) := by omega
  have hv1 : (v : Int) < (n9 : Int) := by omega
  clear x0 x1 x2 x3 x4 x5 x6 x7 x8 x10 fr e hL hn h9 hb
  go_enter Tryz.func18, Tryz.ntmps18
  go_wp2_with (fail)
  go_ret
  exact ⟨rfl, rfl⟩
theorem moved_l0 (P : List Int) (by' : Int) : ∀ (d i k : Nat) (x : List Int), i + d = P.length → d < k → P.length ≤ 1000 → (∀ y ∈ P, 0 ≤ y ∧ y < (x.length : Int)) → breadlineref20_moved.l0 k P by' x (i : Int) = some (addUses x (P.drop i) by')
  | 0, i, k, x, hi, hk, hP, hr => by
    obtain ⟨k, rfl⟩ : ∃ m, k = m + 1 := ⟨k - 1, by omega⟩
    simp only [breadlineref20_moved.l0]
    rw [if_neg (by omega), List.drop_eq_nil_of_le (by omega)]
    rfl
  | d + 1, i, k, x, hi, hk, hP, hr => by
    obtain ⟨k, rfl⟩ : ∃ m, k = m + 1 := ⟨k - 1, by omega⟩
    have hil : i < P.length := by omega
    have hrd : rd P (i : Int) = P[i] := by rw [rd_lt hil]
    have hm := hr P[i] (List.getElem_mem hil)
    have hw : wrap64 ((i : Int) + 1) = ((i + 1 : Nat) : Int) := by rw [w64 (by omega) (by omega)]; omega
    simp only [breadlineref20_moved.l0]
    rw [if_pos (by omega), if_pos (by omega), hrd, if_pos hm.1, if_pos hm.2, hw, moved_l0 P by' d (i + 1) k _ (by omega) (by omega) hP (fun y hy => by simpa using hr y hy), List.drop_eq_getElem_cons hil]
    rfl
theorem moved_f (l P : List Int) (by' : Int) (hP : P.length ≤ 1000) (hl : l.length ≤ 1000) (hr : ∀ y ∈ P, 0 ≤ y ∧ y < (l.length : Int)) : breadlineref20_moved.f (P.length + 1) l P by' = some (addUses l P by') := by
  unfold breadlineref20_moved.f
  simp only [Option.bind_some, List.length_nil, List.nil_append]
  rw [if_pos (by omega)]
  exact moved_l0 P by' P.length 0 _ l (by omega) (by omega) hP hr
theorem K_rmoved (l P : List Int) (by' : Int) (A0 : Option Addr) (n0 c0 : Nat) (A1 : Option Addr) (n1 c1 : Nat) (w : World) (h0 : IsInts w (.slice A0 n0 c0) l) (h1 : IsInts w (.slice A1 n1 c1) P) (hP : P.length ≤ 1000) (hl : l.length ≤ 1000) (hr : ∀ y ∈ P, 0 ≤ y ∧ y < (l.length : Int)) :
    Calls Tryz.prog 31 #[.slice A0 n0 c0, .slice A1 n1 c1, .int .i64 by'] w fun e w' => ∃ A n c, e = .returned (.slice A n c) ∧ IsInts w' (.slice A n c) (addUses l P by') ∧ (∀ a, A = some a → w.heap.size ≤ a.block ∧ a.block < w'.heap.size) ∧ Below w.heap.size w w' := by
  obtain ⟨_, _, e0, hc0, hC0⟩ := h0
  obtain ⟨_, _, e1, hc1, hC1⟩ := h1
  cases e0
  cases e1
  refine (breadlineref20_moved.calls _ A0 c0 l A1 c1 P by' _ w hC0 hc0 hC1 hc1 (moved_f l P by' hP hl hr)).mono ?_
  rintro e w' ⟨v, rfl, hR, hb⟩
  have hI := IsInts.of_R hR
  obtain ⟨A, n, c, rfl⟩ := hI.slice
  have hB := Kd.R_bound hR
  exact ⟨A, n, c, rfl, hI, fun x hx => ⟨(hB.1 x.block (by rw [hx]; rfl)).2.1, (hB.1 x.block (by rw [hx]; rfl)).2.2.1⟩, hb⟩
theorem turned_f (l : List S81) (k : Nat) (hk : k < l.length) (hl : l.length ≤ 1000) (lv : Bool) (nd n : Int) (hv : 0 ≤ (rd_T81 l (k : Int)).f0 ∧ (rd_T81 l (k : Int)).f0 < 4294967296) :
    breadlineref20_turned.f l (k : Int) 0 lv nd n = some (l.set k ⟨((rd_T81 l (k : Int)).f0 + 2) % 4294967296, lv, nd, n⟩) := by
  unfold breadlineref20_turned.f
  simp only [Option.bind_some, List.length_nil, List.nil_append]
  rw [if_pos (by omega), if_pos (by omega), if_pos (by omega), if_pos (by omega), w64 (by omega) (by omega), Int.tmod_eq_emod_of_nonneg (by omega), Int.toNat_natCast]
theorem K_rturned (l : List S81) (k : Nat) (hk : k < l.length) (hl : l.length ≤ 1000) (lv : Bool) (nd n : Int) (hv : 0 ≤ (rd_T81 l (k : Int)).f0 ∧ (rd_T81 l (k : Int)).f0 < 4294967296) (A0 : Option Addr) (n0 c0 : Nat) (w : World) (h0 : IsTks w (.slice A0 n0 c0) l) :
    Calls Tryz.prog 42 #[.slice A0 n0 c0, .int .i64 k, .agg #[.int .i64 0, .bool lv, .int .i64 nd, .int .i64 n]] w fun e w' => ∃ A n1 c, e = .returned (.slice A n1 c) ∧ IsTks w' (.slice A n1 c) (l.set k ⟨((rd_T81 l (k : Int)).f0 + 2) % 4294967296, lv, nd, n⟩) ∧ (∀ a, A = some a → w.heap.size ≤ a.block ∧ a.block < w'.heap.size) ∧ Below w.heap.size w w' := by
  obtain ⟨_, _, e0, hc0, hC0⟩ := h0
  cases e0
  refine (breadlineref20_turned.calls A0 c0 l (k : Int) 0 lv nd n _ w hC0 hc0 (turned_f l k hk hl lv nd n hv)).mono ?_
  rintro e w' ⟨v, rfl, hR, hb⟩
  have hI := IsTks.of_R hR
  obtain ⟨A, n1, c, rfl⟩ := hI.slice
  have hB := Kd.R_bound hR
  exact ⟨A, n1, c, rfl, hI, fun x hx => ⟨(hB.1 x.block (by rw [hx]; rfl)).2.1, (hB.1 x.block (by rw [hx]; rfl)).2.2.1⟩, hb⟩
theorem freeK_none (tk : List TK) : ∀ (n i : Nat), (∀ j, i ≤ j → j < i + n → isFree (tkAt tk j) = false) → freeK tk n i = none
  | 0, i, _ => rfl
  | n + 1, i, h => by
    unfold freeK
    rw [if_neg (by rw [h i (Nat.le_refl _) (by omega)]; simp)]
    exact freeK_none tk n (i + 1) (fun j h1 h2 => h j (by omega) (by omega))
theorem freeK_some (tk : List TK) (k : Nat) (hf : isFree (tkAt tk k) = true) : ∀ (n i : Nat), i ≤ k → k < i + n → (∀ j, i ≤ j → j < k → isFree (tkAt tk j) = false) → freeK tk n i = some k
  | 0, i, h1, h2, _ => by omega
  | n + 1, i, h1, h2, h => by
    unfold freeK
    by_cases e : i = k
    · subst e; rw [if_pos hf]
    · rw [if_neg (by rw [h i (Nat.le_refl _) (by omega)]; simp)]
      exact freeK_some tk k hf n (i + 1) (by omega) (by omega) (fun j h3 h4 => h j (by omega) h4)
theorem tksR_len {M : ML} (h : Inv M) : (tksR M).length = M.c.ti.toNat := by
  have h1 := h.ok.ti
  have h2 := h.l3
  unfold tksR
  rw [List.length_map, List.length_take]
  omega
theorem tksR_get {M : ML} (h : Inv M) (k : Nat) (hk : k < M.c.ti.toNat) : (tksR M)[k]? = some (rtk (tkAt M.tk k)) := by
  have h1 := h.ok.ti
  have h2 := h.l3
  unfold tksR
  rw [List.getElem?_map, List.getElem?_take, if_pos hk, tkAt_lt (by omega), List.getElem?_eq_getElem (by omega)]
  rfl
theorem tksR_rd {M : ML} (h : Inv M) (k : Nat) (hk : k < M.c.ti.toNat) : rd_T81 (tksR M) (k : Int) = rtk (tkAt M.tk k) := by
  have := tksR_get h k hk
  unfold rd_T81
  simp [rdOf, List.getD, this]
theorem tksR_set (M : ML) (k : Nat) (t : TK) (hk : k < M.c.ti.toNat) : tksR { M with tk := M.tk.set k t } = (tksR M).set k (rtk t) := by
  unfold tksR
  show ((M.tk.set k t).take M.c.ti.toNat).map rtk = _
  rw [List.take_set, List.map_set]
theorem IsTks.at {W : World} {A : Option Addr} {n c : Nat} {l : List S81} (h : IsTks W (.slice A n c) l) (k : Nat) (hk : k < l.length) (x : S81) (hx : l[k]? = some x) :
    ∃ ad, A = some ad ∧ W.cell? (ad.add (k * 4)) = some (.int .i64 x.f0) ∧ W.cell? ⟨(ad.add (k * 4)).block, (ad.add (k * 4)).off + 1, none⟩ = some (.bool x.f1) ∧ W.cell? ⟨(ad.add (k * 4)).block, (ad.add (k * 4)).off + 2, none⟩ = some (.int .i64 x.f2) ∧ W.cell? ⟨(ad.add (k * 4)).block, (ad.add (k * 4)).off + 3, none⟩ = some (.int .i64 x.f3) := by
  obtain ⟨A', c', e, hc, h1, h2, h3⟩ := h
  cases e
  obtain ⟨ad, rfl, hcs⟩ := h3 (by omega)
  obtain ⟨cs, hl, hK, hcell⟩ := hcs k x hx
  have e4 : k81.sz = 4 := rfl
  rw [e4] at hcell
  obtain ⟨_, _, rfl, rfl, ⟨_, _, rfl, rfl, ⟨_, _, rfl, rfl, rfl⟩⟩⟩ := hK
  have hc0 : ∀ j u, ([.int .i64 x.f0, .bool x.f1, .int .i64 x.f2, .int .i64 x.f3] : List Value)[j]? = some u → W.cell? (ad.add (k * 4 + j)) = some u := hcell
  exact ⟨ad, rfl, hc0 0 _ rfl, by rw [← add_field _ _ 1 (by omega)]; exact hc0 1 _ rfl, by rw [← add_field _ _ 2 (by omega)]; exact hc0 2 _ rfl, by rw [← add_field _ _ 3 (by omega)]; exact hc0 3 _ rfl⟩
theorem addUse_takeN (u : List Int) (n : Nat) (v by' : Int) (h0 : 0 ≤ v) (h1 : v < (n : Int)) : (addUse u v by').take n = addUse (u.take n) v by' := by
  unfold addUse
  obtain ⟨m, rfl⟩ : ∃ m : Nat, v = (m : Int) := ⟨v.toNat, by omega⟩
  rw [List.take_set, rd_take u n m (by omega)]
theorem addUses_takeN (n : Nat) (by' : Int) : ∀ (P u : List Int), (∀ x ∈ P, 0 ≤ x ∧ x < (n : Int)) → (addUses u P by').take n = addUses (u.take n) P by'
  | [], u, _ => rfl
  | v :: P, u, h => by
    have hv := h v List.mem_cons_self
    show (addUses (addUse u v by') P by').take n = addUses (addUse (u.take n) v by') P by'
    rw [addUses_takeN n by' P _ (fun x hx => h x (List.mem_cons_of_mem _ hx)), addUse_takeN u n v by' hv.1 hv.2]
theorem useR_add {M : ML} (h : Inv M) (a by' : Int) (tk' : List TK) : useR { M with use := addUses M.use (pathL M.c.ps a) by', tk := tk' } = addUses (useR M) (pathL M.c.ps a) by' :=
  addUses_takeN _ by' _ _ (pathL_range h.ok.falls a)
theorem KB.put4g (Y : World) (g : Nat) (y0 y1 y2 y3 : Value) : KB Y ((((Y.setCell ⟨g, 0, none⟩ y0).setCell ⟨g, 1, none⟩ y1).setCell ⟨g, 2, none⟩ y2).setCell ⟨g, 3, none⟩ y3) g := ((((KB.refl Y g).set 0 _).set 1 _).set 2 _).set 3 _
theorem RAt.put4 {B : Nat} {g : Nat → Prop} {W Y : World} {b : Nat} {M : ML} (h : RAt B (HO W g) Y b M) (hg : b ≠ W.heap.size + 1) (y0 y1 y2 y3 : Value) : RAt B g ((((Y.setCell ⟨W.heap.size + 1, 0, none⟩ y0).setCell ⟨W.heap.size + 1, 1, none⟩ y1).setCell ⟨W.heap.size + 1, 2, none⟩ y2).setCell ⟨W.heap.size + 1, 3, none⟩ y3) b M :=
  (h.inHole (KB.put4g Y (W.heap.size + 1) _ _ _ _) (.inl rfl) hg).hole g (fun _ hx => .inr (.inr (.inr hx)))
theorem K_ref_path2 (c : LConf) (v6 v7 : Value) (a : Int) (W : World) (h6 : IsInts W v6 c.ps) (h7 : IsInts W v7 c.ls) (hf : Falls c.ps) (hn : c.ps.length ≤ 12) :
    Calls Tryz.prog 41 #[.agg #[.int .i64 c.th, .int .i64 c.st, .int .i64 c.ga, .int .i64 c.le, .int .i64 c.re, .int .i64 c.ti, v6, v7], .int .i64 a] W fun e w' => ∃ A n k, e = .returned (.slice A n k) ∧ IsInts w' (.slice A n k) (pathL c.ps a) ∧ (∀ x, A = some x → W.heap.size ≤ x.block ∧ x.block < w'.heap.size) ∧ Below W.heap.size W w' := by
  obtain ⟨A6, c6, rfl, hc6, hr6⟩ := h6
  obtain ⟨A7, c7, rfl, hc7, hr7⟩ := h7
  refine (breadlineref04_Path.calls 20 _ _ _ _ _ _ A6 c6 c.ps A7 c7 c.ls a _ W hr6 hc6 hr7 hc7 (ref_path_f hf hn a 20 (by omega))).mono fun _ _ ⟨v, he, hR, hb⟩ => ?_
  have hI := IsInts.of_R hR
  obtain ⟨A, n, k, rfl⟩ := hI.slice
  have hB := Kd.R_bound hR
  exact ⟨A, n, k, he, hI, fun x hx => ⟨(hB.1 x.block (by rw [hx]; rfl)).2.1, (hB.1 x.block (by rw [hx]; rfl)).2.2.1⟩, hb⟩
theorem tksR_turn {M : ML} (h : Inv M) (k : Nat) (hk : k < M.c.ti.toNat) (nd n : Int) (lv : Bool) (hlv : lv = !((nd == 0) && (n == 0))) : (tksR M).set k ⟨((rd_T81 (tksR M) (k : Int)).f0 + 2) % 4294967296, lv, nd, n⟩ = tksR { M with tk := M.tk.set k (turnT (tkAt M.tk k) nd n) } := by
  rw [tksR_set M k _ hk, tksR_rd h k hk, hlv]
  rfl
/-- a ticket's turn. -/
theorem K_rturn {B b : Nat} {g : Nat → Prop} {M : ML} (hi : Inv M) (k : Nat) (hk : k < M.c.ti.toNat) (nd n : Int) (lv : Bool) (hlv : lv = !((nd == 0) && (n == 0))) (A : Option Addr) (m c : Nat) (X : World) (h : IsTks X (.slice A m c) (tksR M)) (hB : B ≤ X.heap.size) (hb : b < X.heap.size) (hg : ∀ x, g x → x < X.heap.size) :
    Calls Tryz.prog 42 #[.slice A m c, .int .i64 k, .agg #[.int .i64 0, .bool lv, .int .i64 nd, .int .i64 n]] X fun e w' => ∃ A n1 c, e = .returned (.slice A n1 c) ∧ IsTks w' (.slice A n1 c) (tksR { M with tk := M.tk.set k (turnT (tkAt M.tk k) nd n) }) ∧ NB B b g w'.heap.size A ∧ Below X.heap.size X w' := by
  have hl := tksR_len hi
  have h1 := hi.ok.ti
  have hv := hi.ok.vers k (by omega)
  have hr : 0 ≤ (rd_T81 (tksR M) (k : Int)).f0 ∧ (rd_T81 (tksR M) (k : Int)).f0 < 4294967296 := by rw [tksR_rd hi k hk]; exact hv
  refine (K_rturned (tksR M) k (by omega) (by omega) lv nd n hr A m c X h).mono ?_
  rintro e w' ⟨A2, n2, c2, rfl, hT, hf, hbl⟩
  rw [tksR_turn hi k hk nd n lv hlv] at hT
  exact ⟨A2, n2, c2, rfl, hT, NB.of_new hf (by omega) (by omega) hg, hbl⟩
theorem tksR_at (M : ML) (k : Nat) (t : TK) (hk : k < M.c.ti.toNat) (hl : k < M.tk.length) : (tksR { M with tk := M.tk.set k t })[k]? = some (rtk t) := by
  rw [tksR_set M k t hk, List.getElem?_set_self]
  unfold tksR
  rw [List.length_map, List.length_take]
  omega
theorem isUp_lenV {ps : List Int} : ∀ {xs : List Int} {v : Int}, IsUp ps v xs → (xs.length : Int) ≤ v + 1 ∨ xs = []
  | [], _, _ => .inr rfl
  | x :: xs, v, h => by
    obtain ⟨rfl, h0, h1, h2, h3⟩ := h
    rcases isUp_lenV h3 with h | h
    · left; simp only [List.length_cons]; omega
    · left; rw [h]; simp; omega
theorem pathL_len12 {ps : List Int} (hf : Falls ps) (hn : ps.length ≤ 12) (v : Int) : (pathL ps v).length ≤ 12 := by
  by_cases h : v < (ps.length : Int)
  · rcases isUp_lenV (pathL_is hf h) with h1 | h1
    · omega
    · rw [h1]; simp
  · rw [pathL_out (by omega)]; simp
theorem ref_named_f (n ti : Int) (hn : n ≤ 9223372036854775807) : breadlineref10_Named.f n ti = some (tkOf n ti, verOf n ti, namedOk n ti) := by
  unfold breadlineref10_Named.f tkOf verOf namedOk
  by_cases h0 : n < 0
  · have e : decide (0 ≤ n ∧ n % 16 < ti ∧ n / 16 < 4294967296) = false := decide_eq_false (by omega)
    rw [if_pos h0, e]; rfl
  · rw [if_neg h0, Int.tmod_eq_emod_of_nonneg (by omega), Int.tdiv_eq_ediv_of_nonneg (by omega), w64 (x := n / 16) (by omega) (by omega)]
    by_cases h1 : n % 16 ≥ ti
    · have e : decide (0 ≤ n ∧ n % 16 < ti ∧ n / 16 < 4294967296) = false := decide_eq_false (by omega)
      rw [if_pos h1, e]; rfl
    · rw [if_neg h1]
      by_cases h2 : n / 16 ≥ 4294967296
      · have e : decide (0 ≤ n ∧ n % 16 < ti ∧ n / 16 < 4294967296) = false := decide_eq_false (by omega)
        rw [if_pos h2, e]; rfl
      · have e : decide (0 ≤ n ∧ n % 16 < ti ∧ n / 16 < 4294967296) = true := decide_eq_true (by omega)
        rw [if_neg h2, e]; rfl
theorem K_rNamed (n ti : Int) (hn : n ≤ 9223372036854775807) (W : World) : Calls Tryz.prog 40 #[.int .i64 n, .int .i64 ti] W fun e w' => e = .returned (.tuple #[.int .i64 (tkOf n ti), .int .i64 (verOf n ti), .bool (namedOk n ti)]) ∧ Below W.heap.size W w' :=
  (breadlineref10_Named.calls n ti _ _ _ W (ref_named_f n ti hn)).mono fun _ _ ⟨he, m, hm⟩ => ⟨he, by rw [hm]; exact pw_below_drewN (Below.refl _ _) m⟩
theorem amount_B (n : Int) (x : Bool) (e : x = decide (1 ≤ n ∧ n ≤ 1048576)) : amountE 0 n = if x = true then 0 else 1 := by
  subst e
  unfold amountE
  rw [if_pos rfl]
  by_cases h : 1 ≤ n ∧ n ≤ 1048576
  · rw [decide_eq_true h, if_pos rfl, if_neg (by omega), if_neg (by omega)]
  · rw [decide_eq_false h]
    show _ = (1 : Int)
    by_cases h1 : n < 1
    · rw [if_pos h1]
    · rw [if_neg h1, if_pos (by omega)]
theorem amount_2 (n : Int) : amountE 2 n = 2 := by unfold amountE; rw [if_neg (by omega)]
theorem node_B (ps : List Int) (v : Int) (x : Bool) (e : x = decide (0 ≤ v ∧ v < (ps.length : Int))) : nodeE ps v = if x = true then 0 else 2 := by
  subst e
  unfold nodeE
  by_cases h : 0 ≤ v ∧ v < (ps.length : Int)
  · rw [decide_eq_true h, if_pos rfl, if_neg (by omega), if_neg (by omega)]
  · rw [decide_eq_false h]
    show _ = (2 : Int)
    by_cases h1 : v < 0
    · rw [if_pos h1]
    · rw [if_neg h1, if_pos (by omega)]
theorem ref_check_j1 (c : LConf) (kk v n : Int) (hn : n ≤ 9223372036854775807) (hp : c.ps.length ≤ 12) (x5 x6 : Bool) (e5 : x5 = decide (0 ≤ v ∧ v < (c.ps.length : Int))) (e6 : x6 = decide (1 ≤ n ∧ n ≤ 1048576)) :
    breadlineref15_Check.j1 21 x5 x6 c.th c.st c.ga c.le c.re c.ti c.ps c.ls kk v n = some (checkE c kk v n) := by
  have hl := ref_leaf_f c hp v
  have hnm := ref_named_f n c.ti hn
  have ha := amount_B n x6 e6
  have hd := node_B c.ps v x5 e5
  simp only [breadlineref15_Check.j1, breadlineref15_Check.j2, breadlineref15_Check.j3, hl, hnm, Option.bind_some]
  unfold checkE leafE movedE nameE
  rw [hd]
  by_cases k1 : kk = 1
  · rw [if_pos k1, if_pos k1]
    cases leafB c.ps v
    · simp [amount_2]
    · simp [ha]; cases x6 <;> rfl
  rw [if_neg k1, if_neg k1]
  by_cases k2 : kk = 2
  · rw [if_pos k2, if_pos k2]
    cases namedOk n c.ti <;> rfl
  rw [if_neg k2, if_neg k2]
  by_cases k3 : kk = 3
  · subst k3
    simp
    cases x5
    · simp [amount_2]
    · simp [ha]; cases x6 <;> rfl
  rw [if_neg k3]
  by_cases k4 : kk = 4
  · subst k4
    simp
    cases x5
    · simp [amount_2]
    · simp [ha]; cases x6 <;> rfl
  by_cases k5 : kk = 5
  · subst k5
    simp
    cases x5 <;> rfl
  by_cases k6 : kk = 6
  · subst k6
    simp
    cases x5 <;> rfl
  simp [k3, k4, k5, k6]
theorem ref_check_f (c : LConf) (kk v n : Int) (hn : n ≤ 9223372036854775807) (hp : c.ps.length ≤ 12) : breadlineref15_Check.f 22 c.th c.st c.ga c.le c.re c.ti c.ps c.ls kk v n = some (checkE c kk v n) := by
  have k0 : ∀ x5 : Bool, x5 = decide (0 ≤ v ∧ v < (c.ps.length : Int)) → breadlineref15_Check.j0 22 x5 c.th c.st c.ga c.le c.re c.ti c.ps c.ls kk v n = some (checkE c kk v n) := by
    intro x5 e5
    simp only [breadlineref15_Check.j0]
    by_cases h : n ≥ 1
    · rw [if_pos h]
      exact ref_check_j1 c kk v n hn hp _ _ e5 (by rw [Bool.eq_iff_iff]; simp; omega)
    · rw [if_neg h]
      exact ref_check_j1 c kk v n hn hp _ _ e5 (decide_eq_false (by omega)).symm
  unfold breadlineref15_Check.f
  by_cases h : v ≥ 0
  · rw [if_pos h]
    exact k0 _ (by rw [Bool.eq_iff_iff]; simp; omega)
  · rw [if_neg h]
    exact k0 _ (decide_eq_false (by omega)).symm
theorem K_rCheck (c : LConf) (A6 : Option Addr) (n6 d6 : Nat) (A7 : Option Addr) (n7 d7 : Nat) (kk v n : Int) (hn : n ≤ 9223372036854775807) (W : World) (h6 : IsInts W (.slice A6 n6 d6) c.ps) (h7 : IsInts W (.slice A7 n7 d7) c.ls) (hp : c.ps.length ≤ 12) :
    Calls Tryz.prog 28 #[.agg #[.int .i64 c.th, .int .i64 c.st, .int .i64 c.ga, .int .i64 c.le, .int .i64 c.re, .int .i64 c.ti, .slice A6 n6 d6, .slice A7 n7 d7], .agg #[.int .i64 kk, .int .i64 v, .int .i64 n]] W fun e w' => e = .returned (.int .i64 (checkE c kk v n)) ∧ Below W.heap.size W w' := by
  obtain ⟨_, _, e0, hc0, hC0⟩ := h6
  obtain ⟨_, _, e1, hc1, hC1⟩ := h7
  cases e0
  cases e1
  exact breadlineref15_Check.calls 22 _ _ _ _ _ _ A6 d6 c.ps A7 d7 c.ls kk v n _ W hC0 hc0 hC1 hc1 (ref_check_f c kk v n hn hp)
end Go.Proofs.YteaidhoimaphlaaGreat.PM
