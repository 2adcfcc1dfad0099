import Derived.Test.YteaidhoimaphlaaGreatMKon
import Derived.RangeFuncNested
import Derived.RangeFuncBound
import Derived.RangeFuncCalls
import Derived.RangeFuncLeaves
import Derived.RangeFuncBox
import Derived.Shelf.Abstract
import Derived.Shelf.RegionOpen
import Derived.OwnWalkIn
import Derived.TacticsInMore
import Derived.LoopNIn
import Derived.LoopIn
import Derived.Deep.RegionHeld3
import Derived.Deep.RegionLaw
import Derived.Laws.CopyOwn
import Derived.Laws.EntriesVeiled
namespace Go.Proofs.YteaidhoimaphlaaGreat.PM
open Go.RowKit Go.Shelf Go.Proofs.YteaidhoimaphlaaGreatW.PrintWords Go.Proofs.YteaidhoimaphlaaGreatW.PrintLast Go.Proofs.YteaidhoimaphlaaGreatW.PrintMore
attribute [local go_sem] max2_int min2_int max_two min_two max_three min_three max_four min_four
set_option linter.unusedVariables false
set_option linter.unusedSimpArgs false
/-- a ticket. -/
structure TK where
  ver : Int
  node : Int
  n : Int
/-- a model. -/
structure ML where
  c : LConf
  lim : List Int
  use : List Int
  tk : List TK
def confV (c : LConf) (v6 v7 : Value) : List Value := [.int .i64 c.th, .int .i64 c.st, .int .i64 c.ga, .int .i64 c.le, .int .i64 c.re, .int .i64 c.ti, v6, v7]
def tkV (t : TK) : List Value := [.int .u32 t.ver, .int .i64 t.node, .int .i64 t.n]
def mcells (cv : List Value) (lim use : List Int) (tk : List TK) : List Value := cv ++ (lim.map (Value.int .i64) ++ (use.map (Value.int .i64) ++ tk.flatMap tkV))
/-- what a call keeps: all blocks but b. -/
structure KB (W W' : World) (b : Nat) : Prop where
  os : W'.os = W.os
  tape : W'.tape = W.tape
  out : W'.output = W.output
  size : W.heap.size ≤ W'.heap.size
  same : ∀ i, i < W.heap.size → i ≠ b → W'.heap[i]? = W.heap[i]?
theorem KB.refl (W : World) (b : Nat) : KB W W b := ⟨rfl, rfl, rfl, Nat.le_refl _, fun _ _ _ => rfl⟩
theorem KB.of_below {W W' : World} (h : Below W.heap.size W W') (b : Nat) : KB W W' b := ⟨h.os, h.tape, h.output, h.size, fun i hi _ => h.block i hi⟩
theorem KB.trans {X Y Z : World} {b : Nat} (h : KB X Y b) (k : KB Y Z b) : KB X Z b :=
  ⟨k.os.trans h.os, k.tape.trans h.tape, k.out.trans h.out, Nat.le_trans h.size k.size, fun i hi hb => (k.same i (Nat.lt_of_lt_of_le hi h.size) hb).trans (h.same i hi hb)⟩
theorem KB.alloc {X Y : World} {b : Nat} (h : KB X Y b) (o : Obj) : KB X (Y.alloc o) b := h.trans (KB.of_below (below_alloc (Below.refl _ _) o) b)
theorem KB.drew {X Y : World} {b : Nat} (h : KB X Y b) : KB X Y.drew b := ⟨h.os, h.tape, h.out, h.size, h.same⟩
theorem KB.set {X Y : World} {b : Nat} (h : KB X Y b) (i : Nat) (u : Value) : KB X (Y.setCell ⟨b, i, none⟩ u) b :=
  ⟨h.os, h.tape, h.out, by simpa [World.setCell] using h.size, fun j hj hb => (Below.heap_setCell Y _ u j hb).trans (h.same j hj hb)⟩
/-- a store into a block that is new to X. -/
theorem KB.setNew {X Y : World} {b : Nat} (h : KB X Y b) {p : Addr} (hp : X.heap.size ≤ p.block) (u : Value) : KB X (Y.setCell p u) b :=
  ⟨h.os, h.tape, h.out, by simpa [World.setCell] using h.size, fun j hj hb => (Below.heap_setCell Y _ u j (by omega)).trans (h.same j hj hb)⟩
theorem KB.below {W0 X Y : World} {b : Nat} (h : KB X Y b) (hb : Below W0.heap.size W0 X) (hle : W0.heap.size ≤ b) : Below W0.heap.size W0 Y :=
  ⟨h.os.trans hb.os, h.tape.trans hb.tape, h.out.trans hb.output, Nat.le_trans hb.size h.size, fun i hi => (h.same i (Nat.lt_of_lt_of_le hi hb.size) (by omega)).trans (hb.block i hi)⟩
theorem KB.blk {X Y : World} {b g : Nat} {o : Obj} (h : KB X Y b) (hg : X.heap[g]? = some o) (hne : g ≠ b) : Y.heap[g]? = some o := (h.same g (blk_lt hg) hne).trans hg
/-- block b of W holds the model M, whose setting's rows lay in W0. -/
def MAt (W0 W : World) (b : Nat) (M : ML) : Prop := ∃ A6 n6 d6 A7 n7 d7, W.heap[b]? = some (.cells (mcells (confV M.c (.slice A6 n6 d6) (.slice A7 n7 d7)) M.lim M.use M.tk).toArray 57 (0, 0)) ∧
  IsInts W0 (.slice A6 n6 d6) M.c.ps ∧ IsInts W0 (.slice A7 n7 d7) M.c.ls ∧ M.lim.length = 12 ∧ M.use.length = 12 ∧ M.tk.length = 16 ∧ W0.heap.size ≤ b
theorem MAt.keep {W0 W W' : World} {b : Nat} {M : ML} (h : MAt W0 W b M) (hk : W'.heap[b]? = W.heap[b]?) : MAt W0 W' b M := by
  obtain ⟨A6, n6, d6, A7, n7, d7, hb, r⟩ := h
  exact ⟨A6, n6, d6, A7, n7, d7, hk.trans hb, r⟩
theorem MAt.below {W0 W W' : World} {b : Nat} {M : ML} (h : MAt W0 W b M) (hb : Below W.heap.size W W') : MAt W0 W' b M := h.keep (by
  obtain ⟨_, _, _, _, _, _, hh, _⟩ := h
  exact hb.block b (blk_lt hh))
section
variable {W : World} {b : Nat} {cv : List Value} {lim use : List Int} {tk : List TK}
theorem tk_len (tk : List TK) : (tk.flatMap tkV).length = 3 * tk.length := by
  induction tk with
  | nil => rfl
  | cons t tk ih => rw [List.flatMap_cons, List.length_append, ih]; simp only [List.length_cons, tkV, List.length_nil]; omega
theorem tk_get (tk : List TK) : ∀ (k : Nat) (h : k < tk.length), (tk.flatMap tkV)[3 * k]? = some (.int .u32 tk[k].ver) ∧ (tk.flatMap tkV)[3 * k + 1]? = some (.int .i64 tk[k].node) ∧ (tk.flatMap tkV)[3 * k + 2]? = some (.int .i64 tk[k].n) := by
  induction tk with
  | nil => intro k h; simp at h
  | cons t tk ih =>
    intro k h
    cases k with
    | zero => exact ⟨rfl, rfl, rfl⟩
    | succ k =>
      have := ih k (by simpa using h)
      rw [List.flatMap_cons]
      have e : ∀ j, 3 * (k + 1) + j = (3 * k + j) + 3 := fun j => by omega
      have s : ∀ j, (tkV t ++ tk.flatMap tkV)[(3 * k + j) + 3]? = (tk.flatMap tkV)[3 * k + j]? := fun j => by rw [List.getElem?_append_right (by simp [tkV])]; rfl
      refine ⟨?_, ?_, ?_⟩
      · rw [show 3 * (k + 1) = (3 * k + 0) + 3 by omega, s 0]; exact this.1
      · rw [e 1, s 1]; exact this.2.1
      · rw [e 2, s 2]; exact this.2.2
theorem mc_conf (h : W.heap[b]? = some (.cells (mcells cv lim use tk).toArray 57 (0, 0))) (i : Nat) (hi : i < cv.length) : W.cell? ⟨b, i, none⟩ = cv[i]? := by
  rw [blk_cell h, List.getElem?_toArray]
  exact List.getElem?_append_left hi
theorem mc_lim (h : W.heap[b]? = some (.cells (mcells cv lim use tk).toArray 57 (0, 0))) (hc : cv.length = 8) (i : Nat) (hi : i < lim.length) : W.cell? ⟨b, 8 + i, none⟩ = some (.int .i64 (rd lim (i : Int))) := by
  rw [blk_cell h, List.getElem?_toArray]
  unfold mcells
  rw [List.getElem?_append_right (by omega), List.getElem?_append_left (by simp; omega)]
  rw [rd_lt hi]; simp [hc, hi]
theorem mc_use (h : W.heap[b]? = some (.cells (mcells cv lim use tk).toArray 57 (0, 0))) (hc : cv.length = 8) (hl : lim.length = 12) (i : Nat) (hi : i < use.length) : W.cell? ⟨b, 20 + i, none⟩ = some (.int .i64 (rd use (i : Int))) := by
  rw [blk_cell h, List.getElem?_toArray]
  unfold mcells
  rw [List.getElem?_append_right (by omega), List.getElem?_append_right (by simp; omega), List.getElem?_append_left (by simp; omega)]
  have e : 20 + i - cv.length - (lim.map (Value.int .i64)).length = i := by simp; omega
  rw [e, rd_lt hi]
  simp [hi]
/-- ticket k. -/
def tkAt (tk : List TK) (k : Nat) : TK := tk.getD k ⟨0, 0, 0⟩
theorem tkAt_lt {tk : List TK} {k : Nat} (h : k < tk.length) : tkAt tk k = tk[k] := by simp [tkAt, List.getD, h]
theorem mc_tk (h : W.heap[b]? = some (.cells (mcells cv lim use tk).toArray 57 (0, 0))) (hc : cv.length = 8) (hl : lim.length = 12) (hu : use.length = 12) (k : Nat) (hk : k < tk.length) :
    W.cell? ⟨b, 32 + k * 3, none⟩ = some (.int .u32 (tkAt tk k).ver) ∧ W.cell? ⟨b, 32 + k * 3 + 1, none⟩ = some (.int .i64 (tkAt tk k).node) ∧ W.cell? ⟨b, 32 + k * 3 + 2, none⟩ = some (.int .i64 (tkAt tk k).n) := by
  have hg := tk_get tk k hk
  rw [tkAt_lt hk]
  have s : ∀ j, W.cell? ⟨b, 32 + k * 3 + j, none⟩ = (tk.flatMap tkV)[3 * k + j]? := fun j => by
    rw [blk_cell h, List.getElem?_toArray]
    unfold mcells
    rw [List.getElem?_append_right (by omega), List.getElem?_append_right (by simp; omega), List.getElem?_append_right (by simp; omega)]
    have e : 32 + k * 3 + j - cv.length - (lim.map (Value.int .i64)).length - (use.map (Value.int .i64)).length = 3 * k + j := by simp; omega
    rw [e]
  exact ⟨(s 0).trans hg.1, (s 1).trans hg.2.1, (s 2).trans hg.2.2⟩
end
theorem tk_set (tk : List TK) : ∀ (k : Nat) (h : k < tk.length) (t : TK), (((tk.flatMap tkV).set (3 * k) (.int .u32 t.ver)).set (3 * k + 1) (.int .i64 t.node)).set (3 * k + 2) (.int .i64 t.n) = (tk.set k t).flatMap tkV := by
  induction tk with
  | nil => intro k h; simp at h
  | cons x tk ih =>
    intro k h t
    cases k with
    | zero => rfl
    | succ k =>
      have := ih k (by simpa using h) t
      rw [List.set_cons_succ, List.flatMap_cons, List.flatMap_cons, ← this]
      rw [show 3 * (k + 1) = 3 * k + 3 by omega, show 3 * k + 3 + 1 = 3 * k + 1 + 3 by omega, show 3 * k + 3 + 2 = 3 * k + 2 + 3 by omega]
      rfl
section
variable {W : World} {b : Nat} {cv : List Value} {lim use : List Int} {tk : List TK}
theorem mc_set_lim (h : W.heap[b]? = some (.cells (mcells cv lim use tk).toArray 57 (0, 0))) (hc : cv.length = 8) (i : Nat) (hi : i < lim.length) (x : Int) :
    (W.setCell ⟨b, 8 + i, none⟩ (.int .i64 x)).heap[b]? = some (.cells (mcells cv (lim.set i x) use tk).toArray 57 (0, 0)) := by
  rw [blk_set h, List.setIfInBounds_toArray]
  unfold mcells
  rw [List.set_append_right _ _ (by omega), List.set_append_left _ _ (by simp; omega), show 8 + i - cv.length = i by omega, List.map_set]
theorem mc_set_use (h : W.heap[b]? = some (.cells (mcells cv lim use tk).toArray 57 (0, 0))) (hc : cv.length = 8) (hl : lim.length = 12) (i : Nat) (hi : i < use.length) (x : Int) :
    (W.setCell ⟨b, 20 + i, none⟩ (.int .i64 x)).heap[b]? = some (.cells (mcells cv lim (use.set i x) tk).toArray 57 (0, 0)) := by
  rw [blk_set h, List.setIfInBounds_toArray]
  unfold mcells
  rw [List.set_append_right _ _ (by omega), List.set_append_right _ _ (by simp; omega), List.set_append_left _ _ (by simp; omega), show 20 + i - cv.length - (lim.map (Value.int .i64)).length = i by simp; omega, List.map_set]
theorem mc_set_tk (h : W.heap[b]? = some (.cells (mcells cv lim use tk).toArray 57 (0, 0))) (hc : cv.length = 8) (hl : lim.length = 12) (hu : use.length = 12) (k : Nat) (hk : k < tk.length) (t : TK) :
    (((W.setCell ⟨b, 32 + k * 3, none⟩ (.int .u32 t.ver)).setCell ⟨b, 32 + k * 3 + 1, none⟩ (.int .i64 t.node)).setCell ⟨b, 32 + k * 3 + 2, none⟩ (.int .i64 t.n)).heap[b]? = some (.cells (mcells cv lim use (tk.set k t)).toArray 57 (0, 0)) := by
  have h1 := blk_set h (32 + k * 3) (.int .u32 t.ver)
  rw [List.setIfInBounds_toArray] at h1
  have h2 := blk_set h1 (32 + k * 3 + 1) (.int .i64 t.node)
  rw [List.setIfInBounds_toArray] at h2
  have h3 := blk_set h2 (32 + k * 3 + 2) (.int .i64 t.n)
  rw [List.setIfInBounds_toArray] at h3
  rw [h3]
  have s : ∀ (l : List Value) (j : Nat) (u : Value), (cv ++ (lim.map (Value.int .i64) ++ (use.map (Value.int .i64) ++ l))).set (32 + k * 3 + j) u = cv ++ (lim.map (Value.int .i64) ++ (use.map (Value.int .i64) ++ l.set (3 * k + j) u)) := fun l j u => by
    rw [List.set_append_right _ _ (by omega), List.set_append_right _ _ (by simp; omega), List.set_append_right _ _ (by simp; omega), show 32 + k * 3 + j - cv.length - (lim.map (Value.int .i64)).length - (use.map (Value.int .i64)).length = 3 * k + j by simp; omega]
  unfold mcells
  have s0 := s (tk.flatMap tkV) 0 (.int .u32 t.ver)
  simp only [Nat.add_zero] at s0
  rw [s0, s, s, tk_set tk k hk t]
theorem mc_frozen (h : W.heap[b]? = some (.cells (mcells cv lim use tk).toArray 57 (0, 0))) (i : Nat) : W.frozen? ⟨b, i, none⟩ = false := blk_frozen h i
end
set_option maxHeartbeats 4000000 in
set_option maxRecDepth 100000 in
theorem K_Limit (W0 W : World) (b : Nat) (M : ML) (h : MAt W0 W b M) (v : Nat) (hv : v < 12) : Calls Tryz.prog 15 #[.pointer (some ⟨b, 0, none⟩), .int .i64 v] W fun e w' => e = .returned (.int .i64 (rd M.lim (v : Int))) ∧ w' = W := by
  obtain ⟨A6, n6, d6, A7, n7, d7, hb, _, _, hl, hu, ht, _⟩ := h
  have hc := mc_lim hb rfl v (by omega)
  have hv0 : (0 : Int) ≤ (v : Int) := by omega
  have hv1 : (v : Int) < 12 := by omega
  go_enter Tryz.func15, Tryz.ntmps15
  go_wp2_with (fail)
  go_ret
  exact ⟨rfl, rfl⟩
set_option maxHeartbeats 4000000 in
set_option maxRecDepth 100000 in
theorem K_Used (W0 W : World) (b : Nat) (M : ML) (h : MAt W0 W b M) (v : Nat) (hv : v < 12) : Calls Tryz.prog 17 #[.pointer (some ⟨b, 0, none⟩), .int .i64 v] W fun e w' => e = .returned (.int .i64 (rd M.use (v : Int))) ∧ w' = W := by
  obtain ⟨A6, n6, d6, A7, n7, d7, hb, _, _, hl, hu, ht, _⟩ := h
  have hc := mc_use hb rfl hl v (by omega)
  have hv0 : (0 : Int) ≤ (v : Int) := by omega
  have hv1 : (v : Int) < 12 := by omega
  go_enter Tryz.func17, Tryz.ntmps17
  go_wp2_with (fail)
  go_ret
  exact ⟨rfl, rfl⟩
set_option maxHeartbeats 4000000 in
set_option maxRecDepth 100000 in
theorem K_turn (W0 W : World) (b : Nat) (M : ML) (h : MAt W0 W b M) (k : Nat) (hk : k < 16) (nd n : Int) : Calls Tryz.prog 36 #[.pointer (some ⟨b, 0, none⟩), .int .i64 k, .agg #[.int .i64 nd, .int .i64 n]] W fun e w' => e = .returned (.tuple #[]) ∧ KB W w' b ∧ MAt W0 w' b { M with tk := M.tk.set k ⟨(((tkAt M.tk k).ver + 2) % 4294967296), nd, n⟩ } := by
  have hM := h
  obtain ⟨A6, n6, d6, A7, n7, d7, hb, h6, h7, hl, hu, ht, hW⟩ := h
  have hw := blk_lt hb
  have hu57 := Tryz.underlying54
  have hu52 := Tryz.underlying52
  obtain ⟨c0, c1, c2⟩ := mc_tk hb rfl hl hu k (by omega)
  have f0 := mc_frozen hb (32 + k * 3)
  have f1 := mc_frozen hb (32 + k * 3 + 1)
  have f2 := mc_frozen hb (32 + k * 3 + 2)
  have hv0 : (0 : Int) ≤ (k : Int) := by omega
  have hv1 : (k : Int) < 16 := by omega
  have HB := Aside0.mk hb
  clear hb
  go_enter Tryz.func36, Tryz.ntmps36
  go_wp2_with (fail)
  go_end0
  have hs := mc_set_tk HB.out rfl hl hu k (by omega) ⟨((tkAt M.tk k).ver + 2) % 4294967296, nd, n⟩
  exact ⟨rfl, ((((KB.refl W b).set _ _).set _ _).set _ _).alloc _, A6, n6, d6, A7, n7, d7, blk_alloc hs _, h6, h7, hl, hu, by simp [ht], hW⟩
def isFree (t : TK) : Bool := (t.node == 0) && (t.n == 0)
def freeK (tk : List TK) : Nat → Nat → Option Nat
  | 0, _ => none
  | m + 1, i => if isFree (tkAt tk i) = true then some i else freeK tk m (i + 1)
def freeV : Option Nat → Value
  | some k => .tuple #[.int .i64 k, .bool true]
  | none => .tuple #[.int .i64 0, .bool false]
theorem freeK_step (tk : List TK) (n k : Nat) (h : k < n) : freeK tk (n - k) k = if isFree (tkAt tk k) = true then some k else freeK tk (n - (k + 1)) (k + 1) := by
  rw [show n - k = (n - (k + 1)) + 1 by omega]; rfl
set_option maxHeartbeats 4000000 in
set_option maxRecDepth 100000 in
theorem K_free (W0 W : World) (b : Nat) (M : ML) (h : MAt W0 W b M) (n : Nat) (hn : M.c.ti = (n : Int)) (hn1 : n ≤ 16) : Calls Tryz.prog 34 #[.pointer (some ⟨b, 0, none⟩)] W fun e w' => e = .returned (freeV (freeK M.tk n 0)) ∧ Below W.heap.size W w' := by
  obtain ⟨A6, n6, d6, A7, n7, d7, hb, h6, h7, hl, hu, ht, hW⟩ := h
  have hu54 := Tryz.underlying54
  have hu52 := Tryz.underlying52
  have hti : W.cell? ⟨b, 5, none⟩ = some (.int .i64 (n : Int)) := by rw [← hn]; exact mc_conf hb 5 (by simp [confV])
  have hnz : decide ((n : Int) ≤ 16) = true := decide_eq_true (by omega)
  have hsl : ∀ w : World, (Instr.sliceAt 55 (.pointer (some ⟨b, 32, none⟩)) none (some (.int .i64 (n : Int))) none).run Tryz.prog w = .ok (.slice (some ⟨b, 32, none⟩) n 16) w := fun w => by
    rw [run_sliceAt_array_h w _ _ rfl _ _ (by omega) (show (n : Int) ≤ 16 by omega)]
    rfl
  have HB := Aside0.mk hb
  clear hb hn
  go_enter Tryz.func34, Tryz.ntmps34
  go_wp2_with (fail)
  go_region_held3 (fun w' => w'.cell? ⟨b, 5, none⟩ = some (.int .i64 (n : Int))) (first | go_keep) (fail)
  go_wp2_with (fail)
  go_loopg [16] n (fun gg s16 wr => ∃ kk : Nat, kk ≤ n ∧ n - kk ≤ gg ∧ s16 = .int .i64 kk ∧ Aside0 (Below W.heap.size W wr) ∧ Aside0 (freeK M.tk (n - kk) kk = freeK M.tk n 0))
  case atStart => exact ⟨0, Nat.zero_le _, by omega, rfl, ⟨by repeat (first | (with_reducible first | exact Below.refl _ _ | apply below_alloc | apply pw_below_drewN | apply below_drew1))⟩, ⟨rfl⟩⟩
  case round =>
    obtain ⟨kk, hkk, hg, rfl, BW, HA⟩ := hrel
    by_cases hlt : kk < n
    · have hltb : decide ((kk : Int) < (n : Int)) = true := decide_eq_true (by omega)
      have hk0 : (0 : Int) ≤ (kk : Int) := by omega
      obtain ⟨c0, c1, c2⟩ := mc_tk (blk_below HB.out BW.out) rfl hl hu kk (by omega)
      have hq := Aside0.mk (freeK_step M.tk n kk hlt)
      by_cases hnd : (tkAt M.tk kk).node = 0
      · by_cases hnn : (tkAt M.tk kk).n = 0
        · have hf : Aside0 (isFree (tkAt M.tk kk) = true) := ⟨by simp [isFree, hnd, hnn]⟩
          go_wp2_with (fail)
          go_ret2
          exact ⟨by rw [← HA.out, hq.out, if_pos hf.out]; rfl, by have hB := BW.out; have hB2 := hB.size; repeat (first | (with_reducible first | exact hB | apply pw_below_drewN | apply below_drew1) | apply below_setCell_of_le (by first | omega | (simp; omega)) | (apply below_alloc) )⟩
        · have hf : Aside0 (¬ isFree (tkAt M.tk kk) = true) := ⟨by simp [isFree, hnd, hnn]⟩
          go_wp2_with (fail)
          go_roundg (n - (kk + 1))
          case measure => omega
          case rel => exact ⟨kk + 1, by omega, by omega, by go_num, ⟨by have hB := BW.out; have hB2 := hB.size; repeat (first | (with_reducible first | exact hB | apply pw_below_drewN | apply below_drew1) | (apply below_alloc) )⟩, ⟨by rw [← HA.out, hq.out, if_neg hf.out]⟩⟩
      · have hf : Aside0 (¬ isFree (tkAt M.tk kk) = true) := ⟨by simp [isFree, hnd]⟩
        go_wp2_with (fail)
        go_roundg (n - (kk + 1))
        case measure => omega
        case rel => exact ⟨kk + 1, by omega, by omega, by go_num, ⟨by have hB := BW.out; have hB2 := hB.size; repeat (first | (with_reducible first | exact hB | apply pw_below_drewN | apply below_drew1) | (apply below_alloc) )⟩, ⟨by rw [← HA.out, hq.out, if_neg hf.out]⟩⟩
    · have hltb : decide ((kk : Int) < (n : Int)) = false := decide_eq_false (by omega)
      go_wp2_with (fail)
      go_ret2
      exact ⟨by rw [← HA.out, show n - kk = 0 by omega]; rfl, by have hB := BW.out; repeat (first | (with_reducible first | exact hB | apply pw_below_drewN | apply below_drew1) | (apply below_alloc) )⟩
theorem KB.cell {X Y : World} {b : Nat} (h : KB X Y b) {p : Addr} {v : Value} (hp : X.cell? p = some v) (hne : p.block ≠ b) : Y.cell? p = some v := by
  have hlt : p.block < X.heap.size := by
    by_cases hl : p.block < X.heap.size
    · exact hl
    · unfold World.cell? at hp
      rw [Array.getElem?_eq_none (by omega)] at hp
      cases hp
  exact (World.cell?_of_block (w := X) (h.same p.block hlt hne)).trans hp
def addUse (u : List Int) (v by' : Int) : List Int := u.set v.toNat (wrap64 (rd u v + by'))
def addUses (u xs : List Int) (by' : Int) : List Int := xs.foldl (fun u v => addUse u v by') u
/-- the setting's cells are as they were. -/
def CK (W w' : World) (b : Nat) : Prop := ∀ i, i < 8 → w'.cell? ⟨b, i, none⟩ = W.cell? ⟨b, i, none⟩
theorem CK.trans {X Y Z : World} {b : Nat} (h : CK X Y b) (k : CK Y Z b) : CK X Z b := fun i hi => (k i hi).trans (h i hi)
theorem addUse_len (u : List Int) (v by' : Int) : (addUse u v by').length = u.length := by simp [addUse]
theorem addUses_len (xs : List Int) (by' : Int) : ∀ u : List Int, (addUses u xs by').length = u.length := by
  induction xs with
  | nil => intro u; rfl
  | cons x xs ih => intro u; exact (ih _).trans (addUse_len u x by')
set_option maxHeartbeats 4000000 in
set_option maxRecDepth 100000 in
theorem K_move1 (W0 W : World) (b : Nat) (M : ML) (h : MAt W0 W b M) (v by' : Int) (hv0 : 0 ≤ v) (hv1 : v < 12) (pm pb : Nat) (hpm' : pm ≠ b) (hpb' : pb ≠ b) (hpm : W.cell? ⟨pm, 0, none⟩ = some (.pointer (some ⟨b, 0, none⟩))) (hpb : W.cell? ⟨pb, 0, none⟩ = some (.int .i64 by')) :
    Calls Tryz.prog 60 #[.int .i64 v, .pointer (some ⟨pm, 0, none⟩), .pointer (some ⟨pb, 0, none⟩)] W fun e w' => e = .returned (.tuple #[]) ∧ KB W w' b ∧ MAt W0 w' b { M with use := addUse M.use v by' } ∧ CK W w' b := by
  obtain ⟨k, rfl⟩ : ∃ k : Nat, v = (k : Int) := ⟨v.toNat, by omega⟩
  obtain ⟨A6, n6, d6, A7, n7, d7, hb, h6, h7, hl, hu, ht, hW⟩ := h
  have hc := mc_use hb rfl hl k (by omega)
  have hf := mc_frozen hb (20 + k)
  have hk0 : (0 : Int) ≤ (k : Int) := by omega
  have HB := Aside0.mk hb
  clear hb
  go_enter Tryz.func60, Tryz.ntmps60
  go_region
  all_goals go_end0
  have hs := mc_set_use HB.out rfl hl k (by omega) (wrap64 (rd M.use (k : Int) + by'))
  refine ⟨rfl, ((KB.refl W b).set _ _).drew, ⟨A6, n6, d6, A7, n7, d7, hs, h6, h7, hl, (addUse_len _ _ _).trans hu, ht, hW⟩, fun i hi => ?_⟩
  show (W.setCell ⟨b, 20 + k, none⟩ _).cell? ⟨b, i, none⟩ = _
  exact World.cell?_setCell_other _ _ _ _ (by intro e; simp only [Addr.mk.injEq] at e; omega)
theorem addUses_take (u xs : List Int) (by' : Int) (k : Nat) (h : k < xs.length) : addUses u (xs.take (k + 1)) by' = addUse (addUses u (xs.take k) by') (rd xs (k : Int)) by' := by
  unfold addUses
  rw [List.take_succ_eq_append_getElem h, List.foldl_append, rd_lt h]; rfl
set_option maxHeartbeats 4000000 in
set_option maxRecDepth 100000 in
theorem K_move (W0 W : World) (b : Nat) (M : ML) (h : MAt W0 W b M) (A : Option Addr) (c : Nat) (xs : List Int) (by' : Int) (hx : IsInts W (.slice A xs.length c) xs) (hr : ∀ x ∈ xs, 0 ≤ x ∧ x < 12) (hne : ∀ a, A = some a → a.block ≠ b) :
    Calls Tryz.prog 37 #[.pointer (some ⟨b, 0, none⟩), .slice A xs.length c, .int .i64 by'] W fun e w' => e = .returned (.tuple #[]) ∧ KB W w' b ∧ MAt W0 w' b { M with use := addUses M.use xs by' } ∧ CK W w' b := by
  have HM := Aside0.mk h
  have HX := Aside0.mk hx
  have hr' := Aside0.mk hr
  have hne' := Aside0.mk hne
  have hbl : Aside0 (b < W.heap.size) := ⟨by obtain ⟨_, _, _, _, _, _, hb, _⟩ := h; exact blk_lt hb⟩
  clear h hx hr hne
  go_enter Tryz.func37, Tryz.ntmps37
  go_wp2_with (fail)
  obtain ⟨W1, hW1⟩ : ∃ W1, (W.alloc (.cells #[.pointer (some ⟨b, 0, none⟩)] 29)).alloc (.cells #[.int .i64 by'] 3) = W1 := ⟨_, rfl⟩
  have hk1 : Aside0 (KB W W1 b) := ⟨by rw [← hW1]; exact ((KB.refl W b).alloc _).alloc _⟩
  have hpm : Aside0 (W1.cell? ⟨W.heap.size, 0, none⟩ = some (.pointer (some ⟨b, 0, none⟩))) := ⟨by rw [← hW1]; exact (blk_cell (blk_alloc (blk_new W _) _) 0).trans rfl⟩
  have hpb : Aside0 (W1.cell? ⟨W.heap.size + 1, 0, none⟩ = some (.int .i64 by')) := ⟨by rw [← hW1]; exact (blk_cell (by simpa using blk_new (W.alloc (.cells #[.pointer (some ⟨b, 0, none⟩)] 29)) (.cells #[.int .i64 by'] 3)) 0).trans rfl⟩
  have hm1 : Aside0 (MAt W0 W1 b M) := ⟨by rw [← hW1]; exact HM.out.below (below_alloc (below_alloc (Below.refl _ _) _) _)⟩
  have hck : Aside0 (CK W W1 b) := ⟨fun i hi => by
    rw [← hW1]
    exact Below.cell (below_alloc (below_alloc (Below.refl _ _) _) _) hbl.out⟩
  rw [hW1]
  clear hW1
  go_loopg [12] xs.length (fun gg s12 wr => ∃ kk : Nat, kk ≤ xs.length ∧ xs.length - kk ≤ gg ∧ s12 = .int .i64 kk ∧ Aside0 (KB W1 wr b ∧ CK W wr b) ∧ Aside0 (MAt W0 wr b { M with use := addUses M.use (xs.take kk) by' }))
  case atStart => exact ⟨0, Nat.zero_le _, by omega, rfl, ⟨KB.refl _ _, hck.out⟩, hm1⟩
  case round =>
    obtain ⟨kk, hkk, hg, rfl, BW, HA⟩ := hrel
    by_cases hlt : kk < xs.length
    · have hltb : decide ((kk : Int) < (xs.length : Int)) = true := decide_eq_true (by omega)
      obtain ⟨A', c', e', hc', hC⟩ := HX.out
      cases e'
      obtain ⟨ad, hA, hcell⟩ := Kd.at_int hC (kk : Int) (by omega) (by omega)
      have hnb := hne'.out ad hA
      have hcell' := (hk1.out.trans BW.out.1).cell (p := ad.add (kk : Int).toNat) hcell (by unfold Addr.add; (try split) <;> exact hnb)
      have hlen : xs.length ≤ 9223372036854775807 := by have := hC.2.1; omega
      simp only [Int.toNat_natCast] at hcell'
      have hpm' := BW.out.1.cell hpm.out (show W.heap.size ≠ b by have := hbl.out; omega)
      have hpb' := BW.out.1.cell hpb.out (show W.heap.size + 1 ≠ b by have := hbl.out; omega)
      have hin := Aside0.mk (hr'.out (rd xs (kk : Int)) (by rw [rd_lt hlt]; exact List.getElem_mem _))
      have hcall := Aside0.mk (K_move1 W0 wr b _ HA.out (rd xs (kk : Int)) by' hin.out.1 hin.out.2 _ _ (show W.heap.size ≠ b by have := hbl.out; omega) (show W.heap.size + 1 ≠ b by have := hbl.out; omega) hpm' hpb')
      subst hA
      clear hcell hC hc' hnb hpm' hpb'
      go_wp2_with (go_at_call 60; refine hcall.out.mono ?_; rintro e w' ⟨rfl, hb', hm', hc'⟩)
      go_roundg (xs.length - (kk + 1))
      case measure => omega
      case rel => exact ⟨kk + 1, by omega, by omega, by go_num, ⟨BW.out.1.trans hb', BW.out.2.trans hc'⟩, ⟨by rw [addUses_take _ _ _ _ hlt]; exact hm'⟩⟩
    · have hltb : decide ((kk : Int) < (xs.length : Int)) = false := decide_eq_false (by omega)
      go_wp2_with (fail)
      go_end0
      have hma := HA.out
      rw [List.take_of_length_le (by omega)] at hma
      exact ⟨rfl, hk1.out.trans BW.out.1, hma, BW.out.2⟩
theorem handle_f (k ver : Int) (hk0 : 0 ≤ k) (hk1 : k < 16) (hv0 : 0 ≤ ver) (hv1 : ver < 4294967296) (x : Int) (hx : IntKind.u64.wrap x = ver * 4294967296) : slot_Handle.f k x = some (ver * 16 + k, true) := by
  have e : pack_Version.f x = some ver := by
    unfold pack_Version.f
    rw [hx, Int.mul_ediv_cancel _ (by decide), w64 (by omega) (by omega)]
  unfold slot_Handle.f slot_named.f
  rw [e]
  simp only [Option.bind_some]
  rw [if_neg (by omega), w64 (x := ver * 16) (by omega) (by omega), w64 (x := ver * 16 + k) (by omega) (by omega), Int.tmod_eq_emod_of_nonneg (by omega), Int.tdiv_eq_ediv_of_nonneg (by omega), w64 (x := (ver * 16 + k) / 16) (by omega) (by omega), show (ver * 16 + k) % 16 = k by omega, show (ver * 16 + k) / 16 = ver by omega]
  simp
theorem wrap_u64_64 (x : Int) (h0 : 0 ≤ x) (h1 : x < 18446744073709551616) : IntKind.u64.wrap (wrap64 x) = x := by
  simp only [wrap64, IntKind.wrap, IntKind.bits, IntKind.signed]
  simp
  repeat' split
  all_goals omega
set_option maxHeartbeats 4000000 in
set_option maxRecDepth 100000 in
theorem K_handle (W0 W : World) (b : Nat) (M : ML) (h : MAt W0 W b M) (k : Nat) (hk : k < 16) (hv0 : 0 ≤ (tkAt M.tk k).ver) (hv1 : (tkAt M.tk k).ver < 4294967296) : Calls Tryz.prog 38 #[.pointer (some ⟨b, 0, none⟩), .int .i64 k] W fun e w' => e = .returned (.int .i64 ((tkAt M.tk k).ver * 16 + k)) ∧ Below W.heap.size W w' := by
  obtain ⟨A6, n6, d6, A7, n7, d7, hb, h6, h7, hl, hu, ht, hW⟩ := h
  have hu57 := Tryz.underlying54
  obtain ⟨c0, -, -⟩ := mc_tk hb rfl hl hu k (by omega)
  have hk0 : (0 : Int) ≤ (k : Int) := by omega
  have hk1 : (k : Int) < 16 := by omega
  have HB := Aside0.mk hb
  clear hb
  have hbl := blk_lt HB.out
  have hcall := Aside0.mk (slot_Handle.calls (k : Int) (wrap64 ((tkAt M.tk k).ver * 4294967296)) _ _ W (handle_f (k : Int) (tkAt M.tk k).ver hk0 hk1 hv0 hv1 _ (wrap_u64_64 _ (by omega) (by omega))))
  go_enter Tryz.func38, Tryz.ntmps38
  go_wp2_with (go_at_call 61; refine hcall.out.mono ?_; rintro e w' ⟨rfl, hb'⟩)
  go_ret
  exact ⟨rfl, hb'⟩
end Go.Proofs.YteaidhoimaphlaaGreat.PM
