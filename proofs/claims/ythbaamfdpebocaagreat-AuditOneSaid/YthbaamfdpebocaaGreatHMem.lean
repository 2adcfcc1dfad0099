import Derived.Test.YthbaamfdpebocaaGreatHTree
import Derived.RangeFuncNested
import Derived.RangeFuncBound
import Derived.RangeFuncCalls
import Derived.RangeFuncLeaves
import Derived.RangeFuncBox
import Derived.Shelf.Abstract
import Derived.Shelf.RegionOpen
import Derived.OwnWalkIn
import Derived.TacticsInMore
import Derived.LoopNIn
import Derived.LoopIn
import Derived.Deep.RegionHeld3
import Derived.Deep.RegionLaw
import Derived.Laws.CopyOwn
import Derived.Laws.EntriesVeiled
import Derived.Deep.DeepCutAuto
namespace Go.Proofs.YthbaamfdpebocaaGreat.PA
open Go.RowKit Go.Shelf Go.Proofs.YthbaamfdpebocaaGreatW.PrintWords Go.Proofs.YthbaamfdpebocaaGreatW.PrintLast Go.Proofs.YthbaamfdpebocaaGreatW.PrintMore
attribute [local go_sem] max2_int min2_int max_two min_two max_three min_three max_four min_four
set_option linter.unusedVariables false
set_option linter.unusedSimpArgs false
theorem below_cell_of {w w' : World} {p : Addr} {v : Value} (h : Below w.heap.size w w') (hp : w.cell? p = some v) : w'.cell? p = some v := (h.cell (World.block_lt_of_cell? w p hp)).trans hp
theorem IsInts.get {W : World} {A : Option Addr} {n c : Nat} {l : List Int} (h : IsInts W (.slice A n c) l) (k : Nat) (hk : k < l.length) : ∃ ad, A = some ad ∧ W.cell? (ad.add k) = some (.int .i64 (rd l (k : Int))) := by
  obtain ⟨A', c', e, hc, hC⟩ := h
  cases e
  obtain ⟨ad, e, h2⟩ := Kd.at_int hC (k : Int) (by omega) (by omega)
  exact ⟨ad, e, by simpa using h2⟩
/-! worlds in which machines step: one block of words (Mem), blocks of machines; rows of ints, which none of them writes. -/
/-- block i is of type t. -/
def Ty (w : World) (i : Nat) (t : TypeId) : Prop := ∃ cs, w.heap[i]? = some (.cells cs t (0, 0))
theorem Ty.lt {w : World} {i t : Nat} (h : Ty w i t) : i < w.heap.size := by
  obtain ⟨cs, h⟩ := h
  exact blk_lt h
theorem Ty.ne {w : World} {i j t u : Nat} (h : Ty w i t) (k : Ty w j u) (hne : t ≠ u) : i ≠ j := by
  rintro rfl
  obtain ⟨cs, h⟩ := h
  obtain ⟨ds, k⟩ := k
  rw [h] at k
  injection k with k
  injection k with _ k
  exact hne k
theorem Ty.of {w : World} {i t : Nat} {cs : Array Value} (h : w.heap[i]? = some (.cells cs t (0, 0))) : Ty w i t := ⟨cs, h⟩
/-- all blocks but those of bs are as they were. -/
structure KM (bs : Nat → Prop) (w w' : World) : Prop where
  os : w'.os = w.os
  tape : w'.tape = w.tape
  out : w'.output = w.output
  size : w.heap.size ≤ w'.heap.size
  same : ∀ i, i < w.heap.size → ¬ bs i → w'.heap[i]? = w.heap[i]?
theorem KM.of_below {bs : Nat → Prop} {w w' : World} (h : Below w.heap.size w w') : KM bs w w' := ⟨h.os, h.tape, h.output, h.size, fun i hi _ => h.block i hi⟩
theorem KM.set {bs : Nat → Prop} {X Y : World} (h : KM bs X Y) {b : Nat} (hb : bs b ∨ X.heap.size ≤ b) (i : Nat) (u : Value) : KM bs X (Y.setCell ⟨b, i, none⟩ u) :=
  ⟨h.os, h.tape, h.out, by simpa [World.setCell] using h.size, fun j hj hn => (Below.heap_setCell Y _ u j (fun e => by
    have e : j = b := e
    subst e
    cases hb with
    | inl hb => exact hn hb
    | inr hb => omega)).trans (h.same j hj hn)⟩
theorem KM.below {bs : Nat → Prop} {W0 X Y : World} (h : KM bs X Y) (hb : Below W0.heap.size W0 X) (hs : ∀ i, i < W0.heap.size → ¬ bs i) : Below W0.heap.size W0 Y :=
  ⟨h.os.trans hb.os, h.tape.trans hb.tape, h.out.trans hb.output, Nat.le_trans hb.size h.size, fun i hi => (h.same i (Nat.lt_of_lt_of_le hi hb.size) (hs i hi)).trans (hb.block i hi)⟩
theorem KM.blk {bs : Nat → Prop} {w w' : World} (h : KM bs w w') {b : Nat} {o : Obj} (hb : w.heap[b]? = some o) (hn : ¬ bs b) : w'.heap[b]? = some o := (h.same b (blk_lt hb) hn).trans hb
/-- a row of ints, in blocks of ints. -/
def IR (w : World) (A : Option Addr) (n c : Nat) (xs : List Int) : Prop := IsInts w (.slice A n c) xs ∧ ∀ a, A = some a → Ty w a.block 3
theorem add_blk (a : Addr) (n : Nat) : (a.add n).block = a.block := by unfold Addr.add; split <;> rfl
theorem cell_of_blk {w w' : World} {p : Addr} (h : w'.heap[p.block]? = w.heap[p.block]?) : w'.cell? p = w.cell? p := by simp only [World.cell?, h]
theorem IR.step {w w' : World} {A : Option Addr} {n c : Nat} {xs : List Int} (h : IR w A n c xs) (hs : ∀ i, Ty w i 3 → w'.heap[i]? = w.heap[i]?) : IR w' A n c xs := by
  obtain ⟨⟨A', c', e, hc, h1, h2, h3⟩, ht⟩ := h
  cases e
  refine ⟨⟨A, c, rfl, hc, h1, h2, fun h0 => ?_⟩, fun a ha => ?_⟩
  · obtain ⟨ad, rfl, hx⟩ := h3 h0
    have hb := hs _ (ht ad rfl)
    exact ⟨ad, rfl, fun j p hj => by
      obtain ⟨cs, l, r, hcell⟩ := hx j p hj
      exact ⟨cs, l, r, fun i u hi => (cell_of_blk (by rw [add_blk]; exact hb)).trans (hcell i u hi)⟩⟩
  · obtain ⟨cs, hcs⟩ := ht a ha
    exact ⟨cs, (hs _ ⟨cs, hcs⟩).trans hcs⟩
theorem IR.below {w w' : World} {A : Option Addr} {n c : Nat} {xs : List Int} (h : IR w A n c xs) (hb : Below w.heap.size w w') : IR w' A n c xs := h.step (fun i hi => hb.block i hi.lt)
theorem IR.of_R {B : Nat} {w : World} {ok : Nat → Prop} {v : Value} {xs : List Int} (h : (Kd.int .i64).R 3 w B ok v xs) : ∃ A n c, v = .slice A n c ∧ IR w A n c xs := by
  have hI := IsInts.of_R h
  obtain ⟨A, n, c, rfl⟩ := hI.slice
  refine ⟨A, n, c, rfl, hI, fun a ha => ?_⟩
  obtain ⟨_, _, _, q, hq, cs, hc⟩ := (Kd.R_bound h).1 a.block (by rw [ha]; rfl)
  have e : q = 3 := by simpa [Kd.int, Kd.scalar] using hq
  subst e
  exact ⟨cs, hc⟩
/-- all words, all accesses. -/
structure LMem where
  w : List Int
  l : List S145
/-- block mb of w holds Mem; its log lies from B on. -/
def MemAt (B : Nat) (w : World) (mb : Nat) (M : LMem) : Prop := B ≤ mb ∧ ∃ A n c vL, w.heap[mb]? = some (.cells #[.slice A n c, vL] 43 (0, 0)) ∧ IR w A n c M.w ∧ Kd.R k145 145 w B (fun _ => True) vL M.l
theorem R_acc_step {B : Nat} {w w' : World} {v : Value} {xs : List S145} (h : Kd.R k145 145 w B (fun _ => True) v xs) (hs : ∀ i, Ty w i 145 → w'.heap[i]? = w.heap[i]?) : Kd.R k145 145 w' B (fun _ => True) v xs := by
  refine Kd.R_mono (Kd.R_step (Kd.R_bound h) (fun k hk _ => ?_)) (fun _ _ => trivial)
  obtain ⟨_, _, _, q, hq, cs, hc⟩ := hk
  have e : q = 145 := by simpa [k145, Kd.iso, Kd.pair, Kd.int, Kd.bool, Kd.scalar] using hq
  subst e
  exact hs k ⟨cs, hc⟩
theorem MemAt.below {B : Nat} {w w' : World} {mb : Nat} {M : LMem} (h : MemAt B w mb M) (hb : Below w.heap.size w w') : MemAt B w' mb M := by
  obtain ⟨hB, A, n, c, vL, hh, hw, hl⟩ := h
  exact ⟨hB, A, n, c, vL, blk_below hh hb, hw.below hb, R_acc_step hl (fun i hi => hb.block i hi.lt)⟩
/-- words of which one is another one (none, if there is no such word). -/
def pokeL (l : List Int) (i x : Int) : List Int := if 0 ≤ i ∧ i < (l.length : Int) then l.set i.toNat x else l
theorem pokeL_len (l : List Int) (i x : Int) : (pokeL l i x).length = l.length := by
  unfold pokeL
  split <;> simp
theorem pokeL_get (l : List Int) (i x : Int) (k : Nat) (hk : k < l.length) : (pokeL l i x)[k]? = some (if (k : Int) = i then x else rd l (k : Int)) := by
  have hr : rd l (k : Int) = l[k] := rd_lt hk
  unfold pokeL
  by_cases e : (k : Int) = i
  · subst e
    rw [if_pos ⟨by omega, by omega⟩, if_pos rfl, Int.toNat_natCast, List.getElem?_set_self hk]
  · rw [if_neg e, hr]
    split
    · rw [List.getElem?_set_ne (by omega), List.getElem?_eq_getElem hk]
    · rw [List.getElem?_eq_getElem hk]
theorem poke_take (l : List Int) (i x : Int) (k : Nat) (hk : k < l.length) : (pokeL l i x).take (k + 1) = (pokeL l i x).take k ++ [if (k : Int) = i then x else rd l (k : Int)] := by
  rw [List.take_add_one, pokeL_get l i x k hk]
  rfl
set_option maxHeartbeats 4000000 in
set_option maxRecDepth 100000 in
theorem K_Poke (B : Nat) (w : World) (mb : Nat) (M : LMem) (h : MemAt B w mb M) (hlen : M.w.length ≤ 100000) (i x : Int) : Calls Tryz.prog 55 #[.pointer (some ⟨mb, 0, none⟩), .int .i64 i, .int .i64 x] w fun e w' => e = .returned (.tuple #[]) ∧ MemAt B w' mb { M with w := pokeL M.w i x } ∧ KM (· = mb) w w' := by
  have hum := Tryz.underlying43
  have HM := Aside0.mk h
  obtain ⟨hB, A, n, c, vL, hh, hw, hl⟩ := h
  have HW := Aside0.mk hw
  have HH := Aside0.mk hh
  have HLl := Aside0.mk hl
  have hB' := Aside0.mk hB
  have hn := hw.1.len
  have hmb := blk_lt hh
  have z0 : w.cell? ⟨mb, 0, none⟩ = some (.slice A n c) := (blk_cell hh 0).trans rfl
  clear hl hB hw hh
  go_enter Tryz.func55, Tryz.ntmps55
  go_wp2_with (fail)
  go_loopg [6, 7] n (fun gg s6 s7 wr => ∃ k : Nat, k ≤ n ∧ n - k ≤ gg ∧ s7 = .int .i64 k ∧ Aside0 (Below w.heap.size w wr) ∧ Aside0 (Kd.R (Kd.int .i64) 3 wr w.heap.size (fun _ => True) s6 ((pokeL M.w i x).take k)))
  case atStart => exact ⟨0, Nat.zero_le _, by omega, rfl, ⟨Below.refl _ _⟩, ⟨Kd.R_nil _ _ _ _ _⟩⟩
  case round =>
    obtain ⟨k, hk, hg, rfl, BW, HO⟩ := hrel
    have y0 := below_cell_of BW.out z0
    by_cases hlt : k < n
    · have hltb : decide ((k : Int) < (n : Int)) = true := decide_eq_true (by omega)
      have hk0 : (0 : Int) ≤ (k : Int) := by omega
      have hkn : (k : Int) < (n : Int) := by omega
      have hl8 : Aside0 ((((pokeL M.w i x).take k).length + 1) * 8 ≤ 140737488355328) := ⟨by rw [List.length_take, pokeL_len]; omega⟩
      obtain ⟨ad, rfl, cl⟩ := (HW.out.below BW.out).1.get k (by omega)
      by_cases e : (k : Int) = i
      · have eb : ((k : Int) == i) = true := by simpa using e
        have E := Aside0.mk e
        clear e
        go_wp2_with (first | ((with_reducible refine gate_builtin (b := .append) (xs := #[.tmp 20, .tmp 22]) rfl ?_); at_builtin; refine Kd.R_append (Kd.int .i64) (w0 := w) w.heap.size rfl (.tmp 20) (.tmp 22) 22 3 (.int .i64 0) 8 rfl Tryz.underlying22 info3 rfl (by decide) (by omega) _ ((pokeL M.w i x).take k) (x) [.int .i64 (x)] (fun _ => True) (fun _ => False) rfl rfl ?aP (fun _ hk => hk.elim) (fun _ _ => trivial) HO.out BW.out BW.out.size ?aL ?_; (case aP => exact rfl); (case aL => exact hl8.out); intro v1 w2 ho hb hg hat; clear hg hat; have HO2 := Aside0.mk ho; have BW2 := Aside0.mk hb; clear ho hb))
        go_roundg (n - (k + 1))
        case measure => omega
        case rel => exact ⟨k + 1, by omega, by omega, by go_num, BW2, ⟨by rw [poke_take M.w i x k (by omega), if_pos E.out]; exact HO2.out⟩⟩
      · have eb : ((k : Int) == i) = false := by simpa using e
        have E := Aside0.mk e
        clear e
        go_wp2_with (first | ((with_reducible refine gate_builtin (b := .append) (xs := #[.tmp 24, .tmp 32]) rfl ?_); at_builtin; refine Kd.R_append (Kd.int .i64) (w0 := w) w.heap.size rfl (.tmp 24) (.tmp 32) 22 3 (.int .i64 0) 8 rfl Tryz.underlying22 info3 rfl (by decide) (by omega) _ ((pokeL M.w i x).take k) (rd M.w (k : Int)) [.int .i64 (rd M.w (k : Int))] (fun _ => True) (fun _ => False) rfl rfl ?aP (fun _ hk => hk.elim) (fun _ _ => trivial) HO.out BW.out BW.out.size ?aL ?_; (case aP => exact rfl); (case aL => exact hl8.out); intro v1 w2 ho hb hg hat; clear hg hat; have HO2 := Aside0.mk ho; have BW2 := Aside0.mk hb; clear ho hb))
        go_roundg (n - (k + 1))
        case measure => omega
        case rel => exact ⟨k + 1, by omega, by omega, by go_num, BW2, ⟨by rw [poke_take M.w i x k (by omega), if_neg E.out]; exact HO2.out⟩⟩
    · have hltb : (n : Int) ≤ (k : Int) := by omega
      have hkn : k = n := by omega
      have HKN := Aside0.mk hkn
      clear hlt
      obtain ⟨A2, n2, c2, rfl, hr⟩ := IR.of_R HO.out
      have HR := Aside0.mk hr
      clear hr
      obtain ⟨_, fr⟩ : True ∧ wr.frozen? ⟨mb, 0, none⟩ = false := ⟨trivial, blk_frozen (blk_below HH.out BW.out) 0⟩
      go_wp2_with (fail)
      go_end0
      refine ⟨rfl, ⟨hB'.out, A2, n2, c2, vL, ?_, ?_, ?_⟩, KM.set (bs := (· = mb)) (b := mb) (KM.of_below BW.out) (.inl rfl) 0 _⟩
      · rw [blk_set (blk_below HH.out BW.out) 0]
        rfl
      · have hr := HR.out
        rw [HKN.out, hn, List.take_of_length_le (by rw [pokeL_len]; exact Nat.le_refl _)] at hr
        exact hr.step (fun j hj => Below.heap_setCell wr _ _ j (fun e => Ty.ne hj (Ty.of (blk_below HH.out BW.out)) (by decide) e))
      · exact R_acc_step (R_acc_step HLl.out (fun j hj => BW.out.block j hj.lt)) (fun j hj => Below.heap_setCell wr _ _ j (fun e => Ty.ne hj (Ty.of (blk_below HH.out BW.out)) (by decide) e))
set_option maxHeartbeats 4000000 in
set_option maxRecDepth 100000 in
theorem K_memNew (w : World) (n : Nat) (hn : n ≤ 100000) : Calls Tryz.prog 53 #[.int .i64 n] w fun e w' => ∃ mb, e = .returned (.pointer (some ⟨mb, 0, none⟩)) ∧ w.heap.size ≤ mb ∧ MemAt w.heap.size w' mb ⟨List.replicate n 0, []⟩ ∧ Below w.heap.size w w' := by
  have hum := Tryz.underlying43
  have hn0 : (0 : Int) ≤ (n : Int) := by omega
  have hl8 : Aside0 ((n : Int).toNat * 8 ≤ 281474976710656) := ⟨by omega⟩
  go_enter Tryz.func53, Tryz.ntmps53
  go_wp2_with ((with_reducible refine gate_dst (N := 4) rfl ?_); refine Kd.R_make (Kd.int .i64) (w0 := w) w.heap.size 3 rfl (N := 4) rfl 22 (.tmp 3) (.tmp 3) rfl (n : Int) rfl rfl Tryz.underlying22 (.int .i64 0) 8 info3 rfl (by decide) (by decide) 0 (ok := fun _ => True) (okp := fun _ => False) rfl (fun _ h => h.elim) trivial hn0 hl8.out (Below.refl _ _) (Nat.le_refl _) ?_; intro v1 w1 hR hb _ _; obtain ⟨A, n1, c, rfl, hr⟩ := IR.of_R hR; rw [Int.toNat_natCast] at hr; have HR := Aside0.mk hr; have HB := Aside0.mk hb; clear hR hr hb)
  go_ret
  refine ⟨w1.heap.size, rfl, HB.out.size, ⟨HB.out.size, A, n1, c, _, blk_new _ _, HR.out.below (below_alloc (Below.refl _ _) _), ?_⟩, below_alloc HB.out _⟩
  exact Kd.R_nil _ _ _ _ _
end Go.Proofs.YthbaamfdpebocaaGreat.PA
