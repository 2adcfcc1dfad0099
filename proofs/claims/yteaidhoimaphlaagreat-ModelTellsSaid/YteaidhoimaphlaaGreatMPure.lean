import Derived.Test.YteaidhoimaphlaaGreatMDo
import Derived.Test.YteaidhoimaphlaaGreatMNew
import Derived.RangeFuncNested
import Derived.RangeFuncBound
import Derived.RangeFuncCalls
import Derived.RangeFuncLeaves
import Derived.RangeFuncBox
import Derived.Shelf.Abstract
import Derived.Shelf.RegionOpen
import Derived.OwnWalkIn
import Derived.TacticsInMore
import Derived.LoopNIn
import Derived.LoopIn
import Derived.Deep.RegionHeld3
import Derived.Deep.RegionLaw
import Derived.Laws.CopyOwn
import Derived.Laws.EntriesVeiled
namespace Go.Proofs.YteaidhoimaphlaaGreat.PM
open Go.RowKit Go.Shelf Go.Proofs.YteaidhoimaphlaaGreatW.PrintWords Go.Proofs.YteaidhoimaphlaaGreatW.PrintLast Go.Proofs.YteaidhoimaphlaaGreatW.PrintMore
attribute [local go_sem] max2_int min2_int max_two min_two max_three min_three max_four min_four
set_option linter.unusedVariables false
set_option linter.unusedSimpArgs false
theorem turn_ok {M : ML} (h : MOk M) (k : Nat) (nd n : Int) (u : List Int) : MOk { M with use := u, tk := M.tk.set k (turnT (tkAt M.tk k) nd n) } := by
  refine ⟨h.ti, h.falls, h.nodes, fun j hj => ?_⟩
  show 0 ≤ (tkAt (M.tk.set k (turnT (tkAt M.tk k) nd n)) j).ver ∧ (tkAt (M.tk.set k (turnT (tkAt M.tk k) nd n)) j).ver < 4294967296
  by_cases e : j = k
  · subst e
    by_cases hl : j < M.tk.length
    · rw [tkAt_set _ _ _ hl]; unfold turnT; simp only; omega
    · rw [List.set_eq_of_length_le (by omega)]; exact h.vers j hj
  · rw [tkAt_set_ne _ _ _ _ e]; exact h.vers j hj
theorem admitM_ok {M : ML} (h : MOk M) (v n : Int) : MOk (admitM M v n).1 ∧ (admitM M v n).1.c = M.c := by
  unfold admitM
  split
  · exact ⟨h, rfl⟩
  · split
    · exact ⟨turn_ok h _ 0 0 M.use, rfl⟩
    · exact ⟨turn_ok h _ _ _ _, rfl⟩
theorem releaseM_ok {M : ML} (h : MOk M) (n : Int) : MOk (releaseM M n).1 ∧ (releaseM M n).1.c = M.c := by
  unfold releaseM
  split
  · exact ⟨h, rfl⟩
  · exact ⟨turn_ok h _ 0 0 _, rfl⟩
theorem doM_ok {M : ML} (h : MOk M) (kk v n : Int) : MOk (doM M kk v n).1 ∧ (doM M kk v n).1.c = M.c := by
  unfold doM
  split
  · exact ⟨h, rfl⟩
  split
  · exact admitM_ok h v n
  split
  · exact releaseM_ok h n
  split
  · split
    · exact ⟨h, rfl⟩
    · exact ⟨⟨h.ti, h.falls, h.nodes, h.vers⟩, rfl⟩
  split
  · split
    · exact ⟨h, rfl⟩
    · exact ⟨⟨h.ti, h.falls, h.nodes, h.vers⟩, rfl⟩
  · exact ⟨h, rfl⟩
theorem newM_ok {c : LConf} (h0 : 0 ≤ c.ti) (h1 : c.ti ≤ 16) (hf : Falls c.ps) (hn : c.ps.length ≤ 12) : MOk (newM c) := by
  refine ⟨⟨h0, h1⟩, hf, hn, fun k hk => ?_⟩
  have : tkAt (newM c).tk k = ⟨0, 0, 0⟩ := by
    rw [tkAt_lt (by simpa [newM] using hk)]
    exact List.getElem_replicate _
  rw [this]
  decide
def h20_0 : ML := newM baseC
def h20_1 : ML := (doM h20_0 1 2 4).1
def h20_2 : ML := (doM h20_1 1 3 6).1
def h20_3 : ML := (doM h20_2 4 1 7).1
def h20_4 : ML := (doM h20_3 5 1 0).1
def h20_5 : ML := (doM h20_4 2 0 32).1
def h20_6 : ML := (doM h20_5 2 0 32).1
theorem h20_a0 : (doM h20_0 1 2 4).2 = ⟨0, 32, false, 0⟩ := by kernel_rfl
theorem h20_a1 : (doM h20_1 1 3 6).2 = ⟨4, 0, false, 3⟩ := by kernel_rfl
theorem h20_a2 : (doM h20_2 4 1 7).2 = ⟨4, 0, false, 1⟩ := by kernel_rfl
theorem h20_a3 : (doM h20_3 5 1 0).2 = ⟨0, 4, true, 0⟩ := by kernel_rfl
theorem h20_a4 : (doM h20_4 2 0 32).2 = ⟨0, 4, false, 2⟩ := by kernel_rfl
theorem h20_a5 : (doM h20_5 2 0 32).2 = ⟨5, 0, false, 0⟩ := by kernel_rfl
theorem h20_u : rd h20_6.use 0 = 0 ∧ rd h20_6.lim 1 = 10 := ⟨by kernel_rfl, by kernel_rfl⟩
/-- block b of w holds M, as a call that began in W sees it. -/
def MS (W w : World) (b : Nat) (M : ML) : Prop := (∃ W0, MAt W0 w b M ∧ Below W0.heap.size W0 w) ∧ Below W.heap.size W w ∧ W.heap.size ≤ b
theorem MS.below {W w w' : World} {b : Nat} {M : ML} (h : MS W w b M) (hb : Below w.heap.size w w') : MS W w' b M := by
  obtain ⟨⟨W0, hm, hw⟩, h2, h3⟩ := h
  exact ⟨⟨W0, hm.below hb, hw.trans (hb.mono hw.size)⟩, h2.trans (hb.mono h2.size), h3⟩
theorem MS.blt {W w : World} {b : Nat} {M : ML} (h : MS W w b M) : b < w.heap.size := by
  obtain ⟨⟨W0, hm, hw⟩, h2, h3⟩ := h
  exact hm.b_lt
theorem MS.new {W w w' : World} {b : Nat} {M : ML} (h : Below W.heap.size W w) (hs : w.heap.size ≤ b) (hm : MAt w w' b M) (hb : Below w.heap.size w w') : MS W w' b M :=
  ⟨⟨w, hm, hb⟩, h.trans (hb.mono h.size), Nat.le_trans h.size hs⟩
theorem K_DoS (W w : World) (b : Nat) (M : ML) (h : MS W w b M) (hok : MOk M) (kk v n : Int) (hn : n ≤ 9223372036854775807) : Calls Tryz.prog 13 #[.pointer (some ⟨b, 0, none⟩), .agg #[.int .i64 kk, .int .i64 v, .int .i64 n]] w fun e w' => e = .returned (ansV (doM M kk v n).2) ∧ KB w w' b ∧ MS W w' b (doM M kk v n).1 := by
  obtain ⟨⟨W0, hm, hw⟩, h2, h3⟩ := h
  exact (K_Do W0 w b M hw hm hok kk v n hn).mono fun e w' ⟨he, hk, hm'⟩ => ⟨he, hk, ⟨W0, hm', hk.below hw hm.b_ge⟩, hk.below h2 h3, h3⟩
theorem K_LimitS (W w : World) (b : Nat) (M : ML) (h : MS W w b M) (v : Nat) (hv : v < 12) : Calls Tryz.prog 15 #[.pointer (some ⟨b, 0, none⟩), .int .i64 v] w fun e w' => e = .returned (.int .i64 (rd M.lim (v : Int))) ∧ w' = w := by
  obtain ⟨⟨W0, hm, hw⟩, h2, h3⟩ := h
  exact K_Limit W0 w b M hm v hv
theorem K_UsedS (W w : World) (b : Nat) (M : ML) (h : MS W w b M) (v : Nat) (hv : v < 12) : Calls Tryz.prog 17 #[.pointer (some ⟨b, 0, none⟩), .int .i64 v] w fun e w' => e = .returned (.int .i64 (rd M.use (v : Int))) ∧ w' = w := by
  obtain ⟨⟨W0, hm, hw⟩, h2, h3⟩ := h
  exact K_Used W0 w b M hm v hv
end Go.Proofs.YteaidhoimaphlaaGreat.PM
