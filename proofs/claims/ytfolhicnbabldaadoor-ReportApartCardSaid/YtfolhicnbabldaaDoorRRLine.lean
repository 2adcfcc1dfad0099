import Derived.Test.YtfolhicnbabldaaDoorRLineFn
import Derived.RangeFuncNested
import Derived.RangeFuncBound
import Derived.RangeFuncCalls
import Derived.RangeFuncLeaves
import Derived.RangeFuncBox
import Derived.Shelf.Abstract
import Derived.Shelf.RegionOpen
import Derived.OwnWalkIn
import Derived.TacticsInMore
import Derived.LoopNIn
import Derived.LoopIn
import Derived.Deep.RegionHeld3
import Derived.Deep.RegionLaw
import Derived.Laws.CopyOwn
import Derived.Laws.EntriesVeiled
import Derived.WalkKit
import Derived.BigCall
import Derived.Lib.ItoaLen
namespace Go.Proofs.YtfolhicnbabldaaDoor.PR
open Go.RowKit Go.Shelf Go.Proofs.YtfolhicnbabldaaDoorW.PrintWords Go.Proofs.YtfolhicnbabldaaDoorW.PrintLast Go.Proofs.YtfolhicnbabldaaDoorW.PrintMore
attribute [local go_sem] max2_int min2_int max_two min_two max_three min_three max_four min_four
set_option linter.unusedVariables false
set_option linter.unusedSimpArgs false
theorem ba_append (a b : Bytes) : (ByteArray.mk a.toArray) ++ (ByteArray.mk b.toArray) = ByteArray.mk (a ++ b).toArray := by
  apply ByteArray.ext
  simp [ByteArray.data_append]
theorem K_ItoaS (n : Int) (hn : I64 n) (w : World) (hG : GW w) :
    Calls Tryd.prog 30 #[.int .i64 n] w fun e w' => e = .returned (.string ⟨(Lib.itoa n).toArray⟩) ∧ Below w.heap.size w w' := K_Itoa n hn.1 hn.2 w hG
def nameR (k : Int) : Bytes := if 0 < k ∧ k < 7 then nameW k else wCall ++ 32 :: Lib.itoa k
set_option maxHeartbeats 4000000 in
set_option maxRecDepth 100000 in
theorem K_rname (k : Int) (hk : I64 k) (w : World) (hG : GW w) :
    Calls Tryd.prog 31 #[.int .i64 k] w fun e w' => e = .returned (strV (nameR k)) ∧ Below w.heap.size w w' := by
  have HG := Aside0.mk hG
  have HK := Aside0.mk hk
  clear hG hk
  by_cases h1 : k = 1
  · subst h1
    go_enter Tryd.func31, Tryd.ntmps31
    go_wp2_with (fail)
    go_ret
    exact ⟨rfl, Below.refl _ _⟩
  by_cases h2 : k = 2
  · subst h2
    go_enter Tryd.func31, Tryd.ntmps31
    go_wp2_with (fail)
    go_ret
    exact ⟨rfl, Below.refl _ _⟩
  by_cases h3 : k = 3
  · subst h3
    go_enter Tryd.func31, Tryd.ntmps31
    go_wp2_with (fail)
    go_ret
    exact ⟨rfl, Below.refl _ _⟩
  by_cases h4 : k = 4
  · subst h4
    go_enter Tryd.func31, Tryd.ntmps31
    go_wp2_with (fail)
    go_ret
    exact ⟨rfl, Below.refl _ _⟩
  by_cases h5 : k = 5
  · subst h5
    go_enter Tryd.func31, Tryd.ntmps31
    go_wp2_with (fail)
    go_ret
    exact ⟨rfl, Below.refl _ _⟩
  by_cases h6 : k = 6
  · subst h6
    go_enter Tryd.func31, Tryd.ntmps31
    go_wp2_with (fail)
    go_ret
    exact ⟨rfl, Below.refl _ _⟩
  have hres : Aside0 (nameR k = wCall ++ 32 :: Lib.itoa k) := ⟨by unfold nameR; rw [if_neg (by omega)]⟩
  have g1 : (k == 1) = false := by simpa using h1
  have g2 : (k == 2) = false := by simpa using h2
  have g3 : (k == 3) = false := by simpa using h3
  have g4 : (k == 4) = false := by simpa using h4
  have g5 : (k == 5) = false := by simpa using h5
  have g6 : (k == 6) = false := by simpa using h6
  have hln : 5 + (Lib.itoa k).length ≤ 9223372036854775807 := by have := itoa_len k HK.out.1 HK.out.2; omega
  clear h1 h2 h3 h4 h5 h6
  go_enter Tryd.func31, Tryd.ntmps31
  go_wp2_with (go_at_call 30; (with_reducible refine (K_ItoaS k HK.out _ HG.out).mono ?_); rintro e w1 ⟨rfl, hb⟩; have HB := Aside0.mk hb; clear hb)
  go_ret
  refine ⟨?_, HB.out⟩
  rw [hres.out]
  exact congrArg (fun x => Ending.returned (Value.string x)) (ba_append [99, 97, 108, 108, 32] (Lib.itoa k))
def headR (e : Ev) : Bytes := Lib.itoa e.wh ++ [32, 116, 104, 114, 101, 97, 100, 32] ++ Lib.itoa e.th
def callR (s : Bytes) (e : Ev) : Bytes := s ++ nameR e.ck ++ [32, 110, 111, 100, 101, 32] ++ Lib.itoa e.cv ++ [32, 110, 32] ++ Lib.itoa e.cn
def lineR (e : Ev) : Bytes :=
  if plainB e = false then [] else
  if e.kd = 1 then callR (headR e ++ [32, 98, 101, 103, 105, 110, 32]) e
  else if e.er ≠ 0 then callR (headR e ++ [32, 101, 110, 100, 32]) e ++ [32, 101, 114, 114, 32] ++ Lib.itoa e.er ++ [32, 97, 116, 32] ++ Lib.itoa e.nd
  else callR (headR e ++ [32, 101, 110, 100, 32]) e ++ [32, 111, 107, 32] ++ Lib.itoa e.an ++ (if e.ex = true then [32, 101, 120, 97, 99, 116] else [32, 110, 101, 97, 114]) ++ [32, 97, 116, 32] ++ Lib.itoa e.nd

theorem K_rnameS (k : Int) (hk : I64 k) (w : World) (hG : GW w) : Calls Tryd.prog 31 #[.int .i64 k] w fun e w' => e = .returned (.string ⟨(nameR k).toArray⟩) ∧ Below w.heap.size w w' := K_rname k hk w hG
theorem nameR_len (k : Int) (hk : I64 k) : (nameR k).length ≤ 40 := by
  unfold nameR
  split
  · have := nameW_len k; omega
  · have := itoa_len k hk.1 hk.2
    have h : (wCall : Bytes).length = 4 := rfl
    simp only [List.length_append, List.length_cons, h]
    omega
theorem cat_head (a c : Bytes) : (ByteArray.mk a.toArray ++ ByteArray.mk #[32, 116, 104, 114, 101, 97, 100, 32] ++ ByteArray.mk c.toArray) = ByteArray.mk (a ++ [32, 116, 104, 114, 101, 97, 100, 32] ++ c).toArray := by
  rw [show (#[32, 116, 104, 114, 101, 97, 100, 32] : Array UInt8) = ([32, 116, 104, 114, 101, 97, 100, 32] : Bytes).toArray from rfl, ba_append, ba_append]
theorem cat_begin (a : Bytes) : (ByteArray.mk a.toArray ++ ByteArray.mk #[32, 98, 101, 103, 105, 110, 32]) = ByteArray.mk (a ++ [32, 98, 101, 103, 105, 110, 32]).toArray := by
  rw [show (#[32, 98, 101, 103, 105, 110, 32] : Array UInt8) = ([32, 98, 101, 103, 105, 110, 32] : Bytes).toArray from rfl, ba_append]
theorem cat_end (a : Bytes) : (ByteArray.mk a.toArray ++ ByteArray.mk #[32, 101, 110, 100, 32]) = ByteArray.mk (a ++ [32, 101, 110, 100, 32]).toArray := by
  rw [show (#[32, 101, 110, 100, 32] : Array UInt8) = ([32, 101, 110, 100, 32] : Bytes).toArray from rfl, ba_append]
theorem cat_call (a c d f : Bytes) : (ByteArray.mk a.toArray ++ ByteArray.mk c.toArray ++ ByteArray.mk #[32, 110, 111, 100, 101, 32] ++ ByteArray.mk d.toArray ++ ByteArray.mk #[32, 110, 32] ++ ByteArray.mk f.toArray) = ByteArray.mk (a ++ c ++ [32, 110, 111, 100, 101, 32] ++ d ++ [32, 110, 32] ++ f).toArray := by
  rw [show (#[32, 110, 111, 100, 101, 32] : Array UInt8) = ([32, 110, 111, 100, 101, 32] : Bytes).toArray from rfl, show (#[32, 110, 32] : Array UInt8) = ([32, 110, 32] : Bytes).toArray from rfl, ba_append, ba_append, ba_append, ba_append, ba_append]
theorem cat_err (a c d : Bytes) : (ByteArray.mk a.toArray ++ ByteArray.mk #[32, 101, 114, 114, 32] ++ ByteArray.mk c.toArray ++ ByteArray.mk #[32, 97, 116, 32] ++ ByteArray.mk d.toArray) = ByteArray.mk (a ++ [32, 101, 114, 114, 32] ++ c ++ [32, 97, 116, 32] ++ d).toArray := by
  rw [show (#[32, 101, 114, 114, 32] : Array UInt8) = ([32, 101, 114, 114, 32] : Bytes).toArray from rfl, show (#[32, 97, 116, 32] : Array UInt8) = ([32, 97, 116, 32] : Bytes).toArray from rfl, ba_append, ba_append, ba_append, ba_append]
theorem cat_exact (a c d : Bytes) : (ByteArray.mk a.toArray ++ ByteArray.mk #[32, 111, 107, 32] ++ ByteArray.mk c.toArray ++ ByteArray.mk #[32, 101, 120, 97, 99, 116] ++ ByteArray.mk #[32, 97, 116, 32] ++ ByteArray.mk d.toArray) = ByteArray.mk (a ++ [32, 111, 107, 32] ++ c ++ [32, 101, 120, 97, 99, 116] ++ [32, 97, 116, 32] ++ d).toArray := by
  rw [show (#[32, 111, 107, 32] : Array UInt8) = ([32, 111, 107, 32] : Bytes).toArray from rfl, show (#[32, 101, 120, 97, 99, 116] : Array UInt8) = ([32, 101, 120, 97, 99, 116] : Bytes).toArray from rfl, show (#[32, 97, 116, 32] : Array UInt8) = ([32, 97, 116, 32] : Bytes).toArray from rfl, ba_append, ba_append, ba_append, ba_append, ba_append]
theorem cat_near (a c d : Bytes) : (ByteArray.mk a.toArray ++ ByteArray.mk #[32, 111, 107, 32] ++ ByteArray.mk c.toArray ++ ByteArray.mk #[32, 110, 101, 97, 114] ++ ByteArray.mk #[32, 97, 116, 32] ++ ByteArray.mk d.toArray) = ByteArray.mk (a ++ [32, 111, 107, 32] ++ c ++ [32, 110, 101, 97, 114] ++ [32, 97, 116, 32] ++ d).toArray := by
  rw [show (#[32, 111, 107, 32] : Array UInt8) = ([32, 111, 107, 32] : Bytes).toArray from rfl, show (#[32, 110, 101, 97, 114] : Array UInt8) = ([32, 110, 101, 97, 114] : Bytes).toArray from rfl, show (#[32, 97, 116, 32] : Array UInt8) = ([32, 97, 116, 32] : Bytes).toArray from rfl, ba_append, ba_append, ba_append, ba_append, ba_append]
theorem cat_headE (e : Ev) : (ByteArray.mk (Lib.itoa e.wh).toArray ++ ByteArray.mk #[32, 116, 104, 114, 101, 97, 100, 32] ++ ByteArray.mk (Lib.itoa e.th).toArray) = ByteArray.mk (headR e).toArray := cat_head _ _
set_option maxHeartbeats 4000000 in
set_option maxRecDepth 100000 in
theorem K_rLine (e : Ev) (hok : EvOk e) (w : World) (hG : GW w) : Calls Tryd.prog 12 #[evV e] w fun x w' => x = .returned (strV (lineR e)) ∧ Below w.heap.size w w' := by
  have HG := Aside0.mk hG
  have HE := Aside0.mk hok
  have hue := Tryd.underlying28
  have hua := Tryd.underlying26
  have huc := Tryd.underlying23
  clear hG hok
  cases hp : plainB e with
  | false =>
    have hpl : Aside0 (∀ w, Calls Tryd.prog 29 #[.agg #[.int .i64 e.wh, .int .i64 e.th, .int .i64 e.kd, .int .i64 e.ck, .int .i64 e.cv, .int .i64 e.cn, .int .i64 e.er, .int .i64 e.an, .bool e.ex, .int .i64 e.nd]] w fun x w' => x = .returned (.bool false) ∧ Below w.heap.size w w') := ⟨fun w => by have := K_rplain e w; rw [hp] at this; exact this⟩
    have hres : Aside0 (strV (lineR e) = .string ⟨#[]⟩) := ⟨by unfold lineR; rw [if_pos hp]; rfl⟩
    rw [hres.out]
    unfold evV
    go_enter Tryd.func12, Tryd.ntmps12
    go_wp2_with (go_at_call 29; (with_reducible refine (hpl.out _).mono ?_); rintro e1 w1 ⟨rfl, hb⟩; have HB1 : Aside0 (Below w.heap.size w w1) := ⟨(below_alloc (Below.refl _ _) _).trans (hb.mono (by simp))⟩; clear hb)
    go_ret
    exact ⟨rfl, HB1.out⟩
  | true =>
    by_cases h1 : e.kd = 1
    · have hev : evV e = .agg #[.int .i64 e.wh, .int .i64 e.th, .int .i64 1, .int .i64 e.ck, .int .i64 e.cv, .int .i64 e.cn, .int .i64 e.er, .int .i64 e.an, .bool e.ex, .int .i64 e.nd] := by unfold evV; rw [h1]
      have hres : Aside0 (lineR e = callR (headR e ++ [32, 98, 101, 103, 105, 110, 32]) e) := ⟨by unfold lineR; rw [if_neg (by rw [hp]; simp), if_pos h1]⟩
      clear h1
      have hpl : Aside0 (∀ w, Calls Tryd.prog 29 #[.agg #[.int .i64 e.wh, .int .i64 e.th, .int .i64 1, .int .i64 e.ck, .int .i64 e.cv, .int .i64 e.cn, .int .i64 e.er, .int .i64 e.an, .bool e.ex, .int .i64 e.nd]] w fun x w' => x = .returned (.bool true) ∧ Below w.heap.size w w') := ⟨fun w => by have := K_rplain e w; rw [hp, hev] at this; exact this⟩
      rw [hev, hres.out]
      clear hev hp hres
      have l1 := itoa_len e.wh HE.out.wh.1 HE.out.wh.2
      have l2 := itoa_len e.th HE.out.th.1 HE.out.th.2
      have l3 := nameR_len e.ck HE.out.ck
      have l4 := itoa_len e.cv HE.out.cv.1 HE.out.cv.2
      have l5 := itoa_len e.cn HE.out.cn.1 HE.out.cn.2
      have l6 := itoa_len e.er HE.out.er.1 HE.out.er.2
      have l7 := itoa_len e.an HE.out.an.1 HE.out.an.2
      have l8 := itoa_len e.nd HE.out.nd.1 HE.out.nd.2
      have hH : (headR e).length ≤ 60 := by unfold headR; simp only [List.length_append, List.length_cons, List.length_nil]; omega
      have LL := Aside0.mk (And.intro hH (And.intro l3 (And.intro l4 (And.intro l5 (And.intro l6 (And.intro l7 l8))))))
      have n0 : ¬ 9223372036854775807 < (Lib.itoa e.wh).length + 8 := by omega
      have n1 : ¬ 9223372036854775807 < (Lib.itoa e.wh).length + 8 + (Lib.itoa e.th).length := by omega
      clear hH l1 l2 l3 l4 l5 l6 l7 l8
      go_enter Tryd.func12, Tryd.ntmps12
      go_wp2_with (go_at_call 29; (with_reducible refine (hpl.out _).mono ?_); rintro e1 w1 ⟨rfl, hb⟩; have HX1 := Aside0.mk (blk_below (g := w.heap.size) (blk_new w (.cells #[.int .i64 e.wh, .int .i64 e.th, .int .i64 1, .int .i64 e.ck, .int .i64 e.cv, .int .i64 e.cn, .int .i64 e.er, .int .i64 e.an, .bool e.ex, .int .i64 e.nd] 28)) hb); have HB1 : Aside0 (Below w.heap.size w w1) := ⟨(below_alloc (Below.refl _ _) _).trans (hb.mono (by simp))⟩; clear hb)
      obtain ⟨x0, x1, x2, x3, x4, x5, x6, x7, x8, x9⟩ := box10 HX1.out
      clear x2 x3 x4 x5 x6 x7 x8 x9
      go_region_held3 (fun w' => w'.cell? ⟨w.heap.size, 0, none⟩ = some (.int .i64 e.wh) ∧ w'.cell? ⟨w.heap.size, 1, none⟩ = some (.int .i64 e.th)) (first | go_keep | (go_split_ands; (repeat' apply And.intro); all_goals (refine below_cell_of hb2 ?_; assumption))) ((first | (go_at_call 30; refine (K_ItoaS _ (by first | exact HE.out.wh | exact HE.out.th) _ (HG.out.of (by with_reducible repeat (first | exact HB1.out | exact HBx.out | exact HBy.out | apply below_drew1 | apply pw_below_drewN | refine below_step ?_ ‹_›)))).mono ?_; rintro e w2 ⟨rfl, hb2⟩)))
      rename_i hH1
      clear hH1 x0 x1 n0 n1
      have HY2 : Aside0 (Below w1.heap.size w1 w2) := ⟨by with_reducible repeat (first | exact Below.refl _ _ | apply below_drew1 | apply pw_below_drewN | refine below_step ?_ ‹_›)⟩
      have HX2 := Aside0.mk (blk_below HX1.out HY2.out)
      have HBx : Aside0 (Below w.heap.size w w2) := ⟨below_step HB1.out HY2.out⟩
      rename_i hb2a
      clear hb2 hb2a
      obtain ⟨wa, rfl⟩ : ∃ wa, wa = w2 := ⟨_, rfl⟩
      rw [cat_headE]
      obtain ⟨Hd, hHd⟩ : ∃ Hd, headR e = Hd := ⟨_, rfl⟩
      have HHd := Aside0.mk hHd
      have z1 := LL.out.1
      rw [hHd] at z1
      rw [hHd]
      clear hHd
      have m0 : ¬ 9223372036854775807 < Hd.length + 7 := by omega
      clear z1
      obtain ⟨x0, x1, x2, x3, x4, x5, x6, x7, x8, x9⟩ := box10 HX2.out
      clear x3 x4 x5 x6 x7 x8 x9
      go_wp2_with (fail)
      rw [cat_begin]
      obtain ⟨S, hS⟩ : ∃ S, Hd ++ [32, 98, 101, 103, 105, 110, 32] = S := ⟨_, rfl⟩
      have HS := Aside0.mk hS
      rw [hS]
      have zS : S.length ≤ 70 := by rw [← hS, ← HHd.out]; have := LL.out.1; simp only [List.length_append, List.length_cons, List.length_nil]; omega
      clear hS m0 x0 x1 x2
      have z3 := LL.out.2.1
      have z4 := LL.out.2.2.1
      have z5 := LL.out.2.2.2.1
      have p0 : ¬ 9223372036854775807 < S.length + (nameR e.ck).length := by omega
      have p1 : ¬ 9223372036854775807 < S.length + (nameR e.ck).length + 6 := by omega
      have p2 : ¬ 9223372036854775807 < S.length + (nameR e.ck).length + 6 + (Lib.itoa e.cv).length := by omega
      have p3 : ¬ 9223372036854775807 < S.length + (nameR e.ck).length + 6 + (Lib.itoa e.cv).length + 3 := by omega
      have p4 : ¬ 9223372036854775807 < S.length + (nameR e.ck).length + 6 + (Lib.itoa e.cv).length + 3 + (Lib.itoa e.cn).length := by omega
      clear zS z3 z4 z5
      obtain ⟨x0, x1, x2, x3, x4, x5, x6, x7, x8, x9⟩ := box10 HX2.out
      clear x0 x1 x2 x6 x7 x8 x9
      go_region_held3 (fun w' => w'.cell? ⟨w.heap.size, 3, none⟩ = some (.int .i64 e.ck) ∧ w'.cell? ⟨w.heap.size, 4, none⟩ = some (.int .i64 e.cv) ∧ w'.cell? ⟨w.heap.size, 5, none⟩ = some (.int .i64 e.cn)) (first | go_keep | (go_split_ands; (repeat' apply And.intro); all_goals (refine below_cell_of hb2 ?_; assumption))) ((first | (go_at_call 31; refine (K_rnameS _ HE.out.ck _ (HG.out.of (by with_reducible repeat (first | exact HB1.out | exact HBx.out | exact HBy.out | apply below_drew1 | apply pw_below_drewN | refine below_step ?_ ‹_›)))).mono ?_; rintro e w2 ⟨rfl, hb2⟩) | (go_at_call 30; refine (K_ItoaS _ (by first | exact HE.out.cv | exact HE.out.cn) _ (HG.out.of (by with_reducible repeat (first | exact HB1.out | exact HBx.out | exact HBy.out | apply below_drew1 | apply pw_below_drewN | refine below_step ?_ ‹_›)))).mono ?_; rintro e w2 ⟨rfl, hb2⟩)))
      rename_i hH2
      clear hH2 x3 x4 x5 p0 p1 p2 p3 p4
      have HY3 : Aside0 (Below wa.heap.size wa w2) := ⟨by with_reducible repeat (first | exact Below.refl _ _ | apply below_drew1 | apply pw_below_drewN | refine below_step ?_ ‹_›)⟩
      have HX3 := Aside0.mk (blk_below HX2.out HY3.out)
      have HBy : Aside0 (Below w.heap.size w w2) := ⟨below_step HBx.out HY3.out⟩
      clear hb2
      obtain ⟨wb, rfl⟩ : ∃ wb, wb = w2 := ⟨_, rfl⟩
      rw [cat_call]
      obtain ⟨C, hC⟩ : ∃ C, S ++ nameR e.ck ++ [32, 110, 111, 100, 101, 32] ++ Lib.itoa e.cv ++ [32, 110, 32] ++ Lib.itoa e.cn = C := ⟨_, rfl⟩
      have HC := Aside0.mk hC
      rw [hC]
      clear hC
      obtain ⟨x0, x1, x2, x3, x4, x5, x6, x7, x8, x9⟩ := box10 HX3.out
      clear x0 x1 x3 x4 x5
      clear x6 x7 x8 x9
      go_wp2_with (fail)
      go_ret
      refine ⟨congrArg (fun x : Bytes => Ending.returned (Value.string ⟨x.toArray⟩)) ?_, HBy.out⟩
      rw [← HC.out, ← HS.out, ← HHd.out]
      rfl
      
    · have h2 : e.kd = 2 := by
        unfold plainB at hp
        rw [if_neg h1] at hp
        by_cases h2 : e.kd = 2
        · exact h2
        · rw [if_neg h2] at hp; cases hp
      have hlr : lineR e = if e.er ≠ 0 then callR (headR e ++ [32, 101, 110, 100, 32]) e ++ [32, 101, 114, 114, 32] ++ Lib.itoa e.er ++ [32, 97, 116, 32] ++ Lib.itoa e.nd else callR (headR e ++ [32, 101, 110, 100, 32]) e ++ [32, 111, 107, 32] ++ Lib.itoa e.an ++ (if e.ex = true then [32, 101, 120, 97, 99, 116] else [32, 110, 101, 97, 114]) ++ [32, 97, 116, 32] ++ Lib.itoa e.nd := by unfold lineR; rw [if_neg (by rw [hp]; simp), if_neg h1]
      clear h1
      by_cases h3 : e.er ≠ 0
      · have hev : evV e = .agg #[.int .i64 e.wh, .int .i64 e.th, .int .i64 2, .int .i64 e.ck, .int .i64 e.cv, .int .i64 e.cn, .int .i64 e.er, .int .i64 e.an, .bool e.ex, .int .i64 e.nd] := by unfold evV; rw [h2]
        have hres : Aside0 (lineR e = callR (headR e ++ [32, 101, 110, 100, 32]) e ++ [32, 101, 114, 114, 32] ++ Lib.itoa e.er ++ [32, 97, 116, 32] ++ Lib.itoa e.nd) := ⟨by rw [hlr, if_pos h3]⟩
        have hnb : (e.er != 0) = true := by simpa using h3
        clear h2 h3 hlr
        have hpl : Aside0 (∀ w, Calls Tryd.prog 29 #[.agg #[.int .i64 e.wh, .int .i64 e.th, .int .i64 2, .int .i64 e.ck, .int .i64 e.cv, .int .i64 e.cn, .int .i64 e.er, .int .i64 e.an, .bool e.ex, .int .i64 e.nd]] w fun x w' => x = .returned (.bool true) ∧ Below w.heap.size w w') := ⟨fun w => by have := K_rplain e w; rw [hp, hev] at this; exact this⟩
        rw [hev, hres.out]
        clear hev hp hres
        have l1 := itoa_len e.wh HE.out.wh.1 HE.out.wh.2
        have l2 := itoa_len e.th HE.out.th.1 HE.out.th.2
        have l3 := nameR_len e.ck HE.out.ck
        have l4 := itoa_len e.cv HE.out.cv.1 HE.out.cv.2
        have l5 := itoa_len e.cn HE.out.cn.1 HE.out.cn.2
        have l6 := itoa_len e.er HE.out.er.1 HE.out.er.2
        have l7 := itoa_len e.an HE.out.an.1 HE.out.an.2
        have l8 := itoa_len e.nd HE.out.nd.1 HE.out.nd.2
        have hH : (headR e).length ≤ 60 := by unfold headR; simp only [List.length_append, List.length_cons, List.length_nil]; omega
        have LL := Aside0.mk (And.intro hH (And.intro l3 (And.intro l4 (And.intro l5 (And.intro l6 (And.intro l7 l8))))))
        have n0 : ¬ 9223372036854775807 < (Lib.itoa e.wh).length + 8 := by omega
        have n1 : ¬ 9223372036854775807 < (Lib.itoa e.wh).length + 8 + (Lib.itoa e.th).length := by omega
        clear hH l1 l2 l3 l4 l5 l6 l7 l8
        go_enter Tryd.func12, Tryd.ntmps12
        go_wp2_with (go_at_call 29; (with_reducible refine (hpl.out _).mono ?_); rintro e1 w1 ⟨rfl, hb⟩; have HX1 := Aside0.mk (blk_below (g := w.heap.size) (blk_new w (.cells #[.int .i64 e.wh, .int .i64 e.th, .int .i64 2, .int .i64 e.ck, .int .i64 e.cv, .int .i64 e.cn, .int .i64 e.er, .int .i64 e.an, .bool e.ex, .int .i64 e.nd] 28)) hb); have HB1 : Aside0 (Below w.heap.size w w1) := ⟨(below_alloc (Below.refl _ _) _).trans (hb.mono (by simp))⟩; clear hb)
        obtain ⟨x0, x1, x2, x3, x4, x5, x6, x7, x8, x9⟩ := box10 HX1.out
        clear x2 x3 x4 x5 x6 x7 x8 x9
        go_region_held3 (fun w' => w'.cell? ⟨w.heap.size, 0, none⟩ = some (.int .i64 e.wh) ∧ w'.cell? ⟨w.heap.size, 1, none⟩ = some (.int .i64 e.th)) (first | go_keep | (go_split_ands; (repeat' apply And.intro); all_goals (refine below_cell_of hb2 ?_; assumption))) ((first | (go_at_call 30; refine (K_ItoaS _ (by first | exact HE.out.wh | exact HE.out.th) _ (HG.out.of (by with_reducible repeat (first | exact HB1.out | exact HBx.out | exact HBy.out | apply below_drew1 | apply pw_below_drewN | refine below_step ?_ ‹_›)))).mono ?_; rintro e w2 ⟨rfl, hb2⟩)))
        rename_i hH1
        clear hH1 x0 x1 n0 n1
        have HY2 : Aside0 (Below w1.heap.size w1 w2) := ⟨by with_reducible repeat (first | exact Below.refl _ _ | apply below_drew1 | apply pw_below_drewN | refine below_step ?_ ‹_›)⟩
        have HX2 := Aside0.mk (blk_below HX1.out HY2.out)
        have HBx : Aside0 (Below w.heap.size w w2) := ⟨below_step HB1.out HY2.out⟩
        rename_i hb2a
        clear hb2 hb2a
        obtain ⟨wa, rfl⟩ : ∃ wa, wa = w2 := ⟨_, rfl⟩
        rw [cat_headE]
        obtain ⟨Hd, hHd⟩ : ∃ Hd, headR e = Hd := ⟨_, rfl⟩
        have HHd := Aside0.mk hHd
        have z1 := LL.out.1
        rw [hHd] at z1
        rw [hHd]
        clear hHd
        have m0 : ¬ 9223372036854775807 < Hd.length + 5 := by omega
        clear z1
        obtain ⟨x0, x1, x2, x3, x4, x5, x6, x7, x8, x9⟩ := box10 HX2.out
        clear x3 x4 x5 x6 x7 x8 x9
        go_wp2_with (fail)
        rw [cat_end]
        obtain ⟨S, hS⟩ : ∃ S, Hd ++ [32, 101, 110, 100, 32] = S := ⟨_, rfl⟩
        have HS := Aside0.mk hS
        rw [hS]
        have zS : S.length ≤ 70 := by rw [← hS, ← HHd.out]; have := LL.out.1; simp only [List.length_append, List.length_cons, List.length_nil]; omega
        clear hS m0 x0 x1 x2
        have z3 := LL.out.2.1
        have z4 := LL.out.2.2.1
        have z5 := LL.out.2.2.2.1
        have p0 : ¬ 9223372036854775807 < S.length + (nameR e.ck).length := by omega
        have p1 : ¬ 9223372036854775807 < S.length + (nameR e.ck).length + 6 := by omega
        have p2 : ¬ 9223372036854775807 < S.length + (nameR e.ck).length + 6 + (Lib.itoa e.cv).length := by omega
        have p3 : ¬ 9223372036854775807 < S.length + (nameR e.ck).length + 6 + (Lib.itoa e.cv).length + 3 := by omega
        have p4 : ¬ 9223372036854775807 < S.length + (nameR e.ck).length + 6 + (Lib.itoa e.cv).length + 3 + (Lib.itoa e.cn).length := by omega
        clear zS z3 z4 z5
        obtain ⟨x0, x1, x2, x3, x4, x5, x6, x7, x8, x9⟩ := box10 HX2.out
        clear x0 x1 x2 x6 x7 x8 x9
        go_region_held3 (fun w' => w'.cell? ⟨w.heap.size, 3, none⟩ = some (.int .i64 e.ck) ∧ w'.cell? ⟨w.heap.size, 4, none⟩ = some (.int .i64 e.cv) ∧ w'.cell? ⟨w.heap.size, 5, none⟩ = some (.int .i64 e.cn)) (first | go_keep | (go_split_ands; (repeat' apply And.intro); all_goals (refine below_cell_of hb2 ?_; assumption))) ((first | (go_at_call 31; refine (K_rnameS _ HE.out.ck _ (HG.out.of (by with_reducible repeat (first | exact HB1.out | exact HBx.out | exact HBy.out | apply below_drew1 | apply pw_below_drewN | refine below_step ?_ ‹_›)))).mono ?_; rintro e w2 ⟨rfl, hb2⟩) | (go_at_call 30; refine (K_ItoaS _ (by first | exact HE.out.cv | exact HE.out.cn) _ (HG.out.of (by with_reducible repeat (first | exact HB1.out | exact HBx.out | exact HBy.out | apply below_drew1 | apply pw_below_drewN | refine below_step ?_ ‹_›)))).mono ?_; rintro e w2 ⟨rfl, hb2⟩)))
        rename_i hH2
        clear hH2 x3 x4 x5 p0 p1 p2 p3 p4
        have HY3 : Aside0 (Below wa.heap.size wa w2) := ⟨by with_reducible repeat (first | exact Below.refl _ _ | apply below_drew1 | apply pw_below_drewN | refine below_step ?_ ‹_›)⟩
        have HX3 := Aside0.mk (blk_below HX2.out HY3.out)
        have HBy : Aside0 (Below w.heap.size w w2) := ⟨below_step HBx.out HY3.out⟩
        clear hb2
        obtain ⟨wb, rfl⟩ : ∃ wb, wb = w2 := ⟨_, rfl⟩
        rw [cat_call]
        obtain ⟨C, hC⟩ : ∃ C, S ++ nameR e.ck ++ [32, 110, 111, 100, 101, 32] ++ Lib.itoa e.cv ++ [32, 110, 32] ++ Lib.itoa e.cn = C := ⟨_, rfl⟩
        have HC := Aside0.mk hC
        rw [hC]
        clear hC
        obtain ⟨x0, x1, x2, x3, x4, x5, x6, x7, x8, x9⟩ := box10 HX3.out
        clear x0 x1 x3 x4 x5
        have zC : C.length ≤ 200 := by
          rw [← HC.out]
          have h0 : S.length ≤ 70 := by rw [← HS.out, ← HHd.out]; have := LL.out.1; simp only [List.length_append, List.length_cons, List.length_nil]; omega
          have h1 := LL.out.2.1
          have h2 := LL.out.2.2.1
          have h3 := LL.out.2.2.2.1
          simp only [List.length_append, List.length_cons, List.length_nil]
          omega
        have z6 := LL.out.2.2.2.2.1
        have z7 := LL.out.2.2.2.2.2.1
        have z8 := LL.out.2.2.2.2.2.2
        have r0 : ¬ 9223372036854775807 < C.length + 5 := by omega
        have r1 : ¬ 9223372036854775807 < C.length + 5 + (Lib.itoa e.er).length := by omega
        have r2 : ¬ 9223372036854775807 < C.length + 5 + (Lib.itoa e.er).length + 4 := by omega
        have r3 : ¬ 9223372036854775807 < C.length + 5 + (Lib.itoa e.er).length + 4 + (Lib.itoa e.nd).length := by omega
        clear zC z6 z7 z8
        go_wp2_with (fail)
        go_region_held3 (fun w' => w'.cell? ⟨w.heap.size, 6, none⟩ = some (.int .i64 e.er) ∧ w'.cell? ⟨w.heap.size, 9, none⟩ = some (.int .i64 e.nd)) (first | go_keep | (go_split_ands; (repeat' apply And.intro); all_goals (refine below_cell_of hb2 ?_; assumption))) ((first | (go_at_call 30; refine (K_ItoaS _ (by first | exact HE.out.er | exact HE.out.nd) _ (HG.out.of (by with_reducible repeat (first | exact HB1.out | exact HBx.out | exact HBy.out | apply below_drew1 | apply pw_below_drewN | refine below_step ?_ ‹_›)))).mono ?_; rintro e w2 ⟨rfl, hb2⟩)))
        rename_i hH3
        clear hH3
        have HY4 : Aside0 (Below wb.heap.size wb w2) := ⟨by with_reducible repeat (first | exact Below.refl _ _ | apply below_drew1 | apply pw_below_drewN | refine below_step ?_ ‹_›)⟩
        clear hb2
        rw [cat_err]
        go_wp2_with (fail)
        go_ret
        refine ⟨congrArg (fun x : Bytes => Ending.returned (Value.string ⟨x.toArray⟩)) ?_, below_step HBy.out HY4.out⟩
        rw [← HC.out, ← HS.out, ← HHd.out]
        rfl
        
      · have h3' : e.er = 0 := by simpa using h3
        by_cases h4 : e.ex = true
        · have hev : evV e = .agg #[.int .i64 e.wh, .int .i64 e.th, .int .i64 2, .int .i64 e.ck, .int .i64 e.cv, .int .i64 e.cn, .int .i64 e.er, .int .i64 e.an, .bool true, .int .i64 e.nd] := by unfold evV; rw [h2, h4]
          have hres : Aside0 (lineR e = callR (headR e ++ [32, 101, 110, 100, 32]) e ++ [32, 111, 107, 32] ++ Lib.itoa e.an ++ [32, 101, 120, 97, 99, 116] ++ [32, 97, 116, 32] ++ Lib.itoa e.nd) := ⟨by rw [hlr, if_neg h3, if_pos h4]⟩
          have hnb : (e.er != 0) = false := by simpa using h3'
          clear h2 h3 hlr h3' h4
          have hpl : Aside0 (∀ w, Calls Tryd.prog 29 #[.agg #[.int .i64 e.wh, .int .i64 e.th, .int .i64 2, .int .i64 e.ck, .int .i64 e.cv, .int .i64 e.cn, .int .i64 e.er, .int .i64 e.an, .bool true, .int .i64 e.nd]] w fun x w' => x = .returned (.bool true) ∧ Below w.heap.size w w') := ⟨fun w => by have := K_rplain e w; rw [hp, hev] at this; exact this⟩
          rw [hev, hres.out]
          clear hev hp hres
          have l1 := itoa_len e.wh HE.out.wh.1 HE.out.wh.2
          have l2 := itoa_len e.th HE.out.th.1 HE.out.th.2
          have l3 := nameR_len e.ck HE.out.ck
          have l4 := itoa_len e.cv HE.out.cv.1 HE.out.cv.2
          have l5 := itoa_len e.cn HE.out.cn.1 HE.out.cn.2
          have l6 := itoa_len e.er HE.out.er.1 HE.out.er.2
          have l7 := itoa_len e.an HE.out.an.1 HE.out.an.2
          have l8 := itoa_len e.nd HE.out.nd.1 HE.out.nd.2
          have hH : (headR e).length ≤ 60 := by unfold headR; simp only [List.length_append, List.length_cons, List.length_nil]; omega
          have LL := Aside0.mk (And.intro hH (And.intro l3 (And.intro l4 (And.intro l5 (And.intro l6 (And.intro l7 l8))))))
          have n0 : ¬ 9223372036854775807 < (Lib.itoa e.wh).length + 8 := by omega
          have n1 : ¬ 9223372036854775807 < (Lib.itoa e.wh).length + 8 + (Lib.itoa e.th).length := by omega
          clear hH l1 l2 l3 l4 l5 l6 l7 l8
          go_enter Tryd.func12, Tryd.ntmps12
          go_wp2_with (go_at_call 29; (with_reducible refine (hpl.out _).mono ?_); rintro e1 w1 ⟨rfl, hb⟩; have HX1 := Aside0.mk (blk_below (g := w.heap.size) (blk_new w (.cells #[.int .i64 e.wh, .int .i64 e.th, .int .i64 2, .int .i64 e.ck, .int .i64 e.cv, .int .i64 e.cn, .int .i64 e.er, .int .i64 e.an, .bool true, .int .i64 e.nd] 28)) hb); have HB1 : Aside0 (Below w.heap.size w w1) := ⟨(below_alloc (Below.refl _ _) _).trans (hb.mono (by simp))⟩; clear hb)
          obtain ⟨x0, x1, x2, x3, x4, x5, x6, x7, x8, x9⟩ := box10 HX1.out
          clear x2 x3 x4 x5 x6 x7 x8 x9
          go_region_held3 (fun w' => w'.cell? ⟨w.heap.size, 0, none⟩ = some (.int .i64 e.wh) ∧ w'.cell? ⟨w.heap.size, 1, none⟩ = some (.int .i64 e.th)) (first | go_keep | (go_split_ands; (repeat' apply And.intro); all_goals (refine below_cell_of hb2 ?_; assumption))) ((first | (go_at_call 30; refine (K_ItoaS _ (by first | exact HE.out.wh | exact HE.out.th) _ (HG.out.of (by with_reducible repeat (first | exact HB1.out | exact HBx.out | exact HBy.out | apply below_drew1 | apply pw_below_drewN | refine below_step ?_ ‹_›)))).mono ?_; rintro e w2 ⟨rfl, hb2⟩)))
          rename_i hH1
          clear hH1 x0 x1 n0 n1
          have HY2 : Aside0 (Below w1.heap.size w1 w2) := ⟨by with_reducible repeat (first | exact Below.refl _ _ | apply below_drew1 | apply pw_below_drewN | refine below_step ?_ ‹_›)⟩
          have HX2 := Aside0.mk (blk_below HX1.out HY2.out)
          have HBx : Aside0 (Below w.heap.size w w2) := ⟨below_step HB1.out HY2.out⟩
          rename_i hb2a
          clear hb2 hb2a
          obtain ⟨wa, rfl⟩ : ∃ wa, wa = w2 := ⟨_, rfl⟩
          rw [cat_headE]
          obtain ⟨Hd, hHd⟩ : ∃ Hd, headR e = Hd := ⟨_, rfl⟩
          have HHd := Aside0.mk hHd
          have z1 := LL.out.1
          rw [hHd] at z1
          rw [hHd]
          clear hHd
          have m0 : ¬ 9223372036854775807 < Hd.length + 5 := by omega
          clear z1
          obtain ⟨x0, x1, x2, x3, x4, x5, x6, x7, x8, x9⟩ := box10 HX2.out
          clear x3 x4 x5 x6 x7 x8 x9
          go_wp2_with (fail)
          rw [cat_end]
          obtain ⟨S, hS⟩ : ∃ S, Hd ++ [32, 101, 110, 100, 32] = S := ⟨_, rfl⟩
          have HS := Aside0.mk hS
          rw [hS]
          have zS : S.length ≤ 70 := by rw [← hS, ← HHd.out]; have := LL.out.1; simp only [List.length_append, List.length_cons, List.length_nil]; omega
          clear hS m0 x0 x1 x2
          have z3 := LL.out.2.1
          have z4 := LL.out.2.2.1
          have z5 := LL.out.2.2.2.1
          have p0 : ¬ 9223372036854775807 < S.length + (nameR e.ck).length := by omega
          have p1 : ¬ 9223372036854775807 < S.length + (nameR e.ck).length + 6 := by omega
          have p2 : ¬ 9223372036854775807 < S.length + (nameR e.ck).length + 6 + (Lib.itoa e.cv).length := by omega
          have p3 : ¬ 9223372036854775807 < S.length + (nameR e.ck).length + 6 + (Lib.itoa e.cv).length + 3 := by omega
          have p4 : ¬ 9223372036854775807 < S.length + (nameR e.ck).length + 6 + (Lib.itoa e.cv).length + 3 + (Lib.itoa e.cn).length := by omega
          clear zS z3 z4 z5
          obtain ⟨x0, x1, x2, x3, x4, x5, x6, x7, x8, x9⟩ := box10 HX2.out
          clear x0 x1 x2 x6 x7 x8 x9
          go_region_held3 (fun w' => w'.cell? ⟨w.heap.size, 3, none⟩ = some (.int .i64 e.ck) ∧ w'.cell? ⟨w.heap.size, 4, none⟩ = some (.int .i64 e.cv) ∧ w'.cell? ⟨w.heap.size, 5, none⟩ = some (.int .i64 e.cn)) (first | go_keep | (go_split_ands; (repeat' apply And.intro); all_goals (refine below_cell_of hb2 ?_; assumption))) ((first | (go_at_call 31; refine (K_rnameS _ HE.out.ck _ (HG.out.of (by with_reducible repeat (first | exact HB1.out | exact HBx.out | exact HBy.out | apply below_drew1 | apply pw_below_drewN | refine below_step ?_ ‹_›)))).mono ?_; rintro e w2 ⟨rfl, hb2⟩) | (go_at_call 30; refine (K_ItoaS _ (by first | exact HE.out.cv | exact HE.out.cn) _ (HG.out.of (by with_reducible repeat (first | exact HB1.out | exact HBx.out | exact HBy.out | apply below_drew1 | apply pw_below_drewN | refine below_step ?_ ‹_›)))).mono ?_; rintro e w2 ⟨rfl, hb2⟩)))
          rename_i hH2
          clear hH2 x3 x4 x5 p0 p1 p2 p3 p4
          have HY3 : Aside0 (Below wa.heap.size wa w2) := ⟨by with_reducible repeat (first | exact Below.refl _ _ | apply below_drew1 | apply pw_below_drewN | refine below_step ?_ ‹_›)⟩
          have HX3 := Aside0.mk (blk_below HX2.out HY3.out)
          have HBy : Aside0 (Below w.heap.size w w2) := ⟨below_step HBx.out HY3.out⟩
          clear hb2
          obtain ⟨wb, rfl⟩ : ∃ wb, wb = w2 := ⟨_, rfl⟩
          rw [cat_call]
          obtain ⟨C, hC⟩ : ∃ C, S ++ nameR e.ck ++ [32, 110, 111, 100, 101, 32] ++ Lib.itoa e.cv ++ [32, 110, 32] ++ Lib.itoa e.cn = C := ⟨_, rfl⟩
          have HC := Aside0.mk hC
          rw [hC]
          clear hC
          obtain ⟨x0, x1, x2, x3, x4, x5, x6, x7, x8, x9⟩ := box10 HX3.out
          clear x0 x1 x3 x4 x5
          have zC : C.length ≤ 200 := by
            rw [← HC.out]
            have h0 : S.length ≤ 70 := by rw [← HS.out, ← HHd.out]; have := LL.out.1; simp only [List.length_append, List.length_cons, List.length_nil]; omega
            have h1 := LL.out.2.1
            have h2 := LL.out.2.2.1
            have h3 := LL.out.2.2.2.1
            simp only [List.length_append, List.length_cons, List.length_nil]
            omega
          have z6 := LL.out.2.2.2.2.1
          have z7 := LL.out.2.2.2.2.2.1
          have z8 := LL.out.2.2.2.2.2.2
          have r0 : ¬ 9223372036854775807 < C.length + 4 := by omega
          have r1 : ¬ 9223372036854775807 < C.length + 4 + (Lib.itoa e.an).length := by omega
          have r2 : ¬ 9223372036854775807 < C.length + 4 + (Lib.itoa e.an).length + 6 := by omega
          have r3 : ¬ 9223372036854775807 < C.length + 4 + (Lib.itoa e.an).length + 6 + 4 := by omega
          have r4 : ¬ 9223372036854775807 < C.length + 4 + (Lib.itoa e.an).length + 6 + 4 + (Lib.itoa e.nd).length := by omega
          clear zC z6 z7 z8
          go_wp2_with (fail)
          go_region_held3 (fun w' => w'.cell? ⟨w.heap.size, 7, none⟩ = some (.int .i64 e.an) ∧ w'.cell? ⟨w.heap.size, 9, none⟩ = some (.int .i64 e.nd)) (first | go_keep | (go_split_ands; (repeat' apply And.intro); all_goals (refine below_cell_of hb2 ?_; assumption))) ((first | (go_at_call 30; refine (K_ItoaS _ (by first | exact HE.out.an | exact HE.out.nd) _ (HG.out.of (by with_reducible repeat (first | exact HB1.out | exact HBx.out | exact HBy.out | apply below_drew1 | apply pw_below_drewN | refine below_step ?_ ‹_›)))).mono ?_; rintro e w2 ⟨rfl, hb2⟩)))
          rename_i hH3
          clear hH3
          have HY4 : Aside0 (Below wb.heap.size wb w2) := ⟨by with_reducible repeat (first | exact Below.refl _ _ | apply below_drew1 | apply pw_below_drewN | refine below_step ?_ ‹_›)⟩
          clear hb2
          rw [cat_exact]
          go_wp2_with (fail)
          go_ret
          refine ⟨congrArg (fun x : Bytes => Ending.returned (Value.string ⟨x.toArray⟩)) ?_, below_step HBy.out HY4.out⟩
          rw [← HC.out, ← HS.out, ← HHd.out]
          rfl
          
        · have h4' : e.ex = false := by simpa using h4
          have hev : evV e = .agg #[.int .i64 e.wh, .int .i64 e.th, .int .i64 2, .int .i64 e.ck, .int .i64 e.cv, .int .i64 e.cn, .int .i64 e.er, .int .i64 e.an, .bool false, .int .i64 e.nd] := by unfold evV; rw [h2, h4']
          have hres : Aside0 (lineR e = callR (headR e ++ [32, 101, 110, 100, 32]) e ++ [32, 111, 107, 32] ++ Lib.itoa e.an ++ [32, 110, 101, 97, 114] ++ [32, 97, 116, 32] ++ Lib.itoa e.nd) := ⟨by rw [hlr, if_neg h3, if_neg h4]⟩
          have hnb : (e.er != 0) = false := by simpa using h3'
          clear h2 h3 hlr h3' h4 h4'
          have hpl : Aside0 (∀ w, Calls Tryd.prog 29 #[.agg #[.int .i64 e.wh, .int .i64 e.th, .int .i64 2, .int .i64 e.ck, .int .i64 e.cv, .int .i64 e.cn, .int .i64 e.er, .int .i64 e.an, .bool false, .int .i64 e.nd]] w fun x w' => x = .returned (.bool true) ∧ Below w.heap.size w w') := ⟨fun w => by have := K_rplain e w; rw [hp, hev] at this; exact this⟩
          rw [hev, hres.out]
          clear hev hp hres
          have l1 := itoa_len e.wh HE.out.wh.1 HE.out.wh.2
          have l2 := itoa_len e.th HE.out.th.1 HE.out.th.2
          have l3 := nameR_len e.ck HE.out.ck
          have l4 := itoa_len e.cv HE.out.cv.1 HE.out.cv.2
          have l5 := itoa_len e.cn HE.out.cn.1 HE.out.cn.2
          have l6 := itoa_len e.er HE.out.er.1 HE.out.er.2
          have l7 := itoa_len e.an HE.out.an.1 HE.out.an.2
          have l8 := itoa_len e.nd HE.out.nd.1 HE.out.nd.2
          have hH : (headR e).length ≤ 60 := by unfold headR; simp only [List.length_append, List.length_cons, List.length_nil]; omega
          have LL := Aside0.mk (And.intro hH (And.intro l3 (And.intro l4 (And.intro l5 (And.intro l6 (And.intro l7 l8))))))
          have n0 : ¬ 9223372036854775807 < (Lib.itoa e.wh).length + 8 := by omega
          have n1 : ¬ 9223372036854775807 < (Lib.itoa e.wh).length + 8 + (Lib.itoa e.th).length := by omega
          clear hH l1 l2 l3 l4 l5 l6 l7 l8
          go_enter Tryd.func12, Tryd.ntmps12
          go_wp2_with (go_at_call 29; (with_reducible refine (hpl.out _).mono ?_); rintro e1 w1 ⟨rfl, hb⟩; have HX1 := Aside0.mk (blk_below (g := w.heap.size) (blk_new w (.cells #[.int .i64 e.wh, .int .i64 e.th, .int .i64 2, .int .i64 e.ck, .int .i64 e.cv, .int .i64 e.cn, .int .i64 e.er, .int .i64 e.an, .bool false, .int .i64 e.nd] 28)) hb); have HB1 : Aside0 (Below w.heap.size w w1) := ⟨(below_alloc (Below.refl _ _) _).trans (hb.mono (by simp))⟩; clear hb)
          obtain ⟨x0, x1, x2, x3, x4, x5, x6, x7, x8, x9⟩ := box10 HX1.out
          clear x2 x3 x4 x5 x6 x7 x8 x9
          go_region_held3 (fun w' => w'.cell? ⟨w.heap.size, 0, none⟩ = some (.int .i64 e.wh) ∧ w'.cell? ⟨w.heap.size, 1, none⟩ = some (.int .i64 e.th)) (first | go_keep | (go_split_ands; (repeat' apply And.intro); all_goals (refine below_cell_of hb2 ?_; assumption))) ((first | (go_at_call 30; refine (K_ItoaS _ (by first | exact HE.out.wh | exact HE.out.th) _ (HG.out.of (by with_reducible repeat (first | exact HB1.out | exact HBx.out | exact HBy.out | apply below_drew1 | apply pw_below_drewN | refine below_step ?_ ‹_›)))).mono ?_; rintro e w2 ⟨rfl, hb2⟩)))
          rename_i hH1
          clear hH1 x0 x1 n0 n1
          have HY2 : Aside0 (Below w1.heap.size w1 w2) := ⟨by with_reducible repeat (first | exact Below.refl _ _ | apply below_drew1 | apply pw_below_drewN | refine below_step ?_ ‹_›)⟩
          have HX2 := Aside0.mk (blk_below HX1.out HY2.out)
          have HBx : Aside0 (Below w.heap.size w w2) := ⟨below_step HB1.out HY2.out⟩
          rename_i hb2a
          clear hb2 hb2a
          obtain ⟨wa, rfl⟩ : ∃ wa, wa = w2 := ⟨_, rfl⟩
          rw [cat_headE]
          obtain ⟨Hd, hHd⟩ : ∃ Hd, headR e = Hd := ⟨_, rfl⟩
          have HHd := Aside0.mk hHd
          have z1 := LL.out.1
          rw [hHd] at z1
          rw [hHd]
          clear hHd
          have m0 : ¬ 9223372036854775807 < Hd.length + 5 := by omega
          clear z1
          obtain ⟨x0, x1, x2, x3, x4, x5, x6, x7, x8, x9⟩ := box10 HX2.out
          clear x3 x4 x5 x6 x7 x8 x9
          go_wp2_with (fail)
          rw [cat_end]
          obtain ⟨S, hS⟩ : ∃ S, Hd ++ [32, 101, 110, 100, 32] = S := ⟨_, rfl⟩
          have HS := Aside0.mk hS
          rw [hS]
          have zS : S.length ≤ 70 := by rw [← hS, ← HHd.out]; have := LL.out.1; simp only [List.length_append, List.length_cons, List.length_nil]; omega
          clear hS m0 x0 x1 x2
          have z3 := LL.out.2.1
          have z4 := LL.out.2.2.1
          have z5 := LL.out.2.2.2.1
          have p0 : ¬ 9223372036854775807 < S.length + (nameR e.ck).length := by omega
          have p1 : ¬ 9223372036854775807 < S.length + (nameR e.ck).length + 6 := by omega
          have p2 : ¬ 9223372036854775807 < S.length + (nameR e.ck).length + 6 + (Lib.itoa e.cv).length := by omega
          have p3 : ¬ 9223372036854775807 < S.length + (nameR e.ck).length + 6 + (Lib.itoa e.cv).length + 3 := by omega
          have p4 : ¬ 9223372036854775807 < S.length + (nameR e.ck).length + 6 + (Lib.itoa e.cv).length + 3 + (Lib.itoa e.cn).length := by omega
          clear zS z3 z4 z5
          obtain ⟨x0, x1, x2, x3, x4, x5, x6, x7, x8, x9⟩ := box10 HX2.out
          clear x0 x1 x2 x6 x7 x8 x9
          go_region_held3 (fun w' => w'.cell? ⟨w.heap.size, 3, none⟩ = some (.int .i64 e.ck) ∧ w'.cell? ⟨w.heap.size, 4, none⟩ = some (.int .i64 e.cv) ∧ w'.cell? ⟨w.heap.size, 5, none⟩ = some (.int .i64 e.cn)) (first | go_keep | (go_split_ands; (repeat' apply And.intro); all_goals (refine below_cell_of hb2 ?_; assumption))) ((first | (go_at_call 31; refine (K_rnameS _ HE.out.ck _ (HG.out.of (by with_reducible repeat (first | exact HB1.out | exact HBx.out | exact HBy.out | apply below_drew1 | apply pw_below_drewN | refine below_step ?_ ‹_›)))).mono ?_; rintro e w2 ⟨rfl, hb2⟩) | (go_at_call 30; refine (K_ItoaS _ (by first | exact HE.out.cv | exact HE.out.cn) _ (HG.out.of (by with_reducible repeat (first | exact HB1.out | exact HBx.out | exact HBy.out | apply below_drew1 | apply pw_below_drewN | refine below_step ?_ ‹_›)))).mono ?_; rintro e w2 ⟨rfl, hb2⟩)))
          rename_i hH2
          clear hH2 x3 x4 x5 p0 p1 p2 p3 p4
          have HY3 : Aside0 (Below wa.heap.size wa w2) := ⟨by with_reducible repeat (first | exact Below.refl _ _ | apply below_drew1 | apply pw_below_drewN | refine below_step ?_ ‹_›)⟩
          have HX3 := Aside0.mk (blk_below HX2.out HY3.out)
          have HBy : Aside0 (Below w.heap.size w w2) := ⟨below_step HBx.out HY3.out⟩
          clear hb2
          obtain ⟨wb, rfl⟩ : ∃ wb, wb = w2 := ⟨_, rfl⟩
          rw [cat_call]
          obtain ⟨C, hC⟩ : ∃ C, S ++ nameR e.ck ++ [32, 110, 111, 100, 101, 32] ++ Lib.itoa e.cv ++ [32, 110, 32] ++ Lib.itoa e.cn = C := ⟨_, rfl⟩
          have HC := Aside0.mk hC
          rw [hC]
          clear hC
          obtain ⟨x0, x1, x2, x3, x4, x5, x6, x7, x8, x9⟩ := box10 HX3.out
          clear x0 x1 x3 x4 x5
          have zC : C.length ≤ 200 := by
            rw [← HC.out]
            have h0 : S.length ≤ 70 := by rw [← HS.out, ← HHd.out]; have := LL.out.1; simp only [List.length_append, List.length_cons, List.length_nil]; omega
            have h1 := LL.out.2.1
            have h2 := LL.out.2.2.1
            have h3 := LL.out.2.2.2.1
            simp only [List.length_append, List.length_cons, List.length_nil]
            omega
          have z6 := LL.out.2.2.2.2.1
          have z7 := LL.out.2.2.2.2.2.1
          have z8 := LL.out.2.2.2.2.2.2
          have r0 : ¬ 9223372036854775807 < C.length + 4 := by omega
          have r1 : ¬ 9223372036854775807 < C.length + 4 + (Lib.itoa e.an).length := by omega
          have r2 : ¬ 9223372036854775807 < C.length + 4 + (Lib.itoa e.an).length + 5 := by omega
          have r3 : ¬ 9223372036854775807 < C.length + 4 + (Lib.itoa e.an).length + 5 + 4 := by omega
          have r4 : ¬ 9223372036854775807 < C.length + 4 + (Lib.itoa e.an).length + 5 + 4 + (Lib.itoa e.nd).length := by omega
          clear zC z6 z7 z8
          go_wp2_with (fail)
          go_region_held3 (fun w' => w'.cell? ⟨w.heap.size, 7, none⟩ = some (.int .i64 e.an) ∧ w'.cell? ⟨w.heap.size, 9, none⟩ = some (.int .i64 e.nd)) (first | go_keep | (go_split_ands; (repeat' apply And.intro); all_goals (refine below_cell_of hb2 ?_; assumption))) ((first | (go_at_call 30; refine (K_ItoaS _ (by first | exact HE.out.an | exact HE.out.nd) _ (HG.out.of (by with_reducible repeat (first | exact HB1.out | exact HBx.out | exact HBy.out | apply below_drew1 | apply pw_below_drewN | refine below_step ?_ ‹_›)))).mono ?_; rintro e w2 ⟨rfl, hb2⟩)))
          rename_i hH3
          clear hH3
          have HY4 : Aside0 (Below wb.heap.size wb w2) := ⟨by with_reducible repeat (first | exact Below.refl _ _ | apply below_drew1 | apply pw_below_drewN | refine below_step ?_ ‹_›)⟩
          clear hb2
          rw [cat_near]
          go_wp2_with (fail)
          go_ret
          refine ⟨congrArg (fun x : Bytes => Ending.returned (Value.string ⟨x.toArray⟩)) ?_, below_step HBy.out HY4.out⟩
          rw [← HC.out, ← HS.out, ← HHd.out]
          rfl
          
end Go.Proofs.YtfolhicnbabldaaDoor.PR
