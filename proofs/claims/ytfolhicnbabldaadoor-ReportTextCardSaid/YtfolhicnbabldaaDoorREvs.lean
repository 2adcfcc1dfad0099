import Derived.Test.YtfolhicnbabldaaDoorRRLine
import Derived.RangeFuncNested
import Derived.RangeFuncBound
import Derived.RangeFuncCalls
import Derived.RangeFuncLeaves
import Derived.RangeFuncBox
import Derived.Shelf.Abstract
import Derived.Shelf.RegionOpen
import Derived.OwnWalkIn
import Derived.TacticsInMore
import Derived.LoopNIn
import Derived.LoopIn
import Derived.Deep.RegionHeld3
import Derived.Deep.RegionLaw
import Derived.Laws.CopyOwn
import Derived.Laws.EntriesVeiled
import Derived.WalkKit
import Derived.BigCall
import Derived.Lib.ItoaLen
namespace Go.Proofs.YtfolhicnbabldaaDoor.PR
open Go.RowKit Go.Shelf Go.Proofs.YtfolhicnbabldaaDoorW.PrintWords Go.Proofs.YtfolhicnbabldaaDoorW.PrintLast Go.Proofs.YtfolhicnbabldaaDoorW.PrintMore
attribute [local go_sem] max2_int min2_int max_two min_two max_three min_three max_four min_four
set_option linter.unusedVariables false
set_option linter.unusedSimpArgs false
def kEv : Kd Ev := Kd.iso (Kd.pair (Kd.int .i64) (Kd.pair (Kd.int .i64) (Kd.pair (Kd.int .i64) (Kd.pair (Kd.int .i64) (Kd.pair (Kd.int .i64) (Kd.pair (Kd.int .i64) (Kd.pair (Kd.int .i64) (Kd.pair (Kd.int .i64) (Kd.pair Kd.bool (Kd.int .i64)))))))))) (fun x : Ev => (x.wh, x.th, x.kd, x.ck, x.cv, x.cn, x.er, x.an, x.ex, x.nd))
theorem kEv_open {w : World} {x : Ev} {cs : List Value} (h : kEv.K w x cs) : cs = [.int .i64 x.wh, .int .i64 x.th, .int .i64 x.kd, .int .i64 x.ck, .int .i64 x.cv, .int .i64 x.cn, .int .i64 x.er, .int .i64 x.an, .bool x.ex, .int .i64 x.nd] := by
  obtain ⟨_, _, rfl, rfl, ⟨_, _, rfl, rfl, ⟨_, _, rfl, rfl, ⟨_, _, rfl, rfl, ⟨_, _, rfl, rfl, ⟨_, _, rfl, rfl, ⟨_, _, rfl, rfl, ⟨_, _, rfl, rfl, ⟨_, _, rfl, rfl, rfl⟩⟩⟩⟩⟩⟩⟩⟩⟩ := h
  exact rfl
theorem kEv_mk (w : World) (x : Ev) : kEv.K w x [.int .i64 x.wh, .int .i64 x.th, .int .i64 x.kd, .int .i64 x.ck, .int .i64 x.cv, .int .i64 x.cn, .int .i64 x.er, .int .i64 x.an, .bool x.ex, .int .i64 x.nd] := ⟨[.int .i64 x.wh], [.int .i64 x.th, .int .i64 x.kd, .int .i64 x.ck, .int .i64 x.cv, .int .i64 x.cn, .int .i64 x.er, .int .i64 x.an, .bool x.ex, .int .i64 x.nd], rfl, rfl, ⟨[.int .i64 x.th], [.int .i64 x.kd, .int .i64 x.ck, .int .i64 x.cv, .int .i64 x.cn, .int .i64 x.er, .int .i64 x.an, .bool x.ex, .int .i64 x.nd], rfl, rfl, ⟨[.int .i64 x.kd], [.int .i64 x.ck, .int .i64 x.cv, .int .i64 x.cn, .int .i64 x.er, .int .i64 x.an, .bool x.ex, .int .i64 x.nd], rfl, rfl, ⟨[.int .i64 x.ck], [.int .i64 x.cv, .int .i64 x.cn, .int .i64 x.er, .int .i64 x.an, .bool x.ex, .int .i64 x.nd], rfl, rfl, ⟨[.int .i64 x.cv], [.int .i64 x.cn, .int .i64 x.er, .int .i64 x.an, .bool x.ex, .int .i64 x.nd], rfl, rfl, ⟨[.int .i64 x.cn], [.int .i64 x.er, .int .i64 x.an, .bool x.ex, .int .i64 x.nd], rfl, rfl, ⟨[.int .i64 x.er], [.int .i64 x.an, .bool x.ex, .int .i64 x.nd], rfl, rfl, ⟨[.int .i64 x.an], [.bool x.ex, .int .i64 x.nd], rfl, rfl, ⟨[.bool x.ex], [.int .i64 x.nd], rfl, rfl, rfl⟩⟩⟩⟩⟩⟩⟩⟩⟩
/-- a row of events. -/
def IsEvs (W : World) (v : Value) (l : List Ev) : Prop := ∃ A c, v = .slice A l.length c ∧ l.length ≤ c ∧ Kd.C kEv W A l.length l ∧ ∀ x ∈ l, EvOk x
theorem IsEvs.below {W W' : World} {v : Value} {l : List Ev} (h : IsEvs W v l) (hb : Below W.heap.size W W') : IsEvs W' v l := by
  obtain ⟨A, c, e, hc, hr, hx⟩ := h
  exact ⟨A, c, e, hc, Kd.C_below hr hb, hx⟩
theorem IsEvs.len {W : World} {A : Option Addr} {n c : Nat} {l : List Ev} (h : IsEvs W (.slice A n c) l) : n = l.length := by
  obtain ⟨A', c', e, _⟩ := h
  injection e
def ev0 : Ev := ⟨0, 0, 0, 0, 0, 0, 0, 0, false, 0⟩
def evAt (l : List Ev) (k : Nat) : Ev := l.getD k ev0
theorem evAt_lt {l : List Ev} {k : Nat} (h : k < l.length) : evAt l k = l[k] := by simp [evAt, List.getD, h]
theorem IsEvs.ok {W : World} {v : Value} {l : List Ev} (h : IsEvs W v l) (k : Nat) (hk : k < l.length) : EvOk (evAt l k) := by
  obtain ⟨_, _, _, _, _, hx⟩ := h
  rw [evAt_lt hk]
  exact hx _ (List.getElem_mem hk)
theorem IsEvs.at {W : World} {A : Option Addr} {n c : Nat} {l : List Ev} (h : IsEvs W (.slice A n c) l) (k : Nat) (hk : k < l.length) :
    ∃ ad, A = some ad ∧ W.cell? (ad.add (k * 10)) = some (.int .i64 (evAt l k).wh) ∧ W.cell? ⟨(ad.add (k * 10)).block, (ad.add (k * 10)).off + 1, none⟩ = some (.int .i64 (evAt l k).th) ∧ W.cell? ⟨(ad.add (k * 10)).block, (ad.add (k * 10)).off + 2, none⟩ = some (.int .i64 (evAt l k).kd) ∧ W.cell? ⟨(ad.add (k * 10)).block, (ad.add (k * 10)).off + 3, none⟩ = some (.int .i64 (evAt l k).ck) ∧ W.cell? ⟨(ad.add (k * 10)).block, (ad.add (k * 10)).off + 4, none⟩ = some (.int .i64 (evAt l k).cv) ∧ W.cell? ⟨(ad.add (k * 10)).block, (ad.add (k * 10)).off + 5, none⟩ = some (.int .i64 (evAt l k).cn) ∧ W.cell? ⟨(ad.add (k * 10)).block, (ad.add (k * 10)).off + 6, none⟩ = some (.int .i64 (evAt l k).er) ∧ W.cell? ⟨(ad.add (k * 10)).block, (ad.add (k * 10)).off + 7, none⟩ = some (.int .i64 (evAt l k).an) ∧ W.cell? ⟨(ad.add (k * 10)).block, (ad.add (k * 10)).off + 8, none⟩ = some (.bool (evAt l k).ex) ∧ W.cell? ⟨(ad.add (k * 10)).block, (ad.add (k * 10)).off + 9, none⟩ = some (.int .i64 (evAt l k).nd) := by
  obtain ⟨A', c', e, hc, hC, hx⟩ := h
  cases e
  obtain ⟨ad, c, e, _, hK, hc0⟩ := Kd.C_get hC ev0 (k : Int) (by omega) (by omega)
  have hc : ∀ j u, c[j]? = some u → W.cell? (ad.add ((k : Int).toNat * 10 + j)) = some u := hc0
  rw [Int.toNat_natCast] at hc hK
  obtain rfl := kEv_open hK
  exact ⟨ad, e, hc 0 _ rfl, by rw [← add_field _ _ 1 (by omega)]; exact hc 1 _ rfl, by rw [← add_field _ _ 2 (by omega)]; exact hc 2 _ rfl, by rw [← add_field _ _ 3 (by omega)]; exact hc 3 _ rfl, by rw [← add_field _ _ 4 (by omega)]; exact hc 4 _ rfl, by rw [← add_field _ _ 5 (by omega)]; exact hc 5 _ rfl, by rw [← add_field _ _ 6 (by omega)]; exact hc 6 _ rfl, by rw [← add_field _ _ 7 (by omega)]; exact hc 7 _ rfl, by rw [← add_field _ _ 8 (by omega)]; exact hc 8 _ rfl, by rw [← add_field _ _ 9 (by omega)]; exact hc 9 _ rfl⟩
/-- many lines. -/
def textL : List Ev → Bytes
  | [] => []
  | e :: l => lineL e ++ [10] ++ textL l
theorem textL_snoc (l : List Ev) (e : Ev) : textL (l ++ [e]) = textL l ++ lineL e ++ [10] := by
  induction l with
  | nil => simp [textL]
  | cons x l ih => simp only [List.cons_append, textL, ih, List.append_assoc]
theorem textL_succ (l : List Ev) (k : Nat) (hk : k < l.length) : textL (l.take (k + 1)) = textL (l.take k) ++ (lineL (evAt l k) ++ [10]) := by
  rw [List.take_succ_eq_append_getElem hk, textL_snoc, evAt_lt hk, List.append_assoc]
theorem lineL_len (e : Ev) (h : EvOk e) : (lineL e).length ≤ 400 := by
  unfold lineL
  split
  · simp
  · have h0 := addW_len [] (Lib.itoa e.wh)
    have h1 := itoa_len e.wh h.wh.1 h.wh.2
    have h2 := addN_len (addW [] (Lib.itoa e.wh)) wThread e.th h.th (by decide)
    simp only [List.length_nil] at h0
    split
    · have h3 := addB_len (addW (addW (addW [] (Lib.itoa e.wh)) wThread) (Lib.itoa e.th)) wBegin (by decide)
      have h4 := callW_len (addW (addW (addW (addW [] (Lib.itoa e.wh)) wThread) (Lib.itoa e.th)) wBegin) e.ck e.cv e.cn h.ck h.cv h.cn
      omega
    · have h3 := addB_len (addW (addW (addW [] (Lib.itoa e.wh)) wThread) (Lib.itoa e.th)) wEnd (by decide)
      have h4 := callW_len (addW (addW (addW (addW [] (Lib.itoa e.wh)) wThread) (Lib.itoa e.th)) wEnd) e.ck e.cv e.cn h.ck h.cv h.cn
      rw [ansW_ok]
      have h5 := okW_len (callW (addW (addW (addW (addW [] (Lib.itoa e.wh)) wThread) (Lib.itoa e.th)) wEnd) e.ck e.cv e.cn) e.er e.an e.ex h.er h.an
      have h6 := addN_len (okW (callW (addW (addW (addW (addW [] (Lib.itoa e.wh)) wThread) (Lib.itoa e.th)) wEnd) e.ck e.cv e.cn) e.er e.an e.ex) wAt e.nd h.nd (by decide)
      omega
theorem textL_len (l : List Ev) (h : ∀ x ∈ l, EvOk x) : (textL l).length ≤ 401 * l.length := by
  induction l with
  | nil => simp [textL]
  | cons e l ih =>
    have h1 := lineL_len e (h e List.mem_cons_self)
    have h2 := ih (fun x hx => h x (List.mem_cons_of_mem _ hx))
    simp only [textL, List.length_append, List.length_cons, List.length_nil]
    omega
theorem addW_cons (l s : Bytes) (h : l ≠ []) : addW l s = l ++ 32 :: s := by unfold addW; rw [if_neg h]
theorem addW_ne' (l s : Bytes) (h : l ≠ []) : addW l s ≠ [] := by
  rw [addW_cons l s h]
  simp
set_option maxHeartbeats 1000000 in
theorem lineR_eq (e : Ev) : lineR e = lineL e := by
  have hk : ∀ l : Bytes, l ≠ [] → kindW l e.ck = l ++ 32 :: nameR e.ck := fun l hl => by
    unfold kindW nameR
    split
    · exact addW_cons _ _ hl
    · rw [addW_cons l _ hl, addW_cons _ _ (by repeat (first | (with_reducible first | exact itoa_ne _ | refine addW_ne' _ _ ?_ | assumption) | simp))]
      simp
  have hc : ∀ l : Bytes, l ≠ [] → callW l e.ck e.cv e.cn = callR (l ++ [32]) e := fun l hl => by
    unfold callW callR
    rw [hk l hl, addW_cons _ _ (by repeat (first | (with_reducible first | exact itoa_ne _ | refine addW_ne' _ _ ?_ | assumption) | simp)), addW_cons _ _ (by repeat (first | (with_reducible first | exact itoa_ne _ | refine addW_ne' _ _ ?_ | assumption) | simp)), addW_cons _ _ (by repeat (first | (with_reducible first | exact itoa_ne _ | refine addW_ne' _ _ ?_ | assumption) | simp)), addW_cons _ _ (by repeat (first | (with_reducible first | exact itoa_ne _ | refine addW_ne' _ _ ?_ | assumption) | simp))]
    simp [wNode, wN]
  have hh : ∀ s : Bytes, addW (addW (addW (addW [] (Lib.itoa e.wh)) wThread) (Lib.itoa e.th)) s = headR e ++ 32 :: s := fun s => by
    have h0 : addW [] (Lib.itoa e.wh) = Lib.itoa e.wh := by unfold addW; rw [if_pos rfl]
    rw [h0, addW_cons _ _ (itoa_ne _), addW_cons _ _ (by repeat (first | (with_reducible first | exact itoa_ne _ | refine addW_ne' _ _ ?_ | assumption) | simp)), addW_cons _ _ (by repeat (first | (with_reducible first | exact itoa_ne _ | refine addW_ne' _ _ ?_ | assumption) | simp))]
    simp [headR, wThread]
  unfold lineR lineL
  split
  · rfl
  · split
    · rw [hh, hc _ (by simp)]
      simp [wBegin]
    · rw [hh, hc _ (by simp)]
      unfold ansW
      have hne : callR (headR e ++ 32 :: wEnd ++ [32]) e ≠ [] := by unfold callR; simp
      have he : headR e ++ 32 :: wEnd ++ [32] = headR e ++ [32, 101, 110, 100, 32] := by simp [wEnd]
      rw [he] at hne ⊢
      split
      · rw [addW_cons _ _ hne, addW_cons _ _ (by repeat (first | (with_reducible first | exact itoa_ne _ | refine addW_ne' _ _ ?_ | assumption) | simp)), addW_cons _ _ (by repeat (first | (with_reducible first | exact itoa_ne _ | refine addW_ne' _ _ ?_ | assumption) | simp)), addW_cons _ _ (by repeat (first | (with_reducible first | exact itoa_ne _ | refine addW_ne' _ _ ?_ | assumption) | simp))]
        simp [wErr, wAt]
      · rw [addW_cons _ _ hne, addW_cons _ _ (by repeat (first | (with_reducible first | exact itoa_ne _ | refine addW_ne' _ _ ?_ | assumption) | simp)), addW_cons _ _ (by repeat (first | (with_reducible first | exact itoa_ne _ | refine addW_ne' _ _ ?_ | assumption) | simp)), addW_cons _ _ (by repeat (first | (with_reducible first | exact itoa_ne _ | refine addW_ne' _ _ ?_ | assumption) | simp)), addW_cons _ _ (by repeat (first | (with_reducible first | exact itoa_ne _ | refine addW_ne' _ _ ?_ | assumption) | simp))]
        split <;> simp [wOk, wExact, wNear, wAt]
theorem isb_below {t B b : Nat} {bs : List Value} {w w' : World} (h : Lib.IsBuilder t 5 B b bs w) (hb : Below w.heap.size w w') : Lib.IsBuilder t 5 B b bs w' := by
  have hk : ∀ p, Lib.BuilderAt t 5 B b p bs w → Lib.BuilderAt t 5 B b p bs w' := fun p ⟨hB, v, hbk, hown, hne⟩ =>
    ⟨hB, v, (hb.block b (blk_lt hbk)).trans hbk, own_move hown (fun k hk => hb.block k (own_lt hown k hk)), hne⟩
  rcases h with h1 | h1
  · exact .inl (hk _ h1)
  · exact .inr (hk _ h1)
theorem K_LineS (e : Ev) (hok : EvOk e) (w : World) (hG : GW w) : Calls Tryd.prog 11 #[.agg #[.int .i64 e.wh, .int .i64 e.th, .int .i64 e.kd, .int .i64 e.ck, .int .i64 e.cv, .int .i64 e.cn, .int .i64 e.er, .int .i64 e.an, .bool e.ex, .int .i64 e.nd]] w fun x w' => x = .returned (.string ⟨(lineL e).toArray⟩) ∧ Below w.heap.size w w' := K_Line e hok w hG
theorem K_rLineS (e : Ev) (hok : EvOk e) (w : World) (hG : GW w) : Calls Tryd.prog 12 #[.agg #[.int .i64 e.wh, .int .i64 e.th, .int .i64 e.kd, .int .i64 e.ck, .int .i64 e.cv, .int .i64 e.cn, .int .i64 e.er, .int .i64 e.an, .bool e.ex, .int .i64 e.nd]] w fun x w' => x = .returned (.string ⟨(lineL e).toArray⟩) ∧ Below w.heap.size w w' := by rw [← lineR_eq e]; exact K_rLine e hok w hG
theorem cat_nl (a : Bytes) : (ByteArray.mk a.toArray ++ ByteArray.mk #[10]) = ByteArray.mk (a ++ [10]).toArray := ba_append a [10]
theorem textL_ne (l : List Ev) (h : l ≠ []) : textL l ≠ [] := by
  cases l with
  | nil => exact absurd rfl h
  | cons e l => simp [textL]
set_option maxHeartbeats 2000000 in
set_option maxRecDepth 100000 in
theorem B_String_nil (t b : Nat) (p : Value) (w : World) (hbk : w.heap[b]? = some (.cells #[p, .slice none 0 0] t (0, 0))) :
    Calls Tryd.prog 27 #[.pointer (some ⟨b, 0, none⟩)] w fun e w' => e = .returned (.string ⟨#[]⟩) ∧ Below w.heap.size w w' := by
  have hUS := fun W q => Lib.run_unsafeString_none (P := Tryd.prog) W 74 3 9 q
  have c1 : w.drew.cell? ⟨b, 1, none⟩ = some (.slice none 0 0) := by
    have : w.drew.heap[b]? = some (.cells #[p, .slice none 0 0] t (0, 0)) := hbk
    rw [Lib.cell_of_heap this]; rfl
  have hSD : (Builtin.unsafeSliceData_ #[52] 74 #[.slice none 0 0]).run Tryd.prog w.drew = .ok (.pointer none) w.drew := rfl
  have hu := Tryd.underlying54
  go_enter Tryd.func27, Tryd.ntmps27
  go_wp2
  go_region
  all_goals (go_wp2; go_ret; exact ⟨rfl, Below.drew (Below.refl _ w)⟩)

set_option maxHeartbeats 4000000 in
set_option maxRecDepth 100000 in
theorem K_rText (l : List Ev) (A : Option Addr) (n c : Nat) (w : World) (h : IsEvs w (.slice A n c) l) (hl : l.length ≤ 100) (hG : GW w) :
    Calls Tryd.prog 14 #[.slice A n c] w fun x w' => x = .returned (strV (textL l)) ∧ Below w.heap.size w w' := by
  have H := Aside0.mk h
  have HG := Aside0.mk hG
  have hn := Aside0.mk h.len
  have HL := Aside0.mk hl
  have hue := Tryd.underlying28
  clear h hG hl
  go_enter Tryd.func14, Tryd.ntmps14
  go_wp2_with (fail)
  go_loopg [3, 4] l.length (fun gg s3 s4 wr => ∃ kk : Nat, kk ≤ l.length ∧ l.length - kk ≤ gg ∧ s4 = .int .i64 kk ∧ s3 = .string ⟨(textL (l.take kk)).toArray⟩ ∧ Aside0 (Below w.heap.size w wr))
  case atStart => exact ⟨0, Nat.zero_le _, by omega, rfl, rfl, ⟨Below.refl _ _⟩⟩
  case round =>
    obtain ⟨kk, hkk, hg, rfl, rfl, BW⟩ := hrel
    by_cases hlt : kk < l.length
    · have hltb : decide ((kk : Int) < (n : Int)) = true := decide_eq_true (by have := hn.out; omega)
      have hk0 : (0 : Int) ≤ (kk : Int) := by omega
      have hkn : (kk : Int) < (n : Int) := by have := hn.out; omega
      have hn1 : (n : Int) ≤ 100 := by have := hn.out; have := HL.out; omega
      have hok := Aside0.mk (H.out.ok kk hlt)
      obtain ⟨ad, rfl, y0, y1, y2, y3, y4, y5, y6, y7, y8, y9⟩ := (H.out.below BW.out).at kk hlt
      have t1 := textL_len (l.take kk) (fun x hx => by obtain ⟨_, _, _, _, _, hx'⟩ := H.out; exact hx' x (List.mem_of_mem_take hx))
      have t2 : (l.take kk).length ≤ 100 := by rw [List.length_take]; have := HL.out; omega
      have t3 := lineL_len (evAt l kk) hok.out
      have tt := Aside0.mk (textL_succ l kk hlt)
      obtain ⟨T, hT⟩ : ∃ T, textL (l.take kk) = T := ⟨_, rfl⟩
      rw [hT] at t1 tt
      rw [hT]
      clear hT
      have m1 : ¬ 9223372036854775807 < T.length + (lineL (evAt l kk)).length := by omega
      have m2 : ¬ 9223372036854775807 < T.length + (lineL (evAt l kk)).length + 1 := by omega
      have m3 : T.length + (lineL (evAt l kk)).length ≤ 9223372036854775807 := by omega
      have m4 : T.length + (lineL (evAt l kk)).length + 1 ≤ 9223372036854775807 := by omega
      clear t1 t2 t3
      go_wp2_with (go_at_call 12; (with_reducible refine (K_rLineS (evAt l kk) hok.out _ (HG.out.of BW.out)).mono ?_); rintro e w2 ⟨rfl, hb⟩; have HB2 : Aside0 (Below w.heap.size w w2) := ⟨below_step BW.out hb⟩; clear hb)
      rw [ba_append T (lineL (evAt l kk)), cat_nl (T ++ lineL (evAt l kk)), show T ++ lineL (evAt l kk) ++ [10] = textL (l.take (kk + 1)) by rw [tt.out, List.append_assoc]]
      go_roundg (l.length - (kk + 1))
      case measure => omega
      case rel => exact ⟨kk + 1, by omega, by omega, by go_num, rfl, HB2⟩
    · have hkl : kk = l.length := by omega
      subst hkl
      have hlnb : decide (l.length < n) = false := decide_eq_false (by have := hn.out; omega)
      rw [List.take_length]
      go_wp2_with (fail)
      go_ret
      exact ⟨rfl, BW.out⟩

set_option maxHeartbeats 4000000 in
set_option maxRecDepth 100000 in
theorem K_Text (l : List Ev) (A : Option Addr) (n c : Nat) (w : World) (h : IsEvs w (.slice A n c) l) (hl : l.length ≤ 100) (hG : GW w) :
    Calls Tryd.prog 13 #[.slice A n c] w fun x w' => x = .returned (strV (textL l)) ∧ Below w.heap.size w w' := by
  have H := Aside0.mk h
  have HG := Aside0.mk hG
  have hn := Aside0.mk h.len
  have HL := Aside0.mk hl
  have hue := Tryd.underlying28
  have hub := Tryd.underlying54
  clear h hG hl
  go_enter Tryd.func13, Tryd.ntmps13
  go_wp2_with (fail)
  go_loopg [8] l.length (fun gg s8 wr => ∃ kk : Nat, kk ≤ l.length ∧ l.length - kk ≤ gg ∧ s8 = .int .i64 kk ∧ Aside0 (Below w.heap.size w wr) ∧ Aside0 (Lib.IsBuilder 54 5 w.heap.size w.heap.size (Lib.byteCells (textL (l.take kk))) wr) ∧ Aside0 (kk = 0 → wr.heap[w.heap.size]? = some (.cells #[.pointer none, .slice none 0 0] 54 (0, 0))))
  case atStart => exact ⟨0, Nat.zero_le _, by omega, rfl, ⟨below_alloc (Below.refl _ _) _⟩, ⟨Lib.fresh_isBuilder 54 5 w⟩, ⟨fun _ => blk_new _ _⟩⟩
  case round =>
    obtain ⟨kk, hkk, hg, rfl, BW, HI, HZ⟩ := hrel
    by_cases hlt : kk < l.length
    · have hltb : decide ((kk : Int) < (n : Int)) = true := decide_eq_true (by have := hn.out; omega)
      have hk0 : (0 : Int) ≤ (kk : Int) := by omega
      have hkn : (kk : Int) < (n : Int) := by have := hn.out; omega
      have hn1 : (n : Int) ≤ 100 := by have := hn.out; have := HL.out; omega
      have hok := Aside0.mk (H.out.ok kk hlt)
      obtain ⟨ad, rfl, y0, y1, y2, y3, y4, y5, y6, y7, y8, y9⟩ := (H.out.below BW.out).at kk hlt
      have t1 := textL_len (l.take kk) (fun x hx => by obtain ⟨_, _, _, _, _, hx'⟩ := H.out; exact hx' x (List.mem_of_mem_take hx))
      have t2 : (l.take kk).length ≤ 100 := by rw [List.length_take]; have := HL.out; omega
      have t3 := lineL_len (evAt l kk) hok.out
      have tt := Aside0.mk (textL_succ l kk hlt)
      have m1 : ¬ 9223372036854775807 < (lineL (evAt l kk)).length + 1 := by omega
      have m3 : (lineL (evAt l kk)).length + 1 ≤ 9223372036854775807 := by omega
      have tq := Aside0.mk (And.intro t1 (And.intro t2 t3))
      clear t1 t2 t3
      go_wp2_with (first | (go_at_call 11; (with_reducible refine (K_LineS (evAt l kk) hok.out _ (HG.out.of (below_step BW.out (below_alloc (Below.refl _ _) _)))).mono ?_); rintro e w2 ⟨rfl, hb⟩; have HB2 : Aside0 (Below w.heap.size w w2) := ⟨below_step (below_step BW.out (below_alloc (Below.refl _ _) _)) hb⟩; have HI2 : Aside0 (Lib.IsBuilder 54 5 w.heap.size w.heap.size (Lib.byteCells (textL (l.take kk))) w2) := ⟨isb_below HI.out ((below_alloc (Below.refl _ _) _).trans (hb.mono (by simp)))⟩; clear hb))
      rw [cat_nl]
      have hsz : Aside0 ((ByteArray.mk (lineL (evAt l kk) ++ [10]).toArray).size ≤ 401) := ⟨by have := tq.out.2.2; simp [ByteArray.size]; omega⟩
      go_wp2_with (go_at_call 32; (with_reducible refine (B_WriteString 54 bt_builder _ _ _ _ _ HI2.out ?_ HB2.out.size).mono ?_); (rw [Lib.byteCells_length]; have := tq.out.1; have := tq.out.2.1; have := hsz.out; omega); rintro e3 w3 ⟨rfl, h1, hb, -⟩; have HB3 := Aside0.mk (HB2.out.trans hb); have HI3 : Aside0 (Lib.IsBuilder 54 5 w.heap.size w.heap.size (Lib.byteCells (textL (l.take (kk + 1)))) w3) := ⟨.inr (by rw [strCells_of, ← Lib.byteCells_append, ← tt.out] at h1; exact h1)⟩; clear h1 hb)
      go_roundg (l.length - (kk + 1))
      case measure => omega
      case rel => exact ⟨kk + 1, by omega, by omega, by go_num, HB3, HI3, ⟨fun h => by omega⟩⟩
    · have hkl : kk = l.length := by omega
      subst hkl
      have hlnb : decide (l.length < n) = false := decide_eq_false (by have := hn.out; omega)
      have hlnc : (n : Int) ≤ (l.length : Int) := by have := hn.out; omega
      rw [List.take_length] at HI
      by_cases hnil : l = []
      · have hb0 := Aside0.mk (HZ.out (by rw [hnil]; rfl))
        have hres : Aside0 (strV (textL l) = .string ⟨#[]⟩) := ⟨by rw [hnil]; rfl⟩
        clear hnil
        go_wp2_with (go_at_call 27; (with_reducible refine (B_String_nil _ _ _ _ hb0.out).mono ?_); rintro e3 w3 ⟨rfl, hb⟩; have HB3 := Aside0.mk (below_step BW.out hb); clear hb)
        go_ret
        exact ⟨congrArg Ending.returned hres.out.symm, HB3.out⟩
      · have hne := Aside0.mk (textL_ne l hnil)
        clear hnil
        go_wp2_with (go_at_call 27; (with_reducible refine (B_String _ _ _ _ _ HI.out hne.out).mono ?_); rintro e3 w3 ⟨rfl, hb⟩; have HB3 := Aside0.mk (BW.out.trans hb); clear hb)
        go_ret
        exact ⟨rfl, HB3.out⟩
end Go.Proofs.YtfolhicnbabldaaDoor.PR
