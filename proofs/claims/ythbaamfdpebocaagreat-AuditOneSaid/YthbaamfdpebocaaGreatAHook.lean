import Derived.Test.YthbaamfdpebocaaGreatDxA
import Derived.Test.YthbaamfdpebocaaGreatANode
import Derived.Test.YthbaamfdpebocaaGreatATick
import Derived.Test.YthbaamfdpebocaaGreatHPlan
set_option linter.unusedVariables false
namespace Go.Proofs.YthbaamfdpebocaaGreat.PA
open Go Go.Sx Go.RowKit Go.Shelf Go.Proofs.YthbaamfdpebocaaGreatW.PrintWords Go.Proofs.YthbaamfdpebocaaGreatW.PrintLast Go.Proofs.YthbaamfdpebocaaGreatW.PrintMore
theorem irow_C {w : World} {A : Option Addr} {n c : Nat} {xs : List Int} (h : IRow w (.slice A n c) xs) : n = xs.length ∧ n ≤ c ∧ Kd.C (Kd.int .i64) w A xs.length xs := by
  obtain ⟨a, n', c', e, rfl, hc, hm, hb, hx⟩ := h
  cases e
  have hm' : c ≤ 2 ^ 63 - 1 := hm
  refine ⟨rfl, hc, rfl, by omega, fun h0 => ?_⟩
  obtain ⟨ad, rfl, -⟩ := hx 0 _ (List.getElem?_eq_getElem h0)
  refine ⟨ad, rfl, fun j p hj => ⟨[.int .i64 p], rfl, rfl, fun i u hi => ?_⟩⟩
  obtain ⟨ad', e, hcell⟩ := hx j p hj
  cases e
  match i, hi with
  | 0, hi =>
    cases hi
    rw [show (j * (Kd.int .i64).sz + 0) = j from by show j * 1 + 0 = j; omega]
    exact hcell
noncomputable def litsI : List SV → Option (List Int)
  | [] => some []
  | .int .i64 (.lit n) :: l => match litsI l with
    | some r => some (n :: r)
    | none => none
  | _ => none
theorem litsI_den (ρ : Env Pl) : ∀ {cs : List SV} {l : List Int}, litsI cs = some l → SV.dens ρ cs = l.map (Value.int .i64)
  | [], l, h => by cases h; rfl
  | v :: cs, l, h => by
    unfold litsI at h
    split at h
    · rename_i e; cases e
    · rename_i n l' e
      cases e
      split at h
      · rename_i r hr
        cases h
        rw [SV.dens, litsI_den ρ hr]
        rfl
      · cases h
    · cases h
noncomputable def rowI (d : DS) (x : Nat) : Option (List Int) := match d.row x with
  | some (_, e) => match Nat.beq e.T 3 && Nat.beq e.s 1 with
    | true => litsI e.cells
    | false => none
  | none => none
theorem rowI_C {w0 w : World} {ρ : Env Pl} {d : DS} {x : Nat} {l : List Int} (D : DSat w0 ρ d w) (h : rowI d x = some l) : ∃ A c, SV.den ρ (.slc x) = .slice A l.length c ∧ Kd.C (Kd.int .i64) w A l.length l ∧ l.length ≤ c := by
  unfold rowI at h
  split at h
  · rename_i p e hr
    split at h
    · rename_i hb
      rw [Bool.and_eq_true] at hb
      have hT := Nat.eq_of_beq_eq_true hb.1
      have hs := Nat.eq_of_beq_eq_true hb.2
      obtain ⟨hh, -⟩ := D.row hr
      rw [hT, hs, litsI_den ρ h] at hh
      obtain ⟨-, n, ho⟩ := holds_row.1 hh
      obtain ⟨h1, h2, h3⟩ := irow_C (owns_irow ho)
      exact ⟨(ρ.s x).1, (ρ.s x).2.2, by rw [SV.den, h1], h3, h1 ▸ h2⟩
    · cases h
  · cases h
noncomputable def hkR (F : Int → Int → Int → Int → Int → Int → List Int → List Int → List Int → Option SV) (args : List SV) (d : DS) : Option SV := match args with
  | [.agg [.int .i64 (.lit a), .int .i64 (.lit b), .int .i64 (.lit c), .int .i64 (.lit e), .int .i64 (.lit f), .int .i64 (.lit g), .slc x, .slc y], .slc z] => match rowI d x with
    | some p => match rowI d y with
      | some q => match rowI d z with
        | some r => F a b c e f g p q r
        | none => none
      | none => none
    | none => none
  | _ => none
theorem hkR_ok {F : Int → Int → Int → Int → Int → Int → List Int → List Int → List Int → Option SV} {fn : Nat}
    (hF : ∀ (a b c e f g : Int) (A6 : Option Addr) (c6 : Nat) (l6 : List Int) (A7 : Option Addr) (c7 : Nat) (l7 : List Int) (A : Option Addr) (n : Nat) (l : List Int) (v : SV) (w : World) (ρ : Env Pl), Kd.C (Kd.int .i64) w A6 l6.length l6 → l6.length ≤ c6 → Kd.C (Kd.int .i64) w A7 l7.length l7 → l7.length ≤ c7 → Kd.C (Kd.int .i64) w A l.length l → l.length ≤ n → F a b c e f g l6 l7 l = some v →
      Calls Tryz.prog fn #[.agg #[.int .i64 a, .int .i64 b, .int .i64 c, .int .i64 e, .int .i64 f, .int .i64 g, .slice A6 l6.length c6, .slice A7 l7.length c7], .slice A l.length n] w fun e w' => e = .returned (SV.den ρ v) ∧ Below w.heap.size w w')
    (args : List SV) (d : DS) (v : SV) (h : hkR F args d = some v) (w0 w : World) (ρ : Env Pl) (D : DSat w0 ρ d w) : Calls Tryz.prog fn (SV.dens ρ args).toArray w fun e w' => e = .returned (SV.den ρ v) ∧ Fr (fun _ => False) w w' := by
  unfold hkR at h
  split at h
  case h_2 => cases h
  rename_i a b c e f g x y z
  split at h
  case h_2 => cases h
  rename_i p hp
  split at h
  case h_2 => cases h
  rename_i q hq
  split at h
  case h_2 => cases h
  rename_i r hr
  obtain ⟨A6, c6, e6, h6, k6⟩ := rowI_C D hp
  obtain ⟨A7, c7, e7, h7, k7⟩ := rowI_C D hq
  obtain ⟨A, n, e1, h1, k1⟩ := rowI_C D hr
  have := hF a b c e f g A6 c6 p A7 c7 q A n r v w ρ h6 k6 h7 k7 h1 k1 h
  have ea : (SV.dens ρ [.agg [.int .i64 (.lit a), .int .i64 (.lit b), .int .i64 (.lit c), .int .i64 (.lit e), .int .i64 (.lit f), .int .i64 (.lit g), .slc x, .slc y], .slc z]).toArray = #[.agg #[.int .i64 a, .int .i64 b, .int .i64 c, .int .i64 e, .int .i64 f, .int .i64 g, .slice A6 p.length c6, .slice A7 q.length c7], .slice A r.length n] := by
    rw [← e6, ← e7, ← e1]
    rfl
  rw [ea]
  exact this.mono fun e' w' ⟨h1, h2⟩ => ⟨h1, h2.os, h2.tape, h2.output, h2.size, fun i hi _ => h2.block i hi⟩
noncomputable def okH (c : LConf) (r : List Int) : Bool := decide (Right c) && Nat.beq r.length (aSz c).toNat
theorem okH_of {c : LConf} {r : List Int} (h : okH c r = true) : Right c ∧ WL c r := by
  unfold okH at h
  rw [Bool.and_eq_true, decide_eq_true_eq] at h
  exact ⟨h.1, WL.of h.1.cb (Nat.eq_of_beq_eq_true h.2)⟩
noncomputable def safeH (a b c e f g : Int) (p q r : List Int) : Option SV := match okH ⟨a, b, c, e, f, g, p, q⟩ r with
  | true => some (.int .i64 (.lit (safeP ⟨a, b, c, e, f, g, p, q⟩ r)))
  | false => none
noncomputable def quietH (a b c e f g : Int) (p q r : List Int) : Option SV := match okH ⟨a, b, c, e, f, g, p, q⟩ r with
  | true => some (.int .i64 (.lit (quietP ⟨a, b, c, e, f, g, p, q⟩ r)))
  | false => none
noncomputable def tickH (a b c e f g : Int) (p q r : List Int) : Option SV := match audit_Tickets.f a b c e f g p q r with
  | some [u, v, w, x] => some (.agg [.int .i64 (.lit u), .int .i64 (.lit v), .int .i64 (.lit w), .int .i64 (.lit x)])
  | _ => none
noncomputable def hkA : List HK := [⟨13, hkR safeH⟩, ⟨15, hkR quietH⟩, ⟨17, hkR tickH⟩]
theorem hkA_ok : HookOK Tryz.prog hkA := by
  intro h hm args d v hv _ w0 w ρ D
  simp only [hkA, List.mem_cons, List.not_mem_nil, or_false] at hm
  rcases hm with rfl | rfl | rfl
  · refine hkR_ok ?_ args d v hv w0 w ρ D
    intro a b c e f g A6 c6 l6 A7 c7 l7 A n l v w ρ h6 k6 h7 k7 h1 k1 hF
    unfold safeH at hF
    split at hF
    · rename_i ho
      cases hF
      obtain ⟨hR, hl⟩ := okH_of ho
      exact K_Safe' ⟨a, b, c, e, f, g, l6, l7⟩ hR l hl A6 c6 A7 c7 A n w h6 k6 h7 k7 h1 k1
    · cases hF
  · refine hkR_ok ?_ args d v hv w0 w ρ D
    intro a b c e f g A6 c6 l6 A7 c7 l7 A n l v w ρ h6 k6 h7 k7 h1 k1 hF
    unfold quietH at hF
    split at hF
    · rename_i ho
      cases hF
      obtain ⟨hR, hl⟩ := okH_of ho
      exact K_Quiet' ⟨a, b, c, e, f, g, l6, l7⟩ hR l hl A6 c6 A7 c7 A n w h6 k6 h7 k7 h1 k1
    · cases hF
  · refine hkR_ok ?_ args d v hv w0 w ρ D
    intro a b c e f g A6 c6 l6 A7 c7 l7 A n l v w ρ h6 k6 h7 k7 h1 k1 hF
    unfold tickH at hF
    split at hF
    · rename_i p0 p1 p2 p3 hr; cases hF
      exact audit_Tickets.calls a b c e f g A6 c6 l6 A7 c7 l7 A n l p0 p1 p2 p3 w h6 k6 h7 k7 h1 k1 hr
    · cases hF
end Go.Proofs.YthbaamfdpebocaaGreat.PA
