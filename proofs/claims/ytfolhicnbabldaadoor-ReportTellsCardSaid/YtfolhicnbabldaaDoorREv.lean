import Derived.Test.YtfolhicnbabldaaDoorRLine
import Derived.Test.YtfolhicnbabldaaDoorPRx2
import Derived.Test.YtfolhicnbabldaaDoorPRx2
import Derived.RangeFuncNested
import Derived.RangeFuncBound
import Derived.RangeFuncCalls
import Derived.RangeFuncLeaves
import Derived.RangeFuncBox
import Derived.Shelf.Abstract
import Derived.Shelf.RegionOpen
import Derived.OwnWalkIn
import Derived.TacticsInMore
import Derived.LoopNIn
import Derived.LoopIn
import Derived.Deep.RegionHeld3
import Derived.Deep.RegionLaw
import Derived.Laws.CopyOwn
import Derived.Laws.EntriesVeiled
import Derived.WalkKit
import Derived.BigCall
import Derived.Lib.ItoaLen
namespace Go.Proofs.YtfolhicnbabldaaDoor.PR
open Go.RowKit Go.Shelf Go.Proofs.YtfolhicnbabldaaDoorW.PrintWords Go.Proofs.YtfolhicnbabldaaDoorW.PrintLast Go.Proofs.YtfolhicnbabldaaDoorW.PrintMore
attribute [local go_sem] max2_int min2_int max_two min_two max_three min_three max_four min_four
set_option linter.unusedVariables false
set_option linter.unusedSimpArgs false
def wAdmit : Bytes := [97, 100, 109, 105, 116]
def wRelease : Bytes := [114, 101, 108, 101, 97, 115, 101]
def wRaise : Bytes := [114, 97, 105, 115, 101]
def wLower : Bytes := [108, 111, 119, 101, 114]
def wUsage : Bytes := [117, 115, 97, 103, 101]
def wPeek : Bytes := [112, 101, 101, 107]
def wCall : Bytes := [99, 97, 108, 108]
def wNode : Bytes := [110, 111, 100, 101]
def wN : Bytes := [110]
def wErr : Bytes := [101, 114, 114]
def wOk : Bytes := [111, 107]
def wAt : Bytes := [97, 116]
def wExact : Bytes := [101, 120, 97, 99, 116]
def wNear : Bytes := [110, 101, 97, 114]
def wThread : Bytes := [116, 104, 114, 101, 97, 100]
def wBegin : Bytes := [98, 101, 103, 105, 110]
def wEnd : Bytes := [101, 110, 100]
/-- an event. -/
structure Ev where
  wh : Int
  th : Int
  kd : Int
  ck : Int
  cv : Int
  cn : Int
  er : Int
  an : Int
  ex : Bool
  nd : Int
  deriving DecidableEq
def evV (e : Ev) : Value := .agg #[.int .i64 e.wh, .int .i64 e.th, .int .i64 e.kd, .int .i64 e.ck, .int .i64 e.cv, .int .i64 e.cn, .int .i64 e.er, .int .i64 e.an, .bool e.ex, .int .i64 e.nd]
def I64 (x : Int) : Prop := -9223372036854775808 ≤ x ∧ x ≤ 9223372036854775807
structure EvOk (e : Ev) : Prop where
  wh : I64 e.wh
  th : I64 e.th
  kd : I64 e.kd
  ck : I64 e.ck
  cv : I64 e.cv
  cn : I64 e.cn
  er : I64 e.er
  an : I64 e.an
  nd : I64 e.nd
def plainB (e : Ev) : Bool := if e.kd = 1 then (e.er == 0 && (e.an == 0 && (!e.ex && (e.nd == 0)))) else if e.kd = 2 then (if e.er = 0 then true else if e.er > 0 then (e.an == 0 && (!e.ex)) else false) else false
theorem K_plain (e : Ev) (w : World) : Calls Tryd.prog 23 #[evV e] w fun x w' => x = .returned (.bool (plainB e)) ∧ Below w.heap.size w w' :=
  report_plain.calls _ _ _ _ _ _ _ _ _ _ _ w (by
    unfold report_plain.f plainB
    by_cases h1 : e.kd = 1
    · rw [if_pos h1, if_pos h1]
    · rw [if_neg h1, if_neg h1]
      by_cases h2 : e.kd = 2
      · rw [if_pos h2, if_pos h2]
        by_cases h3 : e.er = 0
        · rw [if_pos h3, if_pos h3]
        · rw [if_neg h3, if_neg h3]
          by_cases h4 : e.er > 0
          · rw [if_pos h4, if_pos h4]
          · rw [if_neg h4, if_neg h4]
      · rw [if_neg h2, if_neg h2])
theorem K_rplain (e : Ev) (w : World) : Calls Tryd.prog 29 #[evV e] w fun x w' => x = .returned (.bool (plainB e)) ∧ Below w.heap.size w w' :=
  breadlineref23_plain.calls _ _ _ _ _ _ _ _ _ _ _ w (by
    unfold breadlineref23_plain.f plainB
    by_cases h1 : e.kd = 1
    · rw [if_pos h1, if_pos h1]
    · rw [if_neg h1, if_neg h1]
      by_cases h2 : e.kd = 2
      · rw [if_pos h2, if_pos h2]
        by_cases h3 : e.er = 0
        · rw [if_pos (show e.er ≥ 0 by omega), if_pos h3, if_pos h3]
        · rw [if_neg (show ¬ e.er = 0 from h3)]
          by_cases h4 : e.er > 0
          · rw [if_pos (show e.er ≥ 0 by omega), if_pos h4]
            rw [if_neg h3]
            by_cases h5 : e.an = 0
            · rw [if_pos h5, h5]; rfl
            · rw [if_neg h5]; congr 1; simp [h5]
          · rw [if_neg (show ¬ e.er ≥ 0 by omega), if_neg h4]
            first | rfl | rw [if_neg h3]
      · rw [if_neg h2, if_neg h2])

def nameW (k : Int) : Bytes := if k = 1 then wAdmit else if k = 2 then wRelease else if k = 3 then wRaise else if k = 4 then wLower else if k = 5 then wUsage else wPeek
def kindW (l : Bytes) (k : Int) : Bytes := if 0 < k ∧ k < 7 then addW l (nameW k) else addW (addW l wCall) (Lib.itoa k)
def callW (l : Bytes) (k v n : Int) : Bytes := addW (addW (addW (addW (kindW l k) wNode) (Lib.itoa v)) wN) (Lib.itoa n)
def ansW (l : Bytes) (er n : Int) (ex : Bool) (nd : Int) : Bytes :=
  addW (addW (if er ≠ 0 then addW (addW l wErr) (Lib.itoa er) else addW (addW (addW l wOk) (Lib.itoa n)) (if ex = true then wExact else wNear)) wAt) (Lib.itoa nd)
def lineL (e : Ev) : Bytes :=
  if plainB e = false then [] else
  if e.kd = 1 then callW (addW (addW (addW (addW [] (Lib.itoa e.wh)) wThread) (Lib.itoa e.th)) wBegin) e.ck e.cv e.cn
  else ansW (callW (addW (addW (addW (addW [] (Lib.itoa e.wh)) wThread) (Lib.itoa e.th)) wEnd) e.ck e.cv e.cn) e.er e.an e.ex e.nd

def namesV : Value := .agg #[strV [], strV wAdmit, strV wRelease, strV wRaise, strV wLower, strV wUsage, strV wPeek]
set_option maxRecDepth 100000 in
theorem K_names (w : World) : Calls Tryd.prog 36 #[] w fun e w' => e = .returned namesV ∧ Below w.heap.size w w' := by
  have hu := Tryd.underlying69
  go_enter Tryd.func36, Tryd.ntmps36
  go_wp2
  refine bodyPost_ret (results_cell_row rfl _ _ w.heap.size 69 #[strV [], strV wAdmit, strV wRelease, strV wRaise, strV wLower, strV wUsage, strV wPeek] (0, 0) _ rfl ?_ hu rfl (by kernel_rfl)) rfl ?_
  · exact blk_new _ _
  · exact ⟨rfl, below_alloc (Below.refl _ _) _⟩
end Go.Proofs.YtfolhicnbabldaaDoor.PR
