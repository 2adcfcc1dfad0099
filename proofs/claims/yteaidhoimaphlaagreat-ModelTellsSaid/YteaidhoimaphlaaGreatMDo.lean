import Derived.Test.YteaidhoimaphlaaGreatMDob
import Derived.Test.YteaidhoimaphlaaGreatMDoc
import Derived.Test.YteaidhoimaphlaaGreatMDod
import Derived.RangeFuncNested
import Derived.RangeFuncBound
import Derived.RangeFuncCalls
import Derived.RangeFuncLeaves
import Derived.RangeFuncBox
import Derived.Shelf.Abstract
import Derived.Shelf.RegionOpen
import Derived.OwnWalkIn
import Derived.TacticsInMore
import Derived.LoopNIn
import Derived.LoopIn
import Derived.Deep.RegionHeld3
import Derived.Deep.RegionLaw
import Derived.Laws.CopyOwn
import Derived.Laws.EntriesVeiled
namespace Go.Proofs.YteaidhoimaphlaaGreat.PM
open Go.RowKit Go.Shelf Go.Proofs.YteaidhoimaphlaaGreatW.PrintWords Go.Proofs.YteaidhoimaphlaaGreatW.PrintLast Go.Proofs.YteaidhoimaphlaaGreatW.PrintMore
attribute [local go_sem] max2_int min2_int max_two min_two max_three min_three max_four min_four
set_option linter.unusedVariables false
set_option linter.unusedSimpArgs false
theorem K_Do (W0 W : World) (b : Nat) (M : ML) (hW : Below W0.heap.size W0 W) (h : MAt W0 W b M) (hok : MOk M) (kk v n : Int) (hn : n ≤ 9223372036854775807) : Calls Tryz.prog 13 #[.pointer (some ⟨b, 0, none⟩), .agg #[.int .i64 kk, .int .i64 v, .int .i64 n]] W fun e w' => e = .returned (ansV (doM M kk v n).2) ∧ KB W w' b ∧ MAt W0 w' b (doM M kk v n).1 := by
  by_cases he : checkE M.c kk v n = 0
  · by_cases e1 : kk = 1
    · subst e1; exact K_Do1 W0 W b M hW h hok v n he hn
    by_cases e2 : kk = 2
    · subst e2; exact K_Do2 W0 W b M hW h hok v n he hn
    by_cases e3 : kk = 3
    · subst e3; exact K_Do3 W0 W b M hW h hok v n he hn
    by_cases e4 : kk = 4
    · subst e4; exact K_Do4 W0 W b M hW h hok v n he hn
    by_cases e5 : kk = 5
    · subst e5; exact K_Do5 W0 W b M hW h hok v n he hn
    by_cases e6 : kk = 6
    · subst e6; exact K_Do6 W0 W b M hW h hok v n he hn
    exfalso
    unfold checkE at he
    rw [if_neg e1, if_neg e2, if_neg (by omega), if_neg (by omega)] at he
    exact absurd he (by decide)
  · exact K_Do_err W0 W b M hW h hok kk v n _ rfl he hn
end Go.Proofs.YteaidhoimaphlaaGreat.PM
