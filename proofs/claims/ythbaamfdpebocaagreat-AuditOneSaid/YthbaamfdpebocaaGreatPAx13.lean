-- Printed by the session's own driver (wip/tools/drive.py) on the kit's print.py, with hand-proved functions put in. Not trusted: Lean checks it.
import Derived.Test.YthbaamfdpebocaaGreatPAx0
import Derived.Test.YthbaamfdpebocaaGreatPAx7
import Derived.Test.YthbaamfdpebocaaGreatPAx9
import Derived.Test.YthbaamfdpebocaaGreatPAx10
namespace Go.Proofs.YthbaamfdpebocaaGreat.PA
open Go.RowKit Go.Proofs.YthbaamfdpebocaaGreatW.PrintWords Go.Proofs.YthbaamfdpebocaaGreatW.PrintLast Go.Proofs.YthbaamfdpebocaaGreatW.PrintMore
attribute [local go_sem] max2_int min2_int max_two min_two max_three min_three max_four min_four
set_option linter.unusedVariables false
set_option linter.unusedSimpArgs false

-- NOT PRINTED: function 12 (breadlinelaw14_Raw)

/-! ### breadlineref14_Live: function 68 -/
/-! ### breadlineref04_Under: function 69 -/
/-! ### breadlineref14_Used: function 40 -/
/-! ### breadlineref08_Left: function 67 -/
end Go.Proofs.YthbaamfdpebocaaGreat.PA
