-- Printed by the session's own driver (wip/tools/drive.py) on the kit's print.py, with hand-proved functions put in. Not trusted: Lean checks it.
import Derived.Test.YthbaamfdpebocaaGreatPAx0
import Derived.Test.YthbaamfdpebocaaGreatPAx9
namespace Go.Proofs.YthbaamfdpebocaaGreat.PA
open Go.RowKit Go.Proofs.YthbaamfdpebocaaGreatW.PrintWords Go.Proofs.YthbaamfdpebocaaGreatW.PrintLast Go.Proofs.YthbaamfdpebocaaGreatW.PrintMore
attribute [local go_sem] max2_int min2_int max_two min_two max_three min_three max_four min_four
set_option linter.unusedVariables false
set_option linter.unusedSimpArgs false

/-! ### breadlineref08_Machine_Ans: function 121 -/
-- NOT PRINTED: function 100 (breadlineref12_Machine_pooled)

/-! ### breadlineref11_Machine_Word: function 103 -/
-- NOT PRINTED: function 104 (breadlineref03_Mem_Store)

/-! ### breadlineref10_Body: function 105 -/
/-! ### breadlineref02_Begin: function 133 -/
-- NOT PRINTED: function 124 (breadlineref06_New)

-- NOT PRINTED: function 106 (breadlineref12_Put)

/-! ### breadlineref02_Pick: function 125 -/
/-! ### breadlineref02_Next: function 127 -/
/-! ### breadlineref06_Machine_miss: function 126 -/
-- NOT PRINTED: function 107 (breadlineref06_Machine_Step)

/-! ### breadlineref10_Handle: function 128 -/
-- NOT PRINTED: function 108 (breadlineref12_Machine_added)

-- NOT PRINTED: function 80 (breadlineref12_Machine_Step)

/-! ### breadlineref10_Of: function 92 -/
-- NOT PRINTED: function 111 (breadlineref13_Machine_refused)

-- NOT PRINTED: function 113 (breadlineref13_Machine_added)

-- NOT PRINTED: function 81 (breadlineref13_Machine_Step)

-- NOT PRINTED: function 82 (breadlineref09_Machine_Step)

end Go.Proofs.YthbaamfdpebocaaGreat.PA
