/-
  No cell of these rows narrows 'for every input' (looked for: loops, veiled, ifaces, maps, wideKeys, modest, calm, conditions, laid).
  DERIVED. THE GIVEN ROWS OF THIS SEAT. 6 by the template 'for every input the law returns true; each argument reads behind the call as it read before'; 0 by the template 'total and deterministic' (their statements: YthbaamfdpebocaaGreatTotals.lean).
  GIVEN WITH THE SEED: the statements are not yours to turn. If you find one false, say at which input.
  Laid BY PROGRAM, IN A SANDBOX (cutbox-rows.mjs): the forced cells as the released guide's own fill.sh prints them over the translation bcd559a7358722d7… (all of the seat's roots in one cut). By AI agents, Wed Nov 11 2026. No macro, syntax, notation, axiom, sorry.
-/
import Derived.Test.YthbaamfdpebocaaGreatChecked
import GoSem.Claim
import GoSem.ClaimJoined
import GoSem.ClaimMapViews
import Derived.JoinedTies
import Derived.KernelRfl
namespace Go.Proofs.YthbaamfdpebocaaGreat
/- THE CELL 'sum', in the pinned program and in every row, IS THE sha256 OF THE DUMP (.gsa) THAT YthbaamfdpebocaaGreatProg.lean LOADS. Nothing in Lean hashes anything: it is a label: what it is worth is what the hold of that sum in a sandbox is worth. -/
noncomputable def Tryz.pinned : Pinned := { name := "ythbaamfdpebocaagreat", sum := "bcd559a7358722d7a10ff51bafb48b63b719f26ff4e2529f7a6f6e7410a0d6f7", checked := Tryz.checked }
namespace Rows
def none {H : Type} : Left H := { results := [], args := [] }

/-- 'breadlinelaw19.AuditTells': WHATEVER THE INPUT: true; the input reads as it did. -/
def auditTellsSpec : ChangeSpec := { name := "auditTells", fn := fun _ => fun
  | [d1, d2, d3] => { results := [.lit (.bool true)], args := [d1, d2, d3] }
  | _ => none }
def auditTellsRow : OpenClaim := { program := "ythbaamfdpebocaagreat", sum := "bcd559a7358722d7a10ff51bafb48b63b719f26ff4e2529f7a6f6e7410a0d6f7", func := "breadline/breadlinelaw19.AuditTells", spec := "auditTells", unfollowed := true, recurses := true, apart := false }
def AuditTellsSaid : Prop := auditTellsRow.holds Tryz.pinned (OpenSpec.ofChange auditTellsSpec)

/-- ITS FALSE NEIGHBOUR: 'it returns false'. Refute it at one input. -/
def auditTellsWrong : ChangeSpec := { name := "auditTells", fn := fun _ => fun
  | [d1, d2, d3] => { results := [.lit (.bool false)], args := [d1, d2, d3] }
  | _ => none }
def AuditTellsWrongFalsely : Prop := auditTellsRow.holds Tryz.pinned (OpenSpec.ofChange auditTellsWrong)

/-- 'breadlinelaw19.AuditSafe': WHATEVER THE INPUT: true; the input reads as it did. -/
def auditSafeSpec : ChangeSpec := { name := "auditSafe", fn := fun _ => fun
  | [d] => { results := [.lit (.bool true)], args := [d] }
  | _ => none }
def auditSafeRow : OpenClaim := { program := "ythbaamfdpebocaagreat", sum := "bcd559a7358722d7a10ff51bafb48b63b719f26ff4e2529f7a6f6e7410a0d6f7", func := "breadline/breadlinelaw19.AuditSafe", spec := "auditSafe", unfollowed := true, recurses := true, apart := false }
def AuditSafeSaid : Prop := auditSafeRow.holds Tryz.pinned (OpenSpec.ofChange auditSafeSpec)

/-- ITS FALSE NEIGHBOUR: 'it returns false'. Refute it at one input. -/
def auditSafeWrong : ChangeSpec := { name := "auditSafe", fn := fun _ => fun
  | [d] => { results := [.lit (.bool false)], args := [d] }
  | _ => none }
def AuditSafeWrongFalsely : Prop := auditSafeRow.holds Tryz.pinned (OpenSpec.ofChange auditSafeWrong)

/-- 'breadlinelaw19.AuditQuiet': WHATEVER THE INPUT: true; the input reads as it did. -/
def auditQuietSpec : ChangeSpec := { name := "auditQuiet", fn := fun _ => fun
  | [d] => { results := [.lit (.bool true)], args := [d] }
  | _ => none }
def auditQuietRow : OpenClaim := { program := "ythbaamfdpebocaagreat", sum := "bcd559a7358722d7a10ff51bafb48b63b719f26ff4e2529f7a6f6e7410a0d6f7", func := "breadline/breadlinelaw19.AuditQuiet", spec := "auditQuiet", unfollowed := true, recurses := true, apart := false }
def AuditQuietSaid : Prop := auditQuietRow.holds Tryz.pinned (OpenSpec.ofChange auditQuietSpec)

/-- ITS FALSE NEIGHBOUR: 'it returns false'. Refute it at one input. -/
def auditQuietWrong : ChangeSpec := { name := "auditQuiet", fn := fun _ => fun
  | [d] => { results := [.lit (.bool false)], args := [d] }
  | _ => none }
def AuditQuietWrongFalsely : Prop := auditQuietRow.holds Tryz.pinned (OpenSpec.ofChange auditQuietWrong)

/-- 'breadlinelaw19.AuditFirst': WHATEVER THE INPUT: true; the input reads as it did. -/
def auditFirstSpec : ChangeSpec := { name := "auditFirst", fn := fun _ => fun
  | [d1, d2, d3] => { results := [.lit (.bool true)], args := [d1, d2, d3] }
  | _ => none }
def auditFirstRow : OpenClaim := { program := "ythbaamfdpebocaagreat", sum := "bcd559a7358722d7a10ff51bafb48b63b719f26ff4e2529f7a6f6e7410a0d6f7", func := "breadline/breadlinelaw19.AuditFirst", spec := "auditFirst", unfollowed := true, recurses := true, apart := false }
def AuditFirstSaid : Prop := auditFirstRow.holds Tryz.pinned (OpenSpec.ofChange auditFirstSpec)

/-- ITS FALSE NEIGHBOUR: 'it returns false'. Refute it at one input. -/
def auditFirstWrong : ChangeSpec := { name := "auditFirst", fn := fun _ => fun
  | [d1, d2, d3] => { results := [.lit (.bool false)], args := [d1, d2, d3] }
  | _ => none }
def AuditFirstWrongFalsely : Prop := auditFirstRow.holds Tryz.pinned (OpenSpec.ofChange auditFirstWrong)

/-- 'breadlinelaw19.AuditOne': WHATEVER THE INPUT: true; the input reads as it did. -/
def auditOneSpec : ChangeSpec := { name := "auditOne", fn := fun _ => fun
  | [d1, d2, d3, d4, d5] => { results := [.lit (.bool true)], args := [d1, d2, d3, d4, d5] }
  | _ => none }
def auditOneRow : OpenClaim := { program := "ythbaamfdpebocaagreat", sum := "bcd559a7358722d7a10ff51bafb48b63b719f26ff4e2529f7a6f6e7410a0d6f7", func := "breadline/breadlinelaw19.AuditOne", spec := "auditOne", unfollowed := true, recurses := true, apart := false }
def AuditOneSaid : Prop := auditOneRow.holds Tryz.pinned (OpenSpec.ofChange auditOneSpec)

/-- ITS FALSE NEIGHBOUR: 'it returns false'. Refute it at one input. -/
def auditOneWrong : ChangeSpec := { name := "auditOne", fn := fun _ => fun
  | [d1, d2, d3, d4, d5] => { results := [.lit (.bool false)], args := [d1, d2, d3, d4, d5] }
  | _ => none }
def AuditOneWrongFalsely : Prop := auditOneRow.holds Tryz.pinned (OpenSpec.ofChange auditOneWrong)

/-- 'breadlinelaw19.AuditHeld': WHATEVER THE INPUT: true; the input reads as it did. -/
def auditHeldSpec : ChangeSpec := { name := "auditHeld", fn := fun _ => fun
  | [d1, d2, d3] => { results := [.lit (.bool true)], args := [d1, d2, d3] }
  | _ => none }
def auditHeldRow : OpenClaim := { program := "ythbaamfdpebocaagreat", sum := "bcd559a7358722d7a10ff51bafb48b63b719f26ff4e2529f7a6f6e7410a0d6f7", func := "breadline/breadlinelaw19.AuditHeld", spec := "auditHeld", unfollowed := true, recurses := true, apart := false }
def AuditHeldSaid : Prop := auditHeldRow.holds Tryz.pinned (OpenSpec.ofChange auditHeldSpec)

/-- ITS FALSE NEIGHBOUR: 'it returns false'. Refute it at one input. -/
def auditHeldWrong : ChangeSpec := { name := "auditHeld", fn := fun _ => fun
  | [d1, d2, d3] => { results := [.lit (.bool false)], args := [d1, d2, d3] }
  | _ => none }
def AuditHeldWrongFalsely : Prop := auditHeldRow.holds Tryz.pinned (OpenSpec.ofChange auditHeldWrong)

/- THE SECOND FORM. 'bulk': how many values and letters a reading holds, each counted each time it is reached (what is shared counts as often as it is met; a slice's spare places count too). A statement '..UptoSaid' is the law's where the arguments, and the package variables that the reading takes, are together of bulk at most 1048576: NARROWER than '..Said'. Prove '..Said' where nothing that the law and all that it calls make is longer than what came in: it says more and counts as full. Else prove '..UptoSaid'. A law counts once. -/
mutual
def uptoBulk {H : Type} : DataW H → Nat
  | .lit (.string bytes) => bytes.length + 1
  | .lit _ => 1
  | .nil => 1
  | .ptr d => uptoBulk d + 1
  | .slice elems spare => uptoBulkAll elems + uptoBulkAll spare + 1
  | .agg parts => uptoBulkAll parts + 1
  | .iface _ d => uptoBulk d + 1
  | .map entries => uptoBulkEntries entries + 1
  | .held _ => 1
def uptoBulkAll {H : Type} : List (DataW H) → Nat
  | [] => 0
  | d :: r => uptoBulk d + uptoBulkAll r
def uptoBulkEntries {H : Type} : List (Lit × DataW H) → Nat
  | [] => 0
  | x :: r => uptoBulkEntry x + uptoBulkEntries r
def uptoBulkEntry {H : Type} : Lit × DataW H → Nat
  | (.string bytes, d) => bytes.length + uptoBulk d + 1
  | (_, d) => uptoBulk d + 1
 end
def uptoSmall : (H : Type) → List (DataW H) → Bool := fun _ ds => decide (uptoBulkAll ds ≤ 1048576)
def OpenSpec.upto (s : _root_.Go.ChangeSpec) : _root_.Go.OpenSpec := { _root_.Go.OpenSpec.ofChange s with cond := some uptoSmall }

/-- 'breadlinelaw19.AuditTells', WHERE WHAT IT READS IS OF BULK AT MOST 1048576: true; the input reads as it did. -/
def auditTellsUptoRow : OpenClaim := { program := "ythbaamfdpebocaagreat", sum := "bcd559a7358722d7a10ff51bafb48b63b719f26ff4e2529f7a6f6e7410a0d6f7", func := "breadline/breadlinelaw19.AuditTells", spec := "auditTells", unfollowed := true, recurses := true, apart := false, narrowed := true }
def AuditTellsUptoSaid : Prop := auditTellsUptoRow.holds Tryz.pinned (OpenSpec.upto auditTellsSpec)

/-- 'breadlinelaw19.AuditSafe', WHERE WHAT IT READS IS OF BULK AT MOST 1048576: true; the input reads as it did. -/
def auditSafeUptoRow : OpenClaim := { program := "ythbaamfdpebocaagreat", sum := "bcd559a7358722d7a10ff51bafb48b63b719f26ff4e2529f7a6f6e7410a0d6f7", func := "breadline/breadlinelaw19.AuditSafe", spec := "auditSafe", unfollowed := true, recurses := true, apart := false, narrowed := true }
def AuditSafeUptoSaid : Prop := auditSafeUptoRow.holds Tryz.pinned (OpenSpec.upto auditSafeSpec)

/-- 'breadlinelaw19.AuditQuiet', WHERE WHAT IT READS IS OF BULK AT MOST 1048576: true; the input reads as it did. -/
def auditQuietUptoRow : OpenClaim := { program := "ythbaamfdpebocaagreat", sum := "bcd559a7358722d7a10ff51bafb48b63b719f26ff4e2529f7a6f6e7410a0d6f7", func := "breadline/breadlinelaw19.AuditQuiet", spec := "auditQuiet", unfollowed := true, recurses := true, apart := false, narrowed := true }
def AuditQuietUptoSaid : Prop := auditQuietUptoRow.holds Tryz.pinned (OpenSpec.upto auditQuietSpec)

/-- 'breadlinelaw19.AuditFirst', WHERE WHAT IT READS IS OF BULK AT MOST 1048576: true; the input reads as it did. -/
def auditFirstUptoRow : OpenClaim := { program := "ythbaamfdpebocaagreat", sum := "bcd559a7358722d7a10ff51bafb48b63b719f26ff4e2529f7a6f6e7410a0d6f7", func := "breadline/breadlinelaw19.AuditFirst", spec := "auditFirst", unfollowed := true, recurses := true, apart := false, narrowed := true }
def AuditFirstUptoSaid : Prop := auditFirstUptoRow.holds Tryz.pinned (OpenSpec.upto auditFirstSpec)

/-- 'breadlinelaw19.AuditOne', WHERE WHAT IT READS IS OF BULK AT MOST 1048576: true; the input reads as it did. -/
def auditOneUptoRow : OpenClaim := { program := "ythbaamfdpebocaagreat", sum := "bcd559a7358722d7a10ff51bafb48b63b719f26ff4e2529f7a6f6e7410a0d6f7", func := "breadline/breadlinelaw19.AuditOne", spec := "auditOne", unfollowed := true, recurses := true, apart := false, narrowed := true }
def AuditOneUptoSaid : Prop := auditOneUptoRow.holds Tryz.pinned (OpenSpec.upto auditOneSpec)

/-- 'breadlinelaw19.AuditHeld', WHERE WHAT IT READS IS OF BULK AT MOST 1048576: true; the input reads as it did. -/
def auditHeldUptoRow : OpenClaim := { program := "ythbaamfdpebocaagreat", sum := "bcd559a7358722d7a10ff51bafb48b63b719f26ff4e2529f7a6f6e7410a0d6f7", func := "breadline/breadlinelaw19.AuditHeld", spec := "auditHeld", unfollowed := true, recurses := true, apart := false, narrowed := true }
def AuditHeldUptoSaid : Prop := auditHeldUptoRow.holds Tryz.pinned (OpenSpec.upto auditHeldSpec)

end Rows
end Go.Proofs.YthbaamfdpebocaaGreat
