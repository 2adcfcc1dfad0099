/-
  No cell of these rows narrows 'for every input' (looked for: loops, veiled, ifaces, maps, wideKeys, modest, calm, conditions, laid).
  DERIVED. THE GIVEN ROWS OF THIS SEAT. 5 by the template 'for every input the law returns true; each argument reads behind the call as it read before'; 0 by the template 'total and deterministic' (their statements: YteaidhoimaphlaaGreatTotals.lean).
  GIVEN WITH THE SEED: the statements are not yours to turn. If you find one false, say at which input.
  Laid BY PROGRAM, IN A SANDBOX (cutbox-rows.mjs): the forced cells as the released guide's own fill.sh prints them over the translation 16942d352d8a4ce2… (all of the seat's roots in one cut). By AI agents, Wed Nov 11 2026. No macro, syntax, notation, axiom, sorry.
-/
import Derived.Test.YteaidhoimaphlaaGreatChecked
import GoSem.Claim
import GoSem.ClaimJoined
import GoSem.ClaimMapViews
import Derived.JoinedTies
import Derived.KernelRfl
namespace Go.Proofs.YteaidhoimaphlaaGreat
/- THE CELL 'sum', in the pinned program and in every row, IS THE sha256 OF THE DUMP (.gsa) THAT YteaidhoimaphlaaGreatProg.lean LOADS. Nothing in Lean hashes anything: it is a label: what it is worth is what the hold of that sum in a sandbox is worth. -/
noncomputable def Tryz.pinned : Pinned := { name := "yteaidhoimaphlaagreat", sum := "16942d352d8a4ce27f74d3f9981e6c1d8326c43f11a5d5f6c50d5a9125f10e69", checked := Tryz.checked }
namespace Rows
def none {H : Type} : Left H := { results := [], args := [] }

/-- 'breadlinelaw20.ModelTells': WHATEVER THE INPUT: true; the input reads as it did. -/
def modelTellsSpec : ChangeSpec := { name := "modelTells", fn := fun _ => fun
  | [d1, d2] => { results := [.lit (.bool true)], args := [d1, d2] }
  | _ => none }
def modelTellsRow : OpenClaim := { program := "yteaidhoimaphlaagreat", sum := "16942d352d8a4ce27f74d3f9981e6c1d8326c43f11a5d5f6c50d5a9125f10e69", func := "breadline/breadlinelaw20.ModelTells", spec := "modelTells", unfollowed := true, recurses := true, apart := false }
def ModelTellsSaid : Prop := modelTellsRow.holds Tryz.pinned (OpenSpec.ofChange modelTellsSpec)

/-- ITS FALSE NEIGHBOUR: 'it returns false'. Refute it at one input. -/
def modelTellsWrong : ChangeSpec := { name := "modelTells", fn := fun _ => fun
  | [d1, d2] => { results := [.lit (.bool false)], args := [d1, d2] }
  | _ => none }
def ModelTellsWrongFalsely : Prop := modelTellsRow.holds Tryz.pinned (OpenSpec.ofChange modelTellsWrong)

/-- 'breadlinelaw20.ModelNever': WHATEVER THE INPUT: true; the input reads as it did. -/
def modelNeverSpec : ChangeSpec := { name := "modelNever", fn := fun _ => fun
  | [d1, d2] => { results := [.lit (.bool true)], args := [d1, d2] }
  | _ => none }
def modelNeverRow : OpenClaim := { program := "yteaidhoimaphlaagreat", sum := "16942d352d8a4ce27f74d3f9981e6c1d8326c43f11a5d5f6c50d5a9125f10e69", func := "breadline/breadlinelaw20.ModelNever", spec := "modelNever", unfollowed := true, recurses := true, apart := false }
def ModelNeverSaid : Prop := modelNeverRow.holds Tryz.pinned (OpenSpec.ofChange modelNeverSpec)

/-- ITS FALSE NEIGHBOUR: 'it returns false'. Refute it at one input. -/
def modelNeverWrong : ChangeSpec := { name := "modelNever", fn := fun _ => fun
  | [d1, d2] => { results := [.lit (.bool false)], args := [d1, d2] }
  | _ => none }
def ModelNeverWrongFalsely : Prop := modelNeverRow.holds Tryz.pinned (OpenSpec.ofChange modelNeverWrong)

/-- 'breadlinelaw20.ModelWrong': WHATEVER THE INPUT: true; the input reads as it did. -/
def modelWrongSpec : ChangeSpec := { name := "modelWrong", fn := fun _ => fun
  | [d1, d2, d3] => { results := [.lit (.bool true)], args := [d1, d2, d3] }
  | _ => none }
def modelWrongRow : OpenClaim := { program := "yteaidhoimaphlaagreat", sum := "16942d352d8a4ce27f74d3f9981e6c1d8326c43f11a5d5f6c50d5a9125f10e69", func := "breadline/breadlinelaw20.ModelWrong", spec := "modelWrong", unfollowed := true, recurses := true, apart := false }
def ModelWrongSaid : Prop := modelWrongRow.holds Tryz.pinned (OpenSpec.ofChange modelWrongSpec)

/-- ITS FALSE NEIGHBOUR: 'it returns false'. Refute it at one input. -/
def modelWrongWrong : ChangeSpec := { name := "modelWrong", fn := fun _ => fun
  | [d1, d2, d3] => { results := [.lit (.bool false)], args := [d1, d2, d3] }
  | _ => none }
def ModelWrongWrongFalsely : Prop := modelWrongRow.holds Tryz.pinned (OpenSpec.ofChange modelWrongWrong)

/-- 'breadlinelaw20.ModelBack': WHATEVER THE INPUT: true; the input reads as it did. -/
def modelBackSpec : ChangeSpec := { name := "modelBack", fn := fun _ => fun
  | [d1, d2, d3, d4] => { results := [.lit (.bool true)], args := [d1, d2, d3, d4] }
  | _ => none }
def modelBackRow : OpenClaim := { program := "yteaidhoimaphlaagreat", sum := "16942d352d8a4ce27f74d3f9981e6c1d8326c43f11a5d5f6c50d5a9125f10e69", func := "breadline/breadlinelaw20.ModelBack", spec := "modelBack", unfollowed := true, recurses := true, apart := false }
def ModelBackSaid : Prop := modelBackRow.holds Tryz.pinned (OpenSpec.ofChange modelBackSpec)

/-- ITS FALSE NEIGHBOUR: 'it returns false'. Refute it at one input. -/
def modelBackWrong : ChangeSpec := { name := "modelBack", fn := fun _ => fun
  | [d1, d2, d3, d4] => { results := [.lit (.bool false)], args := [d1, d2, d3, d4] }
  | _ => none }
def ModelBackWrongFalsely : Prop := modelBackRow.holds Tryz.pinned (OpenSpec.ofChange modelBackWrong)

/-- 'breadlinelaw20.ModelMoves': WHATEVER THE INPUT: true; the input reads as it did. -/
def modelMovesSpec : ChangeSpec := { name := "modelMoves", fn := fun _ => fun
  | [d1, d2, d3] => { results := [.lit (.bool true)], args := [d1, d2, d3] }
  | _ => none }
def modelMovesRow : OpenClaim := { program := "yteaidhoimaphlaagreat", sum := "16942d352d8a4ce27f74d3f9981e6c1d8326c43f11a5d5f6c50d5a9125f10e69", func := "breadline/breadlinelaw20.ModelMoves", spec := "modelMoves", unfollowed := true, recurses := true, apart := false }
def ModelMovesSaid : Prop := modelMovesRow.holds Tryz.pinned (OpenSpec.ofChange modelMovesSpec)

/-- ITS FALSE NEIGHBOUR: 'it returns false'. Refute it at one input. -/
def modelMovesWrong : ChangeSpec := { name := "modelMoves", fn := fun _ => fun
  | [d1, d2, d3] => { results := [.lit (.bool false)], args := [d1, d2, d3] }
  | _ => none }
def ModelMovesWrongFalsely : Prop := modelMovesRow.holds Tryz.pinned (OpenSpec.ofChange modelMovesWrong)

/- THE SECOND FORM. 'bulk': how many values and letters a reading holds, each counted each time it is reached (what is shared counts as often as it is met; a slice's spare places count too). A statement '..UptoSaid' is the law's where the arguments, and the package variables that the reading takes, are together of bulk at most 1048576: NARROWER than '..Said'. Prove '..Said' where nothing that the law and all that it calls make is longer than what came in: it says more and counts as full. Else prove '..UptoSaid'. A law counts once. -/
mutual
def uptoBulk {H : Type} : DataW H → Nat
  | .lit (.string bytes) => bytes.length + 1
  | .lit _ => 1
  | .nil => 1
  | .ptr d => uptoBulk d + 1
  | .slice elems spare => uptoBulkAll elems + uptoBulkAll spare + 1
  | .agg parts => uptoBulkAll parts + 1
  | .iface _ d => uptoBulk d + 1
  | .map entries => uptoBulkEntries entries + 1
  | .held _ => 1
def uptoBulkAll {H : Type} : List (DataW H) → Nat
  | [] => 0
  | d :: r => uptoBulk d + uptoBulkAll r
def uptoBulkEntries {H : Type} : List (Lit × DataW H) → Nat
  | [] => 0
  | x :: r => uptoBulkEntry x + uptoBulkEntries r
def uptoBulkEntry {H : Type} : Lit × DataW H → Nat
  | (.string bytes, d) => bytes.length + uptoBulk d + 1
  | (_, d) => uptoBulk d + 1
 end
def uptoSmall : (H : Type) → List (DataW H) → Bool := fun _ ds => decide (uptoBulkAll ds ≤ 1048576)
def OpenSpec.upto (s : _root_.Go.ChangeSpec) : _root_.Go.OpenSpec := { _root_.Go.OpenSpec.ofChange s with cond := some uptoSmall }

/-- 'breadlinelaw20.ModelTells', WHERE WHAT IT READS IS OF BULK AT MOST 1048576: true; the input reads as it did. -/
def modelTellsUptoRow : OpenClaim := { program := "yteaidhoimaphlaagreat", sum := "16942d352d8a4ce27f74d3f9981e6c1d8326c43f11a5d5f6c50d5a9125f10e69", func := "breadline/breadlinelaw20.ModelTells", spec := "modelTells", unfollowed := true, recurses := true, apart := false, narrowed := true }
def ModelTellsUptoSaid : Prop := modelTellsUptoRow.holds Tryz.pinned (OpenSpec.upto modelTellsSpec)

/-- 'breadlinelaw20.ModelNever', WHERE WHAT IT READS IS OF BULK AT MOST 1048576: true; the input reads as it did. -/
def modelNeverUptoRow : OpenClaim := { program := "yteaidhoimaphlaagreat", sum := "16942d352d8a4ce27f74d3f9981e6c1d8326c43f11a5d5f6c50d5a9125f10e69", func := "breadline/breadlinelaw20.ModelNever", spec := "modelNever", unfollowed := true, recurses := true, apart := false, narrowed := true }
def ModelNeverUptoSaid : Prop := modelNeverUptoRow.holds Tryz.pinned (OpenSpec.upto modelNeverSpec)

/-- 'breadlinelaw20.ModelWrong', WHERE WHAT IT READS IS OF BULK AT MOST 1048576: true; the input reads as it did. -/
def modelWrongUptoRow : OpenClaim := { program := "yteaidhoimaphlaagreat", sum := "16942d352d8a4ce27f74d3f9981e6c1d8326c43f11a5d5f6c50d5a9125f10e69", func := "breadline/breadlinelaw20.ModelWrong", spec := "modelWrong", unfollowed := true, recurses := true, apart := false, narrowed := true }
def ModelWrongUptoSaid : Prop := modelWrongUptoRow.holds Tryz.pinned (OpenSpec.upto modelWrongSpec)

/-- 'breadlinelaw20.ModelBack', WHERE WHAT IT READS IS OF BULK AT MOST 1048576: true; the input reads as it did. -/
def modelBackUptoRow : OpenClaim := { program := "yteaidhoimaphlaagreat", sum := "16942d352d8a4ce27f74d3f9981e6c1d8326c43f11a5d5f6c50d5a9125f10e69", func := "breadline/breadlinelaw20.ModelBack", spec := "modelBack", unfollowed := true, recurses := true, apart := false, narrowed := true }
def ModelBackUptoSaid : Prop := modelBackUptoRow.holds Tryz.pinned (OpenSpec.upto modelBackSpec)

/-- 'breadlinelaw20.ModelMoves', WHERE WHAT IT READS IS OF BULK AT MOST 1048576: true; the input reads as it did. -/
def modelMovesUptoRow : OpenClaim := { program := "yteaidhoimaphlaagreat", sum := "16942d352d8a4ce27f74d3f9981e6c1d8326c43f11a5d5f6c50d5a9125f10e69", func := "breadline/breadlinelaw20.ModelMoves", spec := "modelMoves", unfollowed := true, recurses := true, apart := false, narrowed := true }
def ModelMovesUptoSaid : Prop := modelMovesUptoRow.holds Tryz.pinned (OpenSpec.upto modelMovesSpec)

end Rows
end Go.Proofs.YteaidhoimaphlaaGreat
