/-
  No cell of these rows narrows 'for every input' (looked for: loops, veiled, ifaces, maps, wideKeys, modest, calm, conditions, laid).
  DERIVED. THE GIVEN ROWS OF THIS SEAT. 6 by the template 'for every input the law returns true; each argument reads behind the call as it read before'; 0 by the template 'total and deterministic' (their statements: YtmkgaihppohkkaaTotals.lean).
  GIVEN WITH THE SEED: the statements are not yours to turn. If you find one false, say at which input.
  Laid BY PROGRAM, IN A SANDBOX (cutbox-rows.mjs): the forced cells as the released guide's own fill.sh prints them over the translation e4a6eb4f8f62703f… (all of the seat's roots in one cut). By AI agents, Wed Nov 11 2026. No macro, syntax, notation, axiom, sorry.
-/
import Derived.Test.YtmkgaihppohkkaaChecked
import GoSem.Claim
import GoSem.ClaimJoined
import GoSem.ClaimMapViews
import Derived.JoinedTies
import Derived.KernelRfl
namespace Go.Proofs.Ytmkgaihppohkkaa
/- THE CELL 'sum', in the pinned program and in every row, IS THE sha256 OF THE DUMP (.gsa) THAT YtmkgaihppohkkaaProg.lean LOADS. Nothing in Lean hashes anything: it is a label: what it is worth is what the hold of that sum in a sandbox is worth. -/
noncomputable def Try.pinned : Pinned := { name := "ytmkgaihppohkkaa", sum := "e4a6eb4f8f62703fa6a5a0368e7beb063c6b4fe3f217aa5ae95555c80735769b", checked := Try.checked }
namespace Rows
def none {H : Type} : Left H := { results := [], args := [] }

/-- 'breadlinelaw04.TreeTells': WHATEVER THE INPUT: true; the input reads as it did. -/
def treeTellsSpec : ChangeSpec := { name := "treeTells", fn := fun _ => fun
  | [d1, d2, d3] => { results := [.lit (.bool true)], args := [d1, d2, d3] }
  | _ => none }
def treeTellsRow : OpenClaim := { program := "ytmkgaihppohkkaa", sum := "e4a6eb4f8f62703fa6a5a0368e7beb063c6b4fe3f217aa5ae95555c80735769b", func := "breadline/breadlinelaw04.TreeTells", spec := "treeTells", unfollowed := true, recurses := true, apart := false }
def TreeTellsSaid : Prop := treeTellsRow.holds Try.pinned (OpenSpec.ofChange treeTellsSpec)

/-- ITS FALSE NEIGHBOUR: 'it returns false'. Refute it at one input. -/
def treeTellsWrong : ChangeSpec := { name := "treeTells", fn := fun _ => fun
  | [d1, d2, d3] => { results := [.lit (.bool false)], args := [d1, d2, d3] }
  | _ => none }
def TreeTellsWrongFalsely : Prop := treeTellsRow.holds Try.pinned (OpenSpec.ofChange treeTellsWrong)

/-- 'breadlinelaw04.TreePath': WHATEVER THE INPUT: true; the input reads as it did. -/
def treePathSpec : ChangeSpec := { name := "treePath", fn := fun _ => fun
  | [d1, d2] => { results := [.lit (.bool true)], args := [d1, d2] }
  | _ => none }
def treePathRow : OpenClaim := { program := "ytmkgaihppohkkaa", sum := "e4a6eb4f8f62703fa6a5a0368e7beb063c6b4fe3f217aa5ae95555c80735769b", func := "breadline/breadlinelaw04.TreePath", spec := "treePath", unfollowed := true, recurses := true, apart := false }
def TreePathSaid : Prop := treePathRow.holds Try.pinned (OpenSpec.ofChange treePathSpec)

/-- ITS FALSE NEIGHBOUR: 'it returns false'. Refute it at one input. -/
def treePathWrong : ChangeSpec := { name := "treePath", fn := fun _ => fun
  | [d1, d2] => { results := [.lit (.bool false)], args := [d1, d2] }
  | _ => none }
def TreePathWrongFalsely : Prop := treePathRow.holds Try.pinned (OpenSpec.ofChange treePathWrong)

/-- 'breadlinelaw04.TreeOrder': WHATEVER THE INPUT: true; the input reads as it did. -/
def treeOrderSpec : ChangeSpec := { name := "treeOrder", fn := fun _ => fun
  | [d1, d2, d3, d4] => { results := [.lit (.bool true)], args := [d1, d2, d3, d4] }
  | _ => none }
def treeOrderRow : OpenClaim := { program := "ytmkgaihppohkkaa", sum := "e4a6eb4f8f62703fa6a5a0368e7beb063c6b4fe3f217aa5ae95555c80735769b", func := "breadline/breadlinelaw04.TreeOrder", spec := "treeOrder", unfollowed := true, recurses := true, apart := false }
def TreeOrderSaid : Prop := treeOrderRow.holds Try.pinned (OpenSpec.ofChange treeOrderSpec)

/-- ITS FALSE NEIGHBOUR: 'it returns false'. Refute it at one input. -/
def treeOrderWrong : ChangeSpec := { name := "treeOrder", fn := fun _ => fun
  | [d1, d2, d3, d4] => { results := [.lit (.bool false)], args := [d1, d2, d3, d4] }
  | _ => none }
def TreeOrderWrongFalsely : Prop := treeOrderRow.holds Try.pinned (OpenSpec.ofChange treeOrderWrong)

/-- 'breadlinelaw04.TreeLeaf': WHATEVER THE INPUT: true; the input reads as it did. -/
def treeLeafSpec : ChangeSpec := { name := "treeLeaf", fn := fun _ => fun
  | [d1, d2] => { results := [.lit (.bool true)], args := [d1, d2] }
  | _ => none }
def treeLeafRow : OpenClaim := { program := "ytmkgaihppohkkaa", sum := "e4a6eb4f8f62703fa6a5a0368e7beb063c6b4fe3f217aa5ae95555c80735769b", func := "breadline/breadlinelaw04.TreeLeaf", spec := "treeLeaf", unfollowed := true, recurses := true, apart := false }
def TreeLeafSaid : Prop := treeLeafRow.holds Try.pinned (OpenSpec.ofChange treeLeafSpec)

/-- ITS FALSE NEIGHBOUR: 'it returns false'. Refute it at one input. -/
def treeLeafWrong : ChangeSpec := { name := "treeLeaf", fn := fun _ => fun
  | [d1, d2] => { results := [.lit (.bool false)], args := [d1, d2] }
  | _ => none }
def TreeLeafWrongFalsely : Prop := treeLeafRow.holds Try.pinned (OpenSpec.ofChange treeLeafWrong)

/-- 'breadlinelaw04.TreeBounds': WHATEVER THE INPUT: true; the input reads as it did. -/
def treeBoundsSpec : ChangeSpec := { name := "treeBounds", fn := fun _ => fun
  | [d1, d2] => { results := [.lit (.bool true)], args := [d1, d2] }
  | _ => none }
def treeBoundsRow : OpenClaim := { program := "ytmkgaihppohkkaa", sum := "e4a6eb4f8f62703fa6a5a0368e7beb063c6b4fe3f217aa5ae95555c80735769b", func := "breadline/breadlinelaw04.TreeBounds", spec := "treeBounds", unfollowed := true, recurses := true, apart := false }
def TreeBoundsSaid : Prop := treeBoundsRow.holds Try.pinned (OpenSpec.ofChange treeBoundsSpec)

/-- ITS FALSE NEIGHBOUR: 'it returns false'. Refute it at one input. -/
def treeBoundsWrong : ChangeSpec := { name := "treeBounds", fn := fun _ => fun
  | [d1, d2] => { results := [.lit (.bool false)], args := [d1, d2] }
  | _ => none }
def TreeBoundsWrongFalsely : Prop := treeBoundsRow.holds Try.pinned (OpenSpec.ofChange treeBoundsWrong)

/-- 'breadlinelaw04.TreeMore': WHATEVER THE INPUT: true; the input reads as it did. -/
def treeMoreSpec : ChangeSpec := { name := "treeMore", fn := fun _ => fun
  | [d1, d2, d3, d4] => { results := [.lit (.bool true)], args := [d1, d2, d3, d4] }
  | _ => none }
def treeMoreRow : OpenClaim := { program := "ytmkgaihppohkkaa", sum := "e4a6eb4f8f62703fa6a5a0368e7beb063c6b4fe3f217aa5ae95555c80735769b", func := "breadline/breadlinelaw04.TreeMore", spec := "treeMore", unfollowed := true, recurses := true, apart := false }
def TreeMoreSaid : Prop := treeMoreRow.holds Try.pinned (OpenSpec.ofChange treeMoreSpec)

/-- ITS FALSE NEIGHBOUR: 'it returns false'. Refute it at one input. -/
def treeMoreWrong : ChangeSpec := { name := "treeMore", fn := fun _ => fun
  | [d1, d2, d3, d4] => { results := [.lit (.bool false)], args := [d1, d2, d3, d4] }
  | _ => none }
def TreeMoreWrongFalsely : Prop := treeMoreRow.holds Try.pinned (OpenSpec.ofChange treeMoreWrong)

/- THE SECOND FORM. 'bulk': how many values and letters a reading holds, each counted each time it is reached (what is shared counts as often as it is met; a slice's spare places count too). A statement '..UptoSaid' is the law's where the arguments, and the package variables that the reading takes, are together of bulk at most 1048576: NARROWER than '..Said'. Prove '..Said' where nothing that the law and all that it calls make is longer than what came in: it says more and counts as full. Else prove '..UptoSaid'. A law counts once. -/
mutual
def uptoBulk {H : Type} : DataW H → Nat
  | .lit (.string bytes) => bytes.length + 1
  | .lit _ => 1
  | .nil => 1
  | .ptr d => uptoBulk d + 1
  | .slice elems spare => uptoBulkAll elems + uptoBulkAll spare + 1
  | .agg parts => uptoBulkAll parts + 1
  | .iface _ d => uptoBulk d + 1
  | .map entries => uptoBulkEntries entries + 1
  | .held _ => 1
def uptoBulkAll {H : Type} : List (DataW H) → Nat
  | [] => 0
  | d :: r => uptoBulk d + uptoBulkAll r
def uptoBulkEntries {H : Type} : List (Lit × DataW H) → Nat
  | [] => 0
  | x :: r => uptoBulkEntry x + uptoBulkEntries r
def uptoBulkEntry {H : Type} : Lit × DataW H → Nat
  | (.string bytes, d) => bytes.length + uptoBulk d + 1
  | (_, d) => uptoBulk d + 1
 end
def uptoSmall : (H : Type) → List (DataW H) → Bool := fun _ ds => decide (uptoBulkAll ds ≤ 1048576)
def OpenSpec.upto (s : _root_.Go.ChangeSpec) : _root_.Go.OpenSpec := { _root_.Go.OpenSpec.ofChange s with cond := some uptoSmall }

/-- 'breadlinelaw04.TreeTells', WHERE WHAT IT READS IS OF BULK AT MOST 1048576: true; the input reads as it did. -/
def treeTellsUptoRow : OpenClaim := { program := "ytmkgaihppohkkaa", sum := "e4a6eb4f8f62703fa6a5a0368e7beb063c6b4fe3f217aa5ae95555c80735769b", func := "breadline/breadlinelaw04.TreeTells", spec := "treeTells", unfollowed := true, recurses := true, apart := false, narrowed := true }
def TreeTellsUptoSaid : Prop := treeTellsUptoRow.holds Try.pinned (OpenSpec.upto treeTellsSpec)

/-- 'breadlinelaw04.TreePath', WHERE WHAT IT READS IS OF BULK AT MOST 1048576: true; the input reads as it did. -/
def treePathUptoRow : OpenClaim := { program := "ytmkgaihppohkkaa", sum := "e4a6eb4f8f62703fa6a5a0368e7beb063c6b4fe3f217aa5ae95555c80735769b", func := "breadline/breadlinelaw04.TreePath", spec := "treePath", unfollowed := true, recurses := true, apart := false, narrowed := true }
def TreePathUptoSaid : Prop := treePathUptoRow.holds Try.pinned (OpenSpec.upto treePathSpec)

/-- 'breadlinelaw04.TreeOrder', WHERE WHAT IT READS IS OF BULK AT MOST 1048576: true; the input reads as it did. -/
def treeOrderUptoRow : OpenClaim := { program := "ytmkgaihppohkkaa", sum := "e4a6eb4f8f62703fa6a5a0368e7beb063c6b4fe3f217aa5ae95555c80735769b", func := "breadline/breadlinelaw04.TreeOrder", spec := "treeOrder", unfollowed := true, recurses := true, apart := false, narrowed := true }
def TreeOrderUptoSaid : Prop := treeOrderUptoRow.holds Try.pinned (OpenSpec.upto treeOrderSpec)

/-- 'breadlinelaw04.TreeLeaf', WHERE WHAT IT READS IS OF BULK AT MOST 1048576: true; the input reads as it did. -/
def treeLeafUptoRow : OpenClaim := { program := "ytmkgaihppohkkaa", sum := "e4a6eb4f8f62703fa6a5a0368e7beb063c6b4fe3f217aa5ae95555c80735769b", func := "breadline/breadlinelaw04.TreeLeaf", spec := "treeLeaf", unfollowed := true, recurses := true, apart := false, narrowed := true }
def TreeLeafUptoSaid : Prop := treeLeafUptoRow.holds Try.pinned (OpenSpec.upto treeLeafSpec)

/-- 'breadlinelaw04.TreeBounds', WHERE WHAT IT READS IS OF BULK AT MOST 1048576: true; the input reads as it did. -/
def treeBoundsUptoRow : OpenClaim := { program := "ytmkgaihppohkkaa", sum := "e4a6eb4f8f62703fa6a5a0368e7beb063c6b4fe3f217aa5ae95555c80735769b", func := "breadline/breadlinelaw04.TreeBounds", spec := "treeBounds", unfollowed := true, recurses := true, apart := false, narrowed := true }
def TreeBoundsUptoSaid : Prop := treeBoundsUptoRow.holds Try.pinned (OpenSpec.upto treeBoundsSpec)

/-- 'breadlinelaw04.TreeMore', WHERE WHAT IT READS IS OF BULK AT MOST 1048576: true; the input reads as it did. -/
def treeMoreUptoRow : OpenClaim := { program := "ytmkgaihppohkkaa", sum := "e4a6eb4f8f62703fa6a5a0368e7beb063c6b4fe3f217aa5ae95555c80735769b", func := "breadline/breadlinelaw04.TreeMore", spec := "treeMore", unfollowed := true, recurses := true, apart := false, narrowed := true }
def TreeMoreUptoSaid : Prop := treeMoreUptoRow.holds Try.pinned (OpenSpec.upto treeMoreSpec)

end Rows
end Go.Proofs.Ytmkgaihppohkkaa
