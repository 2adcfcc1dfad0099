import Derived.Test.YtfolhicnbabldaaDoorRHead
import Derived.Test.YtfolhicnbabldaaDoorRows
import Derived.RangeFuncNested
import Derived.RangeFuncBound
import Derived.RangeFuncCalls
import Derived.RangeFuncLeaves
import Derived.RangeFuncBox
import Derived.Shelf.Abstract
import Derived.Shelf.RegionOpen
import Derived.OwnWalkIn
import Derived.TacticsInMore
import Derived.LoopNIn
import Derived.LoopIn
import Derived.Deep.RegionHeld3
import Derived.Deep.RegionLaw
import Derived.Laws.CopyOwn
import Derived.Laws.EntriesVeiled
import Derived.WalkKit
import Derived.BigCall
import Derived.Lib.ItoaLen
import Derived.Deep.DeepHandedRow
import Derived.Lib.LaidTab
import Derived.Stop.LaidErr
import Derived.RowKitTokens
namespace Go.Proofs.YtfolhicnbabldaaDoor.PR
open Go.RowKit Go.Shelf Go.Proofs.YtfolhicnbabldaaDoorW.PrintWords Go.Proofs.YtfolhicnbabldaaDoorW.PrintLast Go.Proofs.YtfolhicnbabldaaDoorW.PrintMore
attribute [local go_sem] max2_int min2_int max_two min_two max_three min_three max_four min_four
set_option linter.unusedVariables false
set_option linter.unusedSimpArgs false
theorem gT0 : Tryd.prog.globalNamed "internal/strconv.uint64pow10" = some 3 := by kernel_rfl
theorem gT1 : (Tryd.prog.globals[3]?).map (·.type) = some 106 := by kernel_rfl
theorem gE0 : Tryd.prog.globalNamed "strconv.ErrRange" = some 2 := by kernel_rfl
theorem gE1 : (Tryd.prog.globals[2]?).map (·.type) = some 63 := by kernel_rfl
theorem gS0 : Tryd.prog.globalNamed "strconv.ErrSyntax" = some 1 := by kernel_rfl
theorem gS1 : (Tryd.prog.globals[1]?).map (·.type) = some 63 := by kernel_rfl
theorem cellsE : Tryd.prog.cellsOf 117 = 1 := by kernel_rfl
theorem cells9 : Tryd.prog.cellsOf 9 = 1 := by kernel_rfl
theorem starE : "*" ++ "errors.errorString" = "*errors.errorString" := by decide
theorem rowE (u : TypeId) (h : Tryd.prog.typeName? 3 u = some "*errors.errorString") : u = 115 :=
  typeName_ptr_named (nm := "errors.errorString") (by rw [starE]; kernel_rfl) (by kernel_rfl) (by decide) u (by rw [starE]; exact h)
abbrev laidL : List (String × DataW Unit) := Rows.reportTellsRow.laid
theorem gw_of {W : World} (h : laidMetH Tryd.prog laidL W) (hs : W.ShapedOpen Tryd.prog) : GW W := by
  have h0 : laidMet Tryd.prog laidL W := h
  have h3 := (laidMet.tail (laidMet.tail h0))
  have h5 := laidMet.tail (laidMet.tail h3)
  have h6 := laidMet.tail h5
  refine ⟨?_, ?_, ?_, ?_⟩
  · exact Lib.tabIs_of_head gT0 gT1 Tryd.underlying106 Tryd.underlying92 (by kernel_rfl) (by kernel_rfl) h3
  · obtain ⟨a, t, hv, _⟩ := laid_sentinel h6 gS0 gS1 Tryd.underlying63 rowE Tryd.underlying115 Tryd.underlying117 rfl rfl Tryd.underlying9 cellsE cells9
    exact ⟨_, _, hv⟩
  · obtain ⟨a, t, hv, _⟩ := laid_sentinel h5 gE0 gE1 Tryd.underlying63 rowE Tryd.underlying115 Tryd.underlying117 rfl rfl Tryd.underlying9 cellsE cells9
    exact ⟨_, _, hv⟩
  · exact Tryd.laysM143.s1_3 W hs
/-- the cells of a table. -/
def flatD : Nat → DataW Unit → List Value
  | 0, _ => []
  | _ + 1, .lit (.int k z) => [.int k z]
  | n + 1, .agg l => l.flatMap (flatD n)
  | _, _ => []
noncomputable def lowW : Nat := (World.holding Tryd.prog default ⟨#[], #[], []⟩).heap.size
def putC (cs : Array Value) : Obj → Obj
  | .cells _ t frozen => .cells cs t frozen
  | o => o
/-- a world for the witness: the settled one, the listed variables holding what they hold at the start. -/
noncomputable def laidWorld (os : Os) : World :=
  let w0 := World.holding Tryd.prog os ⟨#[.cells #[.string ⟨#[105, 110, 118, 97, 108, 105, 100, 32, 115, 121, 110, 116, 97, 120]⟩] 117, .cells #[.string ⟨#[118, 97, 108, 117, 101, 32, 111, 117, 116, 32, 111, 102, 32, 114, 97, 110, 103, 101]⟩] 117], #[], []⟩
  { w0 with heap := ((((((w0.heap.modify 1 (putC #[.iface 115 (.pointer (some ⟨lowW, 0, none⟩))])).modify 2 (putC #[.iface 115 (.pointer (some ⟨lowW + 1, 0, none⟩))])).modify 3 (putC (flatD 3 Rows.laid_internal_strconv_uint64pow10).toArray)).modify 4 (putC (flatD 3 Rows.laid_unicode_utf8_first).toArray)).modify 5 (putC (flatD 3 Rows.laid_unicode_utf8_acceptRanges).toArray)).modify 6 (putC (flatD 3 Rows.laid_math_bits_deBruijn32tab).toArray)).modify 7 (putC (flatD 3 Rows.laid_math_bits_deBruijn64tab).toArray) }
set_option maxRecDepth 1000000 in
theorem laid_met (os : Os) (args : Array Value) : laidMet Tryd.prog laidL ((laidWorld os).forCall (fun _ _ => 0) ⟨#[], args, []⟩).memory :=
  laidMet_of_run' 8 (by kernel_rfl) (by kernel_rfl)
end Go.Proofs.YtfolhicnbabldaaDoor.PR
