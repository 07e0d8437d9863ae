/-
  What the rows' list gives: the library's table lies in its variable; a world for the witnesses.
-/
import Derived.Test.YtbojcmaljodpmaaDoorCards
import Derived.Test.YtbojcmaljodpmaaDoorTie
import Derived.Test.YtbojcmaljodpmaaDoorSet
import Derived.OpenShut
import Derived.ShutString
import Derived.ChangeOld
import Derived.Deep.DeepHandedRow
import Derived.Lib.LaidTab
namespace Go.Proofs.YtbojcmaljodpmaaDoor
open Go.ChangeShapes Go.WideShapes Go.ChangeAt Go.RowKit
set_option linter.unusedVariables false

theorem own : ownKnob Tryd.prog.godebug = none := by kernel_rfl
theorem laidOut : laidOutB Tryd.prog = true := by kernel_rfl
theorem gTab : Tryd.prog.globalNamed "math/bits.deBruijn64tab" = some 0 := by kernel_rfl
theorem gTabType : (Tryd.prog.globals[0]?).map (·.type) = some 45 := by kernel_rfl
theorem cells45 : Tryd.prog.cellsOf 45 = 64 := by kernel_rfl
theorem cells5 : Tryd.prog.cellsOf 5 = 1 := by kernel_rfl

theorem table {W : World} (h : laidMetH Tryd.prog [("math/bits.deBruijn64tab", Rows.laid_math_bits_deBruijn64tab)] W) : Lib.TabIs Tryd.prog W "math/bits.deBruijn64tab" .u8 (Lib.deBruijn64tab.map fun (x : Nat) => (x : Int)) :=
  Lib.tabIs_of_head (rest := []) gTab gTabType Tryd.underlying45 Tryd.underlying5 cells5 cells45 h

theorem tab_of {W : World} (h : laidMetH Tryd.prog [("math/bits.deBruijn64tab", Rows.laid_math_bits_deBruijn64tab)] W) : Tab W := by
  intro j hj
  have hl : Lib.deBruijn64tab.length = 64 := rfl
  have := (table h).cell gTab j (by rw [List.length_map, hl]; exact hj)
  rw [this]
  have e : (Lib.deBruijn64tab.map fun (x : Nat) => (x : Int)).getD j 0 = ((Lib.deBruijn64tab.getD j 0 : Nat) : Int) := by
    have h1 : j < Lib.deBruijn64tab.length := by rw [hl]; exact hj
    simp [h1]
  rw [e]

/-- A world for the witnesses: the settled one, the table (block 0) holding what its initialiser lays. -/
noncomputable def laidWorld (os : Os) : World :=
  { World.holding Tryd.prog os ⟨#[], #[], []⟩ with heap := (World.holding Tryd.prog os ⟨#[], #[], []⟩).heap.modify 0 fun
      | .cells _ t frozen => .cells (Lib.deBruijn64tab.map fun (x : Nat) => Value.int .u8 (x : Int)).toArray t frozen
      | o => o }
end Go.Proofs.YtbojcmaljodpmaaDoor
