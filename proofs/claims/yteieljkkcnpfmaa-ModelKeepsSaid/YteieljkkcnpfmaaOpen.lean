/-
  Slices of integers that came in, opened to their cells.
-/
import Derived.Test.YteieljkkcnpfmaaHold
import Derived.Deep.Slices
import Derived.Deep.Fields
import Derived.ChangeSame
import Derived.OpenShut
namespace Go.Proofs.Yteieljkkcnpfmaa
open Go.ChangeShapes Go.WideShapes Go.ChangeAt Go.RowKit
open Go.Deep
set_option linter.unusedVariables false

theorem add_none {x : Addr} {w : World} {v : Value} (h : w.cell? (x.add 0) = some v) : ∃ b off, x = ⟨b, off, none⟩ := by
  obtain ⟨b, off, sp⟩ := x
  cases sp with
  | none => exact ⟨b, off, rfl⟩
  | some s =>
    exfalso
    simp [Addr.add, World.cell?] at h
    split at h <;> simp_all
theorem i64_lo {a : Int} (h : (Lit.int .i64 a).wf = true) : -9223372036854775808 ≤ a := by
  simp [Lit.wf, IntKind.min, IntKind.max, IntKind.signed, IntKind.bits] at h; omega
/-- Whatever fuel, spare places, holding: the kit's opening of a slice of integers. -/
theorem open_rd {H : Type} {enc : TypeId × Value → H} {W : World} {base : Nat} {spare : Nat → Bool} {held : Bool} {fuel : Nat} {a : Option Addr} {len cap : Nat} {x : DataW H × List MemPlace}
    (h : DataW.trod enc Try.prog W base spare held fuel 39 [.slice a len cap] = some x) : ∃ zs, Rd W a len zs ∧ ∀ x ∈ zs, -9223372036854775808 ≤ x := by
  rcases open_ints Try.underlying39 Try.underlying3 (by kernel_rfl) h with ⟨hcs, _⟩ | ⟨y, l, c, zs, hcs, _, hl, hm, hz, _, hcell, hwz⟩
  · simp at hcs
    obtain ⟨rfl, rfl, rfl⟩ := hcs
    exact ⟨[], Rc.zero, by simp⟩
  · simp at hcs
    obtain ⟨rfl, rfl, rfl⟩ := hcs
    have hlz : len ≤ zs.length := by rw [hz]; split <;> omega
    refine ⟨zs.take len, ⟨by simp [ints]; omega, by unfold maxLen at hm; omega, fun hn => ?_⟩, fun x hx => ?_⟩
    · obtain ⟨b, off, rfl⟩ := add_none (x := y) (hcell 0 (by omega))
      have hb := hcell 0 (by omega)
      refine ⟨b, off, rfl, World.block_lt_of_cell? W _ hb, fun j hj => ?_⟩
      have hc := hcell j (by omega)
      simp only [Addr.add_lit] at hc
      rw [hc]
      simp [ints, show j < len from by omega, show j < zs.length from by omega]
    · have := hwz x (List.mem_of_mem_take hx)
      exact i64_lo this
end Go.Proofs.Yteieljkkcnpfmaa
