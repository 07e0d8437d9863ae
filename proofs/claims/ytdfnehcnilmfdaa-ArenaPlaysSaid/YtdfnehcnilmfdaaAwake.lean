/-
  The contract of 'awake': it returns true and turns nothing that was there.
-/
import Derived.Test.YtdfnehcnilmfdaaFill
namespace Go.Proofs.Ytdfnehcnilmfdaa
open Go.ChangeShapes Go.WideShapes Go.ChangeAt Go.RowKit
set_option linter.unusedVariables false

/-- What was new to 'a' may be turned. -/
theorem gb_new {a b c : World} {r : Option Nat} (h : a.grownBy b none) (k : b.grownBy c r) (hg : ∀ g, r = some g → a.heap.size ≤ g) : a.grownBy c none :=
  ⟨k.os.trans h.os, k.tape.trans h.tape, k.output.trans h.output, Nat.le_trans h.size k.size, fun i hi hn => (k.block i (Nat.lt_of_lt_of_le hi h.size) (fun e => by have := hg i e.symm; omega)).trans (h.block i hi hn)⟩

theorem awake_any (w : World) : Calls Try.prog 9 #[] w fun e w' => e = .returned (.bool true) ∧ w.grownBy w' none := by
  go_enter Try.func9, Try.ntmps9
  go_wp2_with fail
  refine (new_in 3 w (by decide) (by decide)).mono ?_
  rintro e w1 ⟨rfl, hA, hg, hsz⟩
  have HS := Lib.hid hsz
  clear hsz
  go_wp2_with fail
  refine (store_in _ _ _ 2 7 w1 hA (by decide) (by decide)).mono ?_
  rintro e w2 ⟨rfl, hA2, hg2⟩
  go_wp2_with fail
  refine (move_in _ _ _ 1 0 2 w2 hA2 (by decide) (by decide)).mono ?_
  rintro e w3 ⟨rfl, hA3, hg3⟩
  go_wp2_with fail
  refine (load_in _ _ _ 1 w3 hA3 (by decide) (by decide)).mono ?_
  rintro e w4 ⟨rfl, rfl⟩
  go_wp2_with fail
  refine (store_out _ _ _ 3 1 w3 hA3 (by decide)).mono ?_
  rintro e w4 ⟨rfl, rfl⟩
  go_wp2_with fail
  refine (len_any _ _ _ w3 hA3).mono ?_
  rintro e w4 ⟨rfl, rfl⟩
  go_wp2_with fail
  go_ret
  refine ⟨rfl, gb_new (gb_new hg hg2 (by simp)) hg3 (by simp)⟩

end Go.Proofs.Ytdfnehcnilmfdaa
