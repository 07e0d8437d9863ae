/-
  Two register rows are compared.
-/
import Derived.Test.YteieljkkcnpfmaaHold
import Derived.ChangeKeysEq
namespace Go.Proofs.Yteieljkkcnpfmaa
open Go.ChangeShapes Go.WideShapes Go.ChangeAt Go.RowKit
set_option linter.unusedVariables false
theorem part0 (r : Nat → Int) (w : World) : (part 3 (rcs r) (0 * 1)).run Try.prog w = .ok (.int .i64 (r 0)) w := by kernel_rfl
theorem part1 (r : Nat → Int) (w : World) : (part 3 (rcs r) (1 * 1)).run Try.prog w = .ok (.int .i64 (r 1)) w := by kernel_rfl
theorem part2 (r : Nat → Int) (w : World) : (part 3 (rcs r) (2 * 1)).run Try.prog w = .ok (.int .i64 (r 2)) w := by kernel_rfl
theorem part3 (r : Nat → Int) (w : World) : (part 3 (rcs r) (3 * 1)).run Try.prog w = .ok (.int .i64 (r 3)) w := by kernel_rfl
theorem part4 (r : Nat → Int) (w : World) : (part 3 (rcs r) (4 * 1)).run Try.prog w = .ok (.int .i64 (r 4)) w := by kernel_rfl
theorem part5 (r : Nat → Int) (w : World) : (part 3 (rcs r) (5 * 1)).run Try.prog w = .ok (.int .i64 (r 5)) w := by kernel_rfl
theorem stp (r s : Nat → Int) (w : World) (i : Nat) (is : List Nat) (c : Bool) (h : ∀ q w, (part 3 (rcs q) (i * 1)).run Try.prog w = .ok (.int .i64 (q i)) w) (k : (Op.eqItems 9999 3 1 (rcs r) (rcs s) is).run Try.prog w = .ok c w) :
    (Op.eqItems 9999 3 1 (rcs r) (rcs s) (i :: is)).run Try.prog w = .ok (r i == s i && c) w := by
  have hq : ∀ a b : Int, (Op.equalIn 9999 3 (.int .i64 a) (.int .i64 b)).run Try.prog w = .ok (a == b) w := fun a b => run_equalIn_int w 9998 3 .i64 .i64 a b Try.underlying3
  simp only [Op.eqItems, Sem.run_bind, h, Result.andThen_ok, hq]
  cases r i == s i
  · simp
  · simpa using k
theorem eq24 (r s : Nat → Int) (w : World) : (Op.equalIn 10000 24 (.agg (rcs r)) (.agg (rcs s))).run Try.prog w = .ok (r 0 == s 0 && (r 1 == s 1 && (r 2 == s 2 && (r 3 == s 3 && (r 4 == s 4 && r 5 == s 5))))) w := by
  have hi : ∃ i, Try.prog.info? 3 = some i := by
    obtain ⟨i0, hi0, _⟩ := info_parts info3
    exact ⟨i0, hi0⟩
  obtain ⟨i, hi⟩ := hi
  rw [show (10000 : Nat) = 9999 + 1 from rfl, run_equalIn_array w 9999 (rcs r) (rcs s) Try.underlying24 hi]
  have hc : Try.prog.cellsOf 3 = 1 := by kernel_rfl
  rw [hc, show List.range 6 = [0, 1, 2, 3, 4, 5] from rfl]
  have := stp r s w 0 _ _ part0 (stp r s w 1 _ _ part1 (stp r s w 2 _ _ part2 (stp r s w 3 _ _ part3 (stp r s w 4 _ _ part4 (stp r s w 5 [] true part5 (by simp [Op.eqItems]))))))
  simpa using this
theorem eq24_same (r : Nat → Int) (w : World) : (Op.equalIn 10000 24 (.agg (rcs r)) (.agg (rcs r))).run Try.prog w = .ok true w := by
  rw [eq24]; simp
end Go.Proofs.Yteieljkkcnpfmaa
