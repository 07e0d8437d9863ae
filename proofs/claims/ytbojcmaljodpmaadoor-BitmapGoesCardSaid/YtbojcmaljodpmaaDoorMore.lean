/-
  Plain facts on counts and stretches; a slice of the law's Ops that came in, opened to its cells.
-/
import Derived.Test.YtbojcmaljodpmaaDoorLaid
import Derived.Deep.Slices
import Derived.Deep.Fields
import Derived.ChangeSame
namespace Go.Proofs.YtbojcmaljodpmaaDoor
open Go.ChangeShapes Go.WideShapes Go.ChangeAt Go.RowKit
open Go.Deep
set_option linter.unusedVariables false

theorem i64_lo {a : Int} (h : (Lit.int .i64 a).wf = true) : -9223372036854775808 ≤ a := by
  simp [Lit.wf, IntKind.min, IntKind.max, IntKind.signed, IntKind.bits] at h; omega
theorem i64_hi {a : Int} (h : (Lit.int .i64 a).wf = true) : a ≤ 9223372036854775807 := by
  simp [Lit.wf, IntKind.min, IntKind.max, IntKind.signed, IntKind.bits] at h; omega

/-- A count is the number of those below its end. -/
theorem cnt_mem (S : Nat → Bool) (a B to : Nat) (h : to ≤ B) : cnt (mem S a B) (to : Int) = (mem S a to).length := by
  unfold cnt mem
  rw [List.filter_filter]
  obtain ⟨d, rfl⟩ : ∃ d, B = to + d := ⟨B - to, by omega⟩
  clear h
  induction d with
  | zero =>
    congr 1
    apply List.filter_congr
    intro j hj
    simp at hj
    have : ((j : Int) < (to : Int)) := by omega
    simp [this]
  | succ d ih =>
    rw [show to + (d + 1) = (to + d) + 1 by omega, List.range_succ, List.filter_append, List.length_append, ih]
    simp
    omega

theorem cnt_mem_big (S : Nat → Bool) (a B : Nat) (to : Int) (h : (B : Int) ≤ to) : cnt (mem S a B) to = (mem S a B).length :=
  cnt_all _ _ (fun y hy => by
    unfold mem at hy
    have := (List.mem_filter.1 hy).1
    simp at this
    omega)

/-- A stretch of n from f on. -/
def rng (f n : Nat) : Nat → Bool := fun k => decide (f ≤ k) && decide (k < f + n)

theorem rng_len (f n a j : Nat) (ha : a ≤ f) (hj : j ≤ n) : (mem (rng f n) a (f + j)).length = j := by
  induction j with
  | zero =>
    have : mem (rng f n) a (f + 0) = mem (rng f n) a 0 := mem_le _ _ _ _ (by omega) (fun k _ h2 _ => by unfold rng; simp; omega)
    rw [this]; rfl
  | succ j ih =>
    rw [show f + (j + 1) = (f + j) + 1 by omega, mem_succ _ _ _ (by omega) (by unfold rng; simp; omega), List.length_append, ih (by omega)]
    rfl

theorem rng_succ (f j k : Nat) : upd (rng f j) (f + j) true k = rng f (j + 1) k := by
  unfold upd rng
  by_cases h : k = f + j
  · subst h; simp
  · rw [if_neg h]
    have e1 : (k < f + (j + 1)) ↔ (k < f + j) := by omega
    by_cases h2 : k < f + j
    · have h3 : k < f + (j + 1) := by omega
      simp [h2, h3]
    · have h3 : ¬ k < f + (j + 1) := by omega
      simp [h2, h3]

theorem nx_head (S : Nat → Bool) (a B : Nat) (ha : a < B) (h : S a = true) : nxV (mem S a B) = .tuple #[.int .i64 (a : Nat), .bool true] := by
  have hp : mem S a (a + 1) <+: mem S a B := mem_prefix _ _ _ _ (by omega)
  rw [mem_succ S a a (Nat.le_refl _) h, mem_self] at hp
  obtain ⟨r, hr⟩ := hp
  rw [← hr]
  rfl

theorem nx_none (S : Nat → Bool) (a B : Nat) (h : ∀ k, a ≤ k → k < B → S k = false) : nxV (mem S a B) = .tuple #[.int .i64 0, .bool false] := by
  have : mem S a B = [] := by
    rcases Nat.le_total B a with hB | hB
    · exact mem_nil _ _ _ hB
    · rw [mem_le S a a B hB (fun k h1 h2 _ => h k h1 h2), mem_self]
  rw [this]; rfl

end Go.Proofs.YtbojcmaljodpmaaDoor
