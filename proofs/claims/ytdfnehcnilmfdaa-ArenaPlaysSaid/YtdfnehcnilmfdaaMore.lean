/-
  Small lemmas for the laws of the arena: a slice that came in; an arena over blocks that are kept; a new cell.
-/
import Derived.Test.YtdfnehcnilmfdaaAwake
import Derived.OpenShut
import Derived.ShutString
import Derived.ChangeOld
import Derived.Deep.AppendLies
namespace Go.Proofs.Ytdfnehcnilmfdaa
open Go.ChangeShapes Go.WideShapes Go.ChangeAt Go.RowKit
open Go.ChangeMaps (open_string shut_string)
set_option linter.unusedVariables false

/-- A slice of integers that came in: nil, or a row. -/
def IsRow (k : IntKind) (w : World) (a : Option Addr) (len cap : Nat) (zs : List Int) : Prop :=
  (a = none ∧ len = 0 ∧ cap = 0 ∧ zs = []) ∨
  ∃ x, a = some x ∧ len ≤ cap ∧ cap ≤ maxLen ∧ zs.length = cap ∧ (∀ i, i < zs.length → w.cell? (x.add i) = some (.int k (zs.getD i 0))) ∧ ∀ n ∈ zs, (Lit.int k n).wf = true

theorem below_of {w w' : World} (h : w.grownBy w' none) : Below w.heap.size w w' := ⟨h.os, h.tape, h.output, h.size, fun k hk => h.block k hk (by simp)⟩

theorem cell_one_new (w : World) (u : Value) (t : TypeId) : ∀ j v, [u][j]? = some v → (w.alloc (.cells #[u] t)).cell? ((⟨w.heap.size, 0, none⟩ : Addr).add j) = some v := by
  intro j v hj
  match j, hj with
  | 0, hj => simp at hj; subst hj; simp [Addr.add]
  | j + 1, hj => simp at hj
theorem one_int (k : IntKind) (x : Int) : ∀ u ∈ [Value.int k x], u.oneCell' = true := by
  intro u hu
  simp at hu
  subst hu
  rfl
theorem Ar.kept {w w' : World} {bp bw : Nat} {ws : List Int} {r : Option Nat} (h : Ar w bp bw ws) (hg : w.grownBy w' r) (h1 : some bp ≠ r) (h2 : some bw ≠ r) : Ar w' bp bw ws := by
  have lt : ∀ {b : Nat} {o : Obj}, w.heap[b]? = some o → b < w.heap.size := fun {b o} e => (Array.getElem?_eq_some_iff.1 e).1
  exact ⟨(hg.block bp (lt h.ptr) h1).trans h.ptr, (hg.block bw (lt h.row) h2).trans h.row, h.le⟩

theorem i64_lo {a : Int} (h : (Lit.int .i64 a).wf = true) : -9223372036854775808 ≤ a := by
  simp [Lit.wf, IntKind.min, IntKind.max, IntKind.signed, IntKind.bits] at h; omega
theorem i64_hi {a : Int} (h : (Lit.int .i64 a).wf = true) : a ≤ 9223372036854775807 := by
  simp [Lit.wf, IntKind.min, IntKind.max, IntKind.signed, IntKind.bits] at h; omega
end Go.Proofs.Ytdfnehcnilmfdaa
