/-
  A slice of the law's Ops that came in, opened to its cells.
-/
import Derived.Test.YtdfnehcnilmfdaaMore
import Derived.Deep.Slices
import Derived.Deep.Fields
import Derived.ChangeSame
import Derived.StillTailTactics
namespace Go.Proofs.Ytdfnehcnilmfdaa
open Go.ChangeShapes Go.WideShapes Go.ChangeAt Go.RowKit
open Go.ChangeMaps (open_string shut_string)
open Go.Deep
set_option linter.unusedVariables false

theorem Ar.drew {w : World} {bp bw : Nat} {ws : List Int} (h : Ar w bp bw ws) : Ar w.drew bp bw ws := ⟨h.ptr, h.row, h.le⟩
theorem gb_drew (w : World) (r : Option Nat) : w.grownBy w.drew r := ⟨rfl, rfl, rfl, Nat.le_refl _, fun _ _ _ => rfl⟩

/- The next theorem is the guide's (howto, extra-structs, 1), as that page says to use it. -/
section
variable {H : Type} {enc : TypeId × Value → H} {P : Program} {w : World} {base : Nat} {spare : Nat → Bool} {held : Bool}
theorem open_slice_fields {t e : TypeId} {fs : Array Field} {fuel : Nat} {cs : List Value} {x : DataW H × List MemPlace} (ht : P.underlying t = some (.slice e)) (he : P.underlying e = some (.struct fs))
    (hone : oneCellFields P fs = true) (hC : P.cellsOf e = fs.size) (h : DataW.trod enc P w base spare held fuel t cs = some x) :
    (cs = [.slice none 0 0] ∧ x = (.nil, [])) ∨
    ∃ (a : Addr) (len cap m : Nat) (D : Nat → DataW H) (Pl : Nat → List MemPlace), cs = [.slice (some a) len cap] ∧ base ≤ a.block ∧ len ≤ cap ∧ cap ≤ maxLen ∧ m = (if spare a.block then cap else len) ∧
      x = (.slice ((List.range len).map D) ((List.range (m - len)).map fun j => D (len + j)), MemPlace.row a (m * fs.size) ++ (List.range m).flatMap Pl) ∧
      ∀ i, i < m → ∃ (ys : List (DataW H × List MemPlace)) (n : Nat), D i = .agg (ys.map (·.1)) ∧ Pl i = ys.flatMap (·.2) ∧ ys.length = fs.size ∧
        ∀ (j : Nat) (f : Field), fs[j]? = some f → ∃ (v : Value) (y : DataW H × List MemPlace), w.cell? (a.add (i * fs.size + j)) = some v ∧ ys[j]? = some y ∧ DataW.trod enc P w base spare held n f.type [v] = some y := by
  rcases open_slice ht h with h0 | ⟨a, len, cap, m, n, D, Pl, hcs, hb, hl, hm, hmm, hx, hi⟩
  · exact .inl h0
  · refine .inr ⟨a, len, cap, m, D, Pl, hcs, hb, hl, hm, hmm, by rw [hC] at hx; exact hx, fun i him => ?_⟩
    obtain ⟨cs', hc, ht'⟩ := hi i him
    rw [hC] at hc
    obtain ⟨ys, n', hn', hy, hlen, hyl, hf⟩ := DataW.trod_struct he ht'
    obtain ⟨_, hcl, hat⟩ := World.cells?_some hc
    simp only [Prod.mk.injEq] at hy
    refine ⟨ys, n', hy.1, hy.2, hyl, fun j f hj => ?_⟩
    obtain ⟨ho, hk⟩ := hone_of hone j f hj
    have hjl : j < fs.size := (Array.getElem?_eq_some_iff.1 hj).1
    have hcell := hat j hjl
    have hv : cs'[j]? = some (cs'[j]'(by omega)) := List.getElem?_eq_getElem (by omega)
    have h1 := hf j f hj
    rw [ho, hk] at h1
    have hone' : (cs'.drop j).take 1 = [cs'[j]'(by omega)] := by
      rw [List.drop_eq_getElem_cons (by omega)]
      rfl
    rw [hone'] at h1
    have hys : ys[j]? = some (ys[j]'(by omega)) := List.getElem?_eq_getElem (by omega)
    refine ⟨_, _, ?_, hys, h1.trans hys⟩
    rw [← Go.Deep.add_add, hcell, hv]
end

/-- A slice of Ops that came in: each field of each element is in its cell. -/
structure IsOps (w : World) (a : Option Addr) (len : Nat) (f : Nat → Nat → Int) : Prop where
  le : len ≤ maxLen
  at_ : ∀ i, i < len → ∃ b off, a = some ⟨b, off, none⟩ ∧ b < w.heap.size ∧ w.cell? ⟨b, off + i * 5, none⟩ = some (.int .i64 (f i 0)) ∧ w.cell? ⟨b, off + i * 5 + 1, none⟩ = some (.int .i64 (f i 1)) ∧ w.cell? ⟨b, off + i * 5 + 2, none⟩ = some (.int .i64 (f i 2)) ∧
    w.cell? ⟨b, off + i * 5 + 3, none⟩ = some (.int .i64 (f i 3)) ∧ w.cell? ⟨b, off + i * 5 + 4, none⟩ = some (.int .u64 (f i 4))
  lo : ∀ i j, i < len → -9223372036854775808 ≤ f i j

theorem add_none {x : Addr} {w : World} {v : Value} (h : w.cell? (x.add 0) = some v) : ∃ b off, x = ⟨b, off, none⟩ := by
  obtain ⟨b, off, sp⟩ := x
  cases sp with
  | none => exact ⟨b, off, rfl⟩
  | some s =>
    exfalso
    simp [Addr.add, World.cell?] at h
    split at h <;> simp_all

theorem u64_lo {a : Int} (h : (Lit.int .u64 a).wf = true) : 0 ≤ a := by
  simp [Lit.wf, IntKind.min, IntKind.max, IntKind.signed] at h; omega

theorem open_ops {H : Type} {enc : TypeId × Value → H} {W : World} {base : Nat} {spare : Nat → Bool} {held : Bool} {fuel : Nat} {a : Option Addr} {len cap : Nat} {x : DataW H × List MemPlace}
    (h : DataW.trod enc Try.prog W base spare held fuel 35 [.slice a len cap] = some x) : ∃ f, IsOps W a len f := by
  rcases open_slice_fields Try.underlying35 Try.underlying40 (by kernel_rfl) (by kernel_rfl) h with ⟨hcs, _⟩ | ⟨x0, len', cap', m, D, Pl, hcs, _, hl, hm, hmm, _, hf⟩
  · simp at hcs
    obtain ⟨rfl, rfl, rfl⟩ := hcs
    exact ⟨fun _ _ => 0, by unfold maxLen; omega, fun i hi => by omega, fun i j hi => by omega⟩
  · simp at hcs
    obtain ⟨rfl, rfl, rfl⟩ := hcs
    have hml : len ≤ m := by rw [hmm]; split <;> omega
    have key : ∀ i, i < len → ∃ g : Nat → Int, (∀ j, -9223372036854775808 ≤ g j) ∧ W.cell? (x0.add (i * 5 + 0)) = some (.int .i64 (g 0)) ∧ W.cell? (x0.add (i * 5 + 1)) = some (.int .i64 (g 1)) ∧ W.cell? (x0.add (i * 5 + 2)) = some (.int .i64 (g 2)) ∧
        W.cell? (x0.add (i * 5 + 3)) = some (.int .i64 (g 3)) ∧ W.cell? (x0.add (i * 5 + 4)) = some (.int .u64 (g 4)) := by
      intro i hi
      obtain ⟨ys, n, _, _, _, hj⟩ := hf i (by omega)
      obtain ⟨v0, y0, c0, _, t0⟩ := hj 0 _ rfl
      obtain ⟨v1, y1, c1, _, t1⟩ := hj 1 _ rfl
      obtain ⟨v2, y2, c2, _, t2⟩ := hj 2 _ rfl
      obtain ⟨v3, y3, c3, _, t3⟩ := hj 3 _ rfl
      obtain ⟨v4, y4, c4, _, t4⟩ := hj 4 _ rfl
      obtain ⟨z0, e0, _, wf0⟩ := DataW.trod_int Try.underlying3 t0
      obtain ⟨z1, e1, _, wf1⟩ := DataW.trod_int Try.underlying3 t1
      obtain ⟨z2, e2, _, wf2⟩ := DataW.trod_int Try.underlying3 t2
      obtain ⟨z3, e3, _, wf3⟩ := DataW.trod_int Try.underlying3 t3
      obtain ⟨z4, e4, _, wf4⟩ := DataW.trod_int Try.underlying29 t4
      simp at e0 e1 e2 e3 e4
      subst e0 e1 e2 e3 e4
      refine ⟨fun j => if j = 0 then z0 else if j = 1 then z1 else if j = 2 then z2 else if j = 3 then z3 else if j = 4 then z4 else 0, ?_, c0, c1, c2, c3, c4⟩
      intro j
      have := i64_lo wf0; have := i64_lo wf1; have := i64_lo wf2; have := i64_lo wf3; have := u64_lo wf4
      dsimp only
      repeat' split
      all_goals omega
    refine ⟨fun i j => if hi : i < len then (key i hi).choose j else 0, by unfold maxLen at *; omega, fun i hi => ?_, fun i j hi => ?_⟩
    · obtain ⟨g0, _, q0, _⟩ := key 0 (by omega)
      obtain ⟨b, off, rfl⟩ := add_none (x := x0) q0
      obtain ⟨_, c0, c1, c2, c3, c4⟩ := (key i hi).choose_spec
      simp only [Addr.add_lit, dif_pos hi] at c0 c1 c2 c3 c4 ⊢
      refine ⟨b, off, rfl, World.block_lt_of_cell? W _ c0, c0, by rw [Nat.add_assoc]; exact c1, by rw [Nat.add_assoc]; exact c2, by rw [Nat.add_assoc]; exact c3, by rw [Nat.add_assoc]; exact c4⟩
    · simp only [dif_pos hi]
      exact (key i hi).choose_spec.1 j

end Go.Proofs.Ytdfnehcnilmfdaa
