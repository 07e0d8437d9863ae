/-
  A slice of the law's Ops that came in, opened to its cells; counts over two stretches and over a change of one number.
-/
import Derived.Test.YtbojcmaljodpmaaDoorMore
namespace Go.Proofs.YtbojcmaljodpmaaDoor
open Go.ChangeShapes Go.WideShapes Go.ChangeAt Go.RowKit
open Go.Deep
set_option linter.unusedVariables false

/- The next theorem is the guide's (howto, extra-structs, 1), as that page says to use it. -/
section
variable {H : Type} {enc : TypeId × Value → H} {P : Program} {w : World} {base : Nat} {spare : Nat → Bool} {held : Bool}
theorem open_slice_fields {t e : TypeId} {fs : Array Field} {fuel : Nat} {cs : List Value} {x : DataW H × List MemPlace} (ht : P.underlying t = some (.slice e)) (he : P.underlying e = some (.struct fs))
    (hone : oneCellFields P fs = true) (hC : P.cellsOf e = fs.size) (h : DataW.trod enc P w base spare held fuel t cs = some x) :
    (cs = [.slice none 0 0] ∧ x = (.nil, [])) ∨
    ∃ (a : Addr) (len cap m : Nat) (D : Nat → DataW H) (Pl : Nat → List MemPlace), cs = [.slice (some a) len cap] ∧ base ≤ a.block ∧ len ≤ cap ∧ cap ≤ maxLen ∧ m = (if spare a.block then cap else len) ∧
      x = (.slice ((List.range len).map D) ((List.range (m - len)).map fun j => D (len + j)), MemPlace.row a (m * fs.size) ++ (List.range m).flatMap Pl) ∧
      ∀ i, i < m → ∃ (ys : List (DataW H × List MemPlace)) (n : Nat), D i = .agg (ys.map (·.1)) ∧ Pl i = ys.flatMap (·.2) ∧ ys.length = fs.size ∧
        ∀ (j : Nat) (f : Field), fs[j]? = some f → ∃ (v : Value) (y : DataW H × List MemPlace), w.cell? (a.add (i * fs.size + j)) = some v ∧ ys[j]? = some y ∧ DataW.trod enc P w base spare held n f.type [v] = some y := by
  rcases open_slice ht h with h0 | ⟨a, len, cap, m, n, D, Pl, hcs, hb, hl, hm, hmm, hx, hi⟩
  · exact .inl h0
  · refine .inr ⟨a, len, cap, m, D, Pl, hcs, hb, hl, hm, hmm, by rw [hC] at hx; exact hx, fun i him => ?_⟩
    obtain ⟨cs', hc, ht'⟩ := hi i him
    rw [hC] at hc
    obtain ⟨ys, n', hn', hy, hlen, hyl, hf⟩ := DataW.trod_struct he ht'
    obtain ⟨_, hcl, hat⟩ := World.cells?_some hc
    simp only [Prod.mk.injEq] at hy
    refine ⟨ys, n', hy.1, hy.2, hyl, fun j f hj => ?_⟩
    obtain ⟨ho, hk⟩ := hone_of hone j f hj
    have hjl : j < fs.size := (Array.getElem?_eq_some_iff.1 hj).1
    have hcell := hat j hjl
    have hv : cs'[j]? = some (cs'[j]'(by omega)) := List.getElem?_eq_getElem (by omega)
    have h1 := hf j f hj
    rw [ho, hk] at h1
    have hone' : (cs'.drop j).take 1 = [cs'[j]'(by omega)] := by
      rw [List.drop_eq_getElem_cons (by omega)]
      rfl
    rw [hone'] at h1
    have hys : ys[j]? = some (ys[j]'(by omega)) := List.getElem?_eq_getElem (by omega)
    refine ⟨_, _, ?_, hys, h1.trans hys⟩
    rw [← Go.Deep.add_add, hcell, hv]
end

/-- A slice of Ops that came in: each field of each element is in its cell. -/
structure IsOps (w : World) (a : Option Addr) (len : Nat) (c : Nat → Bool) (f : Nat → Int) : Prop where
  le : len ≤ maxLen
  at_ : ∀ i, i < len → ∃ b off, a = some ⟨b, off, none⟩ ∧ b < w.heap.size ∧ w.cell? ⟨b, off + i * 2, none⟩ = some (.bool (c i)) ∧ w.cell? ⟨b, off + i * 2 + 1, none⟩ = some (.int .i64 (f i))
  lo : ∀ i, i < len → -9223372036854775808 ≤ f i

theorem add_none {x : Addr} {w : World} {v : Value} (h : w.cell? (x.add 0) = some v) : ∃ b off, x = ⟨b, off, none⟩ := by
  obtain ⟨b, off, sp⟩ := x
  cases sp with
  | none => exact ⟨b, off, rfl⟩
  | some s =>
    exfalso
    simp [Addr.add, World.cell?] at h
    split at h <;> simp_all

theorem open_ops {H : Type} {enc : TypeId × Value → H} {W : World} {base : Nat} {spare : Nat → Bool} {held : Bool} {fuel : Nat} {a : Option Addr} {len cap : Nat} {x : DataW H × List MemPlace}
    (h : DataW.trod enc Tryd.prog W base spare held fuel 22 [.slice a len cap] = some x) : ∃ c f, IsOps W a len c f := by
  rcases open_slice_fields Tryd.underlying22 Tryd.underlying29 (by kernel_rfl) (by kernel_rfl) h with ⟨hcs, _⟩ | ⟨x0, len', cap', m, D, Pl, hcs, _, hl, hm, hmm, _, hf⟩
  · simp at hcs
    obtain ⟨rfl, rfl, rfl⟩ := hcs
    exact ⟨fun _ => false, fun _ => 0, by unfold maxLen; omega, fun i hi => by omega, fun i hi => by omega⟩
  · simp at hcs
    obtain ⟨rfl, rfl, rfl⟩ := hcs
    have hml : len ≤ m := by rw [hmm]; split <;> omega
    have key : ∀ i, i < len → ∃ (p : Bool × Int), -9223372036854775808 ≤ p.2 ∧ W.cell? (x0.add (i * 2 + 0)) = some (.bool p.1) ∧ W.cell? (x0.add (i * 2 + 1)) = some (.int .i64 p.2) := by
      intro i hi
      obtain ⟨ys, n, _, _, _, hj⟩ := hf i (by omega)
      obtain ⟨v0, y0, c0, _, t0⟩ := hj 0 _ rfl
      obtain ⟨v1, y1, c1, _, t1⟩ := hj 1 _ rfl
      obtain ⟨z0, e0, _⟩ := DataW.trod_bool Tryd.underlying4 t0
      obtain ⟨z1, e1, _, wf1⟩ := DataW.trod_int Tryd.underlying3 t1
      simp at e0 e1
      subst e0 e1
      exact ⟨(z0, z1), i64_lo wf1, c0, c1⟩
    refine ⟨fun i => if hi : i < len then (key i hi).choose.1 else false, fun i => if hi : i < len then (key i hi).choose.2 else 0, by unfold maxLen at *; omega, fun i hi => ?_, fun i hi => ?_⟩
    · obtain ⟨g0, _, q0, _⟩ := key 0 (by omega)
      obtain ⟨b, off, rfl⟩ := add_none (x := x0) q0
      obtain ⟨_, c0, c1⟩ := (key i hi).choose_spec
      simp only [Addr.add_lit, dif_pos hi] at c0 c1 ⊢
      exact ⟨b, off, rfl, World.block_lt_of_cell? W _ c0, c0, by rw [Nat.add_assoc]; exact c1⟩
    · simp only [dif_pos hi]
      exact (key i hi).choose_spec.1

theorem mem_split (S : Nat → Bool) (x y z : Nat) (h1 : x ≤ y) (h2 : y ≤ z) : mem S x z = mem S x y ++ mem S y z := by
  obtain ⟨d, rfl⟩ : ∃ d, z = y + d := ⟨z - y, by omega⟩
  clear h2
  induction d with
  | zero => rw [Nat.add_zero, mem_self, List.append_nil]
  | succ d ih =>
    unfold mem at ih ⊢
    rw [show y + (d + 1) = (y + d) + 1 by omega, List.range_succ, List.filter_append, List.filter_append, ih, List.append_assoc]
    have e1 : x ≤ y + d := by omega
    simp [List.filter_cons, e1]

theorem mem_upd_lt (S : Nat → Bool) (a x i : Nat) (b : Bool) (h : i ≤ x) : mem (upd S x b) a i = mem S a i := by
  unfold mem
  apply List.filter_congr
  intro j hj
  simp at hj
  have : ¬ j = x := by omega
  simp [upd, this]
theorem mem_upd_gt (S : Nat → Bool) (a x i : Nat) (b : Bool) (h : x < a) : mem (upd S x b) a i = mem S a i := by
  unfold mem
  apply List.filter_congr
  intro j hj
  by_cases ha : a ≤ j
  · have : ¬ j = x := by omega
    simp [upd, this]
  · simp [ha]

/-- With one number more there is one more. -/
theorem len_upd (S : Nat → Bool) (x B : Nat) (h : x < B) : (mem (upd S x true) 0 B).length = (mem (upd S x false) 0 B).length + 1 := by
  have h0 : ∀ k, x ≤ k → k < x + 1 → 0 ≤ k → upd S x false k = false := by
    intro k h1 h2 _
    have e : k = x := by omega
    simp [upd, e]
  rw [mem_split _ 0 (x + 1) B (by omega) (by omega), mem_split (upd S x false) 0 (x + 1) B (by omega) (by omega), mem_succ _ 0 x (by omega) (by simp [upd]),
    mem_le (upd S x false) 0 x (x + 1) (by omega) h0,
    mem_upd_lt _ _ _ _ _ (Nat.le_refl x), mem_upd_lt _ _ _ _ _ (Nat.le_refl x), mem_upd_gt _ _ _ _ _ (by omega), mem_upd_gt _ _ _ _ _ (by omega)]
  simp; omega

end Go.Proofs.YtbojcmaljodpmaaDoor
