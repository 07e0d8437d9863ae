/-
  Deeds, rows of registers, slices of objects that came in, opened to their cells.
-/
import Derived.Test.YteieljkkcnpfmaaOpen
namespace Go.Proofs.Yteieljkkcnpfmaa
open Go.ChangeShapes Go.WideShapes Go.ChangeAt Go.RowKit
open Go.Deep
set_option linter.unusedVariables false

section
variable {H : Type} {enc : TypeId × Value → H} {W : World} {base : Nat} {spare : Nat → Bool} {held : Bool}
theorem k3 : Try.prog.cellsOf 3 = 1 := by kernel_rfl
theorem k4 : Try.prog.cellsOf 4 = 1 := by kernel_rfl
theorem k38 : Try.prog.cellsOf 38 = 4 := by kernel_rfl
theorem k39 : Try.prog.cellsOf 39 = 1 := by kernel_rfl
theorem k41 : Try.prog.cellsOf 41 = 8 := by kernel_rfl
theorem k43 : Try.prog.cellsOf 43 = 2 := by kernel_rfl
theorem k26 : Try.prog.cellsOf 26 = 5 := by kernel_rfl
theorem k24 : Try.prog.cellsOf 24 = 6 := by kernel_rfl
theorem int_at {n : Nat} {cs : List Value} {j : Nat} {y : Option (DataW H × List MemPlace)} (hj : j < cs.length) (hy : ∃ z, y = some z) (h : DataW.trod enc Try.prog W base spare held n 3 ((cs.drop j).take (Try.prog.cellsOf 3)) = y) : ∃ z : Int, cs[j]? = some (.int .i64 z) ∧ -9223372036854775808 ≤ z := by
  obtain ⟨z, rfl⟩ := hy
  rw [k3, List.drop_eq_getElem_cons hj] at h
  simp only [List.take_succ_cons, List.take_zero] at h
  obtain ⟨u, e, _, wf⟩ := DataW.trod_int Try.underlying3 h
  simp at e
  exact ⟨u, by rw [List.getElem?_eq_getElem hj, e], i64_lo wf⟩
theorem bool_at {n : Nat} {cs : List Value} {j : Nat} {y : Option (DataW H × List MemPlace)} (hj : j < cs.length) (hy : ∃ z, y = some z) (h : DataW.trod enc Try.prog W base spare held n 4 ((cs.drop j).take (Try.prog.cellsOf 4)) = y) : ∃ z : Bool, cs[j]? = some (.bool z) := by
  obtain ⟨z, rfl⟩ := hy
  rw [k4, List.drop_eq_getElem_cons hj] at h
  simp only [List.take_succ_cons, List.take_zero] at h
  obtain ⟨u, e, _⟩ := DataW.trod_bool Try.underlying4 h
  simp at e
  exact ⟨u, by rw [List.getElem?_eq_getElem hj, e]⟩
theorem ints_at {n : Nat} {cs : List Value} {j : Nat} {y : Option (DataW H × List MemPlace)} (hj : j < cs.length) (hy : ∃ z, y = some z) (h : DataW.trod enc Try.prog W base spare held n 39 ((cs.drop j).take (Try.prog.cellsOf 39)) = y) : ∃ A len cap zs, cs[j]? = some (.slice A len cap) ∧ len ≤ cap ∧ Rd W A len zs ∧ ∀ x ∈ zs, -9223372036854775808 ≤ x := by
  obtain ⟨z, rfl⟩ := hy
  rw [k39, List.drop_eq_getElem_cons hj] at h
  simp only [List.take_succ_cons, List.take_zero] at h
  have hc : cs[j]? = some cs[j] := List.getElem?_eq_getElem hj
  rw [hc]
  generalize cs[j] = v at *
  have hsl : ∃ A len cap, v = .slice A len cap ∧ len ≤ cap := by
    rcases open_ints Try.underlying39 Try.underlying3 (by kernel_rfl) h with ⟨hcs, _⟩ | ⟨y, l, c, zs, hcs, _, hl, _⟩
    · simp at hcs; exact ⟨_, _, _, hcs, Nat.le_refl _⟩
    · simp at hcs; exact ⟨_, _, _, hcs, hl⟩
  obtain ⟨A, len, cap, rfl, hle⟩ := hsl
  obtain ⟨zs, h1, h2⟩ := open_rd h
  exact ⟨A, len, cap, zs, rfl, hle, h1, h2⟩
/-- A deed, by its value. -/
theorem open_deed {r : Reach} {b0 : Nat} {v : Value} {d : DataW H} {p : List MemPlace} (hv : Value.okWide Try.prog W r b0 26 v) (h : DataW.Trod enc Try.prog W base spare held 26 v d p) :
    ∃ D : Nat → Int, v = .agg (dcs D) ∧ ∀ j, j < 5 → -9223372036854775808 ≤ D j := by
  obtain ⟨cs, rfl, hsz⟩ := okWide_struct Try.underlying26 hv
  obtain ⟨fuel, hf⟩ := h
  obtain ⟨ys, n, _, _, hl, hyl, hg⟩ := DataW.trod_struct Try.underlying26 hf
  rw [k26] at hsz
  have hl5 : cs.toList.length = 5 := by simpa using hsz
  have hyl : ys.length = 5 := hyl
  have hy : ∀ j, j < 5 → ∃ z, ys[j]? = some z := fun j hj => ⟨_, List.getElem?_eq_getElem (by omega)⟩
  simp only [Value.cells] at hg
  obtain ⟨z0, e0, w0⟩ := int_at (j := 0) (by omega) (hy 0 (by omega)) (hg 0 _ rfl)
  obtain ⟨z1, e1, w1⟩ := int_at (j := 1) (by omega) (hy 1 (by omega)) (hg 1 _ rfl)
  obtain ⟨z2, e2, w2⟩ := int_at (j := 2) (by omega) (hy 2 (by omega)) (hg 2 _ rfl)
  obtain ⟨z3, e3, w3⟩ := int_at (j := 3) (by omega) (hy 3 (by omega)) (hg 3 _ rfl)
  obtain ⟨z4, e4, w4⟩ := int_at (j := 4) (by omega) (hy 4 (by omega)) (hg 4 _ rfl)
  refine ⟨dd z0 z1 z2 z3 z4, ?_, fun j hj => ?_⟩
  · congr 1
    apply Array.ext'
    rw [dcs_dd]
    match hcs : cs.toList, hl5 with
    | [c0, c1, c2, c3, c4], _ =>
      rw [hcs] at e0 e1 e2 e3 e4
      simp at e0 e1 e2 e3 e4
      rw [e0, e1, e2, e3, e4]
  · rcases (by omega : j = 0 ∨ j = 1 ∨ j = 2 ∨ j = 3 ∨ j = 4) with rfl | rfl | rfl | rfl | rfl <;> assumption
/-- A row of registers, by its value. -/
theorem open_regs {r : Reach} {b0 : Nat} {v : Value} {d : DataW H} {p : List MemPlace} (hv : Value.okWide Try.prog W r b0 24 v) (h : DataW.Trod enc Try.prog W base spare held 24 v d p) :
    ∃ R : Nat → Int, v = .agg (rcs R) ∧ ∀ j, j < 6 → -9223372036854775808 ≤ R j := by
  have hv2 : ∃ cs, v = .agg cs ∧ cs.size = 6 := by
    simp only [Value.okWide, Try.underlying24] at hv
    obtain ⟨cs, h1, h2, _⟩ := hv
    exact ⟨cs, h1, by rw [h2, k24]⟩
  obtain ⟨cs, rfl, hsz⟩ := hv2
  obtain ⟨fuel, hf⟩ := h
  obtain ⟨ys, n, _, _, hl, hyl, hg⟩ := DataW.trod_array Try.underlying24 hf
  have hl6 : cs.toList.length = 6 := by simpa using hsz
  have hy : ∀ j, j < 6 → ∃ z, ys[j]? = some z := fun j hj => ⟨_, List.getElem?_eq_getElem (by omega)⟩
  have key : ∀ j, j < 6 → ∃ z : Int, cs.toList[j]? = some (.int .i64 z) ∧ -9223372036854775808 ≤ z := fun j hj => by
    have h0 := hg j hj
    rw [show j * Try.prog.cellsOf 3 = j from by rw [k3]; omega] at h0
    exact int_at (cs := cs.toList) (by omega) (hy j hj) h0
  obtain ⟨z0, e0, w0⟩ := key 0 (by omega)
  obtain ⟨z1, e1, w1⟩ := key 1 (by omega)
  obtain ⟨z2, e2, w2⟩ := key 2 (by omega)
  obtain ⟨z3, e3, w3⟩ := key 3 (by omega)
  obtain ⟨z4, e4, w4⟩ := key 4 (by omega)
  obtain ⟨z5, e5, w5⟩ := key 5 (by omega)
  refine ⟨fun j => if j = 0 then z0 else if j = 1 then z1 else if j = 2 then z2 else if j = 3 then z3 else if j = 4 then z4 else z5, ?_, fun j hj => ?_⟩
  · congr 1
    apply Array.ext'
    match hcs : cs.toList, hl6 with
    | [c0, c1, c2, c3, c4, c5], _ =>
      rw [hcs] at e0 e1 e2 e3 e4 e5
      simp at e0 e1 e2 e3 e4 e5
      rw [e0, e1, e2, e3, e4, e5]
      rfl
  · rcases (by omega : j = 0 ∨ j = 1 ∨ j = 2 ∨ j = 3 ∨ j = 4 ∨ j = 5) with rfl | rfl | rfl | rfl | rfl | rfl <;> assumption
/-- An object's numbers are as long as they may be, and no longer. -/
def Cp (y : Ov) : Prop := ∃ A n c, y.vn = .slice A n c ∧ n ≤ c
/-- An object's numbers are Go's. -/
def Lo (o : Ob) : Prop := -9223372036854775808 ≤ o.s ∧ (∀ x ∈ o.ps, -9223372036854775808 ≤ x) ∧ ∀ x ∈ o.ns, -9223372036854775808 ≤ x
theorem trod38' {fuel : Nat} {cs : List Value} {x : DataW H × List MemPlace} (h : DataW.trod enc Try.prog W base spare held fuel 38 cs = some x) :
    cs.length = 4 ∧ (∃ z, cs[0]? = some (.int .i64 z)) ∧ (∃ z, cs[1]? = some (.int .i64 z)) ∧ (∃ b, cs[2]? = some (.bool b)) ∧ ∃ b, cs[3]? = some (.bool b) := by
  obtain ⟨ys, n, _, _, hl, hyl, hf⟩ := DataW.trod_struct Try.underlying38 h
  rw [k38] at hl
  have hyl : ys.length = 4 := hyl
  have hy : ∀ j, j < 4 → ∃ z, ys[j]? = some z := fun j hj => ⟨_, List.getElem?_eq_getElem (by omega)⟩
  obtain ⟨z0, e0, _⟩ := int_at (j := 0) (by omega) (hy 0 (by omega)) (hf 0 _ rfl)
  obtain ⟨z1, e1, _⟩ := int_at (j := 1) (by omega) (hy 1 (by omega)) (hf 1 _ rfl)
  obtain ⟨b2, e2⟩ := bool_at (j := 2) (by omega) (hy 2 (by omega)) (hf 2 _ rfl)
  obtain ⟨b3, e3⟩ := bool_at (j := 3) (by omega) (hy 3 (by omega)) (hf 3 _ rfl)
  exact ⟨hl, ⟨z0, e0⟩, ⟨z1, e1⟩, ⟨b2, e2⟩, ⟨b3, e3⟩⟩
/-- An object's eight cells. -/
theorem trod41 {fuel : Nat} {cs : List Value} {x : DataW H × List MemPlace} (h : DataW.trod enc Try.prog W base spare held fuel 41 cs = some x) :
    ∃ y : Ov, cs = ov y ∧ RO W y.o y.vp y.vn ∧ Lo y.o ∧ Cp y := by
  obtain ⟨ys, n, _, _, hl, hyl, hf⟩ := DataW.trod_struct Try.underlying41 h
  rw [k41] at hl
  have hyl : ys.length = 5 := hyl
  have hy : ∀ j, j < 5 → ∃ z, ys[j]? = some z := fun j hj => ⟨_, List.getElem?_eq_getElem (by omega)⟩
  obtain ⟨z0, e0, w0⟩ := int_at (j := 0) (by omega) (hy 0 (by omega)) (hf 0 _ rfl)
  have h1 : DataW.trod enc Try.prog W base spare held n 38 ((cs.drop 1).take (Try.prog.cellsOf 38)) = ys[1]? := hf 1 _ rfl
  rw [k38] at h1
  obtain ⟨u1, hu1⟩ := hy 1 (by omega)
  rw [hu1] at h1
  obtain ⟨_, ⟨s0, f0⟩, ⟨s1, f1⟩, ⟨s2, f2⟩, ⟨s3, f3⟩⟩ := trod38' h1
  obtain ⟨Ap, np, cp, ps, ep, _, rp, lp⟩ := ints_at (j := 5) (by omega) (hy 2 (by omega)) (hf 2 _ rfl)
  obtain ⟨An, nn, cn, ns, en, hcn, rn, ln⟩ := ints_at (j := 6) (by omega) (hy 3 (by omega)) (hf 3 _ rfl)
  obtain ⟨fr, e7⟩ := bool_at (j := 7) (by omega) (hy 4 (by omega)) (hf 4 _ rfl)
  have hp := rp.len
  have hn := rn.len
  rw [ints_length] at hp hn
  obtain rfl : ps.length = np := by omega
  obtain rfl : ns.length = nn := by omega
  refine ⟨⟨⟨z0, s0, s1, s2, s3, ps, ns, fr⟩, .slice Ap ps.length cp, .slice An ns.length cn⟩, ?_, ⟨Ap, cp, An, cn, rfl, rfl, rp, rn⟩, ⟨w0, lp, ln⟩, ⟨_, _, _, rfl, hcn⟩⟩
  match cs, hl with
  | [c0, c1, c2, c3, c4, c5, c6, c7], _ =>
    simp at e0 f0 f1 f2 f3 ep en e7
    subst e0 f0 f1 f2 f3 ep en e7
    rfl
/-- A slice of objects. -/
theorem open_objs {fuel : Nat} {a : Option Addr} {len cap : Nat} {x : DataW H × List MemPlace} (h : DataW.trod enc Try.prog W base spare held fuel 22 [.slice a len cap] = some x) : ∃ L : List Ov, L.length = len ∧ RL W a L ∧ ∀ y ∈ L, Lo y.o ∧ Cp y := by
  rcases open_slice Try.underlying22 h with ⟨hcs, _⟩ | ⟨x0, len', cap', m, n, D, Pl, hcs, _, hl, hm, hmm, _, hi⟩
  · simp at hcs
    obtain ⟨rfl, rfl, rfl⟩ := hcs
    exact ⟨[], rfl, ⟨Rc.zero, by simp⟩, by simp⟩
  · simp at hcs
    obtain ⟨rfl, rfl, rfl⟩ := hcs
    have hml : len ≤ m := by rw [hmm]; split <;> omega
    have key : ∀ i, i < len → ∃ y : Ov, (∀ j, j < 8 → W.cell? ((x0.add (i * 8)).add j) = (ov y)[j]?) ∧ RO W y.o y.vp y.vn ∧ Lo y.o ∧ Cp y := by
      intro i hil
      obtain ⟨cs', hcc, ht'⟩ := hi i (by omega)
      rw [k41] at hcc
      obtain ⟨_, hcl, hat⟩ := World.cells?_some hcc
      obtain ⟨y, rfl, q2, q3⟩ := trod41 ht'
      exact ⟨y, fun j hj => hat j hj, q2, q3⟩
    haveI : Inhabited Ov := ⟨⟨ob0, .bool true, .bool true⟩⟩
    obtain ⟨f, hf⟩ := choose_lt key
    refine ⟨(List.range len).map f, by simp, ⟨⟨?_, ?_, fun hn => ?_⟩, ?_⟩, ?_⟩
    · rw [ovs_length]
    · rw [List.length_map, List.length_range]; unfold maxLen at hm; omega
    · rw [List.length_map, List.length_range] at hn
      have hx : ∃ b off, x0 = ⟨b, off, none⟩ := by
        have q0 := (hf 0 hn).1 0 (by omega)
        simp only [Nat.zero_mul] at q0
        have q1 : W.cell? ((x0.add 0).add 0) = some (.int .i64 (f 0).o.s) := q0
        obtain ⟨b, off, sp⟩ := x0
        obtain ⟨b', off', e⟩ := add_none q1
        simp [Addr.add] at e
        exact ⟨b, off, by rw [e.2.2]⟩
      obtain ⟨b, off, rfl⟩ := hx
      have hc : ∀ i, i < len → ∀ j, j < 8 → W.cell? ⟨b, off + i * 8 + j, none⟩ = (ov (f i))[j]? := fun i hil j hj => by
        have := (hf i hil).1 j hj
        simp only [Addr.add_lit] at this
        exact this
      have q0 : W.cell? ⟨b, off + 0 * 8 + 0, none⟩ = some (.int .i64 (f 0).o.s) := hc 0 hn 0 (by omega)
      refine ⟨b, off, rfl, World.block_lt_of_cell? W _ q0, fun j hj => ?_⟩
      rw [List.length_map, List.length_range] at hj
      have hq : j / 8 < len := by omega
      have hr : j % 8 < 8 := by omega
      have e1 := hc (j / 8) hq (j % 8) hr
      have e2 := ovs_get ((List.range len).map f) (j / 8) (by simpa using hq) (j % 8) hr
      rw [show j / 8 * 8 + j % 8 = j from by omega] at e2
      rw [show off + j / 8 * 8 + j % 8 = off + j from by omega] at e1
      rw [e1, e2]
      simp
    · intro y hy
      obtain ⟨i, hi', rfl⟩ := List.mem_map.1 hy
      exact (hf i (List.mem_range.1 hi')).2.1
    · intro y hy
      obtain ⟨i, hi', rfl⟩ := List.mem_map.1 hy
      exact (hf i (List.mem_range.1 hi')).2.2
end
end Go.Proofs.Yteieljkkcnpfmaa
