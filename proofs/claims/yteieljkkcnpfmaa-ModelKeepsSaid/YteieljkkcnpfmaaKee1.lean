/-
  Items that came in; objects of a model, one by one.
-/
import Derived.Test.YteieljkkcnpfmaaKee0
namespace Go.Proofs.Yteieljkkcnpfmaa
open Go.ChangeShapes Go.WideShapes Go.ChangeAt Go.RowKit
open Go.Deep
set_option linter.unusedVariables false
section
variable {H : Type} {enc : TypeId × Value → H} {W : World} {base : Nat} {spare : Nat → Bool} {held : Bool}
theorem trod43 {fuel : Nat} {cs : List Value} {x : DataW H × List MemPlace} (h : DataW.trod enc Try.prog W base spare held fuel 43 cs = some x) :
    ∃ y : Int × Int, cs = it y ∧ -9223372036854775808 ≤ y.1 := by
  obtain ⟨ys, n, _, _, hl, hyl, hf⟩ := DataW.trod_struct Try.underlying43 h
  rw [k43] at hl
  have hyl : ys.length = 2 := hyl
  have hy : ∀ j, j < 2 → ∃ z, ys[j]? = some z := fun j hj => ⟨_, List.getElem?_eq_getElem (by omega)⟩
  obtain ⟨z0, e0, w0⟩ := int_at (j := 0) (by omega) (hy 0 (by omega)) (hf 0 _ rfl)
  obtain ⟨z1, e1, w1⟩ := int_at (j := 1) (by omega) (hy 1 (by omega)) (hf 1 _ rfl)
  refine ⟨(z0, z1), ?_, w0⟩
  match cs, hl with
  | [c0, c1], _ =>
    simp at e0 e1
    subst e0 e1
    rfl
theorem its_get2 (Q : List (Int × Int)) (i : Nat) (hi : i < Q.length) (j : Nat) (hj : j < 2) : (its Q)[i * 2 + j]? = (it Q[i])[j]? := by
  induction Q generalizing i with
  | nil => simp at hi
  | cons x Q ih =>
    have hx : (it x).length = 2 := rfl
    cases i with
    | zero =>
      simp only [its, List.flatMap_cons, Nat.zero_mul, Nat.zero_add, List.getElem_cons_zero]
      rw [List.getElem?_append_left (by omega)]
    | succ i =>
      simp only [its, List.flatMap_cons, List.getElem_cons_succ]
      rw [List.getElem?_append_right (by omega)]
      have := ih i (by simpa using hi)
      rw [← this, hx]
      simp only [its]
      congr 1
      omega
/-- A slice of items. -/
theorem open_items {fuel : Nat} {a : Option Addr} {len cap : Nat} {x : DataW H × List MemPlace} (h : DataW.trod enc Try.prog W base spare held fuel 23 [.slice a len cap] = some x) : ∃ Q : List (Int × Int), Q.length = len ∧ Rc W a Q.length 2 (its Q) ∧ ∀ y ∈ Q, -9223372036854775808 ≤ y.1 := by
  rcases open_slice Try.underlying23 h with ⟨hcs, _⟩ | ⟨x0, len', cap', m, n, D, Pl, hcs, _, hl, hm, hmm, _, hi⟩
  · simp at hcs
    obtain ⟨rfl, rfl, rfl⟩ := hcs
    exact ⟨[], rfl, Rc.zero, by simp⟩
  · simp at hcs
    obtain ⟨rfl, rfl, rfl⟩ := hcs
    have hml : len ≤ m := by rw [hmm]; split <;> omega
    have key : ∀ i, i < len → ∃ y : Int × Int, (∀ j, j < 2 → W.cell? ((x0.add (i * 2)).add j) = (it y)[j]?) ∧ -9223372036854775808 ≤ y.1 := by
      intro i hil
      obtain ⟨cs', hcc, ht'⟩ := hi i (by omega)
      rw [k43] at hcc
      obtain ⟨_, hcl, hat⟩ := World.cells?_some hcc
      obtain ⟨y, rfl, q2⟩ := trod43 ht'
      exact ⟨y, fun j hj => hat j hj, q2⟩
    obtain ⟨f, hf⟩ := choose_lt key
    refine ⟨(List.range len).map f, by simp, ⟨?_, ?_, fun hn => ?_⟩, ?_⟩
    · rw [its_length]
    · rw [List.length_map, List.length_range]; unfold maxLen at hm; omega
    · rw [List.length_map, List.length_range] at hn
      have hx : ∃ b off, x0 = ⟨b, off, none⟩ := by
        have q0 := (hf 0 hn).1 0 (by omega)
        simp only [Nat.zero_mul] at q0
        have q1 : W.cell? ((x0.add 0).add 0) = some (.int .i64 (f 0).1) := q0
        obtain ⟨b, off, sp⟩ := x0
        obtain ⟨b', off', e⟩ := add_none q1
        simp [Addr.add] at e
        exact ⟨b, off, by rw [e.2.2]⟩
      obtain ⟨b, off, rfl⟩ := hx
      have hc : ∀ i, i < len → ∀ j, j < 2 → W.cell? ⟨b, off + i * 2 + j, none⟩ = (it (f i))[j]? := fun i hil j hj => by
        have := (hf i hil).1 j hj
        simp only [Addr.add_lit] at this
        exact this
      have q0 : W.cell? ⟨b, off + 0 * 2 + 0, none⟩ = some (.int .i64 (f 0).1) := hc 0 hn 0 (by omega)
      refine ⟨b, off, rfl, World.block_lt_of_cell? W _ q0, fun j hj => ?_⟩
      rw [List.length_map, List.length_range] at hj
      have e1 := hc (j / 2) (by omega) (j % 2) (by omega)
      have e2 := its_get2 ((List.range len).map f) (j / 2) (by simp; omega) (j % 2) (by omega)
      rw [show j / 2 * 2 + j % 2 = j from by omega] at e2
      rw [show off + j / 2 * 2 + j % 2 = off + j from by omega] at e1
      rw [e1, e2]
      simp
    · intro y hy
      obtain ⟨i, hi', rfl⟩ := List.mem_map.1 hy
      exact (hf i (List.mem_range.1 hi')).2
end
/-- A model's object i: its eight cells. -/
structure Cel (w : World) (A : Option Addr) (i : Nat) (o : Ob) (b off : Nat) (vp vn : Value) : Prop where
  at_ : A = some ⟨b, off, none⟩
  lt : b < w.heap.size
  c0 : w.cell? ⟨b, off + i * 8, none⟩ = some (.int .i64 o.s)
  c1 : w.cell? ⟨b, off + i * 8 + 1, none⟩ = some (.int .i64 o.sp)
  c2 : w.cell? ⟨b, off + i * 8 + 2, none⟩ = some (.int .i64 o.sd)
  c3 : w.cell? ⟨b, off + i * 8 + 3, none⟩ = some (.bool o.sw)
  c4 : w.cell? ⟨b, off + i * 8 + 4, none⟩ = some (.bool o.sf)
  c5 : w.cell? ⟨b, off + i * 8 + 5, none⟩ = some vp
  c6 : w.cell? ⟨b, off + i * 8 + 6, none⟩ = some vn
  c7 : w.cell? ⟨b, off + i * 8 + 7, none⟩ = some (.bool o.fr)
  ro : RO w o vp vn
theorem RM.lens {w : World} {A B : Option Addr} {n c m e : Nat} {O : List Ob} {Q : List (Int × Int)} (h : RM w (.agg #[.slice A n c, .slice B m e]) O Q) : n = O.length ∧ m = Q.length := by
  obtain ⟨Ao, Aq, co, cq, e⟩ := h.two
  injection e with e
  injection e with e
  injection e with e1 e2
  injection e2 with e2 _
  injection e1 with _ e1 _
  injection e2 with _ e2 _
  exact ⟨e1, e2⟩
theorem RM.cel {w : World} {A B : Option Addr} {n c m e : Nat} {O : List Ob} {Q : List (Int × Int)} (h : RM w (.agg #[.slice A n c, .slice B m e]) O Q) (i : Nat) (hi : i < O.length) : ∃ b off vp vn, Cel w A i O[i] b off vp vn := by
  obtain ⟨Ao, co, Aq, cq, L, h1, rfl, h3, h4⟩ := h
  injection h1 with h1
  injection h1 with h1
  injection h1 with e1 e2
  injection e1 with e1 _ _
  have hl : i < L.length := by simpa [obs] using hi
  obtain ⟨b, off, hA, hb, k0, k1, k2, k3, k4, k5, k6, k7⟩ := h3.cells i hl
  have e := obs_get L i hl
  rw [e]
  exact ⟨b, off, _, _, ⟨e1.trans hA, hb, k0, k1, k2, k3, k4, k5, k6, k7, h3.2 _ (List.getElem_mem _)⟩⟩
/-- A queue's first item. -/
theorem RM.item {w : World} {A B : Option Addr} {n c m e : Nat} {O : List Ob} {Q : List (Int × Int)} (h : RM w (.agg #[.slice A n c, .slice B m e]) O Q) (hq : 0 < Q.length) : ∃ b off, B = some ⟨b, off, none⟩ ∧ b < w.heap.size ∧ w.cell? ⟨b, off, none⟩ = some (.int .i64 Q[0].1) := by
  obtain ⟨Ao, co, Aq, cq, L, h1, rfl, h3, h4⟩ := h
  injection h1 with h1
  injection h1 with h1
  injection h1 with e1 e2
  injection e2 with e2 _
  injection e2 with e2 _ _
  obtain ⟨b, off, hA, hb, hc, _⟩ := its_at h4 0 hq
  exact ⟨b, off, e2.trans hA, hb, by simpa using hc⟩
/-- A model of one object, out of a block of eight cells. -/
theorem RM.one {w : World} {g : Nat} {o : Ob} {vp vn : Value} (hb : Blk w g 41 #[.int .i64 o.s, .int .i64 o.sp, .int .i64 o.sd, .bool o.sw, .bool o.sf, vp, vn, .bool o.fr]) (hr : RO w o vp vn) : RM w (.agg #[.slice (some ⟨g, 0, none⟩) 1 1, .slice none 0 0]) [o] [] :=
  ⟨some ⟨g, 0, none⟩, 1, none, 0, [⟨o, vp, vn⟩], rfl, rfl, ⟨⟨rfl, by simp, fun _ => ⟨g, 0, rfl, hb.lt, fun j hj => by
    rw [Nat.zero_add, hb.cell]
    simp [ovs, ov, oc]⟩⟩, fun x hx => by rw [List.mem_singleton.1 hx]; exact hr⟩, Rc.zero⟩
theorem RM.one2 {w : World} {g : Nat} {o : Ob} {s sp sd : Int} {sw sf fr : Bool} {vp vn : Value} (h : o.s = s ∧ o.sp = sp ∧ o.sd = sd ∧ o.sw = sw ∧ o.sf = sf ∧ o.fr = fr) (hb : Blk w g 41 #[.int .i64 s, .int .i64 sp, .int .i64 sd, .bool sw, .bool sf, vp, vn, .bool fr]) (hr : RO w o vp vn) : RM w (.agg #[.slice (some ⟨g, 0, none⟩) 1 1, .slice none 0 0]) [o] [] := by
  obtain ⟨rfl, rfl, rfl, rfl, rfl, rfl⟩ := h
  exact RM.one hb hr
theorem al4 (w : World) (a b c d : Array Value) (t : TypeId) : w.grownBy ((((w.alloc (.cells a t)).alloc (.cells b t)).alloc (.cells c t)).alloc (.cells d t)) none ∧ Blk ((((w.alloc (.cells a t)).alloc (.cells b t)).alloc (.cells c t)).alloc (.cells d t)) (w.heap.size + 1 + 1) t c ∧ Blk ((((w.alloc (.cells a t)).alloc (.cells b t)).alloc (.cells c t)).alloc (.cells d t)) (w.heap.size + 1 + 1 + 1) t d := by
  obtain ⟨g1, _, _⟩ := al2 w a b t t
  obtain ⟨g2, b1, b2⟩ := al2 ((w.alloc (.cells a t)).alloc (.cells b t)) c d t t
  exact ⟨grownBy_trans g1 g2, by simpa using b1, by simpa using b2⟩
end Go.Proofs.Yteieljkkcnpfmaa
