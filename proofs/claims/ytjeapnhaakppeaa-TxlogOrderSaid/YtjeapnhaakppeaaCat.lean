/-
  Rows beside the log, more: a new row, a box, a row appended to a row.
-/
import Derived.Test.YtjeapnhaakppeaaWm
import Derived.Maps.AppendAt
import Derived.Laws.AppendOwnNone
namespace Go.Proofs.Ytjeapnhaakppeaa
open Go.ChangeShapes Go.WideShapes Go.ChangeAt Go.RowKit Go.Shelf
set_option linter.unusedVariables false
section
variable {w wr w2 w4 : World} {bp n m : Nat} {R K : List Int} {H : List (Int × Int)} {U : List (Int × Int × Int × Int)} {rows : List Row} {Z : Nat → Prop}
theorem own_base {w : World} {base base' : Nat} {e : TypeId} {size n : Nat} {v : Value} {xs : List Value} (h : w.ownsRow base e size v n xs) (hb : base' ≤ base) : w.ownsRow base' e size v n xs :=
  ⟨h.1, h.2.imp id fun ⟨g, cap, cur, a, b, c⟩ => ⟨g, cap, cur, a, Nat.le_trans hb b, c⟩⟩
/-- A row that was made behind wr. -/
theorem Wm.cons {r : Row} (h : Wm w wr bp n m R K H U rows) (g : wr.grownBy w2 none) (ho : w2.ownsRow wr.heap.size r.e r.size r.v r.n r.xs) : Wm w w2 bp n m R K H U (r :: rows) := by
  have hh := h.gb g
  obtain ⟨Z, x, y, z⟩ := h
  refine ⟨Z, x.gb g, fun s hs => ?_, List.Pairwise.cons (fun s hs b e k => ?_) z⟩
  · rcases List.mem_cons.1 hs with rfl | hs
    · refine ⟨own_base ho x.gr.size, fun b e k => ?_⟩
      have := (ho.lt b e).1
      have := x.1.zl' b k
      omega
    · exact (y s hs).gb g
  · have := (ho.lt b e).1
    have := own_lt (y s hs).1 k
    omega
theorem Wm.tail {r : Row} (h : Wm w wr bp n m R K H U (r :: rows)) : Wm w wr bp n m R K H U rows := by
  obtain ⟨Z, x, y, z⟩ := h
  exact ⟨Z, x, fun s hs => y s (by simp [hs]), (List.pairwise_cons.1 z).2⟩
/-- A box of an undo, as a row of one. -/
theorem Wm.box (h : Wm w wr bp n m R K H U rows) (a b c d : Int) : Wm w (wr.alloc (.cells #[.int .i64 a, .int .i64 b, .int .i64 c, .int .i64 d] 38)) bp n m R K H U (ur (.slice (some ⟨wr.heap.size, 0, none⟩) 1 1) [(a, b, c, d)] :: rows) :=
  h.cons (World.grownBy_alloc wr _ none) ⟨by simp [ur, uvs, uv], .inr ⟨wr.heap.size, 1, _, rfl, Nat.le_refl _, heap_alloc_new wr _, Nat.le_refl _, by unfold maxLen; omega, rfl, by simp [ur, uvs, uv]⟩⟩
theorem Wm.boxed {B : Nat} {a b c d : Int} (h : Wm w wr bp n m R K H U rows) (hr : ur (.slice (some ⟨B, 0, none⟩) 1 1) [(a, b, c, d)] ∈ rows) :
    wr.cell? ⟨B, 0, none⟩ = some (.int .i64 a) ∧ wr.cell? ⟨B, 1, none⟩ = some (.int .i64 b) ∧ wr.cell? ⟨B, 2, none⟩ = some (.int .i64 c) ∧ wr.cell? ⟨B, 3, none⟩ = some (.int .i64 d) := by
  obtain ⟨Z, x, y, z⟩ := h
  have ho : wr.ownsRow w.heap.size 38 4 (.slice (some ⟨B, 0, none⟩) 1 1) 1 (uvs [(a, b, c, d)]) := (y _ hr).1
  obtain ⟨g, e, hc⟩ := own_cells ho (by omega)
  have e : B = g := by simpa using e
  subst e
  have h0 := hc 0 (by omega); have h1 := hc 1 (by omega); have h2 := hc 2 (by omega); have h3 := hc 3 (by omega)
  simp [uvs, uv] at h0 h1 h2 h3
  exact ⟨h0, h1, h2, h3⟩
/-- The roots, as a row more. -/
theorem Wm.roots_row (h : Wm w wr bp n m R K H U rows) : Calls Try.prog 13 #[.pointer (some ⟨bp, 0, none⟩)] wr fun e w2 => ∃ v, e = .returned v ∧ Wm w w2 bp n m R K H U (ir v (rootsL R K H U) :: rows) := by
  obtain ⟨Z, x, y, z⟩ := h
  exact (roots_any bp Z n m R K H U wr x.1).mono fun e w2 ⟨⟨v, e1, ho⟩, g⟩ => ⟨v, e1, Wm.cons ⟨Z, x, y, z⟩ g ho⟩
/-- A turn of the first row. -/
theorem Wm.turn {r : Row} {v : Value} {k : Nat} {ys : List Value} (h : Wm w wr bp n m R K H U (r :: rows)) (hown : w4.ownsRow w.heap.size r.e r.size v k ys) (hg : wr.grownBy w4 r.v.ownBlock) (hat : v.ownBlock = r.v.ownBlock ∨ v.ownBlock = some wr.heap.size) :
    Wm w w4 bp n m R K H U (⟨r.e, r.size, v, k, ys⟩ :: rows) := by
  obtain ⟨Z, x, y, z⟩ := h
  have hr := y r (by simp)
  obtain ⟨z1, z2⟩ := List.pairwise_cons.1 z
  refine ⟨Z, x.gbr hg (fun b e => ⟨hr.2 b e, (hr.1.lt b e).1⟩), fun s hs => ?_, List.Pairwise.cons (fun s hs b e k => ?_) z2⟩
  · rcases List.mem_cons.1 hs with rfl | hs
    · refine ⟨hown, fun b e k => ?_⟩
      have e : v.ownBlock = some b := e
      rcases hat with q | q
      · exact hr.2 b (q.symm.trans e) k
      · rw [q] at e; cases e; have := x.1.zl' _ k; omega
    · exact Ow.gbr (y s (by simp [hs])) hg (fun b e k => z1 s hs b e k)
  · have e : v.ownBlock = some b := e
    rcases hat with q | q
    · exact z1 s hs b (q.symm.trans e) k
    · rw [q] at e; cases e; have := own_lt (y s (by simp [hs])).1 k; omega
/-- append(t, x...): the first row takes in another. -/
theorem Wm.cat {ops : Array Oper} {rest : List Oper} {o : Oper} {a : Act} {Q : Exit → Act → World → Prop} {v vx : Value} {ts xs : List Int} (h : Wm w wr bp n m R K H U (ir v ts :: rows)) (hin : ir vx xs ∈ rows) (hgd : o.guard = none) (s x : Operand)
    (ho : o.op = .call { callee := .builtin .append, args := #[s, x], argTypes := #[22, 22] }) (hs : a.eval s = v) (hx : a.eval x = vx) (hl : ts.length + xs.length ≤ 10000)
    (hk : ∀ v' w', Wm w w' bp n m R K H U (ir v' (ts ++ xs) :: rows) → wpList Try.prog ops Q rest (a.put o.dst v') w') : wpList Try.prog ops Q (o :: rest) a wr := by
  obtain ⟨i0, hi0, hz0, hz1, hz2⟩ := info_parts info3
  have hv : wr.ownsRow w.heap.size 3 1 v ts.length (ints ts) := h.own (r := ir v ts) (by simp)
  have hvx : wr.ownsRow w.heap.size 3 1 vx xs.length (ints xs) := h.own (r := ir vx xs) (by simp [hin])
  rcases hvx.2 with ⟨e1, e2⟩ | ⟨g, cap, cur, e1, _, hg, hc, hm, _, _⟩
  · have hxs : xs = [] := List.eq_nil_of_length_eq_zero e2
    subst hxs
    refine wpList_append_own_none hgd s x 22 ho w.heap.size 3 i0 1 Try.underlying22 hi0 v ts.length (ints ts) hs hv (by rw [hx, e1]) (hk v wr ?_)
    rw [List.append_nil]; exact h
  · refine wpList_append_own_at (P := Try.prog) wr hgd s x 22 ho w.heap.size 3 i0 (.int .i64 0) 1 8 Try.underlying22 hi0 hz0 hz1 hz2 rfl (by decide) v ts.length (ints ts) hs hv ⟨g, 0, none⟩ xs.length cap (ints xs) (by rw [hx, e1]) (by rw [ints_length]; omega)
      (fun j u hu => ?_) (one_ints xs) (by unfold maxLen; omega) (by omega) h.gr.size (fun v' w' q1 q2 _ q4 => hk v' w' ?_)
    · have hj : j < xs.length := by have := (List.getElem?_eq_some_iff.1 hu).1; rwa [ints_length] at this
      subst e1
      rw [Addr.add_lit, Nat.zero_add, hvx.cellAt j (by omega)]; exact hu
    · have := Wm.turn (r := ir v ts) h q1 q2 q4
      unfold ir at this ⊢
      rw [List.length_append, show ints (ts ++ xs) = ints ts ++ ints xs from by simp [ints]]
      exact this
end
end Go.Proofs.Ytjeapnhaakppeaa
