/-
  A deed changes one object at most, or lays one, or takes one item: the plain law.
-/
import Derived.Test.YteieljkkcnpfmaaOrd0
namespace Go.Proofs.Yteieljkkcnpfmaa
open Go.ChangeShapes Go.WideShapes Go.ChangeAt Go.RowKit
set_option linter.unusedVariables false

/-- An object keeps its serial and shape; what is freed stays freed. -/
def Kept (o o' : Ob) : Prop := o'.s = o.s ∧ o'.sp = o.sp ∧ o'.sd = o.sd ∧ o'.sw = o.sw ∧ o'.sf = o.sf ∧ (o.fr = true → o'.fr = true)
theorem Kept.refl (o : Ob) : Kept o o := ⟨rfl, rfl, rfl, rfl, rfl, id⟩
/-- What a deed leaves of the objects: all but the one at p are as they were. -/
structure Kps (O O2 : List Ob) (more : Nat) : Prop where
  len : O2.length = O.length + more
  kept : ∀ i (h : i < O.length) (h2 : i < O2.length), Kept O[i] O2[i]
  one : ∃ p, ∀ i (h : i < O.length) (h2 : i < O2.length), i ≠ p → O2[i] = O[i]
theorem Kps.app (O : List Ob) (o : Ob) : Kps O (O ++ [o]) 1 :=
  ⟨by simp, fun i h h2 => by rw [List.getElem_append_left h]; exact Kept.refl _, 0, fun i h h2 _ => List.getElem_append_left h⟩
theorem Kps.same (O : List Ob) : Kps O O 0 := ⟨rfl, fun i h h2 => Kept.refl _, 0, fun i h h2 _ => rfl⟩
theorem Kps.set (O : List Ob) (p : Nat) (hp : p < O.length) (o : Ob) (h : Kept (O.getD p ob0) o) : Kps O (O.set p o) 0 := by
  rw [getD_at hp] at h
  refine ⟨by simp, fun i h1 h2 => ?_, p, fun i h1 h2 hne => List.getElem_set_ne (Ne.symm hne) _⟩
  by_cases e : p = i
  · subst e; rw [List.getElem_set_self]; exact h
  · rw [List.getElem_set_ne e]; exact Kept.refl _
def moreN (k : Int) : Nat := if k = 1 ∨ k = 2 ∨ k = 3 then 1 else 0
theorem Kps.chg (O : List Ob) (s : Int) (f : Ob → Ob) (hf : ∀ o, Kept o (f o)) : Kps O (chg O s f) 0 := by
  unfold Go.Proofs.Yteieljkkcnpfmaa.chg
  cases ht : tgt O s with
  | none => exact Kps.same O
  | some p => exact Kps.set O p (tgt_inv ht).2.1 _ (hf _)
theorem kps_nO {O : List Ob} {r : Nat → Int} {k : Int} {a b : Nat} {i n fresh : Int} (h1 : 1 ≤ k) (h14 : k ≤ 14) : Kps O (nO O r k a b i n fresh) (moreN k) := by
  rcases (by omega : k = 1 ∨ k = 2 ∨ k = 3 ∨ k = 4 ∨ k = 5 ∨ k = 6 ∨ k = 7 ∨ k = 8 ∨ k = 9 ∨ k = 10 ∨ k = 11 ∨ k = 12 ∨ k = 13 ∨ k = 14) with rfl | rfl | rfl | rfl | rfl | rfl | rfl | rfl | rfl | rfl | rfl | rfl | rfl | rfl
  · exact Kps.app O _
  · exact Kps.app O _
  · exact Kps.app O _
  · exact Kps.same O
  · exact Kps.chg O (r a) (fun o => { o with ps := o.ps.set i.toNat (r b) }) (fun o => ⟨rfl, rfl, rfl, rfl, rfl, id⟩)
  · exact Kps.same O
  · exact Kps.chg O (r a) (fun o => { o with ns := o.ns.set i.toNat n }) (fun o => ⟨rfl, rfl, rfl, rfl, rfl, id⟩)
  · exact Kps.chg O (r a) (fun o => { o with fr := true }) (fun o => ⟨rfl, rfl, rfl, rfl, rfl, fun _ => rfl⟩)
  · exact Kps.same O
  · exact Kps.same O
  · exact Kps.same O
  · exact Kps.same O
  · exact Kps.same O
  · exact Kps.same O
/-- What is laid bears the new serial. -/
theorem nO_last {O : List Ob} {r : Nat → Int} {k : Int} {a b : Nat} {i n fresh : Int} (h : k = 1 ∨ k = 2 ∨ k = 3) : ((nO O r k a b i n fresh).getD O.length ob0).s = fresh := by
  have key : ∀ o : Ob, (O ++ [o]).getD O.length ob0 = o := fun o => by simp [List.getD]
  rcases h with rfl | rfl | rfl
  · exact congrArg Ob.s (key ⟨fresh, i, n, false, false, List.replicate i.toNat 0, List.replicate n.toNat 0, false⟩)
  · exact congrArg Ob.s (key ⟨fresh, i, n, false, true, List.replicate i.toNat 0, List.replicate n.toNat 0, false⟩)
  · exact congrArg Ob.s (key ⟨fresh, 1, 0, true, false, [r b], [], false⟩)
theorem nO_take {O : List Ob} {r : Nat → Int} {a b : Nat} {i n fresh : Int} : nO O r 10 a b i n fresh = O := rfl
theorem nR_else {O : List Ob} {Q : List (Int × Int)} {r : Nat → Int} {k : Int} {a b : Nat} {i n fresh seen : Int} (j : Nat) (hj : j ≠ a) : nR O Q r k a b i n fresh seen j = r j := by
  unfold nR
  split
  · exact if_neg hj
  · split
    · exact if_neg hj
    · split
      · exact if_neg hj
      · rfl
/-- The queue, and what was taken. -/
theorem nQ_law {O : List Ob} {Q : List (Int × Int)} {r : Nat → Int} {k : Int} {a b : Nat} {i n fresh seen : Int} :
    nQ Q k seen = Q ∨ (k = 10 ∧ ∃ h : 0 < Q.length, (nQ Q k seen).length + 1 = Q.length ∧ nV O Q r k a b i n fresh seen = Q[0].1) := by
  by_cases hk : k = 10
  · subst hk
    have e1 : nQ Q 10 seen = takeQ Q seen := rfl
    have e2 : nV O Q r 10 a b i n fresh seen = takeV Q seen := rfl
    rw [e1, e2]
    by_cases h : 0 < Q.length
    · by_cases hs : Q[0].2 < seen
      · obtain ⟨q1, q2⟩ := take_yes h hs
        right
        refine ⟨rfl, h, ?_, q1⟩
        rw [q2, List.length_tail]
        omega
      · exact .inl (take_no h hs).2
    · exact .inl (take_nil h).2
  · exact .inl (if_neg hk)
/-- How many of the first i objects have changed. -/
def cnt (O O2 : List Ob) : Nat → Nat
  | 0 => 0
  | i + 1 => cnt O O2 i + if O.getD i ob0 = O2.getD i ob0 then 0 else 1
theorem cnt_zero (O O2 : List Ob) : cnt O O2 0 = 0 := rfl
theorem cnt_succ (O O2 : List Ob) (i : Nat) : cnt O O2 (i + 1) = cnt O O2 i + if O.getD i ob0 = O2.getD i ob0 then 0 else 1 := rfl
theorem cnt_le {O O2 : List Ob} {m : Nat} (h : Kps O O2 m) (i : Nat) (hi : i ≤ O.length) : cnt O O2 i ≤ 1 := by
  obtain ⟨p, hp⟩ := h.one
  have hl := h.len
  have key : ∀ i, i ≤ O.length → cnt O O2 i ≤ if p < i then 1 else 0 := by
    intro i
    induction i with
    | zero => intro _; simp [cnt_zero]
    | succ i ih =>
      intro hi
      have := ih (by omega)
      rw [cnt_succ]
      by_cases e : i = p
      · subst e
        have e0 : (if i < i then 1 else 0) = 0 := if_neg (by omega)
        have e1 : (if i < i + 1 then 1 else 0) = 1 := if_pos (by omega)
        rw [e0] at this
        rw [e1]
        split <;> omega
      · have e2 := hp i (by omega) (by omega) e
        have e3 : O.getD i ob0 = O2.getD i ob0 := by rw [getD_at (by omega), getD_at (by omega), e2]
        rw [if_pos e3]
        split at this <;> split <;> omega
  have := key i hi
  split at this <;> omega
theorem cnt_same (O : List Ob) (i : Nat) : cnt O O i = 0 := by
  induction i with
  | zero => rfl
  | succ i ih => rw [cnt_succ, ih, if_pos rfl]
end Go.Proofs.Yteieljkkcnpfmaa
