/-
  What was written is read, what was put is got: the plain law.
-/
import Derived.Test.YteieljkkcnpfmaaOrd0
namespace Go.Proofs.Yteieljkkcnpfmaa
open Go.ChangeShapes Go.WideShapes Go.ChangeAt Go.RowKit
set_option linter.unusedVariables false

/-- What Find tells of a fit object. -/
def FindF (w : World) (np : Nat) (ns : List Int) (sw fr : Bool) (e : Ending) (w' : World) : Prop :=
  ∃ s sf Ap cp An cn, e = .returned (.tuple #[.agg #[.int .i64 s, .int .i64 np, .int .i64 ns.length, .bool sw, .bool sf, .slice Ap np cp, .slice An ns.length cn, .bool fr], .bool true]) ∧ Rd w' An ns.length ns ∧ w.grownBy w' none
theorem find_fit {w : World} {v : Value} {O : List Ob} {Q : List (Int × Int)} (h : RM w v O Q) (hs : Smo O Q) (hfo : FitO O) (s : Int) (p : Nat) (hl : p < O.length) (hp : plc O s = p) (np : Nat) (ns : List Int) (sw fr : Bool) (e1 : O[p].ps.length = np) (e2 : O[p].ns = ns) (e3 : O[p].sw = sw) (e4 : O[p].fr = fr) :
    Calls Try.prog 15 #[v, .int .i64 s] w (FindF w np ns sw fr) := by
  refine (find_rm_some h hs s p hl hp).mono ?_
  rintro e w' ⟨Ap, cp, An, cn, rfl, _, hn, hg⟩
  obtain ⟨_, h1, h2, _⟩ := hfo p hl
  rw [h1, h2, e1, e2, e3, e4]
  rw [e2] at hn
  exact ⟨_, _, Ap, cp, An, cn, rfl, hn, hg⟩
section
variable {O : List Ob} {Q : List (Int × Int)} {r : Nat → Int} {p K : Nat} {v : Int} {k : Int} {b : Nat}
theorem wr_none (h : tgt O (r 0) = none) : flt O r 7 0 0 K 0 = 143 ∧ flt O r 5 0 1 K 0 = 143 :=
  ⟨flt_none (s := r 0) (by omega) (by omega) rfl h, flt_none (s := r 0) (by omega) (by omega) rfl h⟩
theorem wr_fr (h : tgt O (r 0) = some p) (hp : p < O.length) (hf : O[p].fr = true) : flt O r 7 0 0 K 0 = 142 ∧ flt O r 5 0 1 K 0 = 142 := by
  rw [← getD_at hp] at hf
  exact ⟨(flt_obj (s := r 0) (by omega) (by omega) rfl h).trans (fltO_fr hf), (flt_obj (s := r 0) (by omega) (by omega) rfl h).trans (fltO_fr hf)⟩
theorem wr_sw (h : tgt O (r 0) = some p) (hp : p < O.length) (hf : O[p].fr = false) (hw : O[p].sw = true) : flt O r 7 0 0 K 0 = 144 ∧ flt O r 5 0 1 K 0 = 144 :=
  ⟨(flt_obj (s := r 0) (by omega) (by omega) rfl h).trans (fltO_sw (by rw [getD_at hp]; simp [hf]) (by omega) (by rw [getD_at hp]; simp [hw])), (flt_obj (s := r 0) (by omega) (by omega) rfl h).trans (fltO_sw (by rw [getD_at hp]; simp [hf]) (by omega) (by rw [getD_at hp]; simp [hw]))⟩
theorem wr_n (h : tgt O (r 0) = some p) (hp : p < O.length) (hf : O[p].fr = false) (hw : O[p].sw = false) : flt O r 7 0 0 K 0 = (if O[p].ns.length ≤ K then 71 else 0) := by
  have e := (flt_obj (b := 0) (i := (K : Int)) (fresh := 0) (k := 7) (s := r 0) (by omega) (by omega) rfl h).trans (fltO_fld (n := (O.getD p ob0).ns.length) (by rw [getD_at hp]; simp [hf]) (by omega) (by rw [getD_at hp]; simp [hw]) rfl)
  rw [e, getD_at hp]
  by_cases hc : O[p].ns.length ≤ K
  · rw [if_pos hc, if_pos (by omega)]
  · rw [if_neg hc, if_neg (by omega)]
theorem wr_p (h : tgt O (r 0) = some p) (hp : p < O.length) (hf : O[p].fr = false) (hw : O[p].sw = false) : flt O r 5 0 1 K 0 = (if O[p].ps.length ≤ K then 71 else 0) := by
  have e := (flt_obj (b := 1) (i := (K : Int)) (fresh := 0) (k := 5) (s := r 0) (by omega) (by omega) rfl h).trans (fltO_fld (n := (O.getD p ob0).ps.length) (by rw [getD_at hp]; simp [hf]) (by omega) (by rw [getD_at hp]; simp [hw]) rfl)
  rw [e, getD_at hp]
  by_cases hc : O[p].ps.length ≤ K
  · rw [if_pos hc, if_pos (by omega)]
  · rw [if_neg hc, if_neg (by omega)]
theorem dO_w (h : tgt O (r 0) = some p) (h0 : flt O r 7 0 0 K 0 = 0) : dO O r 7 0 0 K v 0 = O.set p (md 7 K v (O.getD p ob0)) := by
  have e : dO O r 7 0 0 K v 0 = nO O r 7 0 0 K v 0 := if_pos h0
  rw [e, nO_md (.inr rfl), chg_some h]
  rfl
theorem dO_p (h : tgt O (r 0) = some p) (h0 : flt O r 5 0 1 K 0 = 0) : dO O r 5 0 1 K 0 0 = O.set p (md 5 K (r 1) (O.getD p ob0)) := by
  have e : dO O r 5 0 1 K 0 0 = nO O r 5 0 1 K 0 0 := if_pos h0
  rw [e, nO_md (.inl rfl), chg_some h]
  rfl
theorem rd_law (h : tgt O (r 0) = some p) (hp : p < O.length) (hf : O[p].fr = false) (hw : O[p].sw = false) (j : Nat) (hj : j < O[p].ns.length) :
    flt (O.set p (md 7 K v (O.getD p ob0))) r 6 0 0 j 0 = 0 ∧ dV (O.set p (md 7 K v (O.getD p ob0))) Q r 6 0 0 j 0 0 0 = (O[p].ns.set K v).getD j 0 := by
  have ht2 : tgt (O.set p (md 7 K v (O.getD p ob0))) (r 0) = some p := by rw [tgt_set O p _ hp (by rw [(md_keeps _ _ _ _).1, getD_at hp]), h]
  have e0 : flt (O.set p (md 7 K v (O.getD p ob0))) r 6 0 0 j 0 = 0 := by
    rw [flt_obj (s := r 0) (by omega) (by omega) rfl ht2, getD_set_eq hp, fltO_md, fltO_fld (n := (O.getD p ob0).ns.length) (by rw [getD_at hp]; simp [hf]) (by omega) (by rw [getD_at hp]; simp [hw]) rfl, getD_at hp, if_neg (by omega)]
  refine ⟨e0, ?_⟩
  have e1 : dV (O.set p (md 7 K v (O.getD p ob0))) Q r 6 0 0 j 0 0 0 = nV (O.set p (md 7 K v (O.getD p ob0))) Q r 6 0 0 j 0 0 0 := if_pos e0
  have e2 : nV (O.set p (md 7 K v (O.getD p ob0))) Q r 6 0 0 j 0 0 0 = (fnd (O.set p (md 7 K v (O.getD p ob0))) (r 0)).ns.getD j 0 := rfl
  rw [e1, e2, fnd_some ht2, getD_set_eq hp, getD_at hp]
  rfl
theorem get_law (h : tgt O (r 0) = some p) (hp : p < O.length) (hf : O[p].fr = false) (hw : O[p].sw = false) (hj : K < O[p].ps.length) :
    flt (O.set p (md 5 K (r 1) (O.getD p ob0))) r 4 5 0 K 0 = 0 ∧ dV (O.set p (md 5 K (r 1) (O.getD p ob0))) Q r 4 5 0 K 0 0 0 = r 1 ∧ dR (O.set p (md 5 K (r 1) (O.getD p ob0))) Q r 4 5 0 K 0 0 0 = upd r 5 (r 1) := by
  have ht2 : tgt (O.set p (md 5 K (r 1) (O.getD p ob0))) (r 0) = some p := by rw [tgt_set O p _ hp (by rw [(md_keeps _ _ _ _).1, getD_at hp]), h]
  have e0 : flt (O.set p (md 5 K (r 1) (O.getD p ob0))) r 4 5 0 K 0 = 0 := by
    rw [flt_obj (s := r 0) (by omega) (by omega) rfl ht2, getD_set_eq hp, fltO_md, fltO_fld (n := (O.getD p ob0).ps.length) (by rw [getD_at hp]; simp [hf]) (by omega) (by rw [getD_at hp]; simp [hw]) rfl, getD_at hp, if_neg (by omega)]
  have e2 : nV (O.set p (md 5 K (r 1) (O.getD p ob0))) Q r 4 5 0 K 0 0 0 = r 1 := by
    have e3 : nV (O.set p (md 5 K (r 1) (O.getD p ob0))) Q r 4 5 0 K 0 0 0 = (fnd (O.set p (md 5 K (r 1) (O.getD p ob0))) (r 0)).ps.getD K 0 := rfl
    rw [e3, fnd_some ht2, getD_set_eq hp, getD_at hp]
    show (O[p].ps.set K (r 1)).getD K 0 = r 1
    simp [hj]
  have e1 : dV (O.set p (md 5 K (r 1) (O.getD p ob0))) Q r 4 5 0 K 0 0 0 = nV (O.set p (md 5 K (r 1) (O.getD p ob0))) Q r 4 5 0 K 0 0 0 := if_pos e0
  have e4 : dR (O.set p (md 5 K (r 1) (O.getD p ob0))) Q r 4 5 0 K 0 0 0 = nR (O.set p (md 5 K (r 1) (O.getD p ob0))) Q r 4 5 0 K 0 0 0 := if_pos e0
  have e5 : nR (O.set p (md 5 K (r 1) (O.getD p ob0))) Q r 4 5 0 K 0 0 0 = upd r 5 (nV (O.set p (md 5 K (r 1) (O.getD p ob0))) Q r 4 5 0 K 0 0 0) := rfl
  exact ⟨e0, e1.trans e2, by rw [e4, e5, e2]⟩
theorem smo_md (h : Smo O Q) (hp : p < O.length) (i : Nat) (x : Int) : Smo (O.set p (md k i x (O.getD p ob0))) Q := by
  refine ⟨by rw [List.length_set]; exact h.1, h.2.1, fun y hy => ?_⟩
  rcases mem_set_ne hp hy with rfl | ⟨q, hq, _, rfl⟩
  · obtain ⟨_, _, _, e4, e5⟩ := md_keeps k i x (O.getD p ob0)
    rw [e4, e5, getD_at hp]
    exact h.2.2 _ (List.getElem_mem _)
  · exact h.2.2 _ (List.getElem_mem _)
end
theorem dQ57 {O : List Ob} {Q : List (Int × Int)} {r : Nat → Int} {k : Int} {a b : Nat} {i : Int} (hk : k = 5 ∨ k = 7) : dQ O Q r k a b i 0 0 = Q := by
  unfold dQ nQ
  split
  · exact if_neg (by omega)
  · rfl
theorem set_getD (ns : List Int) (K j : Nat) (v : Int) (hj : j < ns.length) : (ns.set K v).getD j 0 = if j = K then v else ns.getD j 0 := by
  by_cases e : j = K
  · subst e; simp [hj]
  · rw [if_neg e]; simp [List.getD, List.getElem?_set_ne (Ne.symm e)]
end Go.Proofs.Yteieljkkcnpfmaa
