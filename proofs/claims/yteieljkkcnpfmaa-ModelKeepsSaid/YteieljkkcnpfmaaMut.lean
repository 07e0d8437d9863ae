/-
  What the deeds do to a model in memory of its own.
-/
import Derived.Test.YteieljkkcnpfmaaOm
namespace Go.Proofs.Yteieljkkcnpfmaa
open Go.ChangeShapes Go.WideShapes Go.ChangeAt Go.RowKit
set_option linter.unusedVariables false

theorem Os.sep {N : Nat → Prop} {w : World} {L : List Ov} (h : Os N w L) :
    (∀ p (hp : p < L.length), ap L[p].vp L[p].vn) ∧ ∀ p q (hp : p < L.length) (hq : q < L.length), p ≠ q → ap L[p].vp L[q].vp ∧ ap L[p].vp L[q].vn ∧ ap L[p].vn L[q].vp ∧ ap L[p].vn L[q].vn := by
  have h0 := h.apart
  unfold sls at h0
  rw [List.pairwise_flatMap] at h0
  obtain ⟨h1, h2⟩ := h0
  refine ⟨fun p hp => ?_, fun p q hp hq hne => ?_⟩
  · have := h1 L[p] (List.getElem_mem _)
    simpa using this
  · rw [List.pairwise_iff_getElem] at h2
    rcases Nat.lt_or_gt_of_ne hne with hl | hl
    · have := h2 p q hp hq hl
      exact ⟨this _ (by simp) _ (by simp), this _ (by simp) _ (by simp), this _ (by simp) _ (by simp), this _ (by simp) _ (by simp)⟩
    · have := h2 q p hq hp hl
      exact ⟨(this _ (by simp) _ (by simp)).symm, (this _ (by simp) _ (by simp)).symm, (this _ (by simp) _ (by simp)).symm, (this _ (by simp) _ (by simp)).symm⟩
theorem set_self {α : Type} {xs : List α} {k : Nat} {v : α} (h : xs[k]? = some v) : xs.set k v = xs := by
  obtain ⟨hk, e⟩ := List.getElem?_eq_some_iff.1 h
  subst e
  exact List.set_getElem_self hk
theorem sls_set {L : List Ov} {p : Nat} (hp : p < L.length) (y : Ov) (h1 : y.vp = L[p].vp) (h2 : y.vn = L[p].vn) : sls (L.set p y) = sls L := by
  unfold sls
  rw [List.flatMap_def, List.flatMap_def, List.map_set]
  congr 1
  have : [y.vp, y.vn] = (List.map (fun x => [x.vp, x.vn]) L)[p]'(by simpa using hp) := by simp [h1, h2]
  rw [this, List.set_getElem_self]
theorem obs_set (L : List Ov) (p : Nat) (y : Ov) : obs (L.set p y) = (obs L).set p y.o := by simp [obs, List.map_set]
theorem mem_set_ne {α : Type} {L : List α} {p : Nat} {y x : α} (hp : p < L.length) (hx : x ∈ L.set p y) : x = y ∨ ∃ q, ∃ (hq : q < L.length), q ≠ p ∧ x = L[q] := by
  obtain ⟨q, hq, e⟩ := List.getElem_of_mem hx
  have hq' : q < L.length := by simpa using hq
  by_cases hpq : p = q
  · subst hpq; left; rw [← e]; simp
  · right; exact ⟨q, hq', fun x => hpq x.symm, by rw [← e, List.getElem_set_ne hpq]⟩

section
variable {N : Nat → Prop} {w : World} {vo vq : Value} {L : List Ov} {Q : List (Int × Int)}
theorem ints_set (xs : List Int) (j : Nat) (v : Int) : (ints xs).set j (.int .i64 v) = ints (xs.set j v) := by simp [ints, List.map_set]
/-- A pointer is laid anew. -/
theorem Om.put (h : Om N w vo vq L Q) {p g c j : Nat} (hp : p < L.length) (hv : L[p].vp = .slice (some ⟨g, 0, none⟩) L[p].o.ps.length c) (v : Int) :
    Om N (w.setCell ⟨g, j, none⟩ (.int .i64 v)) vo vq (L.set p ⟨{ L[p].o with ps := L[p].o.ps.set j v }, L[p].vp, L[p].vn⟩) Q := by
  have hmem : L[p] ∈ L := List.getElem_mem _
  have hown := h.os.p L[p] hmem
  have hgb : L[p].vp.ownBlock = some g := by rw [hv]; rfl
  have f : Zf (fun k => k = g) w (w.setCell ⟨g, j, none⟩ (.int .i64 v)) := (Zf.refl (fun k => k = g) w).set (by rfl)
  obtain ⟨s1, s2⟩ := h.os.sep
  refine ⟨?_, own_zf h.que f (fun b e k => own_own h.que hown (by decide) e (by rw [hgb, k])), ⟨fun x hx => ?_, fun x hx => ?_, ?_, ?_⟩, h.zo, h.zq⟩
  · have hr := own_zf h.row f (fun b e k => own_own h.row hown (by decide) e (by rw [hgb, k]))
    rw [List.length_set]
    have e : ovs (L.set p ⟨{ L[p].o with ps := L[p].o.ps.set j v }, L[p].vp, L[p].vn⟩) = ovs L := by
      have := ovs_set1 L p hp ⟨{ L[p].o with ps := L[p].o.ps.set j v }, L[p].vp, L[p].vn⟩ 0 (by omega) (.int .i64 L[p].o.s) (by rfl)
      rw [← this]
      have hg : (ovs L)[p * 8 + 0]? = some (.int .i64 L[p].o.s) := by rw [ovs_get L p hp 0 (by omega)]; rfl
      exact set_self hg
    rw [e]; exact hr
  · rcases mem_set_ne hp hx with rfl | ⟨q, hq, hne, rfl⟩
    · have := own_set (hv ▸ hown : w.ownsRow 0 3 1 (.slice (some ⟨g, 0, none⟩) L[p].o.ps.length c) L[p].o.ps.length (ints L[p].o.ps)) j (.int .i64 v)
      rw [ints_set] at this
      simp only [List.length_set]
      rw [hv]; exact this
    · exact own_zf (h.os.p _ (List.getElem_mem _)) f (fun b e k => (s2 p q hp hq (Ne.symm hne)).1 g hgb (k ▸ e))
  · rcases mem_set_ne hp hx with rfl | ⟨q, hq, hne, rfl⟩
    · exact own_zf (h.os.n L[p] hmem) f (fun b e k => s1 p hp g hgb (k ▸ e))
    · exact own_zf (h.os.n _ (List.getElem_mem _)) f (fun b e k => (s2 p q hp hq (Ne.symm hne)).2.1 g hgb (k ▸ e))
  · rw [sls_set hp ⟨{ L[p].o with ps := L[p].o.ps.set j v }, L[p].vp, L[p].vn⟩ rfl rfl]; exact h.os.z
  · rw [sls_set hp ⟨{ L[p].o with ps := L[p].o.ps.set j v }, L[p].vp, L[p].vn⟩ rfl rfl]; exact h.os.apart
/-- A number is laid anew. -/
theorem Om.write (h : Om N w vo vq L Q) {p g c j : Nat} (hp : p < L.length) (hv : L[p].vn = .slice (some ⟨g, 0, none⟩) L[p].o.ns.length c) (v : Int) :
    Om N (w.setCell ⟨g, j, none⟩ (.int .i64 v)) vo vq (L.set p ⟨{ L[p].o with ns := L[p].o.ns.set j v }, L[p].vp, L[p].vn⟩) Q := by
  have hmem : L[p] ∈ L := List.getElem_mem _
  have hown := h.os.n L[p] hmem
  have hgb : L[p].vn.ownBlock = some g := by rw [hv]; rfl
  have f : Zf (fun k => k = g) w (w.setCell ⟨g, j, none⟩ (.int .i64 v)) := (Zf.refl (fun k => k = g) w).set (by rfl)
  obtain ⟨s1, s2⟩ := h.os.sep
  refine ⟨?_, own_zf h.que f (fun b e k => own_own h.que hown (by decide) e (by rw [hgb, k])), ⟨fun x hx => ?_, fun x hx => ?_, ?_, ?_⟩, h.zo, h.zq⟩
  · have hr := own_zf h.row f (fun b e k => own_own h.row hown (by decide) e (by rw [hgb, k]))
    rw [List.length_set]
    have e : ovs (L.set p ⟨{ L[p].o with ns := L[p].o.ns.set j v }, L[p].vp, L[p].vn⟩) = ovs L := by
      have := ovs_set1 L p hp ⟨{ L[p].o with ns := L[p].o.ns.set j v }, L[p].vp, L[p].vn⟩ 0 (by omega) (.int .i64 L[p].o.s) (by rfl)
      rw [← this]
      have hg : (ovs L)[p * 8 + 0]? = some (.int .i64 L[p].o.s) := by rw [ovs_get L p hp 0 (by omega)]; rfl
      exact set_self hg
    rw [e]; exact hr
  · rcases mem_set_ne hp hx with rfl | ⟨q, hq, hne, rfl⟩
    · exact own_zf (h.os.p L[p] hmem) f (fun b e k => (s1 p hp).symm g hgb (k ▸ e))
    · exact own_zf (h.os.p _ (List.getElem_mem _)) f (fun b e k => (s2 p q hp hq (Ne.symm hne)).2.2.1 g hgb (k ▸ e))
  · rcases mem_set_ne hp hx with rfl | ⟨q, hq, hne, rfl⟩
    · have := own_set (hv ▸ hown : w.ownsRow 0 3 1 (.slice (some ⟨g, 0, none⟩) L[p].o.ns.length c) L[p].o.ns.length (ints L[p].o.ns)) j (.int .i64 v)
      rw [ints_set] at this
      simp only [List.length_set]
      rw [hv]; exact this
    · exact own_zf (h.os.n _ (List.getElem_mem _)) f (fun b e k => (s2 p q hp hq (Ne.symm hne)).2.2.2 g hgb (k ▸ e))
  · rw [sls_set hp ⟨{ L[p].o with ns := L[p].o.ns.set j v }, L[p].vp, L[p].vn⟩ rfl rfl]; exact h.os.z
  · rw [sls_set hp ⟨{ L[p].o with ns := L[p].o.ns.set j v }, L[p].vp, L[p].vn⟩ rfl rfl]; exact h.os.apart
/-- An object is freed. -/
theorem Om.free {A : Option Addr} {c n g : Nat} (h : Om N w (.slice (some ⟨g, 0, none⟩) L.length c) vq L Q) {p : Nat} (hp : p < L.length) :
    Om N (w.setCell ⟨g, p * 8 + 7, none⟩ (.bool true)) (.slice (some ⟨g, 0, none⟩) L.length c) vq (L.set p ⟨{ L[p].o with fr := true }, L[p].vp, L[p].vn⟩) Q := by
  have f : Zf (fun k => k = g) w (w.setCell ⟨g, p * 8 + 7, none⟩ (.bool true)) := (Zf.refl (fun k => k = g) w).set (by rfl)
  have hrow := h.row
  have ho : ∀ v ∈ sls L, ∀ b, v.ownBlock = some b → ¬ b = g := fun v hv b e k => by
    obtain ⟨n', xs', hv'⟩ := h.os.own hv
    exact own_own hv' hrow (by decide) e (by rw [k]; rfl)
  have hos := h.os.zf f ho
  refine ⟨?_, own_zf h.que f (fun b e k => own_own h.que hrow (by decide) e (by rw [k]; rfl)), ⟨fun x hx => ?_, fun x hx => ?_, ?_, ?_⟩, h.zo, h.zq⟩
  · have := own_set hrow (p * 8 + 7) (.bool true)
    rw [ovs_set1 L p hp ⟨{ L[p].o with fr := true }, L[p].vp, L[p].vn⟩ 7 (by omega) (.bool true) (by rfl)] at this
    rw [List.length_set]; exact this
  · rcases mem_set_ne hp hx with rfl | ⟨q, hq, hne, rfl⟩
    · exact hos.p L[p] (List.getElem_mem _)
    · exact hos.p _ (List.getElem_mem _)
  · rcases mem_set_ne hp hx with rfl | ⟨q, hq, hne, rfl⟩
    · exact hos.n L[p] (List.getElem_mem _)
    · exact hos.n _ (List.getElem_mem _)
  · rw [sls_set hp ⟨{ L[p].o with fr := true }, L[p].vp, L[p].vn⟩ rfl rfl]; exact h.os.z
  · rw [sls_set hp ⟨{ L[p].o with fr := true }, L[p].vp, L[p].vn⟩ rfl rfl]; exact h.os.apart
end
end Go.Proofs.Yteieljkkcnpfmaa
