/-
  A model in memory of its own.
-/
import Derived.Test.YteieljkkcnpfmaaOwn
namespace Go.Proofs.Yteieljkkcnpfmaa
open Go.ChangeShapes Go.WideShapes Go.ChangeAt Go.RowKit
set_option linter.unusedVariables false

def it (x : Int × Int) : List Value := [.int .i64 x.1, .int .i64 x.2]
def its (Q : List (Int × Int)) : List Value := Q.flatMap it
theorem its_length (L : List (Int × Int)) : (its L).length = L.length * 2 := by
  induction L with
  | nil => rfl
  | cons x L ih => simp only [its, List.flatMap_cons, List.length_append, List.length_cons] at ih ⊢; rw [ih]; simp [it]; omega
theorem its_get (L : List (Int × Int)) (i : Nat) (hi : i < L.length) : (its L)[i * 2]? = some (.int .i64 L[i].1) ∧ (its L)[i * 2 + 1]? = some (.int .i64 L[i].2) := by
  induction L generalizing i with
  | nil => simp at hi
  | cons x L ih =>
    cases i with
    | zero => exact ⟨rfl, rfl⟩
    | succ i =>
      have := ih i (by simpa using hi)
      have e1 : (i + 1) * 2 = i * 2 + 2 := by omega
      rw [e1]
      exact this
theorem one_its (Q : List (Int × Int)) : ∀ u ∈ its Q, u.oneCell' = true := by
  intro u hu
  obtain ⟨x, _, hx⟩ := List.mem_flatMap.1 hu
  simp [it] at hx
  rcases hx with rfl | rfl <;> rfl
theorem one_ovs {w : World} {L : List Ov} (h : ∀ x ∈ L, RO w x.o x.vp x.vn) : ∀ u ∈ ovs L, u.oneCell' = true := by
  intro u hu
  obtain ⟨x, hx, hu⟩ := List.mem_flatMap.1 hu
  obtain ⟨Ap, cp, An, cn, e1, e2, _, _⟩ := h x hx
  simp [ov, oc] at hu
  rcases hu with rfl | rfl | rfl | rfl | rfl | rfl | rfl | rfl
  · rfl
  · rfl
  · rfl
  · rfl
  · rfl
  · rw [e1]; rfl
  · rw [e2]; rfl
  · rfl

/-- Small enough. -/
def Sm (L : List Ov) (Q : List (Int × Int)) : Prop := L.length ≤ 100 ∧ Q.length ≤ 100 ∧ ∀ x ∈ L, x.o.ps.length ≤ 100 ∧ x.o.ns.length ≤ 100
def ap (u v : Value) : Prop := ∀ g, u.ownBlock = some g → v.ownBlock ≠ some g
theorem ap.symm {u v : Value} (h : ap u v) : ap v u := fun g e k => h g k e
def sls (L : List Ov) : List Value := L.flatMap fun x => [x.vp, x.vn]
/-- The objects' slices are their own, in the zone N. -/
structure Os (N : Nat → Prop) (w : World) (L : List Ov) : Prop where
  p : ∀ x ∈ L, w.ownsRow 0 3 1 x.vp x.o.ps.length (ints x.o.ps)
  n : ∀ x ∈ L, w.ownsRow 0 3 1 x.vn x.o.ns.length (ints x.o.ns)
  z : ∀ v ∈ sls L, ∀ g, v.ownBlock = some g → N g
  apart : (sls L).Pairwise ap
theorem Os.nil (N : Nat → Prop) (w : World) : Os N w [] := ⟨by simp, by simp, by simp [sls], List.Pairwise.nil⟩
theorem mem_sls {L : List Ov} {v : Value} : v ∈ sls L ↔ ∃ x ∈ L, v = x.vp ∨ v = x.vn := by
  simp [sls, List.mem_flatMap]
theorem Os.own {N : Nat → Prop} {w : World} {L : List Ov} (h : Os N w L) {v : Value} (hv : v ∈ sls L) : ∃ n xs, w.ownsRow 0 3 1 v n xs := by
  obtain ⟨x, hx, e⟩ := mem_sls.1 hv
  rcases e with rfl | rfl
  · exact ⟨_, _, h.p x hx⟩
  · exact ⟨_, _, h.n x hx⟩
theorem Os.zf {N Z : Nat → Prop} {w w' : World} {L : List Ov} (h : Os N w L) (f : Zf Z w w') (hz : ∀ v ∈ sls L, ∀ g, v.ownBlock = some g → ¬ Z g) : Os N w' L :=
  ⟨fun x hx => own_zf (h.p x hx) f (hz _ (mem_sls.2 ⟨x, hx, .inl rfl⟩)), fun x hx => own_zf (h.n x hx) f (hz _ (mem_sls.2 ⟨x, hx, .inr rfl⟩)), h.z, h.apart⟩
theorem Os.gb {N : Nat → Prop} {w w' : World} {L : List Ov} (h : Os N w L) (g : w.grownBy w' none) : Os N w' L := h.zf (Zf.of_gb (Z := fun _ => False) g (by simp)) (by simp)
theorem Os.wide {N N' : Nat → Prop} {w : World} {L : List Ov} (h : Os N w L) (hz : ∀ k, N k → N' k) : Os N' w L := ⟨h.p, h.n, fun v hv g e => hz g (h.z v hv g e), h.apart⟩
theorem Os.ro {N : Nat → Prop} {w : World} {L : List Ov} (h : Os N w L) : ∀ x ∈ L, RO w x.o x.vp x.vn := fun x hx => RO.own (h.p x hx) (h.n x hx)
/-- One object more, whose slices are new. -/
theorem Os.snoc {N : Nat → Prop} {w w' : World} {L : List Ov} (h : Os N w L) (g : w.grownBy w' none) (x : Ov) (hp : w'.ownsRow w.heap.size 3 1 x.vp x.o.ps.length (ints x.o.ps)) (hn : w'.ownsRow w.heap.size 3 1 x.vn x.o.ns.length (ints x.o.ns)) (ha : ap x.vp x.vn) (hz : ∀ k, w.heap.size ≤ k → k < w'.heap.size → N k) : Os N w' (L ++ [x]) := by
  have h' := h.gb g
  have hlt : ∀ v ∈ sls L, ∀ b, v.ownBlock = some b → b < w.heap.size := fun v hv b e => by
    obtain ⟨n, xs, ho⟩ := h.own hv
    exact own_lt ho e
  refine ⟨fun y hy => ?_, fun y hy => ?_, fun v hv b e => ?_, ?_⟩
  · rcases List.mem_append.1 hy with hy | hy
    · exact h'.p y hy
    · rw [List.mem_singleton.1 hy]; exact own_base hp (Nat.zero_le _)
  · rcases List.mem_append.1 hy with hy | hy
    · exact h'.n y hy
    · rw [List.mem_singleton.1 hy]; exact own_base hn (Nat.zero_le _)
  · unfold sls at hv
    rw [List.flatMap_append] at hv
    rcases List.mem_append.1 hv with hv | hv
    · exact h.z v hv b e
    · simp at hv
      rcases hv with rfl | rfl
      · exact hz b (hp.lt b e).1 (hp.lt b e).2
      · exact hz b (hn.lt b e).1 (hn.lt b e).2
  · unfold sls
    rw [List.flatMap_append]
    refine List.pairwise_append.2 ⟨h.apart, ?_, fun u hu v hv b e k => ?_⟩
    · simp [ha]
    · have h1 := hlt u hu b e
      simp at hv
      rcases hv with rfl | rfl
      · have := (hp.lt b k).1; omega
      · have := (hn.lt b k).1; omega

theorem own_set {w : World} {base : Nat} {e : TypeId} {size n g c : Nat} {xs : List Value} (h : w.ownsRow base e size (.slice (some ⟨g, 0, none⟩) n c) n xs) (j : Nat) (u : Value) : (w.setCell ⟨g, j, none⟩ u).ownsRow base e size (.slice (some ⟨g, 0, none⟩) n c) n (xs.set j u) := by
  refine ⟨by rw [List.length_set]; exact h.1, ?_⟩
  rcases h.2 with ⟨h0, _⟩ | ⟨g', cap, cur, hv, hb, hg, hn, hm, hs, ht⟩
  · cases h0
  · injection hv with h1 h2 h3
    injection h1 with h1
    injection h1 with h1 _ _
    subst h1
    subst h3
    refine .inr ⟨g, c, cur.setIfInBounds j u, rfl, hb, heap_setCell_same w g j cur e u hg, hn, hm, by simpa using hs, ?_⟩
    rw [Array.toList_setIfInBounds, List.take_set, ht]
theorem set_skip {α : Type} (a b : List α) (n k : Nat) (v : α) (h : a.length = n) : (a ++ b).set (n + k) v = a ++ b.set k v := by
  subst h
  rw [List.set_append_right _ _ (by omega)]
  congr 2
  omega
/-- The eight cells of object i are laid anew. -/
theorem ovs_set8 (L : List Ov) (i : Nat) (hi : i < L.length) (y : Ov) (v0 v1 v2 v3 v4 v5 v6 v7 : Value) (hy : ov y = [v0, v1, v2, v3, v4, v5, v6, v7]) :
    ((((((((ovs L).set (i * 8) v0).set (i * 8 + 1) v1).set (i * 8 + 2) v2).set (i * 8 + 3) v3).set (i * 8 + 4) v4).set (i * 8 + 5) v5).set (i * 8 + 6) v6).set (i * 8 + 7) v7 = ovs (L.set i y) := by
  induction L generalizing i with
  | nil => simp at hi
  | cons x L ih =>
    cases i with
    | zero =>
      simp only [ovs, List.flatMap_cons, List.set_cons_zero, hy]
      simp [ov, oc]
    | succ i =>
      have hx : (ov x).length = 8 := rfl
      have := ih i (by simpa using hi)
      simp only [ovs, List.flatMap_cons, List.set_cons_succ] at this ⊢
      rw [show (i + 1) * 8 = 8 + i * 8 from by omega]
      simp only [Nat.add_assoc]
      rw [set_skip _ _ 8 _ _ hx, set_skip _ _ 8 _ _ hx, set_skip _ _ 8 _ _ hx, set_skip _ _ 8 _ _ hx, set_skip _ _ 8 _ _ hx, set_skip _ _ 8 _ _ hx, set_skip _ _ 8 _ _ hx, set_skip _ _ 8 _ _ hx, this]
/-- One cell of object i is laid anew. -/
theorem ovs_set1 (L : List Ov) (i : Nat) (hi : i < L.length) (y : Ov) (j : Nat) (hj : j < 8) (v : Value) (hy : (ov L[i]).set j v = ov y) : (ovs L).set (i * 8 + j) v = ovs (L.set i y) := by
  induction L generalizing i with
  | nil => simp at hi
  | cons x L ih =>
    have hx : (ov x).length = 8 := rfl
    cases i with
    | zero =>
      simp only [ovs, List.flatMap_cons, List.set_cons_zero, Nat.zero_mul, Nat.zero_add]
      simp only [List.getElem_cons_zero] at hy
      rw [List.set_append_left _ _ (by omega), hy]
    | succ i =>
      have := ih i (by simpa using hi) (by simpa using hy)
      simp only [ovs, List.flatMap_cons, List.set_cons_succ] at this ⊢
      rw [show (i + 1) * 8 + j = 8 + (i * 8 + j) from by omega, set_skip _ _ 8 _ _ hx, this]

/-- An owned model in the zone N. -/
structure Om (N : Nat → Prop) (w : World) (vo vq : Value) (L : List Ov) (Q : List (Int × Int)) : Prop where
  row : w.ownsRow 0 41 8 vo L.length (ovs L)
  que : w.ownsRow 0 43 2 vq Q.length (its Q)
  os : Os N w L
  zo : ∀ g, vo.ownBlock = some g → N g
  zq : ∀ g, vq.ownBlock = some g → N g
theorem Om.zf {N Z : Nat → Prop} {w w' : World} {vo vq : Value} {L : List Ov} {Q : List (Int × Int)} (h : Om N w vo vq L Q) (f : Zf Z w w') (hz : ∀ k, N k → ¬ Z k) : Om N w' vo vq L Q :=
  ⟨own_zf h.row f (fun g e => hz g (h.zo g e)), own_zf h.que f (fun g e => hz g (h.zq g e)), h.os.zf f (fun v hv g e => hz g (h.os.z v hv g e)), h.zo, h.zq⟩
theorem Om.gb {N : Nat → Prop} {w w' : World} {vo vq : Value} {L : List Ov} {Q : List (Int × Int)} (h : Om N w vo vq L Q) (g : w.grownBy w' none) : Om N w' vo vq L Q := h.zf (Zf.of_gb (Z := fun _ => False) g (by simp)) (by simp)

/-- What reads as a model. -/
def RM (w : World) (v : Value) (objs : List Ob) (Q : List (Int × Int)) : Prop :=
  ∃ Ao co Aq cq L, v = .agg #[.slice Ao L.length co, .slice Aq Q.length cq] ∧ obs L = objs ∧ RL w Ao L ∧ Rc w Aq Q.length 2 (its Q)
theorem RM.gb {w w' : World} {v : Value} {objs : List Ob} {Q : List (Int × Int)} (h : RM w v objs Q) (g : w.grownBy w' none) : RM w' v objs Q := by
  obtain ⟨Ao, co, Aq, cq, L, h1, h2, h3, h4⟩ := h
  exact ⟨Ao, co, Aq, cq, L, h1, h2, h3.gb g, h4.gb g⟩
theorem Om.rm {N : Nat → Prop} {w : World} {vo vq : Value} {L : List Ov} {Q : List (Int × Int)} (h : Om N w vo vq L Q) : RM w (.agg #[vo, vq]) (obs L) Q := by
  obtain ⟨Ao, co, rfl, r1, _, _⟩ := Rc.of_own h.row
  obtain ⟨Aq, cq, rfl, r2, _, _⟩ := Rc.of_own h.que
  exact ⟨Ao, co, Aq, cq, L, rfl, rfl, ⟨r1, h.os.ro⟩, r2⟩
end Go.Proofs.Yteieljkkcnpfmaa
