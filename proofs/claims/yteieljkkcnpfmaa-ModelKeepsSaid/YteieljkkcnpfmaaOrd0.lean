/-
  Two writes, in either order: the plain law; boxes that are laid anew.
-/
import Derived.Test.YteieljkkcnpfmaaLaw0
namespace Go.Proofs.Yteieljkkcnpfmaa
open Go.ChangeShapes Go.WideShapes Go.ChangeAt Go.RowKit
set_option linter.unusedVariables false

/-- A field is laid anew. -/
def md (k : Int) (i : Nat) (x : Int) (o : Ob) : Ob := if k = 5 then { o with ps := o.ps.set i x } else { o with ns := o.ns.set i x }
theorem md_keeps (k : Int) (i : Nat) (x : Int) (o : Ob) : (md k i x o).s = o.s ∧ (md k i x o).fr = o.fr ∧ (md k i x o).sw = o.sw ∧ (md k i x o).ps.length = o.ps.length ∧ (md k i x o).ns.length = o.ns.length := by
  unfold md
  split <;> simp
theorem fltO_md (k' : Int) (i' : Nat) (x : Int) (o : Ob) (k i : Int) : fltO (md k' i' x o) k i = fltO o k i := by
  obtain ⟨_, h2, h3, h4, h5⟩ := md_keeps k' i' x o
  unfold fltO
  rw [h2, h3, h4, h5]
theorem md_comm {k1 k2 : Int} {i1 i2 : Nat} {x1 x2 : Int} {o : Ob} (h1 : k1 = 5 ∨ k1 = 7) (h2 : k2 = 5 ∨ k2 = 7) (h : ¬ (k1 = k2 ∧ i1 = i2)) : md k2 i2 x2 (md k1 i1 x1 o) = md k1 i1 x1 (md k2 i2 x2 o) := by
  rcases h1 with rfl | rfl <;> rcases h2 with rfl | rfl
  · have hi : i1 ≠ i2 := fun e => h ⟨rfl, e⟩
    simp [md, List.set_comm x1 x2 hi]
  · simp [md]
  · simp [md]
  · have hi : i1 ≠ i2 := fun e => h ⟨rfl, e⟩
    simp [md, List.set_comm x1 x2 hi]
theorem nO_md {O : List Ob} {r : Nat → Int} {k : Int} {a b : Nat} {i n : Int} (hk : k = 5 ∨ k = 7) : nO O r k a b i n 0 = chg O (r a) (md k i.toNat (if k = 5 then r b else n)) := by
  rcases hk with rfl | rfl
  · rfl
  · rfl
theorem flt57 {O : List Ob} {r : Nat → Int} {k : Int} {a b : Nat} {i : Int} (hk : k = 5 ∨ k = 7) : (tgt O (r a) = none ∧ flt O r k a b i 0 = 143) ∨ ∃ p, tgt O (r a) = some p ∧ p < O.length ∧ flt O r k a b i 0 = fltO (O.getD p ob0) k i := by
  have hs : (if k = 3 ∨ k = 4 ∨ k = 9 then r b else r a) = r a := if_neg (by omega)
  cases ht : tgt O (r a) with
  | none => exact .inl ⟨rfl, flt_none (by omega) (by omega) hs ht⟩
  | some p => exact .inr ⟨p, rfl, (tgt_inv ht).2.1, flt_obj (by omega) (by omega) hs ht⟩
/-- A write turns no deed's fault. -/
theorem flt_set {O : List Ob} {r : Nat → Int} {k : Int} {a b : Nat} {i : Int} (hk : k = 5 ∨ k = 7) (p : Nat) (hp : p < O.length) (k' : Int) (i' : Nat) (x : Int) : flt (O.set p (md k' i' x (O.getD p ob0))) r k a b i 0 = flt O r k a b i 0 := by
  have hs : (if k = 3 ∨ k = 4 ∨ k = 9 then r b else r a) = r a := if_neg (by omega)
  have ht2 : tgt (O.set p (md k' i' x (O.getD p ob0))) (r a) = tgt O (r a) := tgt_set O p _ hp (by rw [(md_keeps k' i' x _).1, getD_at hp]) _
  cases ht : tgt O (r a) with
  | none => rw [flt_none (by omega) (by omega) hs ht, flt_none (by omega) (by omega) hs (ht2.trans ht)]
  | some q =>
    rw [flt_obj (by omega) (by omega) hs ht, flt_obj (by omega) (by omega) hs (ht2.trans ht)]
    by_cases e : q = p
    · subst e; rw [getD_set_eq hp, fltO_md]
    · rw [getD_set_ne e]
/-- What a write does. -/
theorem dO57 {O : List Ob} {r : Nat → Int} {k : Int} {a b : Nat} {i n : Int} (hk : k = 5 ∨ k = 7) : (dO O r k a b i n 0 = O ∧ flt O r k a b i 0 ≠ 0) ∨ ∃ p, tgt O (r a) = some p ∧ p < O.length ∧ flt O r k a b i 0 = 0 ∧ dO O r k a b i n 0 = O.set p (md k i.toNat (if k = 5 then r b else n) (O.getD p ob0)) := by
  by_cases hf : flt O r k a b i 0 = 0
  · right
    rcases flt57 (b := b) (i := i) hk (O := O) (r := r) (a := a) with ⟨_, h2⟩ | ⟨p, h1, h2, _⟩
    · omega
    · refine ⟨p, h1, h2, hf, ?_⟩
      have e : dO O r k a b i n 0 = nO O r k a b i n 0 := if_pos hf
      rw [e, nO_md hk, chg_some h1]
  · left
    exact ⟨if_neg hf, hf⟩
theorem flt_dO {O : List Ob} {r : Nat → Int} {k k' : Int} {a b a' b' : Nat} {i i' n' : Int} (hk : k = 5 ∨ k = 7) (hk' : k' = 5 ∨ k' = 7) : flt (dO O r k' a' b' i' n' 0) r k a b i 0 = flt O r k a b i 0 := by
  rcases dO57 (n := n') hk' (O := O) (r := r) (a := a') (b := b') (i := i') with ⟨h1, _⟩ | ⟨p, _, h2, _, h4⟩
  · rw [h1]
  · rw [h4]; exact flt_set hk p h2 _ _ _
theorem order_law {O : List Ob} {r : Nat → Int} {k1 k2 : Int} {a1 b1 a2 b2 : Nat} {i1 i2 n1 n2 : Int} (h1 : k1 = 5 ∨ k1 = 7) (h2 : k2 = 5 ∨ k2 = 7) (hi1 : 0 ≤ i1) (hi2 : 0 ≤ i2) (h : ¬ (r a1 = r a2 ∧ k1 = k2 ∧ i1 = i2)) :
    dO (dO O r k1 a1 b1 i1 n1 0) r k2 a2 b2 i2 n2 0 = dO (dO O r k2 a2 b2 i2 n2 0) r k1 a1 b1 i1 n1 0 := by
  have f21 : flt (dO O r k1 a1 b1 i1 n1 0) r k2 a2 b2 i2 0 = flt O r k2 a2 b2 i2 0 := flt_dO h2 h1
  have f12 : flt (dO O r k2 a2 b2 i2 n2 0) r k1 a1 b1 i1 0 = flt O r k1 a1 b1 i1 0 := flt_dO h1 h2
  rcases dO57 (n := n1) h1 (O := O) (r := r) (a := a1) (b := b1) (i := i1) with ⟨e1, g1⟩ | ⟨p, t1, l1, g1, e1⟩
  · rw [e1]
    have : dO (dO O r k2 a2 b2 i2 n2 0) r k1 a1 b1 i1 n1 0 = dO O r k2 a2 b2 i2 n2 0 := if_neg (by rw [f12]; exact g1)
    rw [this]
  · rcases dO57 (n := n2) h2 (O := O) (r := r) (a := a2) (b := b2) (i := i2) with ⟨e2, g2⟩ | ⟨q, t2, l2, g2, e2⟩
    · rw [e2]
      have : dO (dO O r k1 a1 b1 i1 n1 0) r k2 a2 b2 i2 n2 0 = dO O r k1 a1 b1 i1 n1 0 := if_neg (by rw [f21]; exact g2)
      rw [this]
    · have T2 : tgt (dO O r k1 a1 b1 i1 n1 0) (r a2) = some q := by rw [e1, tgt_set O p _ l1 (by rw [(md_keeps _ _ _ _).1, getD_at l1]), t2]
      have T1 : tgt (dO O r k2 a2 b2 i2 n2 0) (r a1) = some p := by rw [e2, tgt_set O q _ l2 (by rw [(md_keeps _ _ _ _).1, getD_at l2]), t1]
      rcases dO57 (n := n2) h2 (O := dO O r k1 a1 b1 i1 n1 0) (r := r) (a := a2) (b := b2) (i := i2) with ⟨_, g⟩ | ⟨q', t3, l3, g3, e3⟩
      · exact absurd (f21.trans g2) g
      · rcases dO57 (n := n1) h1 (O := dO O r k2 a2 b2 i2 n2 0) (r := r) (a := a1) (b := b1) (i := i1) with ⟨_, g⟩ | ⟨p', t4, l4, g4, e4⟩
        · exact absurd (f12.trans g1) g
        · rw [T2] at t3
          rw [T1] at t4
          obtain rfl : q = q' := Option.some.inj t3
          obtain rfl : p = p' := Option.some.inj t4
          rw [e3, e4, e1, e2]
          by_cases hpq : p = q
          · subst hpq
            rw [getD_set_eq l1, getD_set_eq l1, List.set_set, List.set_set]
            congr 1
            apply md_comm h1 h2
            rintro ⟨hk, hi⟩
            have s1 := plc_is O (r a1) p l1 (tgt_inv t1).1
            have s2 := plc_is O (r a2) p l1 (tgt_inv t2).1
            exact h ⟨s1.symm.trans s2, hk, by omega⟩
          · rw [getD_set_ne (Ne.symm hpq), getD_set_ne hpq, List.set_comm _ _ hpq]

/-- What reads as a model and lay before w's newer blocks. -/
theorem RM.ge {w W : World} {v : Value} {O : List Ob} {Q : List (Int × Int)} (h : RM w v O Q) (f : Zf (fun k => w.heap.size ≤ k) w W) : RM W v O Q := by
  obtain ⟨Ao, co, Aq, cq, L, h1, h2, h3, h4⟩ := h
  have far : ∀ {A : Option Addr} {n size : Nat} {vs : List Value}, Rc w A n size vs → Rc W A n size vs := fun {A n size vs} r => r.zf0 f (fun hn b off e => by
    obtain ⟨b', off', e', hb, _⟩ := r.at_ hn
    rw [e] at e'
    cases e'
    omega)
  refine ⟨Ao, co, Aq, cq, L, h1, h2, ⟨far h3.1, fun x hx => ?_⟩, far h4⟩
  obtain ⟨Ap, cp, An, cn, e1, e2, r1, r2⟩ := h3.2 x hx
  exact ⟨Ap, cp, An, cn, e1, e2, far r1, far r2⟩
theorem zf_of_gb {a b : World} {Z : Nat → Prop} (h : a.grownBy b none) : Zf Z a b := Zf.of_gb h (by simp)
/-- Boxes in the order in which they were made. -/
structure Kq (w W : World) (l : List (Nat × TypeId × Array Value)) : Prop where
  gr : w.grownBy W none
  bs : ∀ x ∈ l, Blk W x.1 x.2.1 x.2.2
  ge : ∀ x ∈ l, w.heap.size ≤ x.1
  ps : l.Pairwise (fun x y => y.1 < x.1)
theorem Kq.start (w : World) : Kq w w [] := ⟨grownBy_refl w none, by simp, by simp, .nil⟩
theorem Kq.gb {w W W2 : World} {l : List (Nat × TypeId × Array Value)} (h : Kq w W l) (g : W.grownBy W2 none) : Kq w W2 l := ⟨grownBy_trans h.gr g, fun x hx => (h.bs x hx).gb g (by simp), h.ge, h.ps⟩
theorem Kq.al1 {w W : World} {l : List (Nat × TypeId × Array Value)} (h : Kq w W l) (c : Array Value) (t : TypeId) : Kq w (W.alloc (.cells c t)) ((W.heap.size, t, c) :: l) := by
  obtain ⟨g, b⟩ := _root_.Go.Proofs.Yteieljkkcnpfmaa.al1 W c t
  refine ⟨grownBy_trans h.gr g, fun x hx => ?_, fun x hx => ?_, List.pairwise_cons.2 ⟨fun x hx => (h.bs x hx).lt, h.ps⟩⟩
  · rcases List.mem_cons.1 hx with rfl | hx
    · exact b
    · exact (h.bs x hx).gb g (by simp)
  · rcases List.mem_cons.1 hx with rfl | hx
    · exact h.gr.size
    · exact h.ge x hx
theorem Kq.al2 {w W : World} {l : List (Nat × TypeId × Array Value)} (h : Kq w W l) (c d : Array Value) (t u : TypeId) : Kq w ((W.alloc (.cells c t)).alloc (.cells d u)) ((W.heap.size + 1, u, d) :: (W.heap.size, t, c) :: l) := by
  have := (h.al1 c t).al1 d u
  simpa using this
theorem Kq.al3 {w W : World} {l : List (Nat × TypeId × Array Value)} (h : Kq w W l) (c d e : Array Value) (t u v : TypeId) : Kq w (((W.alloc (.cells c t)).alloc (.cells d u)).alloc (.cells e v)) ((W.heap.size + 1 + 1, v, e) :: (W.heap.size + 1, u, d) :: (W.heap.size, t, c) :: l) := by
  have := (h.al2 c d t u).al1 e v
  simpa using this
theorem Kq.get {w W : World} {l : List (Nat × TypeId × Array Value)} (h : Kq w W l) (i : Nat) {g : Nat} {t : TypeId} {c : Array Value} (hi : l[i]? = some (g, t, c)) : Blk W g t c := h.bs _ (List.mem_of_getElem? hi)
theorem Kq.geq {w W : World} {l : List (Nat × TypeId × Array Value)} (h : Kq w W l) (i : Nat) {g : Nat} {t : TypeId} {c : Array Value} (hi : l[i]? = some (g, t, c)) : w.heap.size ≤ g := h.ge _ (List.mem_of_getElem? hi)
/-- A box is laid anew: one cell. -/
theorem Kq.set {w W : World} {l : List (Nat × TypeId × Array Value)} (h : Kq w W l) (i : Nat) {g : Nat} {t : TypeId} {c : Array Value} (hi : l[i]? = some (g, t, c)) (j : Nat) (u : Value) : Kq w (W.setCell ⟨g, j, none⟩ u) (l.set i (g, t, c.setIfInBounds j u)) := by
  obtain ⟨hil, hg⟩ := List.getElem?_eq_some_iff.1 hi
  have hg1 : l[i].1 = g := by rw [hg]
  have f : Zf (fun k => k = g) W (W.setCell ⟨g, j, none⟩ u) := (Zf.refl (fun k => k = g) W).set (by rfl)
  have hps := List.pairwise_iff_getElem.1 h.ps
  refine ⟨Zf.gb h.gr f (fun k hk => by have := h.geq i hi; omega), fun x hx => ?_, fun x hx => ?_, ?_⟩
  · rcases mem_set_ne hil hx with rfl | ⟨q, hq, hne, rfl⟩
    · exact (h.get i hi).set j u
    · refine (h.bs _ (List.getElem_mem hq)).zf f (fun e => ?_)
      rcases Nat.lt_or_gt_of_ne hne with hl | hl
      · have := hps q i hq hil hl; omega
      · have := hps i q hil hq hl; omega
  · rcases mem_set_ne hil hx with rfl | ⟨q, hq, _, rfl⟩
    · exact h.geq i hi
    · exact h.ge _ (List.getElem_mem hq)
  · rw [List.pairwise_iff_getElem]
    intro p q hp hq hpq
    simp only [List.getElem_set]
    have hp' : p < l.length := by simpa using hp
    have hq' : q < l.length := by simpa using hq
    have := hps p q hp' hq' hpq
    split <;> split
    · omega
    · rename_i h1 _; subst h1; rw [hg1] at this; exact this
    · rename_i _ h1; subst h1; rw [hg1] at this; exact this
    · exact this
/-- The model of an elder world w2, that stands in W. -/
def RMZ (w2 W : World) (v : Value) (O : List Ob) (Q : List (Int × Int)) : Prop := RM w2 v O Q ∧ Zf (fun k => w2.heap.size ≤ k) w2 W
def Ge (w2 : World) (g : Nat) : Prop := w2.heap.size ≤ g
section
variable {w2 W W2 : World} {v : Value} {O : List Ob} {Q : List (Int × Int)}
theorem RMZ.start (h : RM w2 v O Q) : RMZ w2 w2 v O Q := ⟨h, Zf.refl _ _⟩
theorem RMZ.rm (h : RMZ w2 W v O Q) : RM W v O Q := h.1.ge h.2
theorem RMZ.gb (h : RMZ w2 W v O Q) (g : W.grownBy W2 none) : RMZ w2 W2 v O Q := ⟨h.1, h.2.later g⟩
theorem RMZ.set (h : RMZ w2 W v O Q) {g : Nat} (hg : Ge w2 g) (j : Nat) (u : Value) : RMZ w2 (W.setCell ⟨g, j, none⟩ u) v O Q := ⟨h.1, h.2.set hg⟩
theorem RMZ.geb (h : RMZ w2 W v O Q) : Ge w2 W.heap.size := h.2.size
end
theorem pk_kind {k : Int} (h : k = 5 ∨ k = 7) : 1 + pk (k - 1) 14 = k := by
  rcases h with rfl | rfl <;> rfl
end Go.Proofs.Yteieljkkcnpfmaa
