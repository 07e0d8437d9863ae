/-
  ownModel.
-/
import Derived.Test.YteieljkkcnpfmaaOm
import Derived.Deep.MidRow
namespace Go.Proofs.Yteieljkkcnpfmaa
open Go.ChangeShapes Go.WideShapes Go.ChangeAt Go.RowKit
set_option linter.unusedVariables false

/-- What ownModel tells: the model, all of it new. -/
def OwnMP (w : World) (L : List Ov) (Q : List (Int × Int)) (e : Ending) (w' : World) : Prop :=
  ∃ vo vq L', e = .returned (.agg #[vo, vq]) ∧ obs L' = obs L ∧ Om (fun k => w.heap.size ≤ k ∧ k < w'.heap.size) w' vo vq L' Q ∧ w.grownBy w' none

theorem cellk {W W' : World} {a : Addr} {v : Value} (h : W.cell? a = some v) (g : W.grownBy W' none) : W'.cell? a = some v :=
  (World.cell?_of_block (g.block a.block (World.block_lt_of_cell? W _ h) (by simp))).trans h
theorem bcg {W w1 : World} (h : W.grownBy w1 none) : (∀ b o, b < W.heap.size → w1.cell? ⟨b, o, none⟩ = W.cell? ⟨b, o, none⟩) ∧ (∀ b o, b < W.heap.size → w1.frozen? ⟨b, o, none⟩ = W.frozen? ⟨b, o, none⟩) :=
  ⟨fun b o hb => World.cell?_of_block (a := ⟨b, o, none⟩) (h.block b hb (by simp)), fun b o hb => World.frozen?_of_block (a := ⟨b, o, none⟩) (h.block b hb (by simp))⟩
theorem keep3 {w W W' : World} {a b : Addr} {v u : Value} (h : W.cell? a = some v ∧ W.cell? b = some u ∧ w.grownBy W none) (g : W.grownBy W' none) : W'.cell? a = some v ∧ W'.cell? b = some u ∧ w.grownBy W' none :=
  ⟨cellk h.1 g, cellk h.2.1 g, grownBy_trans h.2.2 g⟩
theorem keep3s {w W : World} {a b : Addr} {v u x : Value} {g i : Nat} (h : W.cell? a = some v ∧ W.cell? b = some u ∧ w.grownBy W none) (hg : w.heap.size ≤ g) (ha : a.block ≠ g) (hb : b.block ≠ g) : (W.setCell ⟨g, i, none⟩ x).cell? a = some v ∧ (W.setCell ⟨g, i, none⟩ x).cell? b = some u ∧ w.grownBy (W.setCell ⟨g, i, none⟩ x) none :=
  ⟨(World.cell?_of_block (heap_setCell_other W ⟨g, i, none⟩ a.block _ ha)).trans h.1, (World.cell?_of_block (heap_setCell_other W ⟨g, i, none⟩ b.block _ hb)).trans h.2.1, gb_new h.2.2 (gb_set W g i x) (fun k e => by cases e; exact hg)⟩

theorem keep9 {W W' : World} {a a0 a1 a2 a3 a4 a5 a6 a7 : Addr} {v v0 v1 v2 v3 v4 v5 v6 v7 : Value} (h : W.cell? a = some v ∧ W.cell? a0 = some v0 ∧ W.cell? a1 = some v1 ∧ W.cell? a2 = some v2 ∧ W.cell? a3 = some v3 ∧ W.cell? a4 = some v4 ∧ W.cell? a5 = some v5 ∧ W.cell? a6 = some v6 ∧ W.cell? a7 = some v7) (g : W.grownBy W' none) :
    W'.cell? a = some v ∧ W'.cell? a0 = some v0 ∧ W'.cell? a1 = some v1 ∧ W'.cell? a2 = some v2 ∧ W'.cell? a3 = some v3 ∧ W'.cell? a4 = some v4 ∧ W'.cell? a5 = some v5 ∧ W'.cell? a6 = some v6 ∧ W'.cell? a7 = some v7 := by
  obtain ⟨h, h0, h1, h2, h3, h4, h5, h6, h7⟩ := h
  exact ⟨cellk h g, cellk h0 g, cellk h1 g, cellk h2 g, cellk h3 g, cellk h4 g, cellk h5 g, cellk h6 g, cellk h7 g⟩
theorem keep9s {W : World} {B3 Bx g i : Nat} {u0 u1 u2 u3 u4 u5 u6 u7 v v0 v1 v2 v3 v4 v5 v6 v7 : Value} (h : W.cell? ⟨B3, 0, none⟩ = some v ∧ W.cell? ⟨Bx, 0, none⟩ = some v0 ∧ W.cell? ⟨Bx, 1, none⟩ = some v1 ∧ W.cell? ⟨Bx, 2, none⟩ = some v2 ∧ W.cell? ⟨Bx, 3, none⟩ = some v3 ∧ W.cell? ⟨Bx, 4, none⟩ = some v4 ∧ W.cell? ⟨Bx, 5, none⟩ = some v5 ∧ W.cell? ⟨Bx, 6, none⟩ = some v6 ∧ W.cell? ⟨Bx, 7, none⟩ = some v7) (h3 : g ≠ B3) (hx : g ≠ Bx) :
    ((((((((W.setCell ⟨g, i * 8, none⟩ u0).setCell ⟨g, i * 8 + 1, none⟩ u1).setCell ⟨g, i * 8 + 2, none⟩ u2).setCell ⟨g, i * 8 + 3, none⟩ u3).setCell ⟨g, i * 8 + 4, none⟩ u4).setCell ⟨g, i * 8 + 5, none⟩ u5).setCell ⟨g, i * 8 + 6, none⟩ u6).setCell ⟨g, i * 8 + 7, none⟩ u7).cell? ⟨B3, 0, none⟩ = some v ∧ ((((((((W.setCell ⟨g, i * 8, none⟩ u0).setCell ⟨g, i * 8 + 1, none⟩ u1).setCell ⟨g, i * 8 + 2, none⟩ u2).setCell ⟨g, i * 8 + 3, none⟩ u3).setCell ⟨g, i * 8 + 4, none⟩ u4).setCell ⟨g, i * 8 + 5, none⟩ u5).setCell ⟨g, i * 8 + 6, none⟩ u6).setCell ⟨g, i * 8 + 7, none⟩ u7).cell? ⟨Bx, 0, none⟩ = some v0 ∧ ((((((((W.setCell ⟨g, i * 8, none⟩ u0).setCell ⟨g, i * 8 + 1, none⟩ u1).setCell ⟨g, i * 8 + 2, none⟩ u2).setCell ⟨g, i * 8 + 3, none⟩ u3).setCell ⟨g, i * 8 + 4, none⟩ u4).setCell ⟨g, i * 8 + 5, none⟩ u5).setCell ⟨g, i * 8 + 6, none⟩ u6).setCell ⟨g, i * 8 + 7, none⟩ u7).cell? ⟨Bx, 1, none⟩ = some v1 ∧ ((((((((W.setCell ⟨g, i * 8, none⟩ u0).setCell ⟨g, i * 8 + 1, none⟩ u1).setCell ⟨g, i * 8 + 2, none⟩ u2).setCell ⟨g, i * 8 + 3, none⟩ u3).setCell ⟨g, i * 8 + 4, none⟩ u4).setCell ⟨g, i * 8 + 5, none⟩ u5).setCell ⟨g, i * 8 + 6, none⟩ u6).setCell ⟨g, i * 8 + 7, none⟩ u7).cell? ⟨Bx, 2, none⟩ = some v2 ∧ ((((((((W.setCell ⟨g, i * 8, none⟩ u0).setCell ⟨g, i * 8 + 1, none⟩ u1).setCell ⟨g, i * 8 + 2, none⟩ u2).setCell ⟨g, i * 8 + 3, none⟩ u3).setCell ⟨g, i * 8 + 4, none⟩ u4).setCell ⟨g, i * 8 + 5, none⟩ u5).setCell ⟨g, i * 8 + 6, none⟩ u6).setCell ⟨g, i * 8 + 7, none⟩ u7).cell? ⟨Bx, 3, none⟩ = some v3 ∧ ((((((((W.setCell ⟨g, i * 8, none⟩ u0).setCell ⟨g, i * 8 + 1, none⟩ u1).setCell ⟨g, i * 8 + 2, none⟩ u2).setCell ⟨g, i * 8 + 3, none⟩ u3).setCell ⟨g, i * 8 + 4, none⟩ u4).setCell ⟨g, i * 8 + 5, none⟩ u5).setCell ⟨g, i * 8 + 6, none⟩ u6).setCell ⟨g, i * 8 + 7, none⟩ u7).cell? ⟨Bx, 4, none⟩ = some v4 ∧ ((((((((W.setCell ⟨g, i * 8, none⟩ u0).setCell ⟨g, i * 8 + 1, none⟩ u1).setCell ⟨g, i * 8 + 2, none⟩ u2).setCell ⟨g, i * 8 + 3, none⟩ u3).setCell ⟨g, i * 8 + 4, none⟩ u4).setCell ⟨g, i * 8 + 5, none⟩ u5).setCell ⟨g, i * 8 + 6, none⟩ u6).setCell ⟨g, i * 8 + 7, none⟩ u7).cell? ⟨Bx, 5, none⟩ = some v5 ∧ ((((((((W.setCell ⟨g, i * 8, none⟩ u0).setCell ⟨g, i * 8 + 1, none⟩ u1).setCell ⟨g, i * 8 + 2, none⟩ u2).setCell ⟨g, i * 8 + 3, none⟩ u3).setCell ⟨g, i * 8 + 4, none⟩ u4).setCell ⟨g, i * 8 + 5, none⟩ u5).setCell ⟨g, i * 8 + 6, none⟩ u6).setCell ⟨g, i * 8 + 7, none⟩ u7).cell? ⟨Bx, 6, none⟩ = some v6 ∧ ((((((((W.setCell ⟨g, i * 8, none⟩ u0).setCell ⟨g, i * 8 + 1, none⟩ u1).setCell ⟨g, i * 8 + 2, none⟩ u2).setCell ⟨g, i * 8 + 3, none⟩ u3).setCell ⟨g, i * 8 + 4, none⟩ u4).setCell ⟨g, i * 8 + 5, none⟩ u5).setCell ⟨g, i * 8 + 6, none⟩ u6).setCell ⟨g, i * 8 + 7, none⟩ u7).cell? ⟨Bx, 7, none⟩ = some v7 := by
  have key : ∀ (V : World) (j k b : Nat) (u : Value), b ≠ g → (V.setCell ⟨g, j, none⟩ u).cell? ⟨b, k, none⟩ = V.cell? ⟨b, k, none⟩ := fun V j k b u hb => World.cell?_of_block (a := ⟨b, k, none⟩) (heap_setCell_other V ⟨g, j, none⟩ b _ hb)
  simp only [key _ _ _ _ _ (Ne.symm h3), key _ _ _ _ _ (Ne.symm hx)]
  exact h
/-- What the loop over the objects carries. -/
structure Lp (w wr : World) (B3 : Nat) (A1 A2 : Option Addr) (c1 c2 : Nat) (L : List Ov) (Q : List (Int × Int)) (i : Nat) (L1 : List Ov) : Prop where
  box : Blk wr B3 29 #[.slice A1 L.length c1, .slice A2 Q.length c2]
  row : wr.ownsRow (w.heap.size + 2) 41 8 (.slice A1 L.length c1) L.length (ovs (L1 ++ L.drop i))
  que : wr.ownsRow (w.heap.size + 2) 43 2 (.slice A2 Q.length c2) Q.length (its Q)
  len : L1.length = i
  obs : obs L1 = (obs L).take i
  os : Os (fun k => w.heap.size ≤ k) wr L1
  gr : w.grownBy wr none
  res : Blk wr (w.heap.size + 1) 29 #[.slice none 0 0, .slice none 0 0]
  b3 : w.heap.size + 1 < B3

theorem Lp.rl {w wr : World} {B3 : Nat} {A1 A2 : Option Addr} {c1 c2 : Nat} {L : List Ov} {Q : List (Int × Int)} {i : Nat} {L1 : List Ov} {Ao : Option Addr} (h : Lp w wr B3 A1 A2 c1 c2 L Q i L1) (hi : i ≤ L.length) (hL : RL w Ao L) : RL wr A1 (L1 ++ L.drop i) := by
  obtain ⟨A, c, e, hr, _, _⟩ := Rc.of_own h.row
  injection e with e1 e2 e3
  subst e1
  have hl : (L1 ++ L.drop i).length = L.length := by rw [List.length_append, h.len, List.length_drop]; omega
  refine ⟨by rw [hl]; exact hr, fun x hx => ?_⟩
  rcases List.mem_append.1 hx with hx | hx
  · exact h.os.ro x hx
  · exact (hL.2 x (List.mem_of_mem_drop hx)).gb h.gr

theorem own_some {w : World} {base : Nat} {e : TypeId} {size n c : Nat} {A : Option Addr} {xs : List Value} (h : w.ownsRow base e size (.slice A n c) n xs) (hn : 0 < n) : ∃ g, A = some ⟨g, 0, none⟩ ∧ base ≤ g ∧ g < w.heap.size ∧ (∀ j, w.frozen? ⟨g, j, none⟩ = false) ∧ ∀ j, j < n * size → w.cell? ⟨g, j, none⟩ = xs[j]? := by
  rcases h.2 with ⟨h0, h1⟩ | ⟨g, cap, cur, hv, hb, hg, _⟩
  · omega
  · injection hv with h1 h2 h3
    subst h1
    exact ⟨g, rfl, hb, (Array.getElem?_eq_some_iff.1 hg).1, fun j => Blk.free (w := w) hg j, fun j hj => h.cellAt j hj⟩
theorem Lp.step {w wr wa wC : World} {B3 g : Nat} {A2 : Option Addr} {c1 c2 : Nat} {L : List Ov} {Q : List (Int × Int)} {i : Nat} {L1 : List Ov} {o : Ob} {vp vn : Value} (h : Lp w wr B3 (some ⟨g, 0, none⟩) A2 c1 c2 L Q i L1) (hi : i < L.length) (ho : L[i].o = o)
    (ga : wr.grownBy wa none) (gC : wa.grownBy wC none) (hp : wC.ownsRow wa.heap.size 3 1 vp o.ps.length (ints o.ps)) (hn : wC.ownsRow wa.heap.size 3 1 vn o.ns.length (ints o.ns)) (hap : ap vp vn) :
    Lp w ((((((((wC.setCell ⟨g, i * 8, none⟩ (.int .i64 o.s)).setCell ⟨g, i * 8 + 1, none⟩ (.int .i64 o.sp)).setCell ⟨g, i * 8 + 2, none⟩ (.int .i64 o.sd)).setCell ⟨g, i * 8 + 3, none⟩ (.bool o.sw)).setCell ⟨g, i * 8 + 4, none⟩ (.bool o.sf)).setCell ⟨g, i * 8 + 5, none⟩ vp).setCell ⟨g, i * 8 + 6, none⟩ vn).setCell ⟨g, i * 8 + 7, none⟩ (.bool o.fr)) B3 (some ⟨g, 0, none⟩) A2 c1 c2 L Q (i + 1) (L1 ++ [⟨o, vp, vn⟩]) := by
  have gg := grownBy_trans ga gC
  have hrow := own_gb0 h.row gg
  have hZ : Zf (fun k => k = g) wC ((((((((wC.setCell ⟨g, i * 8, none⟩ (.int .i64 o.s)).setCell ⟨g, i * 8 + 1, none⟩ (.int .i64 o.sp)).setCell ⟨g, i * 8 + 2, none⟩ (.int .i64 o.sd)).setCell ⟨g, i * 8 + 3, none⟩ (.bool o.sw)).setCell ⟨g, i * 8 + 4, none⟩ (.bool o.sf)).setCell ⟨g, i * 8 + 5, none⟩ vp).setCell ⟨g, i * 8 + 6, none⟩ vn).setCell ⟨g, i * 8 + 7, none⟩ (.bool o.fr)) := ((((((((Zf.refl (fun k => k = g) wC).set (by rfl)).set (by rfl)).set (by rfl)).set (by rfl)).set (by rfl)).set (by rfl)).set (by rfl)).set (by rfl)
  have hgl : w.heap.size + 2 ≤ g := (hrow.lt g rfl).1
  have hos : Os (fun k => w.heap.size ≤ k) wC (L1 ++ [⟨o, vp, vn⟩]) := (h.os.gb ga).snoc gC ⟨o, vp, vn⟩ hp hn hap (fun k hk _ => Nat.le_trans (grownBy_trans h.gr ga).size hk)
  have hg3 : ∀ v ∈ sls (L1 ++ [⟨o, vp, vn⟩]), ∀ b, v.ownBlock = some b → ¬ b = g := fun v hv b e k => by
    obtain ⟨n', xs', hv'⟩ := hos.own hv
    subst k
    exact own_own hv' hrow (by decide) e rfl
  have hlen : (L1 ++ L.drop i).length = L.length := by rw [List.length_append, h.len, List.length_drop]; omega
  have hset : (L1 ++ L.drop i).set i ⟨o, vp, vn⟩ = (L1 ++ [⟨o, vp, vn⟩]) ++ L.drop (i + 1) := by
    rw [List.set_append_right _ _ (by rw [h.len]; exact Nat.le_refl _), h.len, Nat.sub_self, List.drop_eq_getElem_cons hi, List.set_cons_zero, List.append_assoc]
    rfl
  have hbox := h.box.gb gg (by simp)
  have hres := h.res.gb gg (by simp)
  refine ⟨hbox.zf hZ (fun e => own_ne hrow hbox (by decide) (e ▸ rfl)), ?_, own_zf (own_gb0 h.que gg) hZ (fun b e k => own_own (own_gb0 h.que gg) hrow (by decide) e (k ▸ rfl)), by rw [List.length_append, h.len]; rfl, ?_, hos.zf hZ hg3, Zf.gb (grownBy_trans h.gr gg) hZ (fun k hk => by omega), hres.zf hZ (by omega), h.b3⟩
  · have := own_set (own_set (own_set (own_set (own_set (own_set (own_set (own_set hrow (i * 8) (.int .i64 o.s)) (i * 8 + 1) (.int .i64 o.sp)) (i * 8 + 2) (.int .i64 o.sd)) (i * 8 + 3) (.bool o.sw)) (i * 8 + 4) (.bool o.sf)) (i * 8 + 5) vp) (i * 8 + 6) vn) (i * 8 + 7) (.bool o.fr)
    rw [ovs_set8 _ i (by omega) ⟨o, vp, vn⟩ _ _ _ _ _ _ _ _ rfl, hset] at this
    exact this
  · have hi' : i < (Go.Proofs.Yteieljkkcnpfmaa.obs L).length := by simpa [Go.Proofs.Yteieljkkcnpfmaa.obs] using hi
    rw [List.take_succ_eq_append_getElem hi', ← h.obs]
    simp [Go.Proofs.Yteieljkkcnpfmaa.obs, ho]

theorem Lp.fin {w wr w' : World} {B3 : Nat} {A1 A2 : Option Addr} {c1 c2 : Nat} {L : List Ov} {Q : List (Int × Int)} {i : Nat} {L1 : List Ov} (h : Lp w wr B3 A1 A2 c1 c2 L Q i L1) (hi : i = L.length) (hZ : Zf (fun k => k = w.heap.size + 1) wr w') :
    OwnMP w L Q (.returned (.agg #[.slice A1 L.length c1, .slice A2 Q.length c2])) w' := by
  have hrow := h.row
  rw [hi, List.drop_length, List.append_nil] at hrow
  have hobs := h.obs
  rw [hi, List.take_of_length_le (by simp [Go.Proofs.Yteieljkkcnpfmaa.obs])] at hobs
  have hlen : L1.length = L.length := by rw [h.len, hi]
  have hg : w.grownBy w' none := Zf.gb h.gr hZ (fun k hk => by omega)
  have hres := h.res
  have hsl : ∀ v ∈ sls L1, ∀ g, v.ownBlock = some g → ¬ g = w.heap.size + 1 := fun v hv g e k => by
    obtain ⟨n', xs', hv'⟩ := h.os.own hv
    subst k
    exact own_ne hv' hres (by decide) e
  have hos := h.os.zf hZ hsl
  have hrow' := own_zf hrow hZ (fun g e k => by have := (hrow.lt g e).1; omega)
  have hque' := own_zf h.que hZ (fun g e k => by have := (h.que.lt g e).1; omega)
  refine ⟨_, _, L1, rfl, hobs, ⟨by rw [hlen]; exact own_base hrow' (Nat.zero_le _), own_base hque' (Nat.zero_le _), ⟨hos.p, hos.n, fun v hv g e => ⟨h.os.z v hv g e, ?_⟩, hos.apart⟩, fun g e => ⟨?_, own_lt hrow' e⟩, fun g e => ⟨?_, own_lt hque' e⟩⟩, hg⟩
  · obtain ⟨n', xs', hv'⟩ := hos.own hv
    exact own_lt hv' e
  · have := (hrow'.lt g e).1; omega
  · have := (hque'.lt g e).1; omega

set_option maxHeartbeats 8000000 in
theorem ownModel_any (Ao Aq : Option Addr) (co cq : Nat) (L : List Ov) (Q : List (Int × Int)) (w : World) (hL : RL w Ao L) (hQ : Rc w Aq Q.length 2 (its Q)) (hs : Sm L Q) :
    Calls Try.prog 19 #[.agg #[.slice Ao L.length co, .slice Aq Q.length cq]] w (OwnMP w L Q) := by
  have HL := Lib.hid hL
  have HQ := Lib.hid hQ
  have HSM := Lib.hid hs
  have hl1 := hs.1
  have hl2 := hs.2.1
  obtain ⟨Post, hPost⟩ : ∃ Post, Post = OwnMP w L Q := ⟨_, rfl⟩
  rw [← hPost]
  have HPost := Lib.hid hPost
  clear hPost hL hQ hs
  -- the two boxes
  obtain ⟨wb, hwb⟩ : ∃ wb, wb = (w.alloc (.cells #[.slice Ao L.length co, .slice Aq Q.length cq] 29)).alloc (.cells #[.slice none 0 0, .slice none 0 0] 29) := ⟨_, rfl⟩
  have hg0 : w.grownBy wb none := by rw [hwb]; exact grownBy_trans (World.grownBy_alloc _ _ none) (World.grownBy_alloc _ _ none)
  have b1 : Blk wb w.heap.size 29 #[.slice Ao L.length co, .slice Aq Q.length cq] := by rw [hwb]; exact (Blk.new w 29 _).gb (World.grownBy_alloc _ _ none) (by simp)
  have b2 : Blk wb (w.heap.size + 1) 29 #[.slice none 0 0, .slice none 0 0] := by
    rw [hwb]; have := Blk.new (w.alloc (.cells #[.slice Ao L.length co, .slice Aq Q.length cq] 29)) 29 #[.slice none 0 0, .slice none 0 0]
    simpa using this
  have HG0 := Lib.hid hg0
  have hb1 : w.heap.size < wb.heap.size := b1.lt
  have HB1 := Lib.hid b1
  have HB2 := Lib.hid b2
  have HWB := Lib.hid hwb
  have c0 : wb.cell? ⟨w.heap.size, 0, none⟩ = some (.slice Ao L.length co) := b1.cell 0
  have c1 : wb.cell? ⟨w.heap.size, 1, none⟩ = some (.slice Aq Q.length cq) := b1.cell 1
  clear hwb b1 b2 hg0
  go_enter Try.func19, Try.ntmps19
  go_wp2_with fail
  rw [← HWB.out]
  have sb : wb.cell? ⟨w.heap.size, 0, none⟩ = some (.slice Ao L.length co) ∧ wb.cell? ⟨w.heap.size, 1, none⟩ = some (.slice Aq Q.length cq) ∧ w.grownBy wb none := ⟨c0, c1, HG0.out⟩
  go_region_held3 (fun w' => w'.cell? ⟨w.heap.size, 0, none⟩ = some (.slice Ao L.length co) ∧ w'.cell? ⟨w.heap.size, 1, none⟩ = some (.slice Aq Q.length cq) ∧ w.grownBy w' none)
    (first | with_reducible assumption | with_reducible exact keep3 sb (gb_drew _ none) | with_reducible exact keep3 (keep3 sb (World.grownBy_alloc _ _ none)) (gb_drew _ none) | with_reducible exact keep3 sB (World.grownBy_alloc _ _ none) | with_reducible exact keep3 sA (World.grownBy_alloc _ _ none) | with_reducible (refine keep3 ?_ (World.grownBy_alloc _ _ none); assumption) | (refine keep3s (keep3s ?_ (Nat.le_of_lt hszA) (Nat.ne_of_lt hszA) (Nat.ne_of_lt hszA)) (Nat.le_of_lt hszA) (Nat.ne_of_lt hszA) (Nat.ne_of_lt hszA); assumption) | (refine keep3s (keep3s ?_ (Nat.le_of_lt hb1) (Nat.ne_of_lt hb1) (Nat.ne_of_lt hb1)) (Nat.le_of_lt hb1) (Nat.ne_of_lt hb1) (Nat.ne_of_lt hb1); assumption) | (refine keep3 ?_ (World.grownBy_alloc _ _ none); assumption))
    (first
      | (go_at_call 30; refine (own41_any Ao L.length co (ovs L) _ (HL.out.1.gb ((by assumption : _ ∧ _ ∧ w.grownBy _ none)).2.2) (by omega) (one_ovs HL.out.2)).mono ?_; rintro e wA ⟨vo, rfl, hoA, hgA⟩; have sA := keep3 (by assumption) hgA; obtain ⟨A1, c1, rfl, _, _, _⟩ := Rc.of_own hoA; obtain ⟨hcA, hfA⟩ := bcg hgA; have hszA : w.heap.size < wA.heap.size := Nat.lt_of_lt_of_le (by simp; omega) hgA.size; have hzA := hgA.size; (try simp [Nat.add_one_le_iff] at hzA))
      | (go_at_call 23; refine (own43_any Aq Q.length cq (its Q) _ (HQ.out.gb ((by assumption : _ ∧ _ ∧ w.grownBy _ none)).2.2) (by omega) (one_its Q)).mono ?_; rintro e wB ⟨vq, rfl, hoB, hgB⟩; have sB := keep3 (by assumption) hgB; obtain ⟨A2, c2, rfl, _, _, _⟩ := Rc.of_own hoB; obtain ⟨hcB, hfB⟩ := bcg hgB))
  have hwz : wb.heap.size = w.heap.size + 2 := by rw [HWB.out]; simp
  have hlp : ∃ W B3, Hid (Lp w W B3 A1 A2 c1 c2 L Q 0 []) ∧ W = wB.alloc (.cells #[.slice A1 L.length c1, .slice A2 Q.length c2] 29) ∧ B3 = wB.heap.size := by
    refine ⟨_, _, ⟨Blk.new wB 29 _, own_gb0 (own_base (own_gb0 hoA hgB) (by simp [hwz])) (World.grownBy_alloc _ _ none), own_gb0 (own_base hoB (by have := hgA.size; simp at this; omega)) (World.grownBy_alloc _ _ none), rfl, by simp [obs], Os.nil _ _, grownBy_trans sB.2.2 (World.grownBy_alloc _ _ none), (((HB2.out.gb (gb_drew _ none) (by simp)).gb hgA (by simp)).gb hgB (by simp)).gb (World.grownBy_alloc _ _ none) (by simp), ?_⟩, rfl, rfl⟩
    have := hgA.size; have := hgB.size; simp at *; omega
  obtain ⟨W, B3, HLP, hW1, hW2⟩ := hlp
  rw [← hW1, ← hW2]
  clear hW1 hW2 sA sB hoA hoB hgA hgB hcA hfA hcB hfB hszA hzA
  rotate_left
  have hwz : wb.heap.size = w.heap.size + 2 := by rw [HWB.out]; simp
  have hlp : ∃ W B3, Hid (Lp w W B3 A1 A2 c1 c2 L Q 0 []) ∧ W = (wB.setCell ⟨wA.heap.size, 0, none⟩ (.slice A1 L.length c1)).setCell ⟨wA.heap.size, 1, none⟩ (.slice A2 Q.length c2) ∧ B3 = wA.heap.size := by
    have hbx : Blk wB wA.heap.size 29 #[.slice none 0 0, .slice none 0 0] := (Blk.new wA 29 _).gb hgB (by simp)
    have hZ : Zf (fun k => k = wA.heap.size) wB ((wB.setCell ⟨wA.heap.size, 0, none⟩ (.slice A1 L.length c1)).setCell ⟨wA.heap.size, 1, none⟩ (.slice A2 Q.length c2)) := ((Zf.refl (fun k => k = wA.heap.size) wB).set (by rfl)).set (by rfl)
    have hA' := own_gb0 (own_gb0 hoA (World.grownBy_alloc wA (.cells #[.slice none 0 0, .slice none 0 0] 29) none)) hgB
    refine ⟨_, _, ⟨(hbx.set 0 _).set 1 _, own_base (own_zf hA' hZ (fun g e k => own_ne hA' hbx (by decide) (k ▸ e))) (by simp [hwz]), own_base (own_zf hoB hZ (fun g e k => own_ne hoB hbx (by decide) (k ▸ e))) (by have := hgA.size; simp at *; omega), rfl, by simp [obs], Os.nil _ _, Zf.gb sB.2.2 hZ (fun i h => by omega), ((((HB2.out.gb (gb_drew _ none) (by simp)).gb hgA (by simp)).gb (World.grownBy_alloc _ (.cells #[.slice none 0 0, .slice none 0 0] 29) none) (by simp)).gb hgB (by simp)).zf hZ (by have := hgA.size; simp at *; omega), ?_⟩, rfl, rfl⟩
    have := hgA.size; simp at *; omega
  obtain ⟨W, B3, HLP, hW1, hW2⟩ := hlp
  rw [← hW1, ← hW2]
  clear hW1 hW2 sA sB hoA hoB hgA hgB hcA hfA hcB hfB hszA hzA
  rotate_left
  have hwz : wb.heap.size = w.heap.size + 2 := by rw [HWB.out]; simp
  have hlp : ∃ W B3, Hid (Lp w W B3 A1 A2 c1 c2 L Q 0 []) ∧ W = (wB.setCell ⟨wb.heap.size, 0, none⟩ (.slice A1 L.length c1)).setCell ⟨wb.heap.size, 1, none⟩ (.slice A2 Q.length c2) ∧ B3 = wb.heap.size := by
    have hbx : Blk wB wb.heap.size 29 #[.slice none 0 0, .slice none 0 0] := (((Blk.new wb 29 _).gb (gb_drew _ none) (by simp)).gb hgA (by simp)).gb hgB (by simp)
    have hZ : Zf (fun k => k = wb.heap.size) wB ((wB.setCell ⟨wb.heap.size, 0, none⟩ (.slice A1 L.length c1)).setCell ⟨wb.heap.size, 1, none⟩ (.slice A2 Q.length c2)) := ((Zf.refl (fun k => k = wb.heap.size) wB).set (by rfl)).set (by rfl)
    have hA' := own_gb0 hoA hgB
    refine ⟨_, _, ⟨(hbx.set 0 _).set 1 _, own_base (own_zf hA' hZ (fun g e k => own_ne hA' hbx (by decide) (k ▸ e))) (by simp [hwz]), own_base (own_zf hoB hZ (fun g e k => own_ne hoB hbx (by decide) (k ▸ e))) (by have := hgA.size; simp at *; omega), rfl, by simp [obs], Os.nil _ _, Zf.gb sB.2.2 hZ (fun i h => by omega), (((((HB2.out.gb (World.grownBy_alloc _ (.cells #[.slice none 0 0, .slice none 0 0] 29) none) (by simp)).gb (gb_drew _ none) (by simp)).gb hgA (by simp))).gb hgB (by simp)).zf hZ (by omega), ?_⟩, rfl, rfl⟩
    omega
  obtain ⟨W, B3, HLP, hW1, hW2⟩ := hlp
  rw [← hW1, ← hW2]
  clear hW1 hW2 sA sB hoA hoB hgA hgB hcA hfA hcB hfB hszA hzA
  all_goals
    clear sb c0 hwz
    have hbx0 : W.cell? ⟨B3, 0, none⟩ = some (.slice A1 L.length c1) := HLP.out.box.cell 0
    go_wp2_with fail
    go_loopw [16] (fun t wr => ∃ (i : Nat) (L1 : List Ov), t = .int .i64 i ∧ i ≤ L.length ∧ Hid (Lp w wr B3 A1 A2 c1 c2 L Q i L1)) (fun t _ => L.length - (intOf t).toNat)
    case atStart => exact ⟨0, [], rfl, Nat.zero_le _, HLP⟩
    case round =>
      obtain ⟨i, L1, rfl, hi, HLr⟩ := hrel
      clear HLP hbx0
      by_cases hlt : i < L.length
      · have HRT : Hid (RL wr A1 (L1 ++ L.drop i)) := HLr.out.rl hi HL.out
        have hlen : i < (L1 ++ L.drop i).length := by rw [List.length_append, HLr.out.len, List.length_drop]; omega
        have hgetx : (L1 ++ L.drop i)[i] = L[i] := by
          rw [List.getElem_append_right (by rw [HLr.out.len]; exact Nat.le_refl _)]
          simp [HLr.out.len]
        obtain ⟨g, hA1, hgb, hgl, -, -⟩ := own_some HLr.out.row (by omega)
        subst hA1
        obtain ⟨b, off, e1, hb, k0, k1, k2, k3, k4, k5, k6, k7⟩ := HRT.out.cells i hlen
        rw [hgetx] at k0 k1 k2 k3 k4 k5 k6 k7
        cases e1
        have hro := HL.out.2 L[i] (List.getElem_mem _)
        have hsm := HSM.out.2.2 L[i] (List.getElem_mem _)
        obtain ⟨x, hx⟩ : ∃ x, L[i] = x := ⟨_, rfl⟩
        rw [hx] at k0 k1 k2 k3 k4 k5 k6 k7 hro hsm
        obtain ⟨o, vp, vn⟩ := x
        have HX : Hid (L[i].o = o) := by unfold Hid; rw [hx]
        obtain ⟨Ap, cp, An, cn, hvp, hvn, hrp, hrn⟩ := hro
        dsimp only at k0 k1 k2 k3 k4 k5 k6 k7 hvp hvn hrp hrn hsm
        subst hvp hvn
        simp only [Nat.zero_add] at k0 k1 k2 k3 k4 k5 k6 k7
        obtain ⟨hs1, hs2⟩ := hsm
        have HRO : Hid (RO w o (.slice Ap o.ps.length cp) (.slice An o.ns.length cn)) := ⟨Ap, cp, An, cn, rfl, rfl, hrp, hrn⟩
        have hi1 : (i : Int) < (L.length : Int) := by omega
        have hb3 : wr.cell? ⟨B3, 0, none⟩ = some (.slice (some ⟨g, 0, none⟩) L.length c1) := HLr.out.box.cell 0
        have hgB : g ≠ B3 := fun e => own_ne HLr.out.row HLr.out.box (by decide) (e ▸ rfl)
        clear hx hrp hrn hgetx HRT
        go_wp2_with fail
        have HGA : Hid (wr.grownBy (wr.alloc (.cells #[.int .i64 o.s, .int .i64 o.sp, .int .i64 o.sd, .bool o.sw, .bool o.sf, .slice Ap o.ps.length cp, .slice An o.ns.length cn, .bool o.fr] 41)) none) := World.grownBy_alloc _ _ none
        have bx : Blk (wr.alloc (.cells #[.int .i64 o.s, .int .i64 o.sp, .int .i64 o.sd, .bool o.sw, .bool o.sf, .slice Ap o.ps.length cp, .slice An o.ns.length cn, .bool o.fr] 41)) wr.heap.size 41 #[.int .i64 o.s, .int .i64 o.sp, .int .i64 o.sd, .bool o.sw, .bool o.sf, .slice Ap o.ps.length cp, .slice An o.ns.length cn, .bool o.fr] := Blk.new wr 41 _
        have hgx : g ≠ wr.heap.size := by omega
        have hbl := HLr.out.box.lt
        have hbx3 : B3 ≠ wr.heap.size := by omega
        have hgw : g < (wr.alloc (.cells #[.int .i64 o.s, .int .i64 o.sp, .int .i64 o.sd, .bool o.sw, .bool o.sf, .slice Ap o.ps.length cp, .slice An o.ns.length cn, .bool o.fr] 41)).heap.size := by simp; omega
        generalize (wr.alloc (.cells #[.int .i64 o.s, .int .i64 o.sp, .int .i64 o.sd, .bool o.sw, .bool o.sf, .slice Ap o.ps.length cp, .slice An o.ns.length cn, .bool o.fr] 41)) = wa at *
        generalize wr.heap.size = Bx at *
        have sa : wa.cell? ⟨B3, 0, none⟩ = some (.slice (some ⟨g, 0, none⟩) L.length c1) ∧ wa.cell? ⟨Bx, 0, none⟩ = some (.int .i64 o.s) ∧ wa.cell? ⟨Bx, 1, none⟩ = some (.int .i64 o.sp) ∧ wa.cell? ⟨Bx, 2, none⟩ = some (.int .i64 o.sd) ∧ wa.cell? ⟨Bx, 3, none⟩ = some (.bool o.sw) ∧ wa.cell? ⟨Bx, 4, none⟩ = some (.bool o.sf) ∧ wa.cell? ⟨Bx, 5, none⟩ = some (.slice Ap o.ps.length cp) ∧ wa.cell? ⟨Bx, 6, none⟩ = some (.slice An o.ns.length cn) ∧ wa.cell? ⟨Bx, 7, none⟩ = some (.bool o.fr) := ⟨cellk hb3 HGA.out, bx.cell 0, bx.cell 1, bx.cell 2, bx.cell 3, bx.cell 4, bx.cell 5, bx.cell 6, bx.cell 7⟩
        have HRA : Hid (RO wa.drew o (.slice Ap o.ps.length cp) (.slice An o.ns.length cn)) := HRO.out.gb (grownBy_trans (grownBy_trans HLr.out.gr HGA.out) (gb_drew _ none))
        have l0 := cellk k0 (grownBy_trans HGA.out (gb_drew wa none))
        have l1 := cellk k1 (grownBy_trans HGA.out (gb_drew wa none))
        have l2 := cellk k2 (grownBy_trans HGA.out (gb_drew wa none))
        have l3 := cellk k3 (grownBy_trans HGA.out (gb_drew wa none))
        have l4 := cellk k4 (grownBy_trans HGA.out (gb_drew wa none))
        have l5 := cellk k5 (grownBy_trans HGA.out (gb_drew wa none))
        have l6 := cellk k6 (grownBy_trans HGA.out (gb_drew wa none))
        have l7 := cellk k7 (grownBy_trans HGA.out (gb_drew wa none))
        have hfa : ∀ j, wa.drew.frozen? ⟨g, j, none⟩ = false := fun j => (own_some (own_gb0 HLr.out.row (grownBy_trans HGA.out (gb_drew wa none))) (by omega)).choose_spec.2.2.2.1 j |> fun h => by
          obtain ⟨g', e, _, _, h, _⟩ := own_some (own_gb0 HLr.out.row (grownBy_trans HGA.out (gb_drew wa none))) (by omega)
          cases e; exact h j
        have HFA := Lib.hid hfa
        clear k0 k1 k2 k3 k4 k5 k6 k7 bx hb3 hfa
        go_region_held3 (fun w' => w'.cell? ⟨B3, 0, none⟩ = some (.slice (some ⟨g, 0, none⟩) L.length c1) ∧ w'.cell? ⟨Bx, 0, none⟩ = some (.int .i64 o.s) ∧ w'.cell? ⟨Bx, 1, none⟩ = some (.int .i64 o.sp) ∧ w'.cell? ⟨Bx, 2, none⟩ = some (.int .i64 o.sd) ∧ w'.cell? ⟨Bx, 3, none⟩ = some (.bool o.sw) ∧ w'.cell? ⟨Bx, 4, none⟩ = some (.bool o.sf) ∧ w'.cell? ⟨Bx, 5, none⟩ = some (.slice Ap o.ps.length cp) ∧ w'.cell? ⟨Bx, 6, none⟩ = some (.slice An o.ns.length cn) ∧ w'.cell? ⟨Bx, 7, none⟩ = some (.bool o.fr))
          (first | with_reducible exact keep9s (keep9 (keep9 sa (gb_drew _ none)) hgC) hgB hgx | with_reducible exact keep9 (keep9 sa (gb_drew _ none)) hgC | with_reducible exact keep9 sa (gb_drew _ none))
          (first
            | (go_at_call 27; refine (ownObj_any o _ _ _ HRA.out (by omega) (by omega)).mono ?_; rintro e wC ⟨vp', vn', rfl, hoP, hoN, hap, hgC⟩; obtain ⟨Ap', cp', rfl, _, _, _⟩ := Rc.of_own hoP; obtain ⟨An', cn', rfl, _, _, _⟩ := Rc.of_own hoN; have n0 := cellk l0 hgC; have n1 := cellk l1 hgC; have n2 := cellk l2 hgC; have n3 := cellk l3 hgC; have n4 := cellk l4 hgC; have n5 := cellk l5 hgC; have n6 := cellk l6 hgC; have n7 := cellk l7 hgC; have f0 := (World.frozen?_of_block (a := ⟨g, i * 8, none⟩) (hgC.block g hgw (by simp))).trans (HFA.out (i * 8)); have f1 := (World.frozen?_of_block (a := ⟨g, i * 8 + 1, none⟩) (hgC.block g hgw (by simp))).trans (HFA.out (i * 8 + 1)); have f2 := (World.frozen?_of_block (a := ⟨g, i * 8 + 2, none⟩) (hgC.block g hgw (by simp))).trans (HFA.out (i * 8 + 2)); have f3 := (World.frozen?_of_block (a := ⟨g, i * 8 + 3, none⟩) (hgC.block g hgw (by simp))).trans (HFA.out (i * 8 + 3)); have f4 := (World.frozen?_of_block (a := ⟨g, i * 8 + 4, none⟩) (hgC.block g hgw (by simp))).trans (HFA.out (i * 8 + 4)); have f5 := (World.frozen?_of_block (a := ⟨g, i * 8 + 5, none⟩) (hgC.block g hgw (by simp))).trans (HFA.out (i * 8 + 5)); have f6 := (World.frozen?_of_block (a := ⟨g, i * 8 + 6, none⟩) (hgC.block g hgw (by simp))).trans (HFA.out (i * 8 + 6)); have f7 := (World.frozen?_of_block (a := ⟨g, i * 8 + 7, none⟩) (hgC.block g hgw (by simp))).trans (HFA.out (i * 8 + 7))))
        have HST := Lib.hid (HLr.out.step hlt HX.out (grownBy_trans HGA.out (gb_drew wa none)) hgC hoP hoN hap)
        clear hgC hoP hoN hap n0 n1 n2 n3 n4 n5 n6 n7 f0 f1 f2 f3 f4 f5 f6 f7 l0 l1 l2 l3 l4 l5 l6 l7 sa
        go_wp2_with fail
        go_roundw
        case rel => exact ⟨i + 1, _, by go_num, by omega, HST⟩
        case measure => simp [intOf]; omega
      · have hkk : i = L.length := by omega
        have t0 : wr.cell? ⟨B3, 0, none⟩ = some (.slice A1 L.length c1) := HLr.out.box.cell 0
        have t1 : wr.cell? ⟨B3, 1, none⟩ = some (.slice A2 Q.length c2) := HLr.out.box.cell 1
        have r0 : wr.cell? ⟨w.heap.size + 1, 0, none⟩ = some (.slice none 0 0) := HLr.out.res.cell 0
        have r1 : wr.cell? ⟨w.heap.size + 1, 1, none⟩ = some (.slice none 0 0) := HLr.out.res.cell 1
        have q0 := HLr.out.res.free 0
        have q1 := HLr.out.res.free 1
        go_wp2_with fail
        have hZ : Zf (fun k => k = w.heap.size + 1) wr ((wr.setCell ⟨w.heap.size + 1, 0, none⟩ (.slice A1 L.length c1)).setCell ⟨w.heap.size + 1, 1, none⟩ (.slice A2 Q.length c2)) := ((Zf.refl (fun k => k = w.heap.size + 1) wr).set (by rfl)).set (by rfl)
        have hfin := HLr.out.fin hkk hZ
        rw [HPost.out]
        exact bodyPost_ret (v := .agg #[.slice A1 L.length c1, .slice A2 Q.length c2]) (by simp [results, Try.results19, go_sem, r0, r1]) rfl hfin
end Go.Proofs.Yteieljkkcnpfmaa
