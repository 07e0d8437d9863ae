/-
  Fit: of raw objects, a model.
-/
import Derived.Test.YteieljkkcnpfmaaOpen2
import Derived.StillTactics
import Derived.Test.YteieljkkcnpfmaaDo2
import Derived.Deep.CutRange
import Derived.Deep.RegionHeld3
namespace Go.Proofs.Yteieljkkcnpfmaa
open Go.ChangeShapes Go.WideShapes Go.ChangeAt Go.RowKit
set_option linter.unusedVariables false

/-- A fit object: its shape is its slices' lengths. -/
def Fo (i : Nat) (o : Ob) : Prop := o.s = i + 1 ∧ o.sp = o.ps.length ∧ o.sd = o.ns.length ∧ o.ps.length ≤ 4 ∧ o.ns.length ≤ 4
def FitO (O : List Ob) : Prop := ∀ i (h : i < O.length), Fo i O[i]
theorem FitO.snoc {O : List Ob} {o : Ob} (h : FitO O) (k : Fo O.length o) : FitO (O ++ [o]) := by
  intro i hi
  by_cases hl : i < O.length
  · rw [List.getElem_append_left hl]; exact h i hl
  · have e : i = O.length := by rw [List.length_append, List.length_singleton] at hi; omega
    subst e
    rw [List.getElem_append_right (Nat.le_refl _)]
    simpa using k
/-- Fit's memory. -/
structure Fl (w wr : World) (vo vq : Value) (L : List Ov) (Q : List (Int × Int)) : Prop where
  rs : Blk wr w.heap.size 29 #[.slice none 0 0, .slice none 0 0]
  bx : Blk wr (w.heap.size + 1) 29 #[vo, vq]
  om : Om (fun k => w.heap.size + 2 ≤ k) wr vo vq L Q
  gr : w.grownBy wr none
theorem Fl.gb {w wr w2 : World} {vo vq : Value} {L : List Ov} {Q : List (Int × Int)} (h : Fl w wr vo vq L Q) (g : wr.grownBy w2 none) : Fl w w2 vo vq L Q :=
  ⟨h.rs.gb g (by simp), h.bx.gb g (by simp), h.om.gb g, grownBy_trans h.gr g⟩
/-- Stores into a block that is no part of it. -/
theorem Fl.zf {w wr w2 : World} {vo vq : Value} {L : List Ov} {Q : List (Int × Int)} {T : Nat} (h : Fl w wr vo vq L Q) (f : Zf (fun k => k = T) wr w2) (hT : w.heap.size + 2 ≤ T) (hb : ∀ k, (fun k => vo.ownBlock = some k ∨ vq.ownBlock = some k ∨ ∃ v ∈ sls L, v.ownBlock = some k) k → k ≠ T) : Fl w w2 vo vq L Q :=
  ⟨h.rs.zf f (by omega), h.bx.zf f (by omega), ⟨own_zf h.om.row f (fun g e => hb g (.inl e)), own_zf h.om.que f (fun g e => hb g (.inr (.inl e))), h.om.os.zf f (fun v hv g e => hb g (.inr (.inr ⟨v, hv, e⟩))), h.om.zo, h.om.zq⟩, Zf.gb h.gr f (fun k hk => by omega)⟩
theorem Fl.start (w : World) : Fl w ((w.alloc (.cells #[.slice none 0 0, .slice none 0 0] 29)).alloc (.cells #[.slice none 0 0, .slice none 0 0] 29)) (.slice none 0 0) (.slice none 0 0) [] [] := by
  refine ⟨(Blk.new w 29 _).gb (World.grownBy_alloc _ _ none) (by simp), ?_, ⟨World.ownsRow_nil _ _ _ _, World.ownsRow_nil _ _ _ _, ⟨by simp, by simp, by simp [sls], by simp [sls]⟩, by simp [Value.ownBlock], by simp [Value.ownBlock]⟩, grownBy_trans (World.grownBy_alloc _ _ none) (World.grownBy_alloc _ _ none)⟩
  have := Blk.new (w.alloc (.cells #[.slice none 0 0, .slice none 0 0] 29)) 29 #[.slice none 0 0, .slice none 0 0]
  simpa using this
/-- A block that is newer than the model's. -/
def Fresh (w : World) (vo vq : Value) (L : List Ov) (T : Nat) : Prop := w.heap.size + 2 ≤ T ∧ ∀ k, (vo.ownBlock = some k ∨ vq.ownBlock = some k ∨ ∃ v ∈ sls L, v.ownBlock = some k) → k < T
theorem Fresh.of {w wr : World} {vo vq : Value} {L : List Ov} {Q : List (Int × Int)} (h : Fl w wr vo vq L Q) : Fresh w vo vq L wr.heap.size :=
  ⟨by have := h.bx.lt; omega, fun k hk => by
    rcases hk with e | e | ⟨v, hv, e⟩
    · exact own_lt h.om.row e
    · exact own_lt h.om.que e
    · obtain ⟨n, xs, ho⟩ := h.om.os.own hv
      exact own_lt ho e⟩
/-- The object is whole; it is not yet appended. -/
structure Aft (w wx : World) (vo : Value) (M : List Ov) (T : Nat) (o : Ob) (vp vn : Value) : Prop where
  fl : Fl w wx vo (.slice none 0 0) M []
  bt : Blk wx T 41 #[.int .i64 o.s, .int .i64 o.sp, .int .i64 o.sd, .bool o.sw, .bool o.sf, vp, vn, .bool o.fr]
  p : wx.ownsRow (T + 1) 3 1 vp o.ps.length (ints o.ps)
  n : wx.ownsRow (T + 1) 3 1 vn o.ns.length (ints o.ns)
  ap : ap vp vn
  fresh : Fresh w vo (.slice none 0 0) M T
def AftR (w : World) (vo : Value) (M : List Ov) (T k : Nat) (wx : World) : Prop := ∃ o vp vn, Fo k o ∧ Aft w wx vo M T o vp vn
theorem Aft.weak {w wy : World} {vo : Value} {M : List Ov} {T k : Nat} {fr : Bool} (q : Int) (h : Fl w wy vo (.slice none 0 0) M []) (hT : Fresh w vo (.slice none 0 0) M T) (hb : Blk wy T 41 #[.int .i64 (k + 1), .int .i64 1, .int .i64 0, .bool true, .bool false, .slice none 0 0, .slice none 0 0, .bool fr]) :
    AftR w vo M T k ((wy.setCell ⟨T, 5, none⟩ (.slice (some ⟨wy.heap.size, 0, none⟩) 1 1)).alloc (.cells #[.int .i64 q] 3)) := by
  have f : Zf (fun k => k = T) wy (wy.setCell ⟨T, 5, none⟩ (.slice (some ⟨wy.heap.size, 0, none⟩) 1 1)) := (Zf.refl (fun k => k = T) wy).set (by rfl)
  have hlt := hb.lt
  refine ⟨⟨k + 1, 1, 0, true, false, [q], [], fr⟩, .slice (some ⟨wy.heap.size, 0, none⟩) 1 1, .slice none 0 0, ⟨rfl, rfl, rfl, by simp, by simp⟩, ⟨(h.zf f hT.1 (fun k hk => by have := hT.2 k hk; omega)).gb (World.grownBy_alloc _ _ none), (hb.set 5 _).gb (World.grownBy_alloc _ _ none) (by simp), ?_, World.ownsRow_nil _ _ _ _, fun g e => by simp [Value.ownBlock], hT⟩⟩
  have b3 := Blk.new (wy.setCell ⟨T, 5, none⟩ (.slice (some ⟨wy.heap.size, 0, none⟩) 1 1)) 3 #[.int .i64 q]
  rw [show (wy.setCell ⟨T, 5, none⟩ (.slice (some ⟨wy.heap.size, 0, none⟩) 1 1)).heap.size = wy.heap.size from by simp] at b3
  exact own_lit (xs := [q]) (n := 1) b3 rfl (by omega) (by omega)
/-- One object more, whose slices are newer than T. -/
theorem Os.snocT {N : Nat → Prop} {w : World} {L : List Ov} {T : Nat} (h : Os N w L) (hlt : ∀ v ∈ sls L, ∀ b, v.ownBlock = some b → b < T) (x : Ov) (hp : w.ownsRow T 3 1 x.vp x.o.ps.length (ints x.o.ps)) (hn : w.ownsRow T 3 1 x.vn x.o.ns.length (ints x.o.ns)) (ha : ap x.vp x.vn) (hz : ∀ k, T ≤ k → N k) : Os N w (L ++ [x]) := by
  refine ⟨fun y hy => ?_, fun y hy => ?_, fun v hv b e => ?_, ?_⟩
  · rcases List.mem_append.1 hy with hy | hy
    · exact h.p y hy
    · rw [List.mem_singleton.1 hy]; exact own_base hp (Nat.zero_le _)
  · rcases List.mem_append.1 hy with hy | hy
    · exact h.n y hy
    · rw [List.mem_singleton.1 hy]; exact own_base hn (Nat.zero_le _)
  · unfold sls at hv
    rw [List.flatMap_append] at hv
    rcases List.mem_append.1 hv with hv | hv
    · exact h.z v hv b e
    · simp at hv
      rcases hv with rfl | rfl
      · exact hz b (hp.lt b e).1
      · exact hz b (hn.lt b e).1
  · unfold sls
    rw [List.flatMap_append]
    refine List.pairwise_append.2 ⟨h.apart, ?_, fun u hu v hv b e k => ?_⟩
    · simp [ha]
    · have h1 := hlt u hu b e
      simp at hv
      rcases hv with rfl | rfl
      · have := (hp.lt b k).1; omega
      · have := (hn.lt b k).1; omega
/-- The object is appended. -/
theorem Fl.app {w wc w8 : World} {vo : Value} {M : List Ov} {T g cap : Nat} {o : Ob} {vp vn : Value} {e : Obj} (h : Aft w wc vo M T o vp vn)
    (hown : w8.ownsRow 0 41 8 (.slice (some ⟨g, 0, none⟩) (M.length + 1) cap) (M.length + 1) (ovs M ++ ov ⟨o, vp, vn⟩)) (hg : (wc.alloc e).grownBy w8 vo.ownBlock) (hat : vo.ownBlock = some g ∨ g = wc.heap.size + 1) :
    Fl w (w8.setCell ⟨w.heap.size + 1, 0, none⟩ (.slice (some ⟨g, 0, none⟩) (M.length + 1) cap)) (.slice (some ⟨g, 0, none⟩) (M.length + 1) cap) (.slice none 0 0) (M ++ [⟨o, vp, vn⟩]) [] := by
  have gA : wc.grownBy (wc.alloc e) none := World.grownBy_alloc _ _ none
  have h1 := h.fl.gb gA
  have hT := h.fresh.1
  have hlt := h.bt.lt
  have hos : Os (fun k => w.heap.size + 2 ≤ k) (wc.alloc e) (M ++ [⟨o, vp, vn⟩]) := (h1.om.os).snocT (T := T + 1) (fun v hv b q => by have := h.fresh.2 b (.inr (.inr ⟨v, hv, q⟩)); omega) ⟨o, vp, vn⟩ (own_gb0 h.p gA) (own_gb0 h.n gA) h.ap (fun k hk => by omega)
  have f1 : Zf (fun k => vo.ownBlock = some k) (wc.alloc e) w8 := Zf.of_gb hg (fun b q => q)
  have f2 : Zf (fun k => k = w.heap.size + 1) w8 (w8.setCell ⟨w.heap.size + 1, 0, none⟩ (.slice (some ⟨g, 0, none⟩) (M.length + 1) cap)) := (Zf.refl (fun k => k = w.heap.size + 1) w8).set (by rfl)
  have hz1 : ∀ k, vo.ownBlock = some k → w.heap.size + 2 ≤ k := fun k q => h1.om.zo k q
  have hos8 := hos.zf f1 (fun v hv b q k => by
    obtain ⟨n', xs', hv'⟩ := hos.own hv
    exact own_own hv' h1.om.row (by decide) q k)
  have hgz : w.heap.size + 2 ≤ g := by
    rcases hat with q | q
    · exact hz1 g q
    · omega
  have nz : ∀ k, k < w.heap.size + 2 → ¬ vo.ownBlock = some k := fun k hk q => by have := hz1 k q; omega
  refine ⟨(h1.rs.zf f1 (nz _ (by omega))).zf f2 (by omega), (h1.bx.zf f1 (nz _ (by omega))).set 0 _, ⟨?_, World.ownsRow_nil _ _ _ _, hos8.zf f2 (fun v hv b q k => by have := hos8.z v hv b q; omega), fun b q => ?_, by simp [Value.ownBlock]⟩, ?_⟩
  · rw [List.length_append, List.length_singleton, ovs_snoc]
    exact own_zf hown f2 (fun b q k => by
      have e' : g = b := by simpa [Value.ownBlock] using q
      omega)
  · have e' : g = b := by simpa [Value.ownBlock] using q
    exact e' ▸ hgz
  · exact Zf.gb (Zf.gb h1.gr f1 (fun k hk => by have := hz1 k hk; omega)) f2 (fun k hk => by omega)
theorem Fl.box8 {w wc w8 : World} {vo : Value} {M : List Ov} {e : Obj} (h : Fl w wc vo (.slice none 0 0) M []) (hg : (wc.alloc e).grownBy w8 vo.ownBlock) : Blk w8 (w.heap.size + 1) 29 #[vo, .slice none 0 0] :=
  (h.gb (World.grownBy_alloc _ _ none)).bx.gb hg (fun q => by have := h.om.zo _ q; omega)
theorem FitO.obs_snoc {M : List Ov} {x : Ov} {k : Nat} (h : FitO (obs M)) (hl : M.length = k) (k2 : Fo k x.o) : FitO (obs (M ++ [x])) := by
  have e : obs (M ++ [x]) = obs M ++ [x.o] := by simp [obs]
  rw [e]
  exact h.snoc (by simpa [obs, hl] using k2)
theorem Zf.sub {Z Z2 : Nat → Prop} {a b : World} (h : Zf Z a b) (k : ∀ i, Z i → Z2 i) : Zf Z2 a b := ⟨h.os, h.tape, h.output, h.size, fun i hi hn => h.block i hi (fun z => hn (k i z))⟩
theorem Fl.zfT {w wr w2 : World} {vo vq : Value} {L : List Ov} {Q : List (Int × Int)} {T : Nat} (h : Fl w wr vo vq L Q) (hT : Fresh w vo vq L T) (f : Zf (fun k => T ≤ k) wr w2) : Fl w w2 vo vq L Q :=
  ⟨h.rs.zf f (by have := hT.1; omega), h.bx.zf f (by have := hT.1; omega), ⟨own_zf h.om.row f (fun g e => by have := hT.2 g (.inl e); omega), own_zf h.om.que f (fun g e => by have := hT.2 g (.inr (.inl e)); omega), h.om.os.zf f (fun v hv g e => by have := hT.2 g (.inr (.inr ⟨v, hv, e⟩)); omega), h.om.zo, h.om.zq⟩, Zf.gb h.gr f (fun k hk => by have := hT.1; omega)⟩
/-- The object's pointers are being laid. -/
structure L2 (w wx : World) (vo : Value) (M : List Ov) (T k np nd : Nat) (sf fr : Bool) (vp : Value) (ps : List Int) : Prop where
  fl : Fl w wx vo (.slice none 0 0) M []
  bt : Blk wx T 41 #[.int .i64 (k + 1), .int .i64 np, .int .i64 nd, .bool false, .bool sf, vp, .slice none 0 0, .bool fr]
  p : wx.ownsRow (T + 1) 3 1 vp ps.length (ints ps)
  fresh : Fresh w vo (.slice none 0 0) M T
theorem L2.gb {w wx w2 : World} {vo : Value} {M : List Ov} {T k np nd : Nat} {sf fr : Bool} {vp : Value} {ps : List Int} (h : L2 w wx vo M T k np nd sf fr vp ps) (g : wx.grownBy w2 none) : L2 w w2 vo M T k np nd sf fr vp ps :=
  ⟨h.fl.gb g, h.bt.gb g (by simp), own_gb0 h.p g, h.fresh⟩
/-- The shape is laid. -/
theorem L2.of {w wt : World} {vo : Value} {M : List Ov} {T k np nd : Nat} {sf fr : Bool} {a c : Int} (h : Fl w wt vo (.slice none 0 0) M []) (hT : Fresh w vo (.slice none 0 0) M T) (hb : Blk wt T 41 #[.int .i64 (k + 1), .int .i64 0, .int .i64 0, .bool false, .bool false, .slice none 0 0, .slice none 0 0, .bool fr]) (ha : a = np) (hc : c = nd) :
    L2 w ((((wt.setCell ⟨T, 1, none⟩ (.int .i64 a)).setCell ⟨T, 2, none⟩ (.int .i64 c)).setCell ⟨T, 3, none⟩ (.bool false)).setCell ⟨T, 4, none⟩ (.bool sf)).drew vo M T k np nd sf fr (.slice none 0 0) [] := by
  subst ha hc
  have f : Zf (fun k => T ≤ k) wt ((((wt.setCell ⟨T, 1, none⟩ (.int .i64 np)).setCell ⟨T, 2, none⟩ (.int .i64 nd)).setCell ⟨T, 3, none⟩ (.bool false)).setCell ⟨T, 4, none⟩ (.bool sf)) := ((((Zf.refl (fun k => T ≤ k) wt).set (Nat.le_refl T)).set (Nat.le_refl T)).set (Nat.le_refl T)).set (Nat.le_refl T)
  exact ⟨(h.zfT hT f).gb (gb_drew _ none), ((((hb.set 1 _).set 2 _).set 3 _).set 4 _).gb (gb_drew _ none) (by simp), World.ownsRow_nil _ _ _ _, hT⟩
/-- A pointer more. -/
theorem L2.step {w wx wA w8 : World} {vo : Value} {M : List Ov} {T k np nd : Nat} {sf fr : Bool} {vp v8 : Value} {ps : List Int} {p : Int} (h : L2 w wx vo M T k np nd sf fr vp ps) (gA : wx.grownBy wA none) (hown : w8.ownsRow (T + 1) 3 1 v8 (ps.length + 1) (ints ps ++ [.int .i64 p])) (g8 : wA.grownBy w8 vp.ownBlock) :
    L2 w (w8.setCell ⟨T, 5, none⟩ v8) vo M T k np nd sf fr v8 (ps ++ [p]) := by
  have h1 := h.gb gA
  have f1 : Zf (fun k => vp.ownBlock = some k) wA w8 := Zf.of_gb g8 (fun b q => q)
  have f2 : Zf (fun k => k = T) w8 (w8.setCell ⟨T, 5, none⟩ v8) := (Zf.refl (fun k => k = T) w8).set (by rfl)
  have hz : ∀ k, vp.ownBlock = some k → T + 1 ≤ k := fun k q => (h1.p.lt k q).1
  refine ⟨(h1.fl.zfT h.fresh (f1.sub (fun i hi => by have := hz i hi; omega))).zfT h.fresh (f2.sub (fun i hi => by omega)), (h1.bt.zf f1 (fun q => by have := hz _ q; omega)).set 5 v8, ?_, h.fresh⟩
  rw [List.length_append, List.length_singleton, show ints (ps ++ [p]) = ints ps ++ [.int .i64 p] from by simp [ints]]
  exact own_zf hown f2 (fun b q k => by have := (hown.lt b q).1; omega)
/-- The numbers are laid: the object is whole. -/
theorem L2.fin {w wx wA : World} {vo : Value} {M : List Ov} {T k np nd : Nat} {sf fr : Bool} {vp vn : Value} {ps ns : List Int} (h : L2 w wx vo M T k np nd sf fr vp ps) (gA : wx.grownBy wA none) (hown : wA.ownsRow wx.heap.size 3 1 vn ns.length (ints ns)) (hp : ps.length = np) (hn : ns.length = nd) (h4 : np ≤ 4) (h5 : nd ≤ 4) :
    AftR w vo M T k (wA.setCell ⟨T, 6, none⟩ vn) := by
  have h1 := h.gb gA
  have f2 : Zf (fun k => k = T) wA (wA.setCell ⟨T, 6, none⟩ vn) := (Zf.refl (fun k => k = T) wA).set (by rfl)
  have hlt := h.bt.lt
  refine ⟨⟨k + 1, np, nd, false, sf, ps, ns, fr⟩, vp, vn, ⟨rfl, by rw [hp], by rw [hn], (by show ps.length ≤ 4; omega), (by show ns.length ≤ 4; omega)⟩, ⟨h1.fl.zfT h.fresh (f2.sub (fun i hi => by omega)), h1.bt.set 6 vn, own_zf h1.p f2 (fun b q k => by have := (h1.p.lt b q).1; omega), own_base (own_zf hown f2 (fun b q k => by have := (hown.lt b q).1; omega)) (by omega), fun g e q => ?_, h.fresh⟩⟩
  have h2 := own_lt h.p e
  have h3 := (hown.lt g q).1
  omega
theorem getD_mem' {xs : List Int} {n : Nat} (h : (ints xs).length = n * 1) (j : Nat) (hj : j < n) : xs.getD j 0 ∈ xs := by
  rw [ints_length] at h
  have hl : j < xs.length := by omega
  have e : xs.getD j 0 = xs[j] := by simp [hl]
  rw [e]
  exact List.getElem_mem hl
theorem keep3f {W W' : World} {r : Option Nat} {a b c : Addr} {u v x : Value} (h : W.cell? a = some u ∧ W.cell? b = some v ∧ W.cell? c = some x) (g : W.grownBy W' r) (n0 : some a.block ≠ r) (n1 : some b.block ≠ r) (n2 : some c.block ≠ r) : W'.cell? a = some u ∧ W'.cell? b = some v ∧ W'.cell? c = some x :=
  ⟨(World.cell?_of_block (g.block a.block (World.block_lt_of_cell? W _ h.1) n0)).trans h.1, (World.cell?_of_block (g.block b.block (World.block_lt_of_cell? W _ h.2.1) n1)).trans h.2.1, (World.cell?_of_block (g.block c.block (World.block_lt_of_cell? W _ h.2.2) n2)).trans h.2.2⟩
theorem Rd.take {w : World} {A : Option Addr} {n m : Nat} {xs : List Int} (h : Rc w A n 1 (ints xs)) (hm : m ≤ n) : Rc w A m 1 (ints (xs.take m)) := by
  have hl := h.len
  rw [ints_length] at hl
  refine ⟨by rw [ints_length, List.length_take]; omega, by have := h.le; omega, fun hn => ?_⟩
  obtain ⟨b, off, hA, hb, hc⟩ := h.at_ (by omega)
  refine ⟨b, off, hA, hb, fun j hj => ?_⟩
  rw [hc j (by omega)]
  simp [ints, show j < m from by omega]
/-- An item more. -/
theorem Fl.item {w wr wA w8 : World} {vo vq : Value} {M : List Ov} {Q : List (Int × Int)} {g cap : Nat} {x : Int × Int} (h : Fl w wr vo vq M Q) (gA : wr.grownBy wA none)
    (hown : w8.ownsRow 0 43 2 (.slice (some ⟨g, 0, none⟩) (Q.length + 1) cap) (Q.length + 1) (its Q ++ it x)) (g8 : wA.grownBy w8 vq.ownBlock) (hat : vq.ownBlock = some g ∨ g = wA.heap.size) :
    Fl w (w8.setCell ⟨w.heap.size + 1, 1, none⟩ (.slice (some ⟨g, 0, none⟩) (Q.length + 1) cap)) vo (.slice (some ⟨g, 0, none⟩) (Q.length + 1) cap) M (Q ++ [x]) := by
  have h1 := h.gb gA
  have hlt := h1.bx.lt
  have f1 : Zf (fun k => vq.ownBlock = some k) wA w8 := Zf.of_gb g8 (fun b q => q)
  have f2 : Zf (fun k => k = w.heap.size + 1) w8 (w8.setCell ⟨w.heap.size + 1, 1, none⟩ (.slice (some ⟨g, 0, none⟩) (Q.length + 1) cap)) := (Zf.refl (fun k => k = w.heap.size + 1) w8).set (by rfl)
  have hz1 : ∀ k, vq.ownBlock = some k → w.heap.size + 2 ≤ k := fun k q => h1.om.zq k q
  have nz : ∀ k, k < w.heap.size + 2 → ¬ vq.ownBlock = some k := fun k hk q => by have := hz1 k q; omega
  have hgz : w.heap.size + 2 ≤ g := by
    rcases hat with q | q
    · exact hz1 g q
    · omega
  refine ⟨(h1.rs.zf f1 (nz _ (by omega))).zf f2 (by omega), (h1.bx.zf f1 (nz _ (by omega))).set 1 _, ⟨own_zf (own_zf h1.om.row f1 (fun b e k => own_own h1.om.row h1.om.que (by decide) e k)) f2 (fun b e k => by have := h1.om.zo b e; omega), ?_, (h1.om.os.zf f1 (fun v hv b q k => by
    obtain ⟨n', xs', hv'⟩ := h1.om.os.own hv
    exact own_own hv' h1.om.que (by decide) q k)).zf f2 (fun v hv b q k => by have := h1.om.os.z v hv b q; omega), h1.om.zo, fun b q => ?_⟩, Zf.gb (Zf.gb h1.gr f1 (fun k hk => by have := hz1 k hk; omega)) f2 (fun k hk => by omega)⟩
  · rw [List.length_append, List.length_singleton, its_snoc]
    exact own_zf hown f2 (fun b q k => by
      have e' : g = b := by simpa [Value.ownBlock] using q
      omega)
  · have e' : g = b := by simpa [Value.ownBlock] using q
    exact e' ▸ hgz
theorem keep2f {W W' : World} {r : Option Nat} {a b : Addr} {u v : Value} (h : W.cell? a = some u ∧ W.cell? b = some v) (g : W.grownBy W' r) (n0 : some a.block ≠ r) (n1 : some b.block ≠ r) : W'.cell? a = some u ∧ W'.cell? b = some v :=
  ⟨(World.cell?_of_block (g.block a.block (World.block_lt_of_cell? W _ h.1) n0)).trans h.1, (World.cell?_of_block (g.block b.block (World.block_lt_of_cell? W _ h.2) n1)).trans h.2⟩
def FitR (w : World) (n : Nat) (e : Ending) (w' : World) : Prop := ∃ v O Q, e = .returned v ∧ RM w' v O Q ∧ FitO O ∧ O.length = n ∧ Q.length ≤ 4 ∧ w.grownBy w' none
theorem Fl.fin {w wr w2 : World} {vo vq : Value} {M : List Ov} {Q : List (Int × Int)} {n : Nat} (h : Fl w wr vo vq M Q) (ho : FitO (obs M)) (hn : M.length = n) (hq : Q.length ≤ 4) (f : Zf (fun k => k = w.heap.size) wr w2) : FitR w n (.returned (.agg #[vo, vq])) w2 :=
  ⟨_, _, _, rfl, (h.om.zf f (fun k hk e => by omega)).rm, ho, by simpa [obs] using hn, hq, Zf.gb h.gr f (fun k hk => by omega)⟩
set_option maxRecDepth 100000 in
set_option maxHeartbeats 4000000 in
theorem fit_any (Ao Aq : Option Addr) (co nq cq : Nat) (L : List Ov) (Q : List (Int × Int)) (w : World) (hL : RL w Ao L) (hlo : ∀ y ∈ L, Lo y.o ∧ Cp y) (hQ : Rc w Aq Q.length 2 (its Q)) (hq : ∀ x ∈ Q, -9223372036854775808 ≤ x.1) :
    Calls Try.prog 9 #[.slice Ao L.length co, .slice Aq Q.length cq] w (FitR w (min L.length 8)) := by
  have HL := Lib.hid hL
  have HLO := Lib.hid hlo
  have HQ := Lib.hid hQ
  have HQL := Lib.hid hq
  have hl := hL.1.le
  have hql := hQ.le
  clear hL hlo hQ hq
  obtain ⟨n, hn⟩ : ∃ n, n = min L.length 8 := ⟨_, rfl⟩
  have hn8 : n ≤ 8 := by omega
  have hnl : n ≤ L.length := by omega
  have HN := Lib.hid hn
  obtain ⟨Post, hPost⟩ : ∃ Post, Post = FitR w (min L.length 8) := ⟨_, rfl⟩
  rw [← hPost]
  have HPost := Lib.hid hPost
  rw [← hn] at HPost
  clear hn hPost
  have he8 : 8 < (L.length : Int) → Value.int IntKind.i64 8 = Value.int IntKind.i64 (n : Int) := fun h => by have := HN.out; rw [show (n : Int) = 8 from by omega]
  have hel : ¬ 8 < (L.length : Int) → Value.int IntKind.i64 (L.length : Int) = Value.int IntKind.i64 (n : Int) := fun h => by have := HN.out; rw [show (n : Int) = L.length from by omega]
  have HE8 := Lib.hid he8
  have HEL := Lib.hid hel
  have HF := Lib.hid (Fl.start w)
  clear he8 hel
  by_cases h8 : 8 < (L.length : Int)
  · go_enter Try.func9, Try.ntmps9
    go_wp2_with fail
    rw [HE8.out h8]
    clear h8 HE8 HEL
    generalize ((w.alloc (.cells #[.slice none 0 0, .slice none 0 0] 29)).alloc (.cells #[.slice none 0 0, .slice none 0 0] 29)) = wb at *

    go_loopw [7] (fun i wr => ∃ (k : Nat) (vo : Value) (M : List Ov), i = .int .i64 k ∧ k ≤ n ∧ Hid (Fl w wr vo (.slice none 0 0) M []) ∧ Hid (FitO (obs M)) ∧ M.length = k) (fun i _ => n - (intOf i).toNat)
    case atStart => exact ⟨0, _, [], rfl, Nat.zero_le _, HF, fun i hi => by simp [obs] at hi, rfl⟩
    case round =>
      obtain ⟨k, vo, M, rfl, hk, HF2, HFO, hml⟩ := hrel
      clear HF
      by_cases hkn : k < n
      · have hkl : k < L.length := by omega
        obtain ⟨b, off, rfl, hb, k0, k1, k2, k3, k4, k5, k6, k7⟩ := HL.out.cells k hkl
        have hro := HL.out.2 L[k] (List.getElem_mem _)
        obtain ⟨hlo, hcp⟩ := HLO.out L[k] (List.getElem_mem _)
        obtain ⟨Ap, cp, An, cn, hvp, hvn, hr1, hr2⟩ := hro
        have hcp' : L[k].o.ns.length ≤ cn := by
          obtain ⟨A, m, c, e1, e2⟩ := hcp
          rw [hvn] at e1
          cases e1
          exact e2
        rw [hvp] at k5
        rw [hvn] at k6
        have HRP := Lib.hid hr1
        have HRN := Lib.hid hr2
        have HLO2 := Lib.hid hlo
        clear hvp hvn hr1 hr2 hlo hcp
        generalize L[k].o = o at *
        have k5w := k5
        have k6w := k6
        have K5W := Lib.hid k5w
        have K6W := Lib.hid k6w
        clear k5w k6w
        replace k0 := cellk k0 HF2.out.gr
        replace k1 := cellk k1 HF2.out.gr
        replace k2 := cellk k2 HF2.out.gr
        replace k3 := cellk k3 HF2.out.gr
        replace k4 := cellk k4 HF2.out.gr
        replace k5 := cellk k5 HF2.out.gr
        replace k6 := cellk k6 HF2.out.gr
        replace k7 := cellk k7 HF2.out.gr
        have hk0 : (0 : Int) ≤ (k : Int) := by omega
        have hk1 : (k : Int) < (L.length : Int) := by omega
        have hblt := World.block_lt_of_cell? wr _ k0
        generalize o.sw = sw at *
        go_upto_if 32 with (fail)
        obtain ⟨wt, hwt⟩ : ∃ wt, wt = wr.alloc (.cells #[.int .i64 (k + 1), .int .i64 0, .int .i64 0, .bool false, .bool false, .slice none 0 0, .slice none 0 0, .bool o.fr] 41) := ⟨_, rfl⟩
        have gt : wr.grownBy wt none := by rw [hwt]; exact World.grownBy_alloc _ _ none
        have BT : Blk wt wr.heap.size 41 #[.int .i64 (k + 1), .int .i64 0, .int .i64 0, .bool false, .bool false, .slice none 0 0, .slice none 0 0, .bool o.fr] := by rw [hwt]; exact Blk.new _ _ _
        rw [← hwt]
        have HBT := Lib.hid BT
        have HF3 := Lib.hid (HF2.out.gb gt)
        have HFR := Lib.hid (Fresh.of HF2.out)
        replace k0 := cellk k0 gt
        replace k4 := cellk k4 gt
        replace k5 := cellk k5 gt
        replace k6 := cellk k6 gt
        clear hwt gt BT k1 k2 k3 k7 HF2 hblt
        generalize wr.heap.size = T at *
        have t1 : wt.cell? ⟨T, 1, none⟩ = some (.int .i64 0) := HBT.out.cell 1
        have t2 : wt.cell? ⟨T, 2, none⟩ = some (.int .i64 0) := HBT.out.cell 2
        have t3 : wt.cell? ⟨T, 3, none⟩ = some (.bool false) := HBT.out.cell 3
        have t4 : wt.cell? ⟨T, 4, none⟩ = some (.bool false) := HBT.out.cell 4
        have f1 := HBT.out.free 1
        have f2 := HBT.out.free 2
        have f3 := HBT.out.free 3
        have f4 := HBT.out.free 4
        have hbT : ¬ b = T := by have := HFR.out.1; omega
        have hbT' : ¬ T = b := by omega
        go_cut [] from 14 to 108 (fun wx => AftR w vo M T k wx)
        case first =>
          cases sw
          · obtain ⟨np, hnp⟩ : ∃ np, np = min o.ps.length 4 := ⟨_, rfl⟩
            obtain ⟨nd, hnd⟩ : ∃ nd, nd = min o.ns.length 4 := ⟨_, rfl⟩
            have hnp4 : np ≤ 4 := by omega
            have hnd4 : nd ≤ 4 := by omega
            have hnpl : np ≤ o.ps.length := by omega
            have hndl : nd ≤ o.ns.length := by omega
            have HNP := Lib.hid hnp
            have HND := Lib.hid hnd
            clear hnp hnd
            go_upto_region 10 with (fail)
            go_cut [] from 14 to 108 (fun wx => Hid (L2 w wx vo M T k np nd o.sf o.fr (.slice none 0 0) []))
            case first =>
              refine wp_region_still_tail 22 (by kernel_rfl) (by kernel_rfl) ?_
              simp only [List.take_succ_cons, List.take_zero, List.drop_succ_cons, List.drop_zero]
              repeat still_step
              try refine wpStill_nil ?_
              try change wpList _ _ _ _ _ wt.drew
              go_wp2_with fail
              all_goals
                go_meet
                case rel => exact L2.of HF3.out HFR.out HBT.out (by have := HNP.out; omega) (by have := HND.out; omega)
            case rest =>
              clear t1 t2 t3 t4 f1 f2 f3 f4
              go_wp2_with fail
              have HLL := Lib.hid hcut
              clear hcut HF3 HBT
              go_loopw [9] (fun s wv => ∃ (j : Nat) (vp : Value) (ps : List Int), s = .int .i64 j ∧ j ≤ np ∧ Hid (L2 w wv vo M T k np nd o.sf o.fr vp ps) ∧ ps.length = j) (fun s _ => np - (intOf s).toNat)
              case atStart => exact ⟨0, _, [], rfl, Nat.zero_le _, HLL.out, rfl⟩
              case round =>
                obtain ⟨j, vp, ps, rfl, hj, HL2, hpsl⟩ := hrel
                clear HLL
                have c1 : wr.cell? ⟨T, 1, none⟩ = some (.int .i64 np) := HL2.out.bt.cell 1
                have hTl := HL2.out.bt.lt
                by_cases hjn : j < np
                · have hjl : j < o.ps.length := by omega
                  obtain ⟨bp, offp, rfl, hbp, hcp⟩ := Rd.at1 HRP.out j hjl
                  have hxb : -9223372036854775808 ≤ o.ps.getD j 0 := HLO2.out.2.1 _ (getD_mem' HRP.out.len j hjl)
                  have hS0 : wr.cell? ⟨T, 5, none⟩ = some vp := HL2.out.bt.cell 5
                  have hS1 : wr.cell? ⟨b, off + k * 8 + 5, none⟩ = some (.slice (some ⟨bp, offp, none⟩) o.ps.length cp) := cellk K5W.out HL2.out.fl.gr
                  have hS2 : wr.cell? ⟨bp, offp + j, none⟩ = some (.int .i64 (o.ps.getD j 0)) := cellk hcp HL2.out.fl.gr
                  generalize o.ps.getD j 0 = x at *
                  have hj0 : (0 : Int) ≤ (j : Int) := by omega
                  have hj1 : (j : Int) < (o.ps.length : Int) := by omega
                  have hn0 : (0 : Int) ≤ (n : Int) := by omega
                  have hn9 : (n : Int) ≤ 8 := by omega
                  clear hcp
                  go_wp2_with fail
                  refine wp_region_noPanic ?_
                  have hS : (fun w' : World => w'.cell? ⟨T, 5, none⟩ = some vp ∧ w'.cell? ⟨b, off + k * 8 + 5, none⟩ = some (.slice (some ⟨bp, offp, none⟩) o.ps.length cp) ∧ w'.cell? ⟨bp, offp + j, none⟩ = some (.int .i64 x)) wr.drew := ⟨hS0, hS1, hS2⟩
                  refine Tl.begin (S := fun w' => w'.cell? ⟨T, 5, none⟩ = some vp ∧ w'.cell? ⟨b, off + k * 8 + 5, none⟩ = some (.slice (some ⟨bp, offp, none⟩) o.ps.length cp) ∧ w'.cell? ⟨bp, offp + j, none⟩ = some (.int .i64 x)) (m := 16) (by kernel_rfl) ?_
                  refine Tl.take (i := 0) (oi := ⟨some 74, _, _, _, _, _⟩) (v := .pointer (some ⟨T, 5, none⟩)) rfl (by kernel_rfl) (by kernel_rfl) (by kernel_rfl) (by kernel_rfl) (fun _ _ _ h => h) (Or.inl ⟨by rfl, ?_⟩) hS ?_
                  · intro w' hSw
                    obtain ⟨j0, j1, j2⟩ := hSw
                    go_simp
                  simp only [Act.put, List.setIfInBounds_toArray, List.set_cons_zero, List.set_cons_succ]
                  refine Tl.take (i := 1) (oi := ⟨some 75, _, _, _, _, _⟩) (v := vp) rfl (by kernel_rfl) (by kernel_rfl) (by kernel_rfl) (by kernel_rfl) (fun _ _ _ h => h) (Or.inl ⟨by rfl, ?_⟩) hS ?_
                  · intro w' hSw
                    obtain ⟨j0, j1, j2⟩ := hSw
                    go_simp
                  simp only [Act.put, List.setIfInBounds_toArray, List.set_cons_zero, List.set_cons_succ]
                  refine Tl.take (i := 2) (oi := ⟨some 76, _, _, _, _, _⟩) (v := .slice (some ⟨b, off, none⟩) L.length co) rfl (by kernel_rfl) (by kernel_rfl) (by kernel_rfl) (by kernel_rfl) (fun _ _ _ h => h) (Or.inl ⟨by rfl, ?_⟩) hS ?_
                  · intro w' hSw
                    obtain ⟨j0, j1, j2⟩ := hSw
                    go_simp
                  simp only [Act.put, List.setIfInBounds_toArray, List.set_cons_zero, List.set_cons_succ]
                  refine Tl.take (i := 3) (oi := ⟨some 77, _, _, _, _, _⟩) (v := .int .i64 k) rfl (by kernel_rfl) (by kernel_rfl) (by kernel_rfl) (by kernel_rfl) (fun _ _ _ h => h) (Or.inl ⟨by rfl, ?_⟩) hS ?_
                  · intro w' hSw
                    obtain ⟨j0, j1, j2⟩ := hSw
                    go_simp
                  simp only [Act.put, List.setIfInBounds_toArray, List.set_cons_zero, List.set_cons_succ]
                  refine Tl.take (i := 4) (oi := ⟨some 78, _, _, _, _, _⟩) (v := .pointer (some ⟨b, off + k * 8, none⟩)) rfl (by kernel_rfl) (by kernel_rfl) (by kernel_rfl) (by kernel_rfl) (fun _ _ _ h => h) (Or.inl ⟨by rfl, ?_⟩) hS ?_
                  · intro w' hSw
                    obtain ⟨j0, j1, j2⟩ := hSw
                    go_simp
                  simp only [Act.put, List.setIfInBounds_toArray, List.set_cons_zero, List.set_cons_succ]
                  refine Tl.take (i := 5) (oi := ⟨some 79, _, _, _, _, _⟩) (v := .pointer (some ⟨b, off + k * 8 + 5, none⟩)) rfl (by kernel_rfl) (by kernel_rfl) (by kernel_rfl) (by kernel_rfl) (fun _ _ _ h => h) (Or.inl ⟨by rfl, ?_⟩) hS ?_
                  · intro w' hSw
                    obtain ⟨j0, j1, j2⟩ := hSw
                    go_simp
                  simp only [Act.put, List.setIfInBounds_toArray, List.set_cons_zero, List.set_cons_succ]
                  refine Tl.take (i := 6) (oi := ⟨some 80, _, _, _, _, _⟩) (v := .slice (some ⟨bp, offp, none⟩) o.ps.length cp) rfl (by kernel_rfl) (by kernel_rfl) (by kernel_rfl) (by kernel_rfl) (fun _ _ _ h => h) (Or.inl ⟨by rfl, ?_⟩) hS ?_
                  · intro w' hSw
                    obtain ⟨j0, j1, j2⟩ := hSw
                    go_simp
                  simp only [Act.put, List.setIfInBounds_toArray, List.set_cons_zero, List.set_cons_succ]
                  refine Tl.take (i := 7) (oi := ⟨some 81, _, _, _, _, _⟩) (v := .int .i64 j) rfl (by kernel_rfl) (by kernel_rfl) (by kernel_rfl) (by kernel_rfl) (fun _ _ _ h => h) (Or.inl ⟨by rfl, ?_⟩) hS ?_
                  · intro w' hSw
                    obtain ⟨j0, j1, j2⟩ := hSw
                    go_simp
                  simp only [Act.put, List.setIfInBounds_toArray, List.set_cons_zero, List.set_cons_succ]
                  refine Tl.take (i := 8) (oi := ⟨some 82, _, _, _, _, _⟩) (v := .pointer (some ⟨bp, offp + j, none⟩)) rfl (by kernel_rfl) (by kernel_rfl) (by kernel_rfl) (by kernel_rfl) (fun _ _ _ h => h) (Or.inl ⟨by rfl, ?_⟩) hS ?_
                  · intro w' hSw
                    obtain ⟨j0, j1, j2⟩ := hSw
                    go_simp
                  simp only [Act.put, List.setIfInBounds_toArray, List.set_cons_zero, List.set_cons_succ]
                  refine Tl.take (i := 9) (oi := ⟨some 83, _, _, _, _, _⟩) (v := .int .i64 x) rfl (by kernel_rfl) (by kernel_rfl) (by kernel_rfl) (by kernel_rfl) (fun _ _ _ h => h) (Or.inl ⟨by rfl, ?_⟩) hS ?_
                  · intro w' hSw
                    obtain ⟨j0, j1, j2⟩ := hSw
                    go_simp
                  simp only [Act.put, List.setIfInBounds_toArray, List.set_cons_zero, List.set_cons_succ]
                  refine Tl.take (i := 10) (oi := ⟨some 84, _, _, _, _, _⟩) (v := .int .i64 n) rfl (by kernel_rfl) (by kernel_rfl) (by kernel_rfl) (by kernel_rfl) (fun _ _ _ h => h) (Or.inl ⟨by rfl, ?_⟩) hS ?_
                  · intro w' hSw
                    obtain ⟨j0, j1, j2⟩ := hSw
                    go_simp
                  simp only [Act.put, List.setIfInBounds_toArray, List.set_cons_zero, List.set_cons_succ]
                  refine Tl.take (i := 11) (oi := ⟨some 85, _, _, _, _, _⟩) (v := .int .i64 ((n : Int) + 1)) rfl (by kernel_rfl) (by kernel_rfl) (by kernel_rfl) (by kernel_rfl) (fun _ _ _ h => h) (Or.inl ⟨by rfl, ?_⟩) hS ?_
                  · intro w' hSw
                    obtain ⟨j0, j1, j2⟩ := hSw
                    go_simp
                    exact IntWalk.i64_in _ (by omega)
                  simp only [Act.put, List.setIfInBounds_toArray, List.set_cons_zero, List.set_cons_succ]
                  refine Tl.one (i := 12) (o := ⟨some 86, _, _, _, _, _⟩) (by kernel_rfl) rfl rfl (fun K2 hK2 => ?_)
                  go_simp
                  refine (pick_any x (n + 1) wr.drew hxb (by omega)).mono ?_
                  rintro e w3 ⟨rfl, rfl⟩
                  refine hK2.out _ _ (fun _ => hS) ?_
                  try simp only [Act.put, List.setIfInBounds_toArray, List.set_cons_zero, List.set_cons_succ]
                  generalize pk x (n + 1) = p at *
                  have gA : wr.grownBy (wr.drew.alloc (.cells #[.int .i64 p] 3)) none := grownBy_trans (gb_drew _ none) (World.grownBy_alloc _ _ none)
                  have hSW := keep3f hS (World.grownBy_alloc wr.drew (.cells #[.int .i64 p] 3) none) (by simp) (by simp) (by simp)
                  refine Tl.one (i := 13) (o := ⟨some 87, _, _, _, _, _⟩) (by kernel_rfl) rfl rfl (fun K3 hK3 => ?_)
                  go_simp
                  refine hK3.out _ _ (fun _ => hSW) ?_
                  try simp only [Act.put, List.setIfInBounds_toArray, List.set_cons_zero, List.set_cons_succ]
                  obtain ⟨i0, hi0, hz0, hz1, hz2⟩ := info_parts info3
                  have HI := Lib.hid hi0; have HZ0 := Lib.hid hz0; have HZ1 := Lib.hid hz1; have HZ2 := Lib.hid hz2
                  clear hi0 hz0 hz1 hz2
                  have HROW := Lib.hid (own_gb0 HL2.out.p gA)
                  have HNEW := Lib.hid (World.news_of_block (heap_alloc_new wr.drew (.cells #[.int .i64 p] 3)))
                  have HGA := Lib.hid gA
                  have hps9 : ps.length ≤ 9 := by omega
                  have hb16 : T + 1 ≤ (wr.drew.alloc (.cells #[.int .i64 p] 3)).heap.size := by have := gA.size; omega
                  refine Tl.one (i := 14) (o := ⟨some 88, _, _, _, _, _⟩) (by kernel_rfl) rfl rfl (fun K4 hK4 => ?_)
                  refine wp_append_lies (wr.drew.alloc (.cells #[.int .i64 p] 3)) (.tmp 75) (.tmp 87) 39 rfl (T + 1) 3 i0 (.int .i64 0) 1 8 Try.underlying39 HI.out HZ0.out HZ1.out HZ2.out rfl (by decide) vp ps.length (ints ps) rfl HROW.out ⟨wr.drew.heap.size, 0, none⟩ 1 1 [.int .i64 p] rfl rfl HNEW.out (one_ints [p]) (by omega) (by unfold maxLen; omega) (by omega) hb16 (wr.drew.heap.size + 1) (by simp) ?_
                  intro g cap w8 hown8 g8 hat8 hlt8
                  have hz : ∀ q, vp.ownBlock = some q → T + 1 ≤ q := fun q e => (HROW.out.lt q e).1
                  have hTw := HL2.out.fresh.1
                  have hS8 := keep3f hSW g8 (fun e => by have h1 : T + 1 ≤ T := hz _ e.symm; omega) (fun e => by have h1 : T + 1 ≤ b := hz _ e.symm; omega) (fun e => by have h1 : T + 1 ≤ bp := hz _ e.symm; omega)
                  clear hTw
                  have HL8 := Lib.hid (HL2.out.step HGA.out hown8 g8)
                  have x5 : w8.cell? ⟨T, 5, none⟩ = some vp := hS8.1
                  have fr8 : w8.frozen? ⟨T, 5, none⟩ = false := ((HL2.out.bt.gb HGA.out (by simp)).gb g8 (fun e => by have := hz _ e; omega)).free 5
                  refine hK4.out _ _ (fun _ => hS8) ?_
                  try simp only [Act.put, List.setIfInBounds_toArray, List.set_cons_zero, List.set_cons_succ]
                  refine Tl.take (i := 15) (oi := ⟨some 89, _, _, _, _, _⟩) (v := .pointer (some ⟨T, 5, none⟩)) rfl (by kernel_rfl) (by kernel_rfl) (by kernel_rfl) (by kernel_rfl) (fun _ _ _ h => h) (Or.inl ⟨by rfl, ?_⟩) hS8 ?_
                  · intro w' hSw
                    clear hSw
                    go_simp
                  try simp only [Act.put, List.setIfInBounds_toArray, List.set_cons_zero, List.set_cons_succ]
                  clear hSW hS8 hS hown8 g8 hat8 hlt8 hz gA hb16 hS0 hS1 hS2
                  refine Tl.one (i := 16) (o := ⟨none, _, _, _, _, _⟩) (by kernel_rfl) rfl rfl (fun K5 hK5 => ?_)
                  go_simp
                  refine hK5.out _ _ (fun h => absurd rfl h) ?_
                  refine Tl.done (by kernel_rfl) ?_ _
                  refine NoPanic.normal ?_
                  go_wp2_with fail
                  rw [hpsl] at HL8
                  go_roundw
                  case rel => exact ⟨j + 1, _, _, by go_num, by omega, HL8, by simp; omega⟩
                  case measure => simp [intOf]; omega
                · obtain rfl : j = np := by omega
                  have c2 : wr.cell? ⟨T, 2, none⟩ = some (.int .i64 nd) := HL2.out.bt.cell 2
                  have c6 : wr.cell? ⟨T, 6, none⟩ = some (.slice none 0 0) := HL2.out.bt.cell 6
                  have d6 : wr.cell? ⟨b, off + k * 8 + 6, none⟩ = some (.slice An o.ns.length cn) := cellk K6W.out HL2.out.fl.gr
                  have nd0 : (0 : Int) ≤ (nd : Int) := by omega
                  have nd1 : (nd : Int) ≤ (cn : Int) := by omega
                  have HRN2 := Lib.hid (HRN.out.gb (grownBy_trans HL2.out.fl.gr (gb_drew wr none)))
                  go_wp2_with fail
                  refine wp_region_still_tail 11 (by kernel_rfl) (by kernel_rfl) ?_
                  simp only [List.take_succ_cons, List.take_zero, List.drop_succ_cons, List.drop_zero]
                  repeat still_step
                  try refine wpStill_nil ?_
                  try change wpList _ _ _ _ _ wr.drew
                  obtain ⟨i0, hi0, hz0, hz1, hz2⟩ := info_parts info3
                  have HI := Lib.hid hi0; have HZ0 := Lib.hid hz0; have HZ1 := Lib.hid hz1; have HZ2 := Lib.hid hz2
                  have hrt := Rd.take HRN2.out hndl
                  have hnl2 : (o.ns.take nd).length = nd := by rw [List.length_take]; omega
                  have HNL2 := Lib.hid hnl2
                  have HRT := Lib.hid hrt
                  clear hi0 hz0 hz1 hz2 hnl2 hrt
                  refine wpList_own rfl (.tmp 91) (.tmp 100) 39 rfl 3 i0 (.int .i64 0) 1 8 Try.underlying39 HI.out HZ0.out HZ1.out HZ2.out rfl (by omega) An nd cn (ints (o.ns.take nd)) rfl rfl HRT.out (one_ints _) (by unfold maxLen; omega) (by omega) ?_
                  intro v9 w9 hown9 g9
                  have e9 : AftR w vo M T k (w9.setCell ⟨T, 6, none⟩ v9) := HL2.out.fin (grownBy_trans (gb_drew wr none) g9) (by rw [HNL2.out]; exact hown9) hpsl HNL2.out hnp4 hnd4
                  have HE9 := Lib.hid e9
                  have q6 : w9.cell? ⟨T, 6, none⟩ = some (.slice none 0 0) := cellk c6 (grownBy_trans (gb_drew wr none) g9)
                  have fr6 := (HL2.out.bt.gb (grownBy_trans (gb_drew wr none) g9) (by simp)).free 6
                  obtain ⟨A9, c9, rfl, _, _, _⟩ := Rc.of_own hown9
                  clear hown9 g9 e9 c6 c2 d6
                  go_wp2_with fail
                  go_meet
                  case rel => exact HE9.out
          · go_wp2_with fail
            obtain ⟨wy, hwy⟩ : ∃ wy, wy = (((wt.setCell ⟨T, 1, none⟩ (.int .i64 1)).setCell ⟨T, 2, none⟩ (.int .i64 0)).setCell ⟨T, 3, none⟩ (.bool true)).setCell ⟨T, 4, none⟩ (.bool false) := ⟨_, rfl⟩
            have fy : Zf (fun k => k = T) wt wy := by rw [hwy]; exact ((((Zf.refl (fun k => k = T) wt).set (by rfl)).set (by rfl)).set (by rfl)).set (by rfl)
            have by_ : Blk wy T 41 #[.int .i64 (k + 1), .int .i64 1, .int .i64 0, .bool true, .bool false, .slice none 0 0, .slice none 0 0, .bool o.fr] := by rw [hwy]; exact (((HBT.out.set 1 _).set 2 _).set 3 _).set 4 _
            rw [← hwy]
            have HBY := Lib.hid by_
            have HFY := Lib.hid (HF3.out.zf fy HFR.out.1 (fun k hk => by have := HFR.out.2 k hk; omega))
            have hx0 : -9223372036854775808 ≤ o.s := HLO2.out.1
            obtain ⟨p0, p1⟩ := pk_range o.s n (by omega)
            clear hwy fy by_ t1 t2 t3 t4 f1 f2 f3 f4 HF3 HBT
            refine (pick_any o.s n wy hx0 (by omega)).mono ?_
            rintro e wz ⟨rfl, rfl⟩
            generalize pk o.s n = p at *
            have t5 : wy.cell? ⟨T, 5, none⟩ = some (.slice none 0 0) := HBY.out.cell 5
            have f5 := HBY.out.free 5
            have hTl := HBY.out.lt
            have HW := Lib.hid (Aft.weak (1 + p) HFY.out HFR.out HBY.out)
            go_wp2_with fail
            go_meet
            case rel => exact HW.out
        case rest =>
          obtain ⟨o', vp, vn, hfo, hA⟩ := hcut
          clear t1 t2 t3 t4 f1 f2 f3 f4 HBT HF3 k0 k4 k5 k6
          have c0 : wc.cell? ⟨w.heap.size + 1, 0, none⟩ = some vo := hA.fl.bx.cell 0
          have fc := hA.fl.bx.free 0
          have b0 := hA.bt.cell 0
          have b1 := hA.bt.cell 1
          have b2 := hA.bt.cell 2
          have b3 := hA.bt.cell 3
          have b4 := hA.bt.cell 4
          have b5 := hA.bt.cell 5
          have b6 := hA.bt.cell 6
          have b7 := hA.bt.cell 7
          simp only [List.getElem?_toArray, List.getElem?_cons_zero, List.getElem?_cons_succ] at b0 b1 b2 b3 b4 b5 b6 b7
          obtain ⟨A1, c1, rfl, _, _, _⟩ := Rc.of_own hA.p
          obtain ⟨A2, c2, rfl, _, _, _⟩ := Rc.of_own hA.n
          have hlt := hA.bt.lt
          have hltB := hA.fl.bx.lt
          have HA := Lib.hid hA
          have HFO2 := Lib.hid hfo
          clear hA hfo
          obtain ⟨i0, hi0, hz0, hz1, hz2⟩ := info_parts info41
          have HI := Lib.hid hi0; have HZ0 := Lib.hid hz0; have HZ1 := Lib.hid hz1; have HZ2 := Lib.hid hz2
          clear hi0 hz0 hz1 hz2
          have hM8 : M.length ≤ 8 := by omega
          have HML := Lib.hid hml
          have HROW : Hid ((wc.alloc (.cells #[.int .i64 o'.s, .int .i64 o'.sp, .int .i64 o'.sd, .bool o'.sw, .bool o'.sf, .slice A1 o'.ps.length c1, .slice A2 o'.ns.length c2, .bool o'.fr] 41)).ownsRow 0 41 8 vo M.length (ovs M)) := own_gb0 HA.out.fl.om.row (World.grownBy_alloc _ _ none)
          have HNEW := Lib.hid (World.news_of_block (heap_alloc_new wc (.cells #[.int .i64 o'.s, .int .i64 o'.sp, .int .i64 o'.sd, .bool o'.sw, .bool o'.sf, .slice A1 o'.ps.length c1, .slice A2 o'.ns.length c2, .bool o'.fr] 41)))
          clear hml
          go_wp2_with (at_builtin; go_must (refine wpList_append_lies _ rfl _ _ 22 rfl 0 41 i0 (.agg #[.int .i64 0, .int .i64 0, .int .i64 0, .bool false, .bool false, .slice none 0 0, .slice none 0 0, .bool false]) 8 88 Try.underlying22 HI.out HZ0.out HZ1.out HZ2.out rfl (by decide) vo M.length (ovs M) rfl HROW.out ⟨wc.heap.size, 0, none⟩ 1 1 (ov ⟨o', .slice A1 o'.ps.length c1, .slice A2 o'.ns.length c2⟩) rfl rfl HNEW.out one_ov (by omega) (by unfold maxLen; omega) (by omega) (by omega) (wc.heap.size + 1) (by simp) ?_); intro g cap w8 hown8 g8 hat8 hlt8; have HF8 := Lib.hid (Fl.app HA.out hown8 g8 hat8); have hb8 := Fl.box8 HA.out.fl g8; have fr8 := hb8.free 0; have x1 : w8.cell? ⟨w.heap.size + 1, 0, none⟩ = some vo := hb8.cell 0; clear hown8 g8 hat8 hb8)
          go_roundw
          case rel => exact ⟨k + 1, _, _, by go_num, by omega, HF8, Lib.hid (FitO.obs_snoc HFO.out HML.out HFO2.out), by have := HML.out; simp; omega⟩
          case measure => simp [intOf]; omega
      · obtain rfl : k = n := by omega
        clear HL
        go_wp2_with fail
        rename World => wo
        go_loopw [10] (fun s wr => ∃ (j : Nat) (vq : Value) (Q' : List (Int × Int)), s = .int .i64 j ∧ j ≤ 4 ∧ j ≤ Q.length ∧ Hid (Fl w wr vo vq M Q') ∧ Q'.length = j) (fun s _ => 4 - (intOf s).toNat)
        case atStart => exact ⟨0, _, [], rfl, by omega, Nat.zero_le _, HF2, rfl⟩
        case round =>
          obtain ⟨j, vq, Q', rfl, hj4, hjq, HFQ, hql'⟩ := hrel
          clear HF2
          by_cases hin : j < Q.length ∧ j < 4 ∧ 0 < k
          · obtain ⟨hin1, hin2, hin3⟩ := hin
            obtain ⟨bq, offq, rfl, hbq, hcq, _⟩ := its_at HQ.out j hin1
            have hxb : -9223372036854775808 ≤ Q[j].1 := HQL.out _ (List.getElem_mem _)
            have hS0 : wr.cell? ⟨w.heap.size + 1, 1, none⟩ = some vq := HFQ.out.bx.cell 1
            have hS1 : wr.cell? ⟨bq, offq + j * 2, none⟩ = some (.int .i64 Q[j].1) := cellk hcq HFQ.out.gr
            generalize Q[j].1 = x at *
            have hj0 : (0 : Int) ≤ (j : Int) := by omega
            have hj1 : (j : Int) < (Q.length : Int) := by omega
            have hj2 : (j : Int) < 4 := by omega
            have hk1 : (0 : Int) < (k : Int) := by omega
            clear hcq
            go_wp2_with fail
            refine wp_region_noPanic ?_
            have hS : (fun w' : World => w'.cell? ⟨w.heap.size + 1, 1, none⟩ = some vq ∧ w'.cell? ⟨bq, offq + j * 2, none⟩ = some (.int .i64 x)) wr.drew := ⟨hS0, hS1⟩
            refine Tl.begin (S := fun w' => w'.cell? ⟨w.heap.size + 1, 1, none⟩ = some vq ∧ w'.cell? ⟨bq, offq + j * 2, none⟩ = some (.int .i64 x)) (m := 15) (by kernel_rfl) ?_
            refine Tl.take (i := 0) (oi := ⟨some 123, _, _, _, _, _⟩) (v := .pointer (some ⟨w.heap.size + 1, 1, none⟩)) rfl (by kernel_rfl) (by kernel_rfl) (by kernel_rfl) (by kernel_rfl) (fun _ _ _ h => h) (Or.inl ⟨by rfl, ?_⟩) hS ?_
            · intro w' hSw
              obtain ⟨j0, j1⟩ := hSw
              go_simp
            simp only [Act.put, List.setIfInBounds_toArray, List.set_cons_zero, List.set_cons_succ]
            refine Tl.take (i := 1) (oi := ⟨some 124, _, _, _, _, _⟩) (v := vq) rfl (by kernel_rfl) (by kernel_rfl) (by kernel_rfl) (by kernel_rfl) (fun _ _ _ h => h) (Or.inl ⟨by rfl, ?_⟩) hS ?_
            · intro w' hSw
              obtain ⟨j0, j1⟩ := hSw
              go_simp
            simp only [Act.put, List.setIfInBounds_toArray, List.set_cons_zero, List.set_cons_succ]
            refine Tl.take (i := 2) (oi := ⟨some 125, _, _, _, _, _⟩) (v := .slice (some ⟨bq, offq, none⟩) Q.length cq) rfl (by kernel_rfl) (by kernel_rfl) (by kernel_rfl) (by kernel_rfl) (fun _ _ _ h => h) (Or.inl ⟨by rfl, ?_⟩) hS ?_
            · intro w' hSw
              obtain ⟨j0, j1⟩ := hSw
              go_simp
            simp only [Act.put, List.setIfInBounds_toArray, List.set_cons_zero, List.set_cons_succ]
            refine Tl.take (i := 3) (oi := ⟨some 126, _, _, _, _, _⟩) (v := .int .i64 j) rfl (by kernel_rfl) (by kernel_rfl) (by kernel_rfl) (by kernel_rfl) (fun _ _ _ h => h) (Or.inl ⟨by rfl, ?_⟩) hS ?_
            · intro w' hSw
              obtain ⟨j0, j1⟩ := hSw
              go_simp
            simp only [Act.put, List.setIfInBounds_toArray, List.set_cons_zero, List.set_cons_succ]
            refine Tl.take (i := 4) (oi := ⟨some 127, _, _, _, _, _⟩) (v := .pointer (some ⟨bq, offq + j * 2, none⟩)) rfl (by kernel_rfl) (by kernel_rfl) (by kernel_rfl) (by kernel_rfl) (fun _ _ _ h => h) (Or.inl ⟨by rfl, ?_⟩) hS ?_
            · intro w' hSw
              obtain ⟨j0, j1⟩ := hSw
              go_simp
            simp only [Act.put, List.setIfInBounds_toArray, List.set_cons_zero, List.set_cons_succ]
            refine Tl.take (i := 5) (oi := ⟨some 128, _, _, _, _, _⟩) (v := .pointer (some ⟨bq, offq + j * 2, none⟩)) rfl (by kernel_rfl) (by kernel_rfl) (by kernel_rfl) (by kernel_rfl) (fun _ _ _ h => h) (Or.inl ⟨by rfl, ?_⟩) hS ?_
            · intro w' hSw
              obtain ⟨j0, j1⟩ := hSw
              go_simp
            simp only [Act.put, List.setIfInBounds_toArray, List.set_cons_zero, List.set_cons_succ]
            refine Tl.take (i := 6) (oi := ⟨some 129, _, _, _, _, _⟩) (v := .int .i64 x) rfl (by kernel_rfl) (by kernel_rfl) (by kernel_rfl) (by kernel_rfl) (fun _ _ _ h => h) (Or.inl ⟨by rfl, ?_⟩) hS ?_
            · intro w' hSw
              obtain ⟨j0, j1⟩ := hSw
              go_simp
            simp only [Act.put, List.setIfInBounds_toArray, List.set_cons_zero, List.set_cons_succ]
            refine Tl.take (i := 7) (oi := ⟨some 130, _, _, _, _, _⟩) (v := .int .i64 k) rfl (by kernel_rfl) (by kernel_rfl) (by kernel_rfl) (by kernel_rfl) (fun _ _ _ h => h) (Or.inl ⟨by rfl, ?_⟩) hS ?_
            · intro w' hSw
              obtain ⟨j0, j1⟩ := hSw
              go_simp
            simp only [Act.put, List.setIfInBounds_toArray, List.set_cons_zero, List.set_cons_succ]
            refine Tl.take (i := 10) (oi := ⟨some 133, _, _, _, _, _⟩) (v := .int .i64 j) rfl (by kernel_rfl) (by kernel_rfl) (by kernel_rfl) (by kernel_rfl) (fun _ _ _ h => h) (Or.inl ⟨by rfl, ?_⟩) hS ?_
            · intro w' hSw
              obtain ⟨j0, j1⟩ := hSw
              go_simp
            simp only [Act.put, List.setIfInBounds_toArray, List.set_cons_zero, List.set_cons_succ]
            refine Tl.one (i := 8) (o := ⟨some 131, _, _, _, _, _⟩) (by kernel_rfl) rfl rfl (fun K2 hK2 => ?_)
            go_simp
            refine (pick_any x k wr.drew hxb (by omega)).mono ?_
            rintro e w3 ⟨rfl, rfl⟩
            refine hK2.out _ _ (fun _ => hS) ?_
            try simp only [Act.put, List.setIfInBounds_toArray, List.set_cons_zero, List.set_cons_succ]
            obtain ⟨p0, p1⟩ := pk_range x k (by omega)
            generalize pk x k = p at *
            refine Tl.take (i := 9) (oi := ⟨some 132, _, _, _, _, _⟩) (v := .int .i64 (1 + p)) rfl (by kernel_rfl) (by kernel_rfl) (by kernel_rfl) (by kernel_rfl) (fun _ _ _ h => h) (Or.inl ⟨by rfl, ?_⟩) hS ?_
            · intro w' hSw
              obtain ⟨j0, j1⟩ := hSw
              go_simp
              exact IntWalk.i64_in _ (by omega)
            simp only [Act.put, List.setIfInBounds_toArray, List.set_cons_zero, List.set_cons_succ]
            refine Tl.take (i := 11) (oi := ⟨some 134, _, _, _, _, _⟩) (v := .agg #[.int .i64 (1 + p), .int .i64 j]) rfl (by kernel_rfl) (by kernel_rfl) (by kernel_rfl) (by kernel_rfl) (fun _ _ _ h => h) (Or.inl ⟨by rfl, ?_⟩) hS ?_
            · intro w' hSw
              obtain ⟨j0, j1⟩ := hSw
              go_simp
            simp only [Act.put, List.setIfInBounds_toArray, List.set_cons_zero, List.set_cons_succ]
            have gA : wr.grownBy (wr.drew.alloc (.cells #[.int .i64 (1 + p), .int .i64 j] 43)) none := grownBy_trans (gb_drew _ none) (World.grownBy_alloc _ _ none)
            have hSW := keep2f hS (World.grownBy_alloc wr.drew (.cells #[.int .i64 (1 + p), .int .i64 j] 43) none) (by simp) (by simp)
            refine Tl.one (i := 12) (o := ⟨some 135, _, _, _, _, _⟩) (by kernel_rfl) rfl rfl (fun K3 hK3 => ?_)
            go_simp
            refine hK3.out _ _ (fun _ => hSW) ?_
            try simp only [Act.put, List.setIfInBounds_toArray, List.set_cons_zero, List.set_cons_succ]
            obtain ⟨i0, hi0, hz0, hz1, hz2⟩ := info_parts info43
            have HI := Lib.hid hi0; have HZ0 := Lib.hid hz0; have HZ1 := Lib.hid hz1; have HZ2 := Lib.hid hz2
            clear hi0 hz0 hz1 hz2
            have HROW := Lib.hid (own_gb0 HFQ.out.om.que gA)
            have HNEW := Lib.hid (World.news_of_block (heap_alloc_new wr.drew (.cells #[.int .i64 (1 + p), .int .i64 j] 43)))
            have HGA := Lib.hid gA
            have hps9 : Q'.length ≤ 9 := by omega
            refine Tl.one (i := 13) (o := ⟨some 136, _, _, _, _, _⟩) (by kernel_rfl) rfl rfl (fun K4 hK4 => ?_)
            refine wp_append_lies (wr.drew.alloc (.cells #[.int .i64 (1 + p), .int .i64 j] 43)) (.tmp 124) (.tmp 135) 23 rfl 0 43 i0 (.agg #[.int .i64 0, .int .i64 0]) 2 16 Try.underlying23 HI.out HZ0.out HZ1.out HZ2.out rfl (by decide) vq Q'.length (its Q') rfl HROW.out ⟨wr.drew.heap.size, 0, none⟩ 1 1 (it (1 + p, (j : Int))) rfl rfl HNEW.out (one_it _) (by omega) (by unfold maxLen; omega) (by omega) (by omega) (wr.drew.alloc (.cells #[.int .i64 (1 + p), .int .i64 j] 43)).heap.size rfl ?_
            intro g cap w8 hown8 g8 hat8 hlt8
            have hz : ∀ q, vq.ownBlock = some q → w.heap.size + 2 ≤ q := fun q e => HFQ.out.om.zq q e
            have hS8 := keep2f hSW g8 (fun e => by have h1 : w.heap.size + 2 ≤ w.heap.size + 1 := hz _ e.symm; omega) (fun e => by have h1 : w.heap.size + 2 ≤ bq := hz _ e.symm; omega)
            have HL8 := Lib.hid (HFQ.out.item HGA.out hown8 g8 hat8)
            have x5 : w8.cell? ⟨w.heap.size + 1, 1, none⟩ = some vq := hS8.1
            have fr8 : w8.frozen? ⟨w.heap.size + 1, 1, none⟩ = false := ((HFQ.out.bx.gb HGA.out (by simp)).gb g8 (fun e => by have := hz _ e; omega)).free 1
            refine hK4.out _ _ (fun _ => hS8) ?_
            try simp only [Act.put, List.setIfInBounds_toArray, List.set_cons_zero, List.set_cons_succ]
            refine Tl.take (i := 14) (oi := ⟨some 137, _, _, _, _, _⟩) (v := .pointer (some ⟨w.heap.size + 1, 1, none⟩)) rfl (by kernel_rfl) (by kernel_rfl) (by kernel_rfl) (by kernel_rfl) (fun _ _ _ h => h) (Or.inl ⟨by rfl, ?_⟩) hS8 ?_
            · intro w' hSw
              clear hSw
              go_simp
            try simp only [Act.put, List.setIfInBounds_toArray, List.set_cons_zero, List.set_cons_succ]
            clear hSW hS8 hS hown8 g8 hat8 hlt8 hz gA hS0 hS1
            refine Tl.one (i := 15) (o := ⟨none, _, _, _, _, _⟩) (by kernel_rfl) rfl rfl (fun K5 hK5 => ?_)
            go_simp
            refine hK5.out _ _ (fun h => absurd rfl h) ?_
            refine Tl.done (by kernel_rfl) ?_ _
            refine NoPanic.normal ?_
            go_wp2_with fail
            rw [hql'] at HL8
            go_roundw
            case rel => exact ⟨j + 1, _, _, by go_num, by omega, by omega, HL8, by simp; omega⟩
            case measure => simp [intOf]; omega
          · obtain ⟨A1, c1, rfl, _, _, _⟩ := Rc.of_own HFQ.out.om.row
            obtain ⟨A2, c2, rfl, _, _, _⟩ := Rc.of_own HFQ.out.om.que
            have c0 : wr.cell? ⟨w.heap.size + 1, 0, none⟩ = some (.slice A1 M.length c1) := HFQ.out.bx.cell 0
            have cq1 : wr.cell? ⟨w.heap.size + 1, 1, none⟩ = some (.slice A2 Q'.length c2) := HFQ.out.bx.cell 1
            have r0 : wr.cell? ⟨w.heap.size, 0, none⟩ = some (.slice none 0 0) := HFQ.out.rs.cell 0
            have r1 : wr.cell? ⟨w.heap.size, 1, none⟩ = some (.slice none 0 0) := HFQ.out.rs.cell 1
            have f0 := HFQ.out.rs.free 0
            have f1 := HFQ.out.rs.free 1
            have HP := Lib.hid (fun w2 f => HFQ.out.fin (w2 := w2) HFO.out hml (by omega) f)
            rcases (by omega : ¬ j < Q.length ∨ (j < Q.length ∧ ¬ j < 4) ∨ (j < Q.length ∧ j < 4 ∧ ¬ 0 < k)) with h1 | ⟨h1, h2⟩ | ⟨h1, h2, h3⟩
            · clear hin hml hql'
              go_wp2_with fail
              refine bodyPost_ret (v := .agg #[.slice A1 M.length c1, .slice A2 Q'.length c2]) (by simp [results, Try.results9, go_sem, r0, r1]) rfl ?_
              rw [HPost.out]
              exact HP.out _ (((Zf.refl (fun k => k = w.heap.size) wr).set (by rfl)).set (by rfl))
            · have hj1 : (j : Int) < (Q.length : Int) := by omega
              clear hin hml hql'
              go_wp2_with fail
              refine bodyPost_ret (v := .agg #[.slice A1 M.length c1, .slice A2 Q'.length c2]) (by simp [results, Try.results9, go_sem, r0, r1]) rfl ?_
              rw [HPost.out]
              exact HP.out _ (((Zf.refl (fun k => k = w.heap.size) wr).set (by rfl)).set (by rfl))
            · have hj1 : (j : Int) < (Q.length : Int) := by omega
              have hj2 : (j : Int) < 4 := by omega
              have hk3 : ¬ 0 < (k : Int) := by omega
              clear hin hml hql'
              go_wp2_with fail
              refine bodyPost_ret (v := .agg #[.slice A1 M.length c1, .slice A2 Q'.length c2]) (by simp [results, Try.results9, go_sem, r0, r1]) rfl ?_
              rw [HPost.out]
              exact HP.out _ (((Zf.refl (fun k => k = w.heap.size) wr).set (by rfl)).set (by rfl))
  · go_enter Try.func9, Try.ntmps9
    go_wp2_with fail
    rw [HEL.out h8]
    clear h8 HE8 HEL
    generalize ((w.alloc (.cells #[.slice none 0 0, .slice none 0 0] 29)).alloc (.cells #[.slice none 0 0, .slice none 0 0] 29)) = wb at *

    go_loopw [7] (fun i wr => ∃ (k : Nat) (vo : Value) (M : List Ov), i = .int .i64 k ∧ k ≤ n ∧ Hid (Fl w wr vo (.slice none 0 0) M []) ∧ Hid (FitO (obs M)) ∧ M.length = k) (fun i _ => n - (intOf i).toNat)
    case atStart => exact ⟨0, _, [], rfl, Nat.zero_le _, HF, fun i hi => by simp [obs] at hi, rfl⟩
    case round =>
      obtain ⟨k, vo, M, rfl, hk, HF2, HFO, hml⟩ := hrel
      clear HF
      by_cases hkn : k < n
      · have hkl : k < L.length := by omega
        obtain ⟨b, off, rfl, hb, k0, k1, k2, k3, k4, k5, k6, k7⟩ := HL.out.cells k hkl
        have hro := HL.out.2 L[k] (List.getElem_mem _)
        obtain ⟨hlo, hcp⟩ := HLO.out L[k] (List.getElem_mem _)
        obtain ⟨Ap, cp, An, cn, hvp, hvn, hr1, hr2⟩ := hro
        have hcp' : L[k].o.ns.length ≤ cn := by
          obtain ⟨A, m, c, e1, e2⟩ := hcp
          rw [hvn] at e1
          cases e1
          exact e2
        rw [hvp] at k5
        rw [hvn] at k6
        have HRP := Lib.hid hr1
        have HRN := Lib.hid hr2
        have HLO2 := Lib.hid hlo
        clear hvp hvn hr1 hr2 hlo hcp
        generalize L[k].o = o at *
        have k5w := k5
        have k6w := k6
        have K5W := Lib.hid k5w
        have K6W := Lib.hid k6w
        clear k5w k6w
        replace k0 := cellk k0 HF2.out.gr
        replace k1 := cellk k1 HF2.out.gr
        replace k2 := cellk k2 HF2.out.gr
        replace k3 := cellk k3 HF2.out.gr
        replace k4 := cellk k4 HF2.out.gr
        replace k5 := cellk k5 HF2.out.gr
        replace k6 := cellk k6 HF2.out.gr
        replace k7 := cellk k7 HF2.out.gr
        have hk0 : (0 : Int) ≤ (k : Int) := by omega
        have hk1 : (k : Int) < (L.length : Int) := by omega
        have hblt := World.block_lt_of_cell? wr _ k0
        generalize o.sw = sw at *
        go_upto_if 32 with (fail)
        obtain ⟨wt, hwt⟩ : ∃ wt, wt = wr.alloc (.cells #[.int .i64 (k + 1), .int .i64 0, .int .i64 0, .bool false, .bool false, .slice none 0 0, .slice none 0 0, .bool o.fr] 41) := ⟨_, rfl⟩
        have gt : wr.grownBy wt none := by rw [hwt]; exact World.grownBy_alloc _ _ none
        have BT : Blk wt wr.heap.size 41 #[.int .i64 (k + 1), .int .i64 0, .int .i64 0, .bool false, .bool false, .slice none 0 0, .slice none 0 0, .bool o.fr] := by rw [hwt]; exact Blk.new _ _ _
        rw [← hwt]
        have HBT := Lib.hid BT
        have HF3 := Lib.hid (HF2.out.gb gt)
        have HFR := Lib.hid (Fresh.of HF2.out)
        replace k0 := cellk k0 gt
        replace k4 := cellk k4 gt
        replace k5 := cellk k5 gt
        replace k6 := cellk k6 gt
        clear hwt gt BT k1 k2 k3 k7 HF2 hblt
        generalize wr.heap.size = T at *
        have t1 : wt.cell? ⟨T, 1, none⟩ = some (.int .i64 0) := HBT.out.cell 1
        have t2 : wt.cell? ⟨T, 2, none⟩ = some (.int .i64 0) := HBT.out.cell 2
        have t3 : wt.cell? ⟨T, 3, none⟩ = some (.bool false) := HBT.out.cell 3
        have t4 : wt.cell? ⟨T, 4, none⟩ = some (.bool false) := HBT.out.cell 4
        have f1 := HBT.out.free 1
        have f2 := HBT.out.free 2
        have f3 := HBT.out.free 3
        have f4 := HBT.out.free 4
        have hbT : ¬ b = T := by have := HFR.out.1; omega
        have hbT' : ¬ T = b := by omega
        go_cut [] from 14 to 108 (fun wx => AftR w vo M T k wx)
        case first =>
          cases sw
          · obtain ⟨np, hnp⟩ : ∃ np, np = min o.ps.length 4 := ⟨_, rfl⟩
            obtain ⟨nd, hnd⟩ : ∃ nd, nd = min o.ns.length 4 := ⟨_, rfl⟩
            have hnp4 : np ≤ 4 := by omega
            have hnd4 : nd ≤ 4 := by omega
            have hnpl : np ≤ o.ps.length := by omega
            have hndl : nd ≤ o.ns.length := by omega
            have HNP := Lib.hid hnp
            have HND := Lib.hid hnd
            clear hnp hnd
            go_upto_region 10 with (fail)
            go_cut [] from 14 to 108 (fun wx => Hid (L2 w wx vo M T k np nd o.sf o.fr (.slice none 0 0) []))
            case first =>
              refine wp_region_still_tail 22 (by kernel_rfl) (by kernel_rfl) ?_
              simp only [List.take_succ_cons, List.take_zero, List.drop_succ_cons, List.drop_zero]
              repeat still_step
              try refine wpStill_nil ?_
              try change wpList _ _ _ _ _ wt.drew
              go_wp2_with fail
              all_goals
                go_meet
                case rel => exact L2.of HF3.out HFR.out HBT.out (by have := HNP.out; omega) (by have := HND.out; omega)
            case rest =>
              clear t1 t2 t3 t4 f1 f2 f3 f4
              go_wp2_with fail
              have HLL := Lib.hid hcut
              clear hcut HF3 HBT
              go_loopw [9] (fun s wv => ∃ (j : Nat) (vp : Value) (ps : List Int), s = .int .i64 j ∧ j ≤ np ∧ Hid (L2 w wv vo M T k np nd o.sf o.fr vp ps) ∧ ps.length = j) (fun s _ => np - (intOf s).toNat)
              case atStart => exact ⟨0, _, [], rfl, Nat.zero_le _, HLL.out, rfl⟩
              case round =>
                obtain ⟨j, vp, ps, rfl, hj, HL2, hpsl⟩ := hrel
                clear HLL
                have c1 : wr.cell? ⟨T, 1, none⟩ = some (.int .i64 np) := HL2.out.bt.cell 1
                have hTl := HL2.out.bt.lt
                by_cases hjn : j < np
                · have hjl : j < o.ps.length := by omega
                  obtain ⟨bp, offp, rfl, hbp, hcp⟩ := Rd.at1 HRP.out j hjl
                  have hxb : -9223372036854775808 ≤ o.ps.getD j 0 := HLO2.out.2.1 _ (getD_mem' HRP.out.len j hjl)
                  have hS0 : wr.cell? ⟨T, 5, none⟩ = some vp := HL2.out.bt.cell 5
                  have hS1 : wr.cell? ⟨b, off + k * 8 + 5, none⟩ = some (.slice (some ⟨bp, offp, none⟩) o.ps.length cp) := cellk K5W.out HL2.out.fl.gr
                  have hS2 : wr.cell? ⟨bp, offp + j, none⟩ = some (.int .i64 (o.ps.getD j 0)) := cellk hcp HL2.out.fl.gr
                  generalize o.ps.getD j 0 = x at *
                  have hj0 : (0 : Int) ≤ (j : Int) := by omega
                  have hj1 : (j : Int) < (o.ps.length : Int) := by omega
                  have hn0 : (0 : Int) ≤ (n : Int) := by omega
                  have hn9 : (n : Int) ≤ 8 := by omega
                  clear hcp
                  go_wp2_with fail
                  refine wp_region_noPanic ?_
                  have hS : (fun w' : World => w'.cell? ⟨T, 5, none⟩ = some vp ∧ w'.cell? ⟨b, off + k * 8 + 5, none⟩ = some (.slice (some ⟨bp, offp, none⟩) o.ps.length cp) ∧ w'.cell? ⟨bp, offp + j, none⟩ = some (.int .i64 x)) wr.drew := ⟨hS0, hS1, hS2⟩
                  refine Tl.begin (S := fun w' => w'.cell? ⟨T, 5, none⟩ = some vp ∧ w'.cell? ⟨b, off + k * 8 + 5, none⟩ = some (.slice (some ⟨bp, offp, none⟩) o.ps.length cp) ∧ w'.cell? ⟨bp, offp + j, none⟩ = some (.int .i64 x)) (m := 16) (by kernel_rfl) ?_
                  refine Tl.take (i := 0) (oi := ⟨some 74, _, _, _, _, _⟩) (v := .pointer (some ⟨T, 5, none⟩)) rfl (by kernel_rfl) (by kernel_rfl) (by kernel_rfl) (by kernel_rfl) (fun _ _ _ h => h) (Or.inl ⟨by rfl, ?_⟩) hS ?_
                  · intro w' hSw
                    obtain ⟨j0, j1, j2⟩ := hSw
                    go_simp
                  simp only [Act.put, List.setIfInBounds_toArray, List.set_cons_zero, List.set_cons_succ]
                  refine Tl.take (i := 1) (oi := ⟨some 75, _, _, _, _, _⟩) (v := vp) rfl (by kernel_rfl) (by kernel_rfl) (by kernel_rfl) (by kernel_rfl) (fun _ _ _ h => h) (Or.inl ⟨by rfl, ?_⟩) hS ?_
                  · intro w' hSw
                    obtain ⟨j0, j1, j2⟩ := hSw
                    go_simp
                  simp only [Act.put, List.setIfInBounds_toArray, List.set_cons_zero, List.set_cons_succ]
                  refine Tl.take (i := 2) (oi := ⟨some 76, _, _, _, _, _⟩) (v := .slice (some ⟨b, off, none⟩) L.length co) rfl (by kernel_rfl) (by kernel_rfl) (by kernel_rfl) (by kernel_rfl) (fun _ _ _ h => h) (Or.inl ⟨by rfl, ?_⟩) hS ?_
                  · intro w' hSw
                    obtain ⟨j0, j1, j2⟩ := hSw
                    go_simp
                  simp only [Act.put, List.setIfInBounds_toArray, List.set_cons_zero, List.set_cons_succ]
                  refine Tl.take (i := 3) (oi := ⟨some 77, _, _, _, _, _⟩) (v := .int .i64 k) rfl (by kernel_rfl) (by kernel_rfl) (by kernel_rfl) (by kernel_rfl) (fun _ _ _ h => h) (Or.inl ⟨by rfl, ?_⟩) hS ?_
                  · intro w' hSw
                    obtain ⟨j0, j1, j2⟩ := hSw
                    go_simp
                  simp only [Act.put, List.setIfInBounds_toArray, List.set_cons_zero, List.set_cons_succ]
                  refine Tl.take (i := 4) (oi := ⟨some 78, _, _, _, _, _⟩) (v := .pointer (some ⟨b, off + k * 8, none⟩)) rfl (by kernel_rfl) (by kernel_rfl) (by kernel_rfl) (by kernel_rfl) (fun _ _ _ h => h) (Or.inl ⟨by rfl, ?_⟩) hS ?_
                  · intro w' hSw
                    obtain ⟨j0, j1, j2⟩ := hSw
                    go_simp
                  simp only [Act.put, List.setIfInBounds_toArray, List.set_cons_zero, List.set_cons_succ]
                  refine Tl.take (i := 5) (oi := ⟨some 79, _, _, _, _, _⟩) (v := .pointer (some ⟨b, off + k * 8 + 5, none⟩)) rfl (by kernel_rfl) (by kernel_rfl) (by kernel_rfl) (by kernel_rfl) (fun _ _ _ h => h) (Or.inl ⟨by rfl, ?_⟩) hS ?_
                  · intro w' hSw
                    obtain ⟨j0, j1, j2⟩ := hSw
                    go_simp
                  simp only [Act.put, List.setIfInBounds_toArray, List.set_cons_zero, List.set_cons_succ]
                  refine Tl.take (i := 6) (oi := ⟨some 80, _, _, _, _, _⟩) (v := .slice (some ⟨bp, offp, none⟩) o.ps.length cp) rfl (by kernel_rfl) (by kernel_rfl) (by kernel_rfl) (by kernel_rfl) (fun _ _ _ h => h) (Or.inl ⟨by rfl, ?_⟩) hS ?_
                  · intro w' hSw
                    obtain ⟨j0, j1, j2⟩ := hSw
                    go_simp
                  simp only [Act.put, List.setIfInBounds_toArray, List.set_cons_zero, List.set_cons_succ]
                  refine Tl.take (i := 7) (oi := ⟨some 81, _, _, _, _, _⟩) (v := .int .i64 j) rfl (by kernel_rfl) (by kernel_rfl) (by kernel_rfl) (by kernel_rfl) (fun _ _ _ h => h) (Or.inl ⟨by rfl, ?_⟩) hS ?_
                  · intro w' hSw
                    obtain ⟨j0, j1, j2⟩ := hSw
                    go_simp
                  simp only [Act.put, List.setIfInBounds_toArray, List.set_cons_zero, List.set_cons_succ]
                  refine Tl.take (i := 8) (oi := ⟨some 82, _, _, _, _, _⟩) (v := .pointer (some ⟨bp, offp + j, none⟩)) rfl (by kernel_rfl) (by kernel_rfl) (by kernel_rfl) (by kernel_rfl) (fun _ _ _ h => h) (Or.inl ⟨by rfl, ?_⟩) hS ?_
                  · intro w' hSw
                    obtain ⟨j0, j1, j2⟩ := hSw
                    go_simp
                  simp only [Act.put, List.setIfInBounds_toArray, List.set_cons_zero, List.set_cons_succ]
                  refine Tl.take (i := 9) (oi := ⟨some 83, _, _, _, _, _⟩) (v := .int .i64 x) rfl (by kernel_rfl) (by kernel_rfl) (by kernel_rfl) (by kernel_rfl) (fun _ _ _ h => h) (Or.inl ⟨by rfl, ?_⟩) hS ?_
                  · intro w' hSw
                    obtain ⟨j0, j1, j2⟩ := hSw
                    go_simp
                  simp only [Act.put, List.setIfInBounds_toArray, List.set_cons_zero, List.set_cons_succ]
                  refine Tl.take (i := 10) (oi := ⟨some 84, _, _, _, _, _⟩) (v := .int .i64 n) rfl (by kernel_rfl) (by kernel_rfl) (by kernel_rfl) (by kernel_rfl) (fun _ _ _ h => h) (Or.inl ⟨by rfl, ?_⟩) hS ?_
                  · intro w' hSw
                    obtain ⟨j0, j1, j2⟩ := hSw
                    go_simp
                  simp only [Act.put, List.setIfInBounds_toArray, List.set_cons_zero, List.set_cons_succ]
                  refine Tl.take (i := 11) (oi := ⟨some 85, _, _, _, _, _⟩) (v := .int .i64 ((n : Int) + 1)) rfl (by kernel_rfl) (by kernel_rfl) (by kernel_rfl) (by kernel_rfl) (fun _ _ _ h => h) (Or.inl ⟨by rfl, ?_⟩) hS ?_
                  · intro w' hSw
                    obtain ⟨j0, j1, j2⟩ := hSw
                    go_simp
                    exact IntWalk.i64_in _ (by omega)
                  simp only [Act.put, List.setIfInBounds_toArray, List.set_cons_zero, List.set_cons_succ]
                  refine Tl.one (i := 12) (o := ⟨some 86, _, _, _, _, _⟩) (by kernel_rfl) rfl rfl (fun K2 hK2 => ?_)
                  go_simp
                  refine (pick_any x (n + 1) wr.drew hxb (by omega)).mono ?_
                  rintro e w3 ⟨rfl, rfl⟩
                  refine hK2.out _ _ (fun _ => hS) ?_
                  try simp only [Act.put, List.setIfInBounds_toArray, List.set_cons_zero, List.set_cons_succ]
                  generalize pk x (n + 1) = p at *
                  have gA : wr.grownBy (wr.drew.alloc (.cells #[.int .i64 p] 3)) none := grownBy_trans (gb_drew _ none) (World.grownBy_alloc _ _ none)
                  have hSW := keep3f hS (World.grownBy_alloc wr.drew (.cells #[.int .i64 p] 3) none) (by simp) (by simp) (by simp)
                  refine Tl.one (i := 13) (o := ⟨some 87, _, _, _, _, _⟩) (by kernel_rfl) rfl rfl (fun K3 hK3 => ?_)
                  go_simp
                  refine hK3.out _ _ (fun _ => hSW) ?_
                  try simp only [Act.put, List.setIfInBounds_toArray, List.set_cons_zero, List.set_cons_succ]
                  obtain ⟨i0, hi0, hz0, hz1, hz2⟩ := info_parts info3
                  have HI := Lib.hid hi0; have HZ0 := Lib.hid hz0; have HZ1 := Lib.hid hz1; have HZ2 := Lib.hid hz2
                  clear hi0 hz0 hz1 hz2
                  have HROW := Lib.hid (own_gb0 HL2.out.p gA)
                  have HNEW := Lib.hid (World.news_of_block (heap_alloc_new wr.drew (.cells #[.int .i64 p] 3)))
                  have HGA := Lib.hid gA
                  have hps9 : ps.length ≤ 9 := by omega
                  have hb16 : T + 1 ≤ (wr.drew.alloc (.cells #[.int .i64 p] 3)).heap.size := by have := gA.size; omega
                  refine Tl.one (i := 14) (o := ⟨some 88, _, _, _, _, _⟩) (by kernel_rfl) rfl rfl (fun K4 hK4 => ?_)
                  refine wp_append_lies (wr.drew.alloc (.cells #[.int .i64 p] 3)) (.tmp 75) (.tmp 87) 39 rfl (T + 1) 3 i0 (.int .i64 0) 1 8 Try.underlying39 HI.out HZ0.out HZ1.out HZ2.out rfl (by decide) vp ps.length (ints ps) rfl HROW.out ⟨wr.drew.heap.size, 0, none⟩ 1 1 [.int .i64 p] rfl rfl HNEW.out (one_ints [p]) (by omega) (by unfold maxLen; omega) (by omega) hb16 (wr.drew.heap.size + 1) (by simp) ?_
                  intro g cap w8 hown8 g8 hat8 hlt8
                  have hz : ∀ q, vp.ownBlock = some q → T + 1 ≤ q := fun q e => (HROW.out.lt q e).1
                  have hTw := HL2.out.fresh.1
                  have hS8 := keep3f hSW g8 (fun e => by have h1 : T + 1 ≤ T := hz _ e.symm; omega) (fun e => by have h1 : T + 1 ≤ b := hz _ e.symm; omega) (fun e => by have h1 : T + 1 ≤ bp := hz _ e.symm; omega)
                  clear hTw
                  have HL8 := Lib.hid (HL2.out.step HGA.out hown8 g8)
                  have x5 : w8.cell? ⟨T, 5, none⟩ = some vp := hS8.1
                  have fr8 : w8.frozen? ⟨T, 5, none⟩ = false := ((HL2.out.bt.gb HGA.out (by simp)).gb g8 (fun e => by have := hz _ e; omega)).free 5
                  refine hK4.out _ _ (fun _ => hS8) ?_
                  try simp only [Act.put, List.setIfInBounds_toArray, List.set_cons_zero, List.set_cons_succ]
                  refine Tl.take (i := 15) (oi := ⟨some 89, _, _, _, _, _⟩) (v := .pointer (some ⟨T, 5, none⟩)) rfl (by kernel_rfl) (by kernel_rfl) (by kernel_rfl) (by kernel_rfl) (fun _ _ _ h => h) (Or.inl ⟨by rfl, ?_⟩) hS8 ?_
                  · intro w' hSw
                    clear hSw
                    go_simp
                  try simp only [Act.put, List.setIfInBounds_toArray, List.set_cons_zero, List.set_cons_succ]
                  clear hSW hS8 hS hown8 g8 hat8 hlt8 hz gA hb16 hS0 hS1 hS2
                  refine Tl.one (i := 16) (o := ⟨none, _, _, _, _, _⟩) (by kernel_rfl) rfl rfl (fun K5 hK5 => ?_)
                  go_simp
                  refine hK5.out _ _ (fun h => absurd rfl h) ?_
                  refine Tl.done (by kernel_rfl) ?_ _
                  refine NoPanic.normal ?_
                  go_wp2_with fail
                  rw [hpsl] at HL8
                  go_roundw
                  case rel => exact ⟨j + 1, _, _, by go_num, by omega, HL8, by simp; omega⟩
                  case measure => simp [intOf]; omega
                · obtain rfl : j = np := by omega
                  have c2 : wr.cell? ⟨T, 2, none⟩ = some (.int .i64 nd) := HL2.out.bt.cell 2
                  have c6 : wr.cell? ⟨T, 6, none⟩ = some (.slice none 0 0) := HL2.out.bt.cell 6
                  have d6 : wr.cell? ⟨b, off + k * 8 + 6, none⟩ = some (.slice An o.ns.length cn) := cellk K6W.out HL2.out.fl.gr
                  have nd0 : (0 : Int) ≤ (nd : Int) := by omega
                  have nd1 : (nd : Int) ≤ (cn : Int) := by omega
                  have HRN2 := Lib.hid (HRN.out.gb (grownBy_trans HL2.out.fl.gr (gb_drew wr none)))
                  go_wp2_with fail
                  refine wp_region_still_tail 11 (by kernel_rfl) (by kernel_rfl) ?_
                  simp only [List.take_succ_cons, List.take_zero, List.drop_succ_cons, List.drop_zero]
                  repeat still_step
                  try refine wpStill_nil ?_
                  try change wpList _ _ _ _ _ wr.drew
                  obtain ⟨i0, hi0, hz0, hz1, hz2⟩ := info_parts info3
                  have HI := Lib.hid hi0; have HZ0 := Lib.hid hz0; have HZ1 := Lib.hid hz1; have HZ2 := Lib.hid hz2
                  have hrt := Rd.take HRN2.out hndl
                  have hnl2 : (o.ns.take nd).length = nd := by rw [List.length_take]; omega
                  have HNL2 := Lib.hid hnl2
                  have HRT := Lib.hid hrt
                  clear hi0 hz0 hz1 hz2 hnl2 hrt
                  refine wpList_own rfl (.tmp 91) (.tmp 100) 39 rfl 3 i0 (.int .i64 0) 1 8 Try.underlying39 HI.out HZ0.out HZ1.out HZ2.out rfl (by omega) An nd cn (ints (o.ns.take nd)) rfl rfl HRT.out (one_ints _) (by unfold maxLen; omega) (by omega) ?_
                  intro v9 w9 hown9 g9
                  have e9 : AftR w vo M T k (w9.setCell ⟨T, 6, none⟩ v9) := HL2.out.fin (grownBy_trans (gb_drew wr none) g9) (by rw [HNL2.out]; exact hown9) hpsl HNL2.out hnp4 hnd4
                  have HE9 := Lib.hid e9
                  have q6 : w9.cell? ⟨T, 6, none⟩ = some (.slice none 0 0) := cellk c6 (grownBy_trans (gb_drew wr none) g9)
                  have fr6 := (HL2.out.bt.gb (grownBy_trans (gb_drew wr none) g9) (by simp)).free 6
                  obtain ⟨A9, c9, rfl, _, _, _⟩ := Rc.of_own hown9
                  clear hown9 g9 e9 c6 c2 d6
                  go_wp2_with fail
                  go_meet
                  case rel => exact HE9.out
          · go_wp2_with fail
            obtain ⟨wy, hwy⟩ : ∃ wy, wy = (((wt.setCell ⟨T, 1, none⟩ (.int .i64 1)).setCell ⟨T, 2, none⟩ (.int .i64 0)).setCell ⟨T, 3, none⟩ (.bool true)).setCell ⟨T, 4, none⟩ (.bool false) := ⟨_, rfl⟩
            have fy : Zf (fun k => k = T) wt wy := by rw [hwy]; exact ((((Zf.refl (fun k => k = T) wt).set (by rfl)).set (by rfl)).set (by rfl)).set (by rfl)
            have by_ : Blk wy T 41 #[.int .i64 (k + 1), .int .i64 1, .int .i64 0, .bool true, .bool false, .slice none 0 0, .slice none 0 0, .bool o.fr] := by rw [hwy]; exact (((HBT.out.set 1 _).set 2 _).set 3 _).set 4 _
            rw [← hwy]
            have HBY := Lib.hid by_
            have HFY := Lib.hid (HF3.out.zf fy HFR.out.1 (fun k hk => by have := HFR.out.2 k hk; omega))
            have hx0 : -9223372036854775808 ≤ o.s := HLO2.out.1
            obtain ⟨p0, p1⟩ := pk_range o.s n (by omega)
            clear hwy fy by_ t1 t2 t3 t4 f1 f2 f3 f4 HF3 HBT
            refine (pick_any o.s n wy hx0 (by omega)).mono ?_
            rintro e wz ⟨rfl, rfl⟩
            generalize pk o.s n = p at *
            have t5 : wy.cell? ⟨T, 5, none⟩ = some (.slice none 0 0) := HBY.out.cell 5
            have f5 := HBY.out.free 5
            have hTl := HBY.out.lt
            have HW := Lib.hid (Aft.weak (1 + p) HFY.out HFR.out HBY.out)
            go_wp2_with fail
            go_meet
            case rel => exact HW.out
        case rest =>
          obtain ⟨o', vp, vn, hfo, hA⟩ := hcut
          clear t1 t2 t3 t4 f1 f2 f3 f4 HBT HF3 k0 k4 k5 k6
          have c0 : wc.cell? ⟨w.heap.size + 1, 0, none⟩ = some vo := hA.fl.bx.cell 0
          have fc := hA.fl.bx.free 0
          have b0 := hA.bt.cell 0
          have b1 := hA.bt.cell 1
          have b2 := hA.bt.cell 2
          have b3 := hA.bt.cell 3
          have b4 := hA.bt.cell 4
          have b5 := hA.bt.cell 5
          have b6 := hA.bt.cell 6
          have b7 := hA.bt.cell 7
          simp only [List.getElem?_toArray, List.getElem?_cons_zero, List.getElem?_cons_succ] at b0 b1 b2 b3 b4 b5 b6 b7
          obtain ⟨A1, c1, rfl, _, _, _⟩ := Rc.of_own hA.p
          obtain ⟨A2, c2, rfl, _, _, _⟩ := Rc.of_own hA.n
          have hlt := hA.bt.lt
          have hltB := hA.fl.bx.lt
          have HA := Lib.hid hA
          have HFO2 := Lib.hid hfo
          clear hA hfo
          obtain ⟨i0, hi0, hz0, hz1, hz2⟩ := info_parts info41
          have HI := Lib.hid hi0; have HZ0 := Lib.hid hz0; have HZ1 := Lib.hid hz1; have HZ2 := Lib.hid hz2
          clear hi0 hz0 hz1 hz2
          have hM8 : M.length ≤ 8 := by omega
          have HML := Lib.hid hml
          have HROW : Hid ((wc.alloc (.cells #[.int .i64 o'.s, .int .i64 o'.sp, .int .i64 o'.sd, .bool o'.sw, .bool o'.sf, .slice A1 o'.ps.length c1, .slice A2 o'.ns.length c2, .bool o'.fr] 41)).ownsRow 0 41 8 vo M.length (ovs M)) := own_gb0 HA.out.fl.om.row (World.grownBy_alloc _ _ none)
          have HNEW := Lib.hid (World.news_of_block (heap_alloc_new wc (.cells #[.int .i64 o'.s, .int .i64 o'.sp, .int .i64 o'.sd, .bool o'.sw, .bool o'.sf, .slice A1 o'.ps.length c1, .slice A2 o'.ns.length c2, .bool o'.fr] 41)))
          clear hml
          go_wp2_with (at_builtin; go_must (refine wpList_append_lies _ rfl _ _ 22 rfl 0 41 i0 (.agg #[.int .i64 0, .int .i64 0, .int .i64 0, .bool false, .bool false, .slice none 0 0, .slice none 0 0, .bool false]) 8 88 Try.underlying22 HI.out HZ0.out HZ1.out HZ2.out rfl (by decide) vo M.length (ovs M) rfl HROW.out ⟨wc.heap.size, 0, none⟩ 1 1 (ov ⟨o', .slice A1 o'.ps.length c1, .slice A2 o'.ns.length c2⟩) rfl rfl HNEW.out one_ov (by omega) (by unfold maxLen; omega) (by omega) (by omega) (wc.heap.size + 1) (by simp) ?_); intro g cap w8 hown8 g8 hat8 hlt8; have HF8 := Lib.hid (Fl.app HA.out hown8 g8 hat8); have hb8 := Fl.box8 HA.out.fl g8; have fr8 := hb8.free 0; have x1 : w8.cell? ⟨w.heap.size + 1, 0, none⟩ = some vo := hb8.cell 0; clear hown8 g8 hat8 hb8)
          go_roundw
          case rel => exact ⟨k + 1, _, _, by go_num, by omega, HF8, Lib.hid (FitO.obs_snoc HFO.out HML.out HFO2.out), by have := HML.out; simp; omega⟩
          case measure => simp [intOf]; omega
      · obtain rfl : k = n := by omega
        clear HL
        go_wp2_with fail
        rename World => wo
        go_loopw [10] (fun s wr => ∃ (j : Nat) (vq : Value) (Q' : List (Int × Int)), s = .int .i64 j ∧ j ≤ 4 ∧ j ≤ Q.length ∧ Hid (Fl w wr vo vq M Q') ∧ Q'.length = j) (fun s _ => 4 - (intOf s).toNat)
        case atStart => exact ⟨0, _, [], rfl, by omega, Nat.zero_le _, HF2, rfl⟩
        case round =>
          obtain ⟨j, vq, Q', rfl, hj4, hjq, HFQ, hql'⟩ := hrel
          clear HF2
          by_cases hin : j < Q.length ∧ j < 4 ∧ 0 < k
          · obtain ⟨hin1, hin2, hin3⟩ := hin
            obtain ⟨bq, offq, rfl, hbq, hcq, _⟩ := its_at HQ.out j hin1
            have hxb : -9223372036854775808 ≤ Q[j].1 := HQL.out _ (List.getElem_mem _)
            have hS0 : wr.cell? ⟨w.heap.size + 1, 1, none⟩ = some vq := HFQ.out.bx.cell 1
            have hS1 : wr.cell? ⟨bq, offq + j * 2, none⟩ = some (.int .i64 Q[j].1) := cellk hcq HFQ.out.gr
            generalize Q[j].1 = x at *
            have hj0 : (0 : Int) ≤ (j : Int) := by omega
            have hj1 : (j : Int) < (Q.length : Int) := by omega
            have hj2 : (j : Int) < 4 := by omega
            have hk1 : (0 : Int) < (k : Int) := by omega
            clear hcq
            go_wp2_with fail
            refine wp_region_noPanic ?_
            have hS : (fun w' : World => w'.cell? ⟨w.heap.size + 1, 1, none⟩ = some vq ∧ w'.cell? ⟨bq, offq + j * 2, none⟩ = some (.int .i64 x)) wr.drew := ⟨hS0, hS1⟩
            refine Tl.begin (S := fun w' => w'.cell? ⟨w.heap.size + 1, 1, none⟩ = some vq ∧ w'.cell? ⟨bq, offq + j * 2, none⟩ = some (.int .i64 x)) (m := 15) (by kernel_rfl) ?_
            refine Tl.take (i := 0) (oi := ⟨some 123, _, _, _, _, _⟩) (v := .pointer (some ⟨w.heap.size + 1, 1, none⟩)) rfl (by kernel_rfl) (by kernel_rfl) (by kernel_rfl) (by kernel_rfl) (fun _ _ _ h => h) (Or.inl ⟨by rfl, ?_⟩) hS ?_
            · intro w' hSw
              obtain ⟨j0, j1⟩ := hSw
              go_simp
            simp only [Act.put, List.setIfInBounds_toArray, List.set_cons_zero, List.set_cons_succ]
            refine Tl.take (i := 1) (oi := ⟨some 124, _, _, _, _, _⟩) (v := vq) rfl (by kernel_rfl) (by kernel_rfl) (by kernel_rfl) (by kernel_rfl) (fun _ _ _ h => h) (Or.inl ⟨by rfl, ?_⟩) hS ?_
            · intro w' hSw
              obtain ⟨j0, j1⟩ := hSw
              go_simp
            simp only [Act.put, List.setIfInBounds_toArray, List.set_cons_zero, List.set_cons_succ]
            refine Tl.take (i := 2) (oi := ⟨some 125, _, _, _, _, _⟩) (v := .slice (some ⟨bq, offq, none⟩) Q.length cq) rfl (by kernel_rfl) (by kernel_rfl) (by kernel_rfl) (by kernel_rfl) (fun _ _ _ h => h) (Or.inl ⟨by rfl, ?_⟩) hS ?_
            · intro w' hSw
              obtain ⟨j0, j1⟩ := hSw
              go_simp
            simp only [Act.put, List.setIfInBounds_toArray, List.set_cons_zero, List.set_cons_succ]
            refine Tl.take (i := 3) (oi := ⟨some 126, _, _, _, _, _⟩) (v := .int .i64 j) rfl (by kernel_rfl) (by kernel_rfl) (by kernel_rfl) (by kernel_rfl) (fun _ _ _ h => h) (Or.inl ⟨by rfl, ?_⟩) hS ?_
            · intro w' hSw
              obtain ⟨j0, j1⟩ := hSw
              go_simp
            simp only [Act.put, List.setIfInBounds_toArray, List.set_cons_zero, List.set_cons_succ]
            refine Tl.take (i := 4) (oi := ⟨some 127, _, _, _, _, _⟩) (v := .pointer (some ⟨bq, offq + j * 2, none⟩)) rfl (by kernel_rfl) (by kernel_rfl) (by kernel_rfl) (by kernel_rfl) (fun _ _ _ h => h) (Or.inl ⟨by rfl, ?_⟩) hS ?_
            · intro w' hSw
              obtain ⟨j0, j1⟩ := hSw
              go_simp
            simp only [Act.put, List.setIfInBounds_toArray, List.set_cons_zero, List.set_cons_succ]
            refine Tl.take (i := 5) (oi := ⟨some 128, _, _, _, _, _⟩) (v := .pointer (some ⟨bq, offq + j * 2, none⟩)) rfl (by kernel_rfl) (by kernel_rfl) (by kernel_rfl) (by kernel_rfl) (fun _ _ _ h => h) (Or.inl ⟨by rfl, ?_⟩) hS ?_
            · intro w' hSw
              obtain ⟨j0, j1⟩ := hSw
              go_simp
            simp only [Act.put, List.setIfInBounds_toArray, List.set_cons_zero, List.set_cons_succ]
            refine Tl.take (i := 6) (oi := ⟨some 129, _, _, _, _, _⟩) (v := .int .i64 x) rfl (by kernel_rfl) (by kernel_rfl) (by kernel_rfl) (by kernel_rfl) (fun _ _ _ h => h) (Or.inl ⟨by rfl, ?_⟩) hS ?_
            · intro w' hSw
              obtain ⟨j0, j1⟩ := hSw
              go_simp
            simp only [Act.put, List.setIfInBounds_toArray, List.set_cons_zero, List.set_cons_succ]
            refine Tl.take (i := 7) (oi := ⟨some 130, _, _, _, _, _⟩) (v := .int .i64 k) rfl (by kernel_rfl) (by kernel_rfl) (by kernel_rfl) (by kernel_rfl) (fun _ _ _ h => h) (Or.inl ⟨by rfl, ?_⟩) hS ?_
            · intro w' hSw
              obtain ⟨j0, j1⟩ := hSw
              go_simp
            simp only [Act.put, List.setIfInBounds_toArray, List.set_cons_zero, List.set_cons_succ]
            refine Tl.take (i := 10) (oi := ⟨some 133, _, _, _, _, _⟩) (v := .int .i64 j) rfl (by kernel_rfl) (by kernel_rfl) (by kernel_rfl) (by kernel_rfl) (fun _ _ _ h => h) (Or.inl ⟨by rfl, ?_⟩) hS ?_
            · intro w' hSw
              obtain ⟨j0, j1⟩ := hSw
              go_simp
            simp only [Act.put, List.setIfInBounds_toArray, List.set_cons_zero, List.set_cons_succ]
            refine Tl.one (i := 8) (o := ⟨some 131, _, _, _, _, _⟩) (by kernel_rfl) rfl rfl (fun K2 hK2 => ?_)
            go_simp
            refine (pick_any x k wr.drew hxb (by omega)).mono ?_
            rintro e w3 ⟨rfl, rfl⟩
            refine hK2.out _ _ (fun _ => hS) ?_
            try simp only [Act.put, List.setIfInBounds_toArray, List.set_cons_zero, List.set_cons_succ]
            obtain ⟨p0, p1⟩ := pk_range x k (by omega)
            generalize pk x k = p at *
            refine Tl.take (i := 9) (oi := ⟨some 132, _, _, _, _, _⟩) (v := .int .i64 (1 + p)) rfl (by kernel_rfl) (by kernel_rfl) (by kernel_rfl) (by kernel_rfl) (fun _ _ _ h => h) (Or.inl ⟨by rfl, ?_⟩) hS ?_
            · intro w' hSw
              obtain ⟨j0, j1⟩ := hSw
              go_simp
              exact IntWalk.i64_in _ (by omega)
            simp only [Act.put, List.setIfInBounds_toArray, List.set_cons_zero, List.set_cons_succ]
            refine Tl.take (i := 11) (oi := ⟨some 134, _, _, _, _, _⟩) (v := .agg #[.int .i64 (1 + p), .int .i64 j]) rfl (by kernel_rfl) (by kernel_rfl) (by kernel_rfl) (by kernel_rfl) (fun _ _ _ h => h) (Or.inl ⟨by rfl, ?_⟩) hS ?_
            · intro w' hSw
              obtain ⟨j0, j1⟩ := hSw
              go_simp
            simp only [Act.put, List.setIfInBounds_toArray, List.set_cons_zero, List.set_cons_succ]
            have gA : wr.grownBy (wr.drew.alloc (.cells #[.int .i64 (1 + p), .int .i64 j] 43)) none := grownBy_trans (gb_drew _ none) (World.grownBy_alloc _ _ none)
            have hSW := keep2f hS (World.grownBy_alloc wr.drew (.cells #[.int .i64 (1 + p), .int .i64 j] 43) none) (by simp) (by simp)
            refine Tl.one (i := 12) (o := ⟨some 135, _, _, _, _, _⟩) (by kernel_rfl) rfl rfl (fun K3 hK3 => ?_)
            go_simp
            refine hK3.out _ _ (fun _ => hSW) ?_
            try simp only [Act.put, List.setIfInBounds_toArray, List.set_cons_zero, List.set_cons_succ]
            obtain ⟨i0, hi0, hz0, hz1, hz2⟩ := info_parts info43
            have HI := Lib.hid hi0; have HZ0 := Lib.hid hz0; have HZ1 := Lib.hid hz1; have HZ2 := Lib.hid hz2
            clear hi0 hz0 hz1 hz2
            have HROW := Lib.hid (own_gb0 HFQ.out.om.que gA)
            have HNEW := Lib.hid (World.news_of_block (heap_alloc_new wr.drew (.cells #[.int .i64 (1 + p), .int .i64 j] 43)))
            have HGA := Lib.hid gA
            have hps9 : Q'.length ≤ 9 := by omega
            refine Tl.one (i := 13) (o := ⟨some 136, _, _, _, _, _⟩) (by kernel_rfl) rfl rfl (fun K4 hK4 => ?_)
            refine wp_append_lies (wr.drew.alloc (.cells #[.int .i64 (1 + p), .int .i64 j] 43)) (.tmp 124) (.tmp 135) 23 rfl 0 43 i0 (.agg #[.int .i64 0, .int .i64 0]) 2 16 Try.underlying23 HI.out HZ0.out HZ1.out HZ2.out rfl (by decide) vq Q'.length (its Q') rfl HROW.out ⟨wr.drew.heap.size, 0, none⟩ 1 1 (it (1 + p, (j : Int))) rfl rfl HNEW.out (one_it _) (by omega) (by unfold maxLen; omega) (by omega) (by omega) (wr.drew.alloc (.cells #[.int .i64 (1 + p), .int .i64 j] 43)).heap.size rfl ?_
            intro g cap w8 hown8 g8 hat8 hlt8
            have hz : ∀ q, vq.ownBlock = some q → w.heap.size + 2 ≤ q := fun q e => HFQ.out.om.zq q e
            have hS8 := keep2f hSW g8 (fun e => by have h1 : w.heap.size + 2 ≤ w.heap.size + 1 := hz _ e.symm; omega) (fun e => by have h1 : w.heap.size + 2 ≤ bq := hz _ e.symm; omega)
            have HL8 := Lib.hid (HFQ.out.item HGA.out hown8 g8 hat8)
            have x5 : w8.cell? ⟨w.heap.size + 1, 1, none⟩ = some vq := hS8.1
            have fr8 : w8.frozen? ⟨w.heap.size + 1, 1, none⟩ = false := ((HFQ.out.bx.gb HGA.out (by simp)).gb g8 (fun e => by have := hz _ e; omega)).free 1
            refine hK4.out _ _ (fun _ => hS8) ?_
            try simp only [Act.put, List.setIfInBounds_toArray, List.set_cons_zero, List.set_cons_succ]
            refine Tl.take (i := 14) (oi := ⟨some 137, _, _, _, _, _⟩) (v := .pointer (some ⟨w.heap.size + 1, 1, none⟩)) rfl (by kernel_rfl) (by kernel_rfl) (by kernel_rfl) (by kernel_rfl) (fun _ _ _ h => h) (Or.inl ⟨by rfl, ?_⟩) hS8 ?_
            · intro w' hSw
              clear hSw
              go_simp
            try simp only [Act.put, List.setIfInBounds_toArray, List.set_cons_zero, List.set_cons_succ]
            clear hSW hS8 hS hown8 g8 hat8 hlt8 hz gA hS0 hS1
            refine Tl.one (i := 15) (o := ⟨none, _, _, _, _, _⟩) (by kernel_rfl) rfl rfl (fun K5 hK5 => ?_)
            go_simp
            refine hK5.out _ _ (fun h => absurd rfl h) ?_
            refine Tl.done (by kernel_rfl) ?_ _
            refine NoPanic.normal ?_
            go_wp2_with fail
            rw [hql'] at HL8
            go_roundw
            case rel => exact ⟨j + 1, _, _, by go_num, by omega, by omega, HL8, by simp; omega⟩
            case measure => simp [intOf]; omega
          · obtain ⟨A1, c1, rfl, _, _, _⟩ := Rc.of_own HFQ.out.om.row
            obtain ⟨A2, c2, rfl, _, _, _⟩ := Rc.of_own HFQ.out.om.que
            have c0 : wr.cell? ⟨w.heap.size + 1, 0, none⟩ = some (.slice A1 M.length c1) := HFQ.out.bx.cell 0
            have cq1 : wr.cell? ⟨w.heap.size + 1, 1, none⟩ = some (.slice A2 Q'.length c2) := HFQ.out.bx.cell 1
            have r0 : wr.cell? ⟨w.heap.size, 0, none⟩ = some (.slice none 0 0) := HFQ.out.rs.cell 0
            have r1 : wr.cell? ⟨w.heap.size, 1, none⟩ = some (.slice none 0 0) := HFQ.out.rs.cell 1
            have f0 := HFQ.out.rs.free 0
            have f1 := HFQ.out.rs.free 1
            have HP := Lib.hid (fun w2 f => HFQ.out.fin (w2 := w2) HFO.out hml (by omega) f)
            rcases (by omega : ¬ j < Q.length ∨ (j < Q.length ∧ ¬ j < 4) ∨ (j < Q.length ∧ j < 4 ∧ ¬ 0 < k)) with h1 | ⟨h1, h2⟩ | ⟨h1, h2, h3⟩
            · clear hin hml hql'
              go_wp2_with fail
              refine bodyPost_ret (v := .agg #[.slice A1 M.length c1, .slice A2 Q'.length c2]) (by simp [results, Try.results9, go_sem, r0, r1]) rfl ?_
              rw [HPost.out]
              exact HP.out _ (((Zf.refl (fun k => k = w.heap.size) wr).set (by rfl)).set (by rfl))
            · have hj1 : (j : Int) < (Q.length : Int) := by omega
              clear hin hml hql'
              go_wp2_with fail
              refine bodyPost_ret (v := .agg #[.slice A1 M.length c1, .slice A2 Q'.length c2]) (by simp [results, Try.results9, go_sem, r0, r1]) rfl ?_
              rw [HPost.out]
              exact HP.out _ (((Zf.refl (fun k => k = w.heap.size) wr).set (by rfl)).set (by rfl))
            · have hj1 : (j : Int) < (Q.length : Int) := by omega
              have hj2 : (j : Int) < 4 := by omega
              have hk3 : ¬ 0 < (k : Int) := by omega
              clear hin hml hql'
              go_wp2_with fail
              refine bodyPost_ret (v := .agg #[.slice A1 M.length c1, .slice A2 Q'.length c2]) (by simp [results, Try.results9, go_sem, r0, r1]) rfl ?_
              rw [HPost.out]
              exact HP.out _ (((Zf.refl (fun k => k = w.heap.size) wr).set (by rfl)).set (by rfl))
end Go.Proofs.Yteieljkkcnpfmaa
