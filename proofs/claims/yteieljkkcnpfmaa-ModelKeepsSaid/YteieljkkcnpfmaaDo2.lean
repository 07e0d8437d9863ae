/-
  Do: an object is laid.
-/
import Derived.Test.YteieljkkcnpfmaaOrders
namespace Go.Proofs.Yteieljkkcnpfmaa
open Go.ChangeShapes Go.WideShapes Go.ChangeAt Go.RowKit
set_option linter.unusedVariables false

theorem ovs_snoc (L : List Ov) (x : Ov) : ovs (L ++ [x]) = ovs L ++ ov x := by simp [ovs]
theorem Db.app {w wr W w8 : World} {N B g cap H : Nat} {r : Nat → Int} {ds : Array Value} {vo vq : Value} {L : List Ov} {Q : List (Int × Int)} {o : Ob} {vp vn : Value} (h : Db w wr N B r ds vo vq L Q) (gW : wr.grownBy W none)
    (hp : W.ownsRow wr.heap.size 3 1 vp o.ps.length (ints o.ps)) (hn : W.ownsRow wr.heap.size 3 1 vn o.ns.length (ints o.ns)) (hap : ap vp vn)
    (hown : w8.ownsRow 0 41 8 (.slice (some ⟨g, 0, none⟩) (L.length + 1) cap) (L.length + 1) (ovs L ++ ov ⟨o, vp, vn⟩)) (hg : W.grownBy w8 vo.ownBlock) (hat : vo.ownBlock = some g ∨ g = H) (hH : wr.heap.size ≤ H) :
    Db w (w8.setCell ⟨B, 0, none⟩ (.slice (some ⟨g, 0, none⟩) (L.length + 1) cap)) N B r ds (.slice (some ⟨g, 0, none⟩) (L.length + 1) cap) vq (L ++ [⟨o, vp, vn⟩]) Q := by
  have hB := h.hB
  have hlt := h.bx.lt
  have h1 := h.gb gW
  have hos : Os (Z5 N B) W (L ++ [⟨o, vp, vn⟩]) := h.om.os.snoc gW ⟨o, vp, vn⟩ hp hn hap (fun k hk _ => ⟨by omega, by omega⟩)
  have f1 : Zf (fun k => vo.ownBlock = some k) W w8 := Zf.of_gb hg (fun b e => e)
  have f2 : Zf (fun k => k = B) w8 (w8.setCell ⟨B, 0, none⟩ (.slice (some ⟨g, 0, none⟩) (L.length + 1) cap)) := (Zf.refl (fun k => k = B) w8).set (by rfl)
  have hz1 : ∀ k, vo.ownBlock = some k → N + 5 ≤ k ∧ k ≠ B := fun k e => h.om.zo k e
  have nz : ∀ k, k < N + 5 ∨ k = B → ¬ vo.ownBlock = some k := fun k hk e => by have := hz1 k e; omega
  have hos8 := hos.zf f1 (fun v hv b e k => by
    obtain ⟨n', xs', hv'⟩ := hos.own hv
    exact own_own hv' h1.om.row (by decide) e k)
  have hq8 := own_zf h1.om.que f1 (fun b e k => own_own h1.om.que h1.om.row (by decide) e k)
  have hgz : Z5 N B g := by
    rcases hat with e | e
    · exact hz1 g e
    · exact ⟨by omega, by omega⟩
  refine ⟨(h1.br.zf f1 (nz _ (by omega))).zf f2 (by omega), (h1.bd.zf f1 (nz _ (by omega))).zf f2 (by omega), (h1.rm.zf f1 (nz _ (by omega))).zf f2 (by omega), (h1.rr.zf f1 (nz _ (by omega))).zf f2 (by omega), (h1.bx.zf f1 (nz _ (by omega))).set 0 _, ⟨?_, own_zf hq8 f2 (fun b e k => (h.om.zq b e).2 k), hos8.zf f2 (fun v hv b e k => (hos8.z v hv b e).2 k), fun b e => ?_, h.om.zq⟩, ?_, h.hN, h.hB⟩
  · rw [List.length_append, List.length_singleton, ovs_snoc]
    exact own_zf hown f2 (fun b e k => by
      have e' : g = b := by simpa [Value.ownBlock] using e
      exact hgz.2 (e'.trans k))
  · have e' : g = b := by simpa [Value.ownBlock] using e
    exact e' ▸ hgz
  · exact Zf.gb (Zf.gb h1.gr f1 (fun k hk => by have := hz1 k hk; have := h.hN; omega)) f2 (fun k hk => by have := h.hN; omega)
theorem own_lit {w : World} {g n : Nat} {xs : List Int} {base : Nat} (hb : Blk w g 3 (ints xs).toArray) (hn : xs.length = n) (hl : n ≤ 100) (hbase : base ≤ g) : w.ownsRow base 3 1 (.slice (some ⟨g, 0, none⟩) n n) n (ints xs) :=
  ⟨by rw [ints_length]; omega, .inr ⟨g, n, (ints xs).toArray, rfl, hbase, hb, Nat.le_refl _, by unfold maxLen; omega, by simp [ints]; omega, by rw [List.take_of_length_le (by simp [ints]; omega)]⟩⟩
theorem one_ov {o : Ob} {A A' : Option Addr} {n c n' c' : Nat} : ∀ u ∈ ov ⟨o, .slice A n c, .slice A' n' c'⟩, u.oneCell' = true := by
  intro u hu
  simp [ov, oc] at hu
  rcases hu with rfl | rfl | rfl | rfl | rfl | rfl | rfl | rfl <;> rfl
theorem cells_of_blk {w : World} {g : Nat} {t : TypeId} {xs : List Value} (h : Blk w g t xs.toArray) : ∀ j u, xs[j]? = some u → w.cell? ((⟨g, 0, none⟩ : Addr).add j) = some u := by
  intro j u hu
  rw [Addr.add_lit, Nat.zero_add, h.cell]
  simpa using hu
end Go.Proofs.Yteieljkkcnpfmaa
