/-
  Do: what its memory is on the way.
-/
import Derived.Test.YteieljkkcnpfmaaFault
import Derived.Test.YteieljkkcnpfmaaMut
namespace Go.Proofs.Yteieljkkcnpfmaa
open Go.ChangeShapes Go.WideShapes Go.ChangeAt Go.RowKit
set_option linter.unusedVariables false

def dd (k a b i n : Int) : Nat → Int := fun j => if j = 0 then k else if j = 1 then a else if j = 2 then b else if j = 3 then i else n
theorem dcs_dd (k a b i n : Int) : dcs (dd k a b i n) = #[.int .i64 k, .int .i64 a, .int .i64 b, .int .i64 i, .int .i64 n] := rfl
/-- The five boxes. -/
def bx5 (w : World) (m rr ds : Array Value) : World := ((bx3 w m rr ds).alloc (.cells #[.slice none 0 0, .slice none 0 0] 29)).alloc (.cells (rcs fun _ => 0) 24)
theorem bx5_gb (w : World) (m rr ds : Array Value) : w.grownBy (bx5 w m rr ds) none := grownBy_trans (grownBy_trans (bx3_gb w m rr ds) (World.grownBy_alloc _ _ none)) (World.grownBy_alloc _ _ none)
theorem bx5_blk (w : World) (m rr ds : Array Value) : Blk (bx5 w m rr ds) w.heap.size 29 m ∧ Blk (bx5 w m rr ds) (w.heap.size + 1) 24 rr ∧ Blk (bx5 w m rr ds) (w.heap.size + 1 + 1) 26 ds ∧ Blk (bx5 w m rr ds) (w.heap.size + 1 + 1 + 1) 29 #[.slice none 0 0, .slice none 0 0] ∧ Blk (bx5 w m rr ds) (w.heap.size + 1 + 1 + 1 + 1) 24 (rcs fun _ => 0) ∧ (bx5 w m rr ds).heap.size = w.heap.size + 5 := by
  obtain ⟨b1, b2, b3, hs⟩ := bx3_blk w m rr ds
  have g1 : (bx3 w m rr ds).grownBy (bx5 w m rr ds) none := grownBy_trans (World.grownBy_alloc _ _ none) (World.grownBy_alloc _ _ none)
  refine ⟨b1.gb g1 (by simp), b2.gb g1 (by simp), b3.gb g1 (by simp), ?_, ?_, by unfold bx5; simp [hs]⟩
  · have := (Blk.new (bx3 w m rr ds) 29 #[.slice none 0 0, .slice none 0 0]).gb (World.grownBy_alloc _ (.cells (rcs fun _ => 0) 24) none) (by simp)
    rw [hs] at this; exact this
  · have := Blk.new ((bx3 w m rr ds).alloc (.cells #[.slice none 0 0, .slice none 0 0] 29)) 24 (rcs fun _ => 0)
    simp [hs] at this; exact this

/-- The zone of Do's own model. -/
def Z5 (N B : Nat) : Nat → Prop := fun k => N + 5 ≤ k ∧ k ≠ B
/-- Do's memory. -/
structure Db (w wr : World) (N B : Nat) (r : Nat → Int) (ds : Array Value) (vo vq : Value) (L : List Ov) (Q : List (Int × Int)) : Prop where
  br : Blk wr (N + 1) 24 (rcs r)
  bd : Blk wr (N + 1 + 1) 26 ds
  rm : Blk wr (N + 1 + 1 + 1) 29 #[.slice none 0 0, .slice none 0 0]
  rr : Blk wr (N + 1 + 1 + 1 + 1) 24 (rcs fun _ => 0)
  bx : Blk wr B 29 #[vo, vq]
  om : Om (Z5 N B) wr vo vq L Q
  gr : w.grownBy wr none
  hN : w.heap.size = N
  hB : N + 5 ≤ B
theorem Db.gb {w wr w2 : World} {N B : Nat} {r : Nat → Int} {ds : Array Value} {vo vq : Value} {L : List Ov} {Q : List (Int × Int)} (h : Db w wr N B r ds vo vq L Q) (g : wr.grownBy w2 none) : Db w w2 N B r ds vo vq L Q :=
  ⟨h.br.gb g (by simp), h.bd.gb g (by simp), h.rm.gb g (by simp), h.rr.gb g (by simp), h.bx.gb g (by simp), h.om.gb g, grownBy_trans h.gr g, h.hN, h.hB⟩
/-- A register is laid anew. -/
theorem Db.reg {w wr : World} {N B : Nat} {r : Nat → Int} {ds : Array Value} {vo vq : Value} {L : List Ov} {Q : List (Int × Int)} (h : Db w wr N B r ds vo vq L Q) (a : Nat) (ha : a < 6) (v : Int) : Db w (wr.setCell ⟨N + 1, a, none⟩ (.int .i64 v)) N B (upd r a v) ds vo vq L Q := by
  have f : Zf (fun k => k = N + 1) wr (wr.setCell ⟨N + 1, a, none⟩ (.int .i64 v)) := (Zf.refl (fun k => k = N + 1) wr).set (by rfl)
  have hB := h.hB
  exact ⟨by rw [← rcs_set r a v ha]; exact h.br.set a _, h.bd.zf f (by omega), h.rm.zf f (by omega), h.rr.zf f (by omega), h.bx.zf f (by omega), h.om.zf f (fun k hk e => by unfold Z5 at hk; omega), Zf.gb h.gr f (fun k hk => by have := h.hN; omega), h.hN, h.hB⟩
/-- What Do tells. -/
def DoP (w : World) (objs : List Ob) (Q : List (Int × Int)) (r : Nat → Int) (v e : Int) (en : Ending) (w' : World) : Prop :=
  ∃ vm, en = .returned (.tuple #[vm, .agg (rcs r), .int .i64 v, .int .i64 e]) ∧ RM w' vm objs Q ∧ w.grownBy w' none
/-- The end: the results are laid. -/
theorem Db.fin {w wr W : World} {N B : Nat} {r : Nat → Int} {ds : Array Value} {vo vq : Value} {L : List Ov} {Q : List (Int × Int)} (h : Db w wr N B r ds vo vq L Q) (v e : Int) (f : Zf (fun k => k = N + 1 + 1 + 1 ∨ k = N + 1 + 1 + 1 + 1) wr W) :
    DoP w (obs L) Q r v e (.returned (.tuple #[.agg #[vo, vq], .agg (rcs r), .int .i64 v, .int .i64 e])) W :=
  ⟨_, rfl, (h.om.zf f (fun k hk e => by unfold Z5 at hk; omega)).rm, Zf.gb h.gr f (fun k hk => by have := h.hN; omega)⟩
end Go.Proofs.Yteieljkkcnpfmaa
