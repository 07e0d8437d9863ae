/-
  Do: words for the kinds.
-/
import Derived.Test.YteieljkkcnpfmaaDo0
namespace Go.Proofs.Yteieljkkcnpfmaa
open Go.ChangeShapes Go.WideShapes Go.ChangeAt Go.RowKit
set_option linter.unusedVariables false

theorem tgt_inv {objs : List Ob} {s : Int} {p : Nat} (h : tgt objs s = some p) : plc objs s = p ∧ p < objs.length ∧ s ≠ 0 := by
  unfold tgt at h
  split at h
  · cases h
  · rename_i hn
    have h1 : (plc objs s).toNat = p := by injection h
    have h2 := plc_lt objs s
    exact ⟨by omega, by omega, fun e => hn (.inl e)⟩
theorem Om.rl {N : Nat → Prop} {w : World} {A : Option Addr} {c : Nat} {vq : Value} {L : List Ov} {Q : List (Int × Int)} (h : Om N w (.slice A L.length c) vq L Q) : RL w A L := by
  obtain ⟨A', c', e, r1, _, _⟩ := Rc.of_own h.row
  injection e with e1 e2 e3
  subst e1
  exact ⟨r1, h.os.ro⟩
theorem place_q {A : Option Addr} {c : Nat} {L : List Ov} {s : Int} {p : Nat} {w : World} (h : RL w A L) (hp : plc (obs L) s = p) (n : Nat) : Calls Try.prog 22 #[.slice A L.length c, .int .i64 s] (w.drewN n) fun e w' => e = .returned (.int .i64 p) ∧ w' = w.drewN n := by
  have := place_any A c L s (w.drewN n) (h.gb (gb_drewN w n none))
  rw [hp] at this
  exact this.mono fun e w' ⟨h1, h2⟩ => ⟨h1, h2.symm⟩
theorem place_p {A : Option Addr} {c : Nat} {L : List Ov} {s : Int} {p : Nat} {w : World} (h : RL w A L) (hp : plc (obs L) s = p) : Calls Try.prog 22 #[.slice A L.length c, .int .i64 s] w fun e w' => e = .returned (.int .i64 p) ∧ w = w' := by
  have := place_any A c L s w h
  rwa [hp] at this
/-- The objects turn. -/
theorem Db.turn {w wr : World} {N B : Nat} {r : Nat → Int} {ds : Array Value} {vo vq : Value} {L L2 : List Ov} {Q : List (Int × Int)} {g j : Nat} {u : Value} (h : Db w wr N B r ds vo vq L Q) (hz : Z5 N B g) (ho : Om (Z5 N B) (wr.setCell ⟨g, j, none⟩ u) vo vq L2 Q) : Db w (wr.setCell ⟨g, j, none⟩ u) N B r ds vo vq L2 Q := by
  have f : Zf (fun k => k = g) wr (wr.setCell ⟨g, j, none⟩ u) := (Zf.refl (fun k => k = g) wr).set (by rfl)
  unfold Z5 at hz
  exact ⟨h.br.zf f (by omega), h.bd.zf f (by omega), h.rm.zf f (by omega), h.rr.zf f (by omega), h.bx.zf f (by omega), ho, Zf.gb h.gr f (fun k hk => by have := h.hN; omega), h.hN, h.hB⟩
/-- The queue turns. -/
theorem Db.que {w wr w2 : World} {N B : Nat} {r : Nat → Int} {ds : Array Value} {vo vq v : Value} {L : List Ov} {Q Q2 : List (Int × Int)} (h : Db w wr N B r ds vo vq L Q) (g : wr.grownBy w2 none) (hv : w2.ownsRow wr.heap.size 43 2 v Q2.length (its Q2)) : Db w (w2.setCell ⟨B, 1, none⟩ v) N B r ds vo v L Q2 := by
  have h2 := h.gb g
  have f : Zf (fun k => k = B) w2 (w2.setCell ⟨B, 1, none⟩ v) := (Zf.refl (fun k => k = B) w2).set (by rfl)
  have hB := h.hB
  have hlt := h.bx.lt
  have ho := h2.om.zf f (fun k hk e => hk.2 e)
  refine ⟨h2.br.zf f (by omega), h2.bd.zf f (by omega), h2.rm.zf f (by omega), h2.rr.zf f (by omega), h2.bx.set 1 v, ⟨ho.row, ?_, ho.os, ho.zo, fun b e => ?_⟩, Zf.gb h2.gr f (fun k hk => by have := h.hN; omega), h.hN, h.hB⟩
  · exact own_zf (own_base hv (Nat.zero_le _)) f (fun b e k => by have := (hv.lt b e).1; omega)
  · have := (hv.lt b e).1
    exact ⟨by omega, by omega⟩
theorem its_drop (Q : List (Int × Int)) : its Q.tail = (its Q).drop 2 := by
  cases Q with
  | nil => rfl
  | cons x Q => rfl
end Go.Proofs.Yteieljkkcnpfmaa
