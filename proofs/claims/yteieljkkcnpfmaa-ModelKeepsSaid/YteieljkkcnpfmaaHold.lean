/-
  A model in a box; the box is laid anew.
-/
import Derived.Test.YteieljkkcnpfmaaAwake
import Derived.Test.YteieljkkcnpfmaaCome
namespace Go.Proofs.Yteieljkkcnpfmaa
open Go.ChangeShapes Go.WideShapes Go.ChangeAt Go.RowKit
set_option linter.unusedVariables false

/-- Cells none of which is an integer. -/
def NoI (cs : Array Value) : Prop := ∀ (i : Nat) (k : IntKind) (x : Int), cs[i]? ≠ some (.int k x)
theorem noI_two {A B : Option Addr} {n c m d : Nat} : NoI #[.slice A n c, .slice B m d] := by
  intro i k x
  match i with
  | 0 => simp
  | 1 => simp
  | i + 2 => simp
theorem Rc.zf0 {Z : Nat → Prop} {w w' : World} {A : Option Addr} {n size : Nat} {vs : List Value} (h : Rc w A n size vs) (f : Zf Z w w') (hz : 0 < n → ∀ b off, A = some ⟨b, off, none⟩ → ¬ Z b) : Rc w' A n size vs :=
  ⟨h.len, h.le, fun hn => by
    obtain ⟨b, off, hA, hb, hc⟩ := h.at_ hn
    exact ⟨b, off, hA, Nat.lt_of_lt_of_le hb f.size, fun j hj => (World.cell?_of_block (a := ⟨b, off + j, none⟩) (f.block b hb (hz hn b off hA))).trans (hc j hj)⟩⟩
theorem Rc.far {w : World} {A : Option Addr} {n size B : Nat} {t : TypeId} {vs : List Value} {cs : Array Value} (h : Rc w A n size vs) (h0 : 0 < n → ∃ k x, vs[0]? = some (Value.int k x)) (hs : 0 < size) (hb : Blk w B t cs) (hn : NoI cs) : 0 < n → ∀ b off, A = some ⟨b, off, none⟩ → ¬ b = B := by
  intro hp b off hA e
  obtain ⟨b', off', hA', _, hc⟩ := h.at_ hp
  rw [hA] at hA'
  cases hA'
  subst e
  obtain ⟨k, x, hv⟩ := h0 hp
  have h1 := hc 0 (Nat.mul_pos hp hs)
  rw [hv, hb.cell] at h1
  exact hn _ _ _ h1
theorem ints_head {xs : List Int} (h : 0 < xs.length) : ∃ k x, (ints xs)[0]? = some (Value.int k x) := by
  cases xs with
  | nil => simp at h
  | cons x xs => exact ⟨.i64, x, rfl⟩
theorem its_head {Q : List (Int × Int)} (h : 0 < Q.length) : ∃ k x, (its Q)[0]? = some (Value.int k x) := by
  cases Q with
  | nil => simp at h
  | cons x xs => exact ⟨.i64, x.1, rfl⟩
theorem ovs_head {L : List Ov} (h : 0 < L.length) : ∃ k x, (ovs L)[0]? = some (Value.int k x) := by
  cases L with
  | nil => simp at h
  | cons x xs => exact ⟨.i64, x.o.s, rfl⟩
theorem RO.zfB {w w' : World} {o : Ob} {vp vn : Value} {B : Nat} {t : TypeId} {cs : Array Value} (h : RO w o vp vn) (hb : Blk w B t cs) (hn : NoI cs) (f : Zf (fun k => k = B) w w') : RO w' o vp vn := by
  obtain ⟨Ap, cp, An, cn, h1, h2, h3, h4⟩ := h
  exact ⟨Ap, cp, An, cn, h1, h2, h3.zf0 f (h3.far ints_head (by omega) hb hn), h4.zf0 f (h4.far ints_head (by omega) hb hn)⟩
theorem RM.zfB {w w' : World} {v : Value} {O : List Ob} {Q : List (Int × Int)} {B : Nat} {t : TypeId} {cs : Array Value} (h : RM w v O Q) (hb : Blk w B t cs) (hn : NoI cs) (f : Zf (fun k => k = B) w w') : RM w' v O Q := by
  obtain ⟨Ao, co, Aq, cq, L, h1, h2, h3, h4⟩ := h
  exact ⟨Ao, co, Aq, cq, L, h1, h2, ⟨h3.1.zf0 f (h3.1.far ovs_head (by omega) hb hn), fun x hx => (h3.2 x hx).zfB hb hn f⟩, h4.zf0 f (h4.far its_head (by omega) hb hn)⟩

/-- What reads as a model, by its two slices. -/
def RM2 (w : World) (Ao Aq : Option Addr) (no co nq cq : Nat) (O : List Ob) (Q : List (Int × Int)) : Prop := RM w (.agg #[.slice Ao no co, .slice Aq nq cq]) O Q ∧ O.length = no ∧ Q.length = nq
theorem RM.two {w : World} {v : Value} {O : List Ob} {Q : List (Int × Int)} (h : RM w v O Q) : ∃ Ao Aq co cq, v = .agg #[.slice Ao O.length co, .slice Aq Q.length cq] := by
  obtain ⟨Ao, co, Aq, cq, L, h1, h2, h3, h4⟩ := h
  subst h2
  exact ⟨Ao, Aq, co, cq, by rw [h1]; simp [obs]⟩
/-- A box that is newer than w holds a model; nothing that lay in w has turned. -/
structure MB (w wr : World) (B : Nat) (vo vq : Value) (O : List Ob) (Q : List (Int × Int)) : Prop where
  bx : Blk wr B 29 #[vo, vq]
  rm : RM wr (.agg #[vo, vq]) O Q
  gr : w.grownBy wr none
  ge : w.heap.size ≤ B
theorem MB.gb {w wr w2 : World} {B : Nat} {vo vq : Value} {O : List Ob} {Q : List (Int × Int)} (h : MB w wr B vo vq O Q) (g : wr.grownBy w2 none) : MB w w2 B vo vq O Q :=
  ⟨h.bx.gb g (by simp), h.rm.gb g, grownBy_trans h.gr g, h.ge⟩
theorem MB.form {w wr : World} {B : Nat} {vo vq : Value} {O : List Ob} {Q : List (Int × Int)} (h : MB w wr B vo vq O Q) : ∃ Ao Aq co cq, vo = .slice Ao O.length co ∧ vq = .slice Aq Q.length cq := by
  obtain ⟨Ao, Aq, co, cq, e⟩ := h.rm.two
  injection e with e
  injection e with e
  injection e with e1 e2
  injection e2 with e2 _
  exact ⟨Ao, Aq, co, cq, e1, e2⟩
/-- Another model is laid into the box. -/
theorem MB.put {w wr : World} {B : Nat} {vo vq uo uq : Value} {O O2 : List Ob} {Q Q2 : List (Int × Int)} (h : MB w wr B vo vq O Q) (k : RM wr (.agg #[uo, uq]) O2 Q2) : MB w ((wr.setCell ⟨B, 0, none⟩ uo).setCell ⟨B, 1, none⟩ uq) B uo uq O2 Q2 := by
  obtain ⟨Ao, Aq, co, cq, rfl, rfl⟩ := h.form
  have f : Zf (fun k => k = B) wr ((wr.setCell ⟨B, 0, none⟩ uo).setCell ⟨B, 1, none⟩ uq) := ((Zf.refl (fun k => k = B) wr).set (by rfl)).set (by rfl)
  exact ⟨(h.bx.set 0 uo).set 1 uq, k.zfB h.bx noI_two f, Zf.gb h.gr f (fun k hk => by have := h.ge; omega), h.ge⟩
theorem MB.start {w w1 : World} (g : w.grownBy w1 none) : MB w (w1.alloc (.cells #[.slice none 0 0, .slice none 0 0] 29)) w1.heap.size (.slice none 0 0) (.slice none 0 0) [] [] :=
  ⟨Blk.new _ _ _, rm_nil _, grownBy_trans g (World.grownBy_alloc _ _ none), g.size⟩
theorem pick_still (c n : Int) (w : World) (hc : -9223372036854775808 ≤ c) (hn : 0 < n) : Calls Try.prog 14 #[.int .i64 c, .int .i64 n] w fun e w' => e = .returned (.int .i64 (pk c n)) ∧ w' = w :=
  (pick_any c n w hc hn).mono fun e w' ⟨h1, h2⟩ => ⟨h1, h2.symm⟩
theorem come_rm {w : World} {v : Value} {O : List Ob} {Q : List (Int × Int)} (h : RM w v O Q) (hs : Smo O Q) (s q : Int) : Calls Try.prog 16 #[v, .int .i64 s, .int .i64 q] w (ComeP w O (Q ++ [(s, q)])) := by
  obtain ⟨Ao, co, Aq, cq, L, rfl, rfl, h3, h4⟩ := h
  exact come_any Ao Aq co cq L Q s q w h3 h4 hs.sm
theorem same_rm {w : World} {u v : Value} {O O' : List Ob} {Q Q' : List (Int × Int)} (h : RM w u O Q) (k : RM w v O' Q') : Calls Try.prog 13 #[u, v] w fun e w' => e = .returned (.bool (decide (O = O' ∧ Q = Q'))) ∧ w.grownBy w' none := by
  obtain ⟨Ao, co, Aq, cq, L, rfl, rfl, h3, h4⟩ := h
  obtain ⟨Ao', co', Aq', cq', L', rfl, rfl, h3', h4'⟩ := k
  exact same_any Ao Aq Ao' Aq' co cq co' cq' L L' Q Q' w h3 h4 h3' h4'
end Go.Proofs.Yteieljkkcnpfmaa
