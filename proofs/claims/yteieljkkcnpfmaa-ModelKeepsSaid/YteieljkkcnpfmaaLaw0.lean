/-
  Words for the laws: deeds on fit models; boxes.
-/
import Derived.Test.YteieljkkcnpfmaaFit
import Derived.Test.YteieljkkcnpfmaaFit15
import Derived.Test.YteieljkkcnpfmaaRegs
import Derived.Test.YteieljkkcnpfmaaEq
namespace Go.Proofs.Yteieljkkcnpfmaa
open Go.ChangeShapes Go.WideShapes Go.ChangeAt Go.RowKit
set_option linter.unusedVariables false

theorem FitO.smo {O : List Ob} {Q : List (Int × Int)} {n : Nat} (h : FitO O) (hn : O.length = n) (h8 : n ≤ 8) (hq : Q.length ≤ 4) : Smo O Q := by
  refine ⟨by omega, by omega, fun o ho => ?_⟩
  obtain ⟨i, hi, rfl⟩ := List.getElem_of_mem ho
  obtain ⟨_, _, _, h4, h5⟩ := h i hi
  omega
theorem plc_is (O : List Ob) (s : Int) (p : Nat) (hp : p < O.length) (h : plc O s = p) : O[p].s = s := by
  induction O generalizing p with
  | nil => simp at hp
  | cons o l ih =>
    unfold plc at h
    split at h
    · rename_i hs
      obtain rfl : p = 0 := by omega
      exact hs
    · split at h
      · omega
      · rename_i h1 h2
        match p, hp with
        | 0, _ => exfalso; omega
        | p + 1, hp => exact ih p (by simpa using hp) (by omega)
theorem plc_set (O : List Ob) (p : Nat) (o : Ob) (hp : p < O.length) (h : o.s = O[p].s) (s : Int) : plc (O.set p o) s = plc O s := by
  induction O generalizing p with
  | nil => simp at hp
  | cons x l ih =>
    match p, hp, h with
    | 0, _, h =>
      have h' : o.s = x.s := h
      simp only [List.set_cons_zero, plc, h']
    | p + 1, hp, h =>
      simp only [List.set_cons_succ, plc]
      rw [ih p (by simpa using hp) (by simpa using h)]
theorem tgt_set (O : List Ob) (p : Nat) (o : Ob) (hp : p < O.length) (h : o.s = O[p].s) (s : Int) : tgt (O.set p o) s = tgt O s := by
  unfold tgt; rw [plc_set O p o hp h s]
theorem FitO.plc0 {O : List Ob} (h : FitO O) : plc O 0 = -1 := plc_none O 0 (fun j hj => by have := (h j hj).1; omega)
/-- In a fit model an object is there, or it is not. -/
theorem FitO.at_ {O : List Ob} (h : FitO O) (s : Int) : (tgt O s = none ∧ plc O s = -1) ∨ ∃ p, ∃ hp : p < O.length, tgt O s = some p ∧ plc O s = p ∧ O[p].s = s := by
  have h1 := plc_ge O s
  have h2 := plc_lt O s
  by_cases hn : plc O s < 0
  · exact .inl ⟨tgt_none (.inr hn), by omega⟩
  · right
    have hs : s ≠ 0 := fun e => by rw [e, h.plc0] at hn; omega
    exact ⟨(plc O s).toNat, by omega, tgt_some hs _ (by omega), by omega, plc_is O s _ (by omega) (by omega)⟩
theorem FitO.ne {O : List Ob} {s t : Int} {p q : Nat} (h1 : tgt O s = some p) (h2 : tgt O t = some q) (hne : s ≠ t) : p ≠ q := by
  obtain ⟨a1, a2, _⟩ := tgt_inv h1
  obtain ⟨b1, b2, _⟩ := tgt_inv h2
  have e1 := plc_is O s p a2 a1
  have e2 := plc_is O t q b2 b1
  intro e
  subst e
  exact hne (e1.symm.trans e2)
theorem getD_set_ne {O : List Ob} {p q : Nat} {o : Ob} (h : q ≠ p) : (O.set p o).getD q ob0 = O.getD q ob0 := by
  simp [List.getD, List.getElem?_set_ne (Ne.symm h)]
theorem getD_set_eq {O : List Ob} {p : Nat} {o : Ob} (h : p < O.length) : (O.set p o).getD p ob0 = o := by
  simp [List.getD, h]
theorem getD_at {O : List Ob} {p : Nat} (h : p < O.length) : O.getD p ob0 = O[p] := by simp [List.getD, h]

theorem find_rm_none {w : World} {v : Value} {O : List Ob} {Q : List (Int × Int)} (h : RM w v O Q) (s : Int) (hp : plc O s = -1) :
    Calls Try.prog 15 #[v, .int .i64 s] w fun e w' => e = .returned (.tuple #[.agg #[.int .i64 0, .int .i64 0, .int .i64 0, .bool false, .bool false, .slice none 0 0, .slice none 0 0, .bool false], .bool false]) ∧ w.grownBy w' none := by
  obtain ⟨Ao, co, Aq, cq, L, rfl, rfl, h3, h4⟩ := h
  exact find_none Ao Aq co cq Q.length L s w h3 hp
theorem find_rm_some {w : World} {v : Value} {O : List Ob} {Q : List (Int × Int)} (h : RM w v O Q) (hs : Smo O Q) (s : Int) (p : Nat) (hl : p < O.length) (hp : plc O s = p) : Calls Try.prog 15 #[v, .int .i64 s] w (FindP w O[p]) := by
  obtain ⟨Ao, co, Aq, cq, L, rfl, rfl, h3, h4⟩ := h
  have hl' : p < L.length := by simpa [obs] using hl
  have e := obs_get L p hl'
  have := hs.2.2 _ (List.getElem_mem hl)
  rw [e] at this ⊢
  exact find_some Ao Aq co cq Q.length L s p w h3 hp hl' this.1 this.2
theorem al1 (w : World) (c : Array Value) (t : TypeId) : w.grownBy (w.alloc (.cells c t)) none ∧ Blk (w.alloc (.cells c t)) w.heap.size t c := ⟨World.grownBy_alloc _ _ none, Blk.new _ _ _⟩
theorem al2 (w : World) (c d : Array Value) (t u : TypeId) : w.grownBy ((w.alloc (.cells c t)).alloc (.cells d u)) none ∧ Blk ((w.alloc (.cells c t)).alloc (.cells d u)) w.heap.size t c ∧ Blk ((w.alloc (.cells c t)).alloc (.cells d u)) (w.heap.size + 1) u d := by
  refine ⟨grownBy_trans (World.grownBy_alloc _ _ none) (World.grownBy_alloc _ _ none), (Blk.new w t c).gb (World.grownBy_alloc _ _ none) (by simp), ?_⟩
  have := Blk.new (w.alloc (.cells c t)) u d
  simpa using this
/-- A deed, whether it may be done or not. -/
def dO (O : List Ob) (r : Nat → Int) (k : Int) (a b : Nat) (i n fresh : Int) : List Ob := if flt O r k a b i fresh = 0 then nO O r k a b i n fresh else O
def dV (O : List Ob) (Q : List (Int × Int)) (r : Nat → Int) (k : Int) (a b : Nat) (i n fresh seen : Int) : Int := if flt O r k a b i fresh = 0 then nV O Q r k a b i n fresh seen else 0
def dR (O : List Ob) (Q : List (Int × Int)) (r : Nat → Int) (k : Int) (a b : Nat) (i n fresh seen : Int) : Nat → Int := if flt O r k a b i fresh = 0 then nR O Q r k a b i n fresh seen else r
def dQ (O : List Ob) (Q : List (Int × Int)) (r : Nat → Int) (k : Int) (a b : Nat) (i fresh seen : Int) : List (Int × Int) := if flt O r k a b i fresh = 0 then nQ Q k seen else Q
/-- What Do tells, its slices by name. -/
def DoT (w : World) (O : List Ob) (Q : List (Int × Int)) (r : Nat → Int) (v e : Int) (en : Ending) (w' : World) : Prop :=
  ∃ Ao no co Aq nq cq, en = .returned (.tuple #[.agg #[.slice Ao no co, .slice Aq nq cq], .agg #[.int .i64 (r 0), .int .i64 (r 1), .int .i64 (r 2), .int .i64 (r 3), .int .i64 (r 4), .int .i64 (r 5)], .int .i64 v, .int .i64 e]) ∧ RM w' (.agg #[.slice Ao no co, .slice Aq nq cq]) O Q ∧ w.grownBy w' none
theorem DoP.t {w w' : World} {O : List Ob} {Q : List (Int × Int)} {r : Nat → Int} {v e : Int} {en : Ending} (h : DoP w O Q r v e en w') : DoT w O Q r v e en w' := by
  obtain ⟨vm, rfl, h2, h3⟩ := h
  obtain ⟨Ao, Aq, co, cq, e⟩ := h2.two
  subst e
  exact ⟨Ao, _, co, Aq, _, cq, rfl, h2, h3⟩
theorem do_all {w : World} {v : Value} {O : List Ob} {Q : List (Int × Int)} (h : RM w v O Q) (hs : Smo O Q) (r : Nat → Int) (k : Int) (a b : Nat) (i n fresh seen : Int) (hk1 : 1 ≤ k) (hk2 : k ≤ 14) (ha : a < 6) (hb : b < 6) (hi : 0 ≤ i) (hr : RightD (dd k a b i n) (parts k)) :
    Calls Try.prog 12 #[v, .agg #[.int .i64 (r 0), .int .i64 (r 1), .int .i64 (r 2), .int .i64 (r 3), .int .i64 (r 4), .int .i64 (r 5)], .agg #[.int .i64 k, .int .i64 a, .int .i64 b, .int .i64 i, .int .i64 n], .int .i64 fresh, .int .i64 seen] w (DoT w (dO O r k a b i n fresh) (dQ O Q r k a b i fresh seen) (dR O Q r k a b i n fresh seen) (dV O Q r k a b i n fresh seen) (flt O r k a b i fresh)) := by
  unfold dO dQ dR dV
  by_cases hf : flt O r k a b i fresh = 0
  · rw [if_pos hf, if_pos hf, if_pos hf, if_pos hf, hf]
    exact (do_ok h hs r k a b i n fresh seen hk1 hk2 ha hb hi hr hf).mono fun e w' x => DoP.t x
  · rw [if_neg hf, if_neg hf, if_neg hf, if_neg hf]
    exact (do_flt h hs r k a b i n fresh seen hk1 hk2 ha hb hi hr hf).mono fun e w' x => DoP.t x
/-- Fit's model, its slices by name. -/
def FitT (w : World) (n : Nat) (e : Ending) (w' : World) : Prop := ∃ Ao no co Aq nq cq O Q, e = .returned (.agg #[.slice Ao no co, .slice Aq nq cq]) ∧ no = n ∧ RM w' (.agg #[.slice Ao no co, .slice Aq nq cq]) O Q ∧ FitO O ∧ O.length = n ∧ Q.length ≤ 4 ∧ w.grownBy w' none
theorem FitR.t {w w' : World} {n : Nat} {e : Ending} (h : FitR w n e w') : FitT w n e w' := by
  obtain ⟨v, O, Q, rfl, h2, h3, h4, h5, h6⟩ := h
  obtain ⟨Ao, Aq, co, cq, e⟩ := h2.two
  subst e
  exact ⟨Ao, _, co, Aq, _, cq, O, Q, rfl, h4, h2, h3, h4, h5, h6⟩
/-- A fit model of objects alone. -/
theorem fit_nil (Ao : Option Addr) (co : Nat) (L : List Ov) (w : World) (hL : RL w Ao L) (hlo : ∀ y ∈ L, Lo y.o ∧ Cp y) :
    Calls Try.prog 9 #[.slice Ao L.length co, .slice none 0 0] w (FitT w (min L.length 8)) :=
  (fit_any Ao none co 0 0 L [] w hL hlo Rc.zero (by simp)).mono fun e w' x => FitR.t x
theorem fit_its (Ao Aq : Option Addr) (co cq : Nat) (L : List Ov) (Q : List (Int × Int)) (w : World) (hL : RL w Ao L) (hlo : ∀ y ∈ L, Lo y.o ∧ Cp y) (hQ : Rc w Aq Q.length 2 (its Q)) (hq : ∀ x ∈ Q, -9223372036854775808 ≤ x.1) :
    Calls Try.prog 9 #[.slice Ao L.length co, .slice Aq Q.length cq] w (FitT w (min L.length 8)) :=
  (fit_any Ao Aq co 0 cq L Q w hL hlo hQ hq).mono fun e w' x => FitR.t x
def RegT (w : World) (r : Nat → Int) (e : Ending) (w' : World) : Prop := e = .returned (.agg #[.int .i64 (r 0), .int .i64 (r 1), .int .i64 (r 2), .int .i64 (r 3), .int .i64 (r 4), .int .i64 (r 5)]) ∧ w.grownBy w' none
theorem regs_t (Ao Aq : Option Addr) (n co nq cq : Nat) (R : Nat → Int) (w : World) (hn : n ≤ 100) (hR : ∀ j, j < 6 → -9223372036854775808 ≤ R j) :
    Calls Try.prog 10 #[.agg #[.slice Ao n co, .slice Aq nq cq], .agg #[.int .i64 (R 0), .int .i64 (R 1), .int .i64 (R 2), .int .i64 (R 3), .int .i64 (R 4), .int .i64 (R 5)]] w (RegT w fun j => pk (R j) (n + 1)) :=
  (regs_any Ao Aq n co nq cq R w hn hR).mono fun e w' ⟨h1, h2⟩ => ⟨h1, h2⟩
theorem d_err {O : List Ob} {Q : List (Int × Int)} {r : Nat → Int} {k : Int} {a b : Nat} {i n fresh seen : Int} (h : flt O r k a b i fresh ≠ 0) :
    dO O r k a b i n fresh = O ∧ dQ O Q r k a b i fresh seen = Q ∧ dR O Q r k a b i n fresh seen = r ∧ dV O Q r k a b i n fresh seen = 0 :=
  ⟨if_neg h, if_neg h, if_neg h, if_neg h⟩
theorem d_ok {O : List Ob} {Q : List (Int × Int)} {r : Nat → Int} {k : Int} {a b : Nat} {i n fresh seen : Int} (h : flt O r k a b i fresh = 0) :
    dO O r k a b i n fresh = nO O r k a b i n fresh ∧ dQ O Q r k a b i fresh seen = nQ Q k seen ∧ dR O Q r k a b i n fresh seen = nR O Q r k a b i n fresh seen ∧ dV O Q r k a b i n fresh seen = nV O Q r k a b i n fresh seen :=
  ⟨if_pos h, if_pos h, if_pos h, if_pos h⟩
/-- A free. -/
theorem free_none {O : List Ob} {Q : List (Int × Int)} {r : Nat → Int} (h : tgt O (r 0) = none) : flt O r 8 0 0 0 0 = 143 ∧ dO O r 8 0 0 0 0 0 = O ∧ dQ O Q r 8 0 0 0 0 0 = Q ∧ dR O Q r 8 0 0 0 0 0 0 = r ∧ dV O Q r 8 0 0 0 0 0 0 = 0 := by
  have e : flt O r 8 0 0 0 0 = 143 := flt_none (s := r 0) (by omega) (by omega) rfl h
  exact ⟨e, d_err (by omega)⟩
theorem free_fr {O : List Ob} {Q : List (Int × Int)} {r : Nat → Int} {p : Nat} (h : tgt O (r 0) = some p) (hf : (O.getD p ob0).fr = true) : flt O r 8 0 0 0 0 = 142 ∧ dO O r 8 0 0 0 0 0 = O ∧ dQ O Q r 8 0 0 0 0 0 = Q ∧ dR O Q r 8 0 0 0 0 0 0 = r ∧ dV O Q r 8 0 0 0 0 0 0 = 0 := by
  have e : flt O r 8 0 0 0 0 = 142 := (flt_obj (s := r 0) (by omega) (by omega) rfl h).trans (fltO_fr hf)
  exact ⟨e, d_err (by omega)⟩
theorem free_ok {O : List Ob} {Q : List (Int × Int)} {r : Nat → Int} {p : Nat} (h : tgt O (r 0) = some p) (hf : ¬ (O.getD p ob0).fr = true) : flt O r 8 0 0 0 0 = 0 ∧ dO O r 8 0 0 0 0 0 = O.set p { O.getD p ob0 with fr := true } ∧ dQ O Q r 8 0 0 0 0 0 = Q ∧ dR O Q r 8 0 0 0 0 0 0 = r ∧ dV O Q r 8 0 0 0 0 0 0 = 0 := by
  have e : flt O r 8 0 0 0 0 = 0 := (flt_obj (s := r 0) (by omega) (by omega) rfl h).trans (fltO_8 hf)
  obtain ⟨e1, e2, e3, e4⟩ := d_ok (Q := Q) (n := 0) (seen := 0) e
  refine ⟨e, e1.trans ?_, e2.trans rfl, e3.trans rfl, e4.trans rfl⟩
  exact chg_some h (fun o => { o with fr := true })
/-- A row of registers is loaded behind a guard. -/
theorem ld24 {w : World} {ops : Array Oper} {rest : List Oper} {o : Oper} {a : Act} {Q : Exit → Act → World → Prop} (x : Operand) (B : Nat) (r : Nat → Int) (hb : Blk w B 24 #[.int .i64 (r 0), .int .i64 (r 1), .int .i64 (r 2), .int .i64 (r 3), .int .i64 (r 4), .int .i64 (r 5)]) (ho : o.op = .load 24 x) (hx : a.eval x = .pointer (some ⟨B, 0, none⟩)) (hw : Region.wanted o (yielded ops a.tmps) = true)
    (h : wpList Try.prog ops Q rest (a.put o.dst (.agg #[.int .i64 (r 0), .int .i64 (r 1), .int .i64 (r 2), .int .i64 (r 3), .int .i64 (r 4), .int .i64 (r 5)])) w) : wpList Try.prog ops Q (o :: rest) a w := by
  have c0 : w.cell? ⟨B, 0, none⟩ = some (.int .i64 (r 0)) := hb.cell 0
  have c1 : w.cell? ⟨B, 1, none⟩ = some (.int .i64 (r 1)) := hb.cell 1
  have c2 : w.cell? ⟨B, 2, none⟩ = some (.int .i64 (r 2)) := hb.cell 2
  have c3 : w.cell? ⟨B, 3, none⟩ = some (.int .i64 (r 3)) := hb.cell 3
  have c4 : w.cell? ⟨B, 4, none⟩ = some (.int .i64 (r 4)) := hb.cell 4
  have c5 : w.cell? ⟨B, 5, none⟩ = some (.int .i64 (r 5)) := hb.cell 5
  have hr : (execOp a.eval o).run Try.prog w = .ok (.value (.agg #[.int .i64 (r 0), .int .i64 (r 1), .int .i64 (r 2), .int .i64 (r 3), .int .i64 (r 4), .int .i64 (r 5)])) w := by
    unfold execOp
    rw [ho]
    simp only [hx]
    go_simp
  unfold wpList
  rw [if_pos hw]
  left
  unfold Oper.wp
  rw [hr]
  exact h
/-- Boxes that stand; nothing that lay in w has turned. -/
def Kp (w W : World) (l : List (Nat × TypeId × Array Value)) : Prop := w.grownBy W none ∧ ∀ x ∈ l, Blk W x.1 x.2.1 x.2.2
theorem Kp.start (w : World) : Kp w w [] := ⟨grownBy_refl w none, by simp⟩
theorem Kp.gb {w W W2 : World} {l : List (Nat × TypeId × Array Value)} (h : Kp w W l) (g : W.grownBy W2 none) : Kp w W2 l := ⟨grownBy_trans h.1 g, fun x hx => (h.2 x hx).gb g (by simp)⟩
theorem Kp.al1 {w W : World} {l : List (Nat × TypeId × Array Value)} (h : Kp w W l) (c : Array Value) (t : TypeId) : Kp w (W.alloc (.cells c t)) ((W.heap.size, t, c) :: l) := by
  obtain ⟨g, b⟩ := _root_.Go.Proofs.Yteieljkkcnpfmaa.al1 W c t
  refine ⟨grownBy_trans h.1 g, fun x hx => ?_⟩
  rcases List.mem_cons.1 hx with rfl | hx
  · exact b
  · exact (h.2 x hx).gb g (by simp)
theorem Kp.al2 {w W : World} {l : List (Nat × TypeId × Array Value)} (h : Kp w W l) (c d : Array Value) (t u : TypeId) : Kp w ((W.alloc (.cells c t)).alloc (.cells d u)) ((W.heap.size + 1, u, d) :: (W.heap.size, t, c) :: l) := by
  have := (h.al1 c t).al1 d u
  simpa using this
theorem Kp.get {w W : World} {l : List (Nat × TypeId × Array Value)} (h : Kp w W l) (i : Nat) {g : Nat} {t : TypeId} {c : Array Value} (hi : l[i]? = some (g, t, c)) : Blk W g t c := h.2 _ (List.mem_of_getElem? hi)
end Go.Proofs.Yteieljkkcnpfmaa
