/-
  own, ownObj: copies in memory of their own.
-/
import Derived.Test.YteieljkkcnpfmaaBase
import Derived.Maps.AppendAt
import Derived.Laws.AppendOwnNone
import Derived.Deep.RegionHeld3
namespace Go.Proofs.Yteieljkkcnpfmaa
open Go.ChangeShapes Go.WideShapes Go.ChangeAt Go.RowKit
set_option linter.unusedVariables false

theorem info3 : (Try.prog.info? 3).map (fun i => (i.zero, i.size, i.bytes)) = some (some (.int .i64 0), 1, 8) := by kernel_rfl
theorem info41 : (Try.prog.info? 41).map (fun i => (i.zero, i.size, i.bytes)) = some (some (.agg #[.int .i64 0, .int .i64 0, .int .i64 0, .bool false, .bool false, .slice none 0 0, .slice none 0 0, .bool false]), 8, 88) := by kernel_rfl
theorem info43 : (Try.prog.info? 43).map (fun i => (i.zero, i.size, i.bytes)) = some (some (.agg #[.int .i64 0, .int .i64 0]), 2, 16) := by kernel_rfl
theorem own_ne {w : World} {base : Nat} {e : TypeId} {size n : Nat} {v : Value} {xs : List Value} {g : Nat} {t : TypeId} {cs : Array Value} (h : w.ownsRow base e size v n xs) (hb : Blk w g t cs) (hne : e ≠ t) : v.ownBlock ≠ some g := by
  rcases h.2 with ⟨rfl, _⟩ | ⟨g', cap, cur, rfl, _, hh, _⟩
  · simp [Value.ownBlock]
  · intro he
    have e' : g' = g := by simpa [Value.ownBlock] using he
    subst e'
    unfold Blk at hb
    rw [hh] at hb
    injection hb with hb
    injection hb with _ ht
    exact hne ht
theorem own_lt {w : World} {base : Nat} {e : TypeId} {size n : Nat} {v : Value} {xs : List Value} (h : w.ownsRow base e size v n xs) {g : Nat} (hg : v.ownBlock = some g) : g < w.heap.size := (h.lt g hg).2
theorem own_row {w : World} {base : Nat} {e : TypeId} {size n : Nat} {v : Value} {xs : List Value} (h : w.ownsRow base e size v n xs) {g : Nat} (hg : v.ownBlock = some g) : ∃ cur, Blk w g e cur := by
  rcases h.2 with ⟨rfl, _⟩ | ⟨g', cap, cur, rfl, _, hh, _⟩
  · simp [Value.ownBlock] at hg
  · have e' : g' = g := by simpa [Value.ownBlock] using hg
    subst e'
    exact ⟨cur, hh⟩
theorem own_own {w : World} {base base' : Nat} {e e' : TypeId} {size size' n n' : Nat} {v v' : Value} {xs xs' : List Value} (h : w.ownsRow base e size v n xs) (h' : w.ownsRow base' e' size' v' n' xs') (hne : e ≠ e') {g : Nat} (hg : v.ownBlock = some g) : v'.ownBlock ≠ some g := by
  obtain ⟨cur, hb⟩ := own_row h hg
  exact own_ne h' hb (fun e => hne e.symm)
theorem own_zf {w w' : World} {Z : Nat → Prop} {base : Nat} {e : TypeId} {size n : Nat} {v : Value} {xs : List Value} (h : w.ownsRow base e size v n xs) (f : Zf Z w w') (hz : ∀ g, v.ownBlock = some g → ¬ Z g) : w'.ownsRow base e size v n xs := by
  rcases h.2 with ⟨rfl, rfl⟩ | ⟨g, cap, cur, rfl, hb, hh, h5⟩
  · exact ⟨h.1, .inl ⟨rfl, rfl⟩⟩
  · exact ⟨h.1, .inr ⟨g, cap, cur, rfl, hb, (f.block g (Array.getElem?_eq_some_iff.1 hh).1 (hz g rfl)).trans hh, h5⟩⟩
theorem own_gb0 {w w' : World} {base : Nat} {e : TypeId} {size n : Nat} {v : Value} {xs : List Value} (h : w.ownsRow base e size v n xs) (g : w.grownBy w' none) : w'.ownsRow base e size v n xs :=
  own_zf h (Zf.of_gb (Z := fun _ => False) g (by simp)) (by simp)
theorem own_base {w : World} {base base' : Nat} {e : TypeId} {size n : Nat} {v : Value} {xs : List Value} (h : w.ownsRow base e size v n xs) (hb : base' ≤ base) : w.ownsRow base' e size v n xs :=
  ⟨h.1, h.2.imp id fun ⟨g, cap, cur, a, b, c⟩ => ⟨g, cap, cur, a, Nat.le_trans hb b, c⟩⟩

theorem Zf.set {Z : Nat → Prop} {w w' : World} {g i : Nat} {u : Value} (f : Zf Z w w') (hz : Z g) : Zf Z w (w'.setCell ⟨g, i, none⟩ u) :=
  f.trans (Zf.of_gb (gb_set w' g i u) (fun b e => by cases e; exact hz))
theorem Zf.later {Z : Nat → Prop} {w w' w2 : World} (f : Zf Z w w') (g : w'.grownBy w2 none) : Zf Z w w2 := f.trans (Zf.of_gb g (by simp))

/-- What own tells: a row of its own. -/
def OwnP (w : World) (e : TypeId) (size n : Nat) (vs : List Value) (en : Ending) (w' : World) : Prop :=
  ∃ v, en = .returned v ∧ w'.ownsRow w.heap.size e size v n vs ∧ w.grownBy w' none

theorem run_own_nil {P : Program} {w : World} (t ty e : TypeId) (i : TypeInfo) (ht : P.underlying t = some (.slice e)) (hi : P.info? e = some i) (c : Nat) :
    (Builtin.append_ #[t, t] ty #[.slice none 0 0, .slice none 0 c]).run P w = .ok (.slice none 0 0) w := by
  simp [Builtin.append_, run_underlying ht, sizeOf, typeInfo, hi, Builtin.lenOf, Builtin.firstCells]

/-- append([]T(nil), l...) -/
theorem wpList_own {w : World} {ops : Array Oper} {rest : List Oper} {o : Oper} {a : Act} {Q : Exit → Act → World → Prop} (hgd : o.guard = none) (s x : Operand) (t : TypeId)
    (ho : o.op = .call { callee := .builtin .append, args := #[s, x], argTypes := #[t, t] })
    (e : TypeId) (i : TypeInfo) (z : Value) (size bytes : Nat) (ht : Try.prog.underlying t = some (.slice e)) (hi : Try.prog.info? e = some i) (hz : i.zero = some z)
    (hsize : i.size = size) (hby : i.bytes = bytes) (hzs : z.cells.size = size) (hsz : 0 < size)
    (A : Option Addr) (m c : Nat) (news : List Value) (hs : a.eval s = .slice none 0 0) (hx : a.eval x = .slice A m c) (hr : Rc w A m size news) (h1 : ∀ u ∈ news, u.oneCell' = true)
    (h63 : m ≤ maxLen) (hbytes : m * bytes ≤ 140737488355328)
    (h : ∀ v' w', w'.ownsRow w.heap.size e size v' m news → w.grownBy w' none → wpList Try.prog ops Q rest (a.put o.dst v') w') : wpList Try.prog ops Q (o :: rest) a w := by
  have hown : w.ownsRow w.heap.size e size (.slice none 0 0) 0 [] := World.ownsRow_nil _ _ _ _
  rcases Nat.eq_zero_or_pos m with h0 | h0
  · have hnil : news = [] := List.eq_nil_of_length_eq_zero (by rw [hr.len, h0, Nat.zero_mul])
    subst h0 hnil
    rcases A with _ | ad
    · refine wpList_plain hgd fun K hK => ?_
      have hrun := run_own_nil (w := w) t o.type e i ht hi c
      unfold Oper.wp
      simp [execOp, ho, resolve, invoke, builtin, hs, hx, hrun, Result.andThen]
      exact hK _ _ (h _ _ hown (grownBy_refl _ _))
    · refine wpList_append_own_at (P := Try.prog) w hgd s x t ho w.heap.size e i z size bytes ht hi hz hsize hby hzs hsz _ 0 [] hs hown ad 0 c [] hx (by simp) (by simp) (by simp) (by unfold maxLen; omega) (by omega) (Nat.le_refl _) (fun v' w' q1 q2 _ q4 => h v' w' (by simpa using q1) q2)
  · obtain ⟨b, off, rfl, hb, hc⟩ := hr.at_ h0
    refine wpList_append_own_at (P := Try.prog) w hgd s x t ho w.heap.size e i z size bytes ht hi hz hsize hby hzs hsz _ 0 [] hs hown ⟨b, off, none⟩ m c news hx hr.len (fun j u hu => ?_) h1 (by omega) (by rw [Nat.zero_add]; exact hbytes) (Nat.le_refl _) (fun v' w' q1 q2 _ q4 => h v' w' (by simpa using q1) q2)
    rw [Addr.add_lit, hc j (by have := (List.getElem?_eq_some_iff.1 hu).1; rw [hr.len] at this; exact this)]
    exact hu

theorem own3_any (A : Option Addr) (n c : Nat) (vs : List Value) (w : World) (h : Rc w A n 1 vs) (hn : n ≤ 1000000000000) (h1 : ∀ u ∈ vs, u.oneCell' = true) :
    Calls Try.prog 34 #[.slice A n c] w (OwnP w 3 1 n vs) := by
  obtain ⟨i0, hi0, hz0, hz1, hz2⟩ := info_parts info3
  have HI := Lib.hid hi0; have HZ0 := Lib.hid hz0; have HZ1 := Lib.hid hz1; have HZ2 := Lib.hid hz2
  have HH := Lib.hid h
  have H1 := Lib.hid h1
  have HP : Hid (∀ v w', w'.ownsRow w.heap.size 3 1 v n vs → w.grownBy w' none → OwnP w 3 1 n vs (.returned v) w') := fun v w' a b => ⟨v, rfl, a, b⟩
  clear hi0 hz0 hz1 hz2 h h1
  generalize OwnP w 3 1 n vs = Post at *
  go_enter Try.func34, Try.ntmps34
  go_wp2_with (at_builtin; go_must (refine wpList_own rfl _ _ 39 rfl 3 i0 (.int .i64 0) 1 8 Try.underlying39 HI.out HZ0.out HZ1.out HZ2.out rfl (by decide) A n c vs rfl rfl HH.out H1.out (by unfold maxLen; omega) (by omega) ?_); intro v' w1 hown' hgrow; have HO := Lib.hid hown'; have HG := Lib.hid hgrow; clear hown' hgrow)
  exact HP.out _ _ HO.out HG.out
theorem own41_any (A : Option Addr) (n c : Nat) (vs : List Value) (w : World) (h : Rc w A n 8 vs) (hn : n ≤ 1000000000000) (h1 : ∀ u ∈ vs, u.oneCell' = true) :
    Calls Try.prog 30 #[.slice A n c] w (OwnP w 41 8 n vs) := by
  obtain ⟨i0, hi0, hz0, hz1, hz2⟩ := info_parts info41
  have HI := Lib.hid hi0; have HZ0 := Lib.hid hz0; have HZ1 := Lib.hid hz1; have HZ2 := Lib.hid hz2
  have HH := Lib.hid h
  have H1 := Lib.hid h1
  have HP : Hid (∀ v w', w'.ownsRow w.heap.size 41 8 v n vs → w.grownBy w' none → OwnP w 41 8 n vs (.returned v) w') := fun v w' a b => ⟨v, rfl, a, b⟩
  clear hi0 hz0 hz1 hz2 h h1
  generalize OwnP w 41 8 n vs = Post at *
  go_enter Try.func30, Try.ntmps30
  go_wp2_with (at_builtin; go_must (refine wpList_own rfl _ _ 22 rfl 41 i0 (.agg #[.int .i64 0, .int .i64 0, .int .i64 0, .bool false, .bool false, .slice none 0 0, .slice none 0 0, .bool false]) 8 88 Try.underlying22 HI.out HZ0.out HZ1.out HZ2.out rfl (by decide) A n c vs rfl rfl HH.out H1.out (by unfold maxLen; omega) (by omega) ?_); intro v' w1 hown' hgrow; have HO := Lib.hid hown'; have HG := Lib.hid hgrow; clear hown' hgrow)
  exact HP.out _ _ HO.out HG.out
theorem own43_any (A : Option Addr) (n c : Nat) (vs : List Value) (w : World) (h : Rc w A n 2 vs) (hn : n ≤ 1000000000000) (h1 : ∀ u ∈ vs, u.oneCell' = true) :
    Calls Try.prog 23 #[.slice A n c] w (OwnP w 43 2 n vs) := by
  obtain ⟨i0, hi0, hz0, hz1, hz2⟩ := info_parts info43
  have HI := Lib.hid hi0; have HZ0 := Lib.hid hz0; have HZ1 := Lib.hid hz1; have HZ2 := Lib.hid hz2
  have HH := Lib.hid h
  have H1 := Lib.hid h1
  have HP : Hid (∀ v w', w'.ownsRow w.heap.size 43 2 v n vs → w.grownBy w' none → OwnP w 43 2 n vs (.returned v) w') := fun v w' a b => ⟨v, rfl, a, b⟩
  clear hi0 hz0 hz1 hz2 h h1
  generalize OwnP w 43 2 n vs = Post at *
  go_enter Try.func23, Try.ntmps23
  go_wp2_with (at_builtin; go_must (refine wpList_own rfl _ _ 23 rfl 43 i0 (.agg #[.int .i64 0, .int .i64 0]) 2 16 Try.underlying23 HI.out HZ0.out HZ1.out HZ2.out rfl (by decide) A n c vs rfl rfl HH.out H1.out (by unfold maxLen; omega) (by omega) ?_); intro v' w1 hown' hgrow; have HO := Lib.hid hown'; have HG := Lib.hid hgrow; clear hown' hgrow)
  exact HP.out _ _ HO.out HG.out

theorem RO.own {w : World} {b b' : Nat} {o : Ob} {vp vn : Value} (h1 : w.ownsRow b 3 1 vp o.ps.length (ints o.ps)) (h2 : w.ownsRow b' 3 1 vn o.ns.length (ints o.ns)) : RO w o vp vn := by
  obtain ⟨Ap, cp, rfl, r1, _, _⟩ := Rc.of_own h1
  obtain ⟨An, cn, rfl, r2, _, _⟩ := Rc.of_own h2
  exact ⟨Ap, cp, An, cn, rfl, rfl, r1, r2⟩
/-- What ownObj tells: the object, with slices of its own. -/
def OwnOP (w : World) (o : Ob) (e : Ending) (w' : World) : Prop :=
  ∃ vp vn, e = .returned (.agg #[.int .i64 o.s, .int .i64 o.sp, .int .i64 o.sd, .bool o.sw, .bool o.sf, vp, vn, .bool o.fr]) ∧ w'.ownsRow w.heap.size 3 1 vp o.ps.length (ints o.ps) ∧ w'.ownsRow w.heap.size 3 1 vn o.ns.length (ints o.ns) ∧
    (∀ g, vp.ownBlock = some g → vn.ownBlock ≠ some g) ∧ w.grownBy w' none

set_option maxHeartbeats 2000000 in
theorem ownObj_any (o : Ob) (vp vn : Value) (w : World) (h : RO w o vp vn) (hp : o.ps.length ≤ 1000000000000) (hn : o.ns.length ≤ 1000000000000) :
    Calls Try.prog 27 #[.agg #[.int .i64 o.s, .int .i64 o.sp, .int .i64 o.sd, .bool o.sw, .bool o.sf, vp, vn, .bool o.fr]] w (OwnOP w o) := by
  obtain ⟨Ap, cp, An, cn, rfl, rfl, h1, h2⟩ := h
  have HP : Hid (∀ w' vp vn, w'.ownsRow w.heap.size 3 1 vp o.ps.length (ints o.ps) → w'.ownsRow w.heap.size 3 1 vn o.ns.length (ints o.ns) → (∀ g, vp.ownBlock = some g → vn.ownBlock ≠ some g) → w.grownBy w' none → OwnOP w o (.returned (.agg #[.int .i64 o.s, .int .i64 o.sp, .int .i64 o.sd, .bool o.sw, .bool o.sf, vp, vn, .bool o.fr])) w') := fun w' vp vn a b c d => ⟨vp, vn, rfl, a, b, c, d⟩
  generalize OwnOP w o = Post at *
  obtain ⟨xs, hxs⟩ : ∃ xs, o.ps = xs := ⟨_, rfl⟩
  obtain ⟨ys, hys⟩ : ∃ ys, o.ns = ys := ⟨_, rfl⟩
  rw [hxs] at h1 hp HP ⊢
  rw [hys] at h2 hn HP ⊢
  clear hxs hys
  generalize o.s = z1 at *
  generalize o.sp = z2 at *
  generalize o.sd = z3 at *
  generalize o.sw = z4 at *
  generalize o.sf = z5 at *
  generalize o.fr = z6 at *
  clear o
  -- the two boxes
  obtain ⟨wb, hwb⟩ : ∃ wb, wb = (w.alloc (.cells #[.int .i64 z1, .int .i64 z2, .int .i64 z3, .bool z4, .bool z5, .slice Ap xs.length cp, .slice An ys.length cn, .bool z6] 41)).alloc (.cells #[.int .i64 0, .int .i64 0, .int .i64 0, .bool false, .bool false, .slice none 0 0, .slice none 0 0, .bool false] 41) := ⟨_, rfl⟩
  have hg0 : w.grownBy wb none := by rw [hwb]; exact grownBy_trans (World.grownBy_alloc _ _ none) (World.grownBy_alloc _ _ none)
  have b1 : Blk wb w.heap.size 41 #[.int .i64 z1, .int .i64 z2, .int .i64 z3, .bool z4, .bool z5, .slice Ap xs.length cp, .slice An ys.length cn, .bool z6] := by rw [hwb]; exact (Blk.new w 41 _).gb (World.grownBy_alloc _ _ none) (by simp)
  have b2 : Blk wb (w.heap.size + 1) 41 #[.int .i64 0, .int .i64 0, .int .i64 0, .bool false, .bool false, .slice none 0 0, .slice none 0 0, .bool false] := by
    rw [hwb]; have := Blk.new (w.alloc (.cells #[.int .i64 z1, .int .i64 z2, .int .i64 z3, .bool z4, .bool z5, .slice Ap xs.length cp, .slice An ys.length cn, .bool z6] 41)) 41 #[.int .i64 0, .int .i64 0, .int .i64 0, .bool false, .bool false, .slice none 0 0, .slice none 0 0, .bool false]
    simpa using this
  have HWB := Lib.hid hwb
  have H1 := Lib.hid (h1.gb hg0)
  have HW2 := Lib.hid h2
  have HB1 := Lib.hid b1
  have HB2 := Lib.hid b2
  have HG0 := Lib.hid hg0
  have c5 : wb.cell? ⟨w.heap.size, 5, none⟩ = some (.slice Ap xs.length cp) := b1.cell 5
  clear hwb h1 h2 b1 b2 hg0
  generalize hN : w.heap.size = N at *
  have HN := Lib.hid hN
  clear hN
  go_enter Try.func27, Try.ntmps27
  go_wp2_with fail
  rw [← HWB.out]
  refine (own3_any Ap xs.length cp (ints xs) wb H1.out hp (one_ints xs)).mono ?_
  rintro e w2 ⟨v1, rfl, ho1, hg2⟩
  obtain ⟨A1, c1, rfl, _, _, _⟩ := Rc.of_own ho1
  have B1 := HB1.out.gb hg2 (by simp)
  have f5 := B1.free 5
  have k5 : w2.cell? ⟨N, 5, none⟩ = some (.slice Ap xs.length cp) := B1.cell 5
  have B1s := B1.set 5 (.slice A1 xs.length c1)
  have HB1s := Lib.hid B1s
  have k6 : (w2.setCell ⟨N, 5, none⟩ (.slice A1 xs.length c1)).cell? ⟨N, 6, none⟩ = some (.slice An ys.length cn) := B1s.cell 6
  have HO1 := Lib.hid ho1
  have HZ : Hid (Zf (fun k => k = N) wb (w2.setCell ⟨N, 5, none⟩ (.slice A1 xs.length c1))) := (Zf.of_gb hg2 (by simp)).set rfl
  have HR : Hid (Rd (w2.setCell ⟨N, 5, none⟩ (.slice A1 xs.length c1)) An ys.length ys) := HW2.out.gb (gb_new (grownBy_trans HG0.out hg2) (gb_set w2 N 5 (.slice A1 xs.length c1)) (fun g e => by cases e; rw [HN.out]; exact Nat.le_refl _))
  clear ho1 hg2 B1 B1s
  rw [HN.out]
  go_wp2_with fail
  have HO1x : Hid ((w2.setCell ⟨N, 5, none⟩ (.slice A1 xs.length c1)).ownsRow wb.heap.size 3 1 (.slice A1 xs.length c1) xs.length (ints xs)) := own_zf HO1.out (Zf.of_gb (Z := fun k => k = N) (gb_set w2 N 5 _) (fun g e => by cases e; rfl)) (fun g e k => by have := (HO1.out.lt g e).1; have := HB1.out.lt; omega)
  generalize w2.setCell ⟨N, 5, none⟩ (.slice A1 xs.length c1) = w3 at *
  refine (own3_any An ys.length cn (ints ys) w3 HR.out hn (one_ints ys)).mono ?_
  rintro e w4 ⟨v2, rfl, ho2, hg4⟩
  obtain ⟨A2, c2, rfl, _, _, _⟩ := Rc.of_own ho2
  have B1 := HB1s.out.gb hg4 (by simp)
  have f6 := B1.free 6
  have m6 : w4.cell? ⟨N, 6, none⟩ = some (.slice An ys.length cn) := B1.cell 6
  have B1t : Blk (w4.setCell ⟨N, 6, none⟩ (.slice A2 ys.length c2)) N 41 #[.int .i64 z1, .int .i64 z2, .int .i64 z3, .bool z4, .bool z5, .slice A1 xs.length c1, .slice A2 ys.length c2, .bool z6] := B1.set 6 (.slice A2 ys.length c2)
  have HZ4 : Hid (Zf (fun k => k = N) wb (w4.setCell ⟨N, 6, none⟩ (.slice A2 ys.length c2))) := (HZ.out.later hg4).set rfl
  have B2 := HB2.out.zf HZ4.out (by omega)
  have hNb : N + 1 < wb.heap.size := HB2.out.lt
  have HW1 : Hid (w4.ownsRow wb.heap.size 3 1 (.slice A1 xs.length c1) xs.length (ints xs)) := own_gb0 HO1x.out hg4
  have HW2' : Hid (w4.ownsRow wb.heap.size 3 1 (.slice A2 ys.length c2) ys.length (ints ys)) := own_base ho2 HZ.out.size
  have HNE : Hid (∀ g, (Value.slice A1 xs.length c1).ownBlock = some g → (Value.slice A2 ys.length c2).ownBlock ≠ some g) := fun g e k => by
    have h1 := own_lt HO1x.out e
    have h2 := (ho2.lt g k).1
    omega
  have HGW : Hid (w.grownBy w4 none) := Zf.gb HG0.out (HZ.out.later hg4) (fun i h => by have := HN.out; omega)
  clear ho2 hg4 B1
  have n0 : (w4.setCell ⟨N, 6, none⟩ (.slice A2 ys.length c2)).cell? ⟨N, 0, none⟩ = some (.int .i64 z1) := B1t.cell 0
  have q0 : (w4.setCell ⟨N, 6, none⟩ (.slice A2 ys.length c2)).cell? ⟨N + 1, 0, none⟩ = some (.int .i64 0) := B2.cell 0
  have r0 := B2.free 0
  have n1 : (w4.setCell ⟨N, 6, none⟩ (.slice A2 ys.length c2)).cell? ⟨N, 1, none⟩ = some (.int .i64 z2) := B1t.cell 1
  have q1 : (w4.setCell ⟨N, 6, none⟩ (.slice A2 ys.length c2)).cell? ⟨N + 1, 1, none⟩ = some (.int .i64 0) := B2.cell 1
  have r1 := B2.free 1
  have n2 : (w4.setCell ⟨N, 6, none⟩ (.slice A2 ys.length c2)).cell? ⟨N, 2, none⟩ = some (.int .i64 z3) := B1t.cell 2
  have q2 : (w4.setCell ⟨N, 6, none⟩ (.slice A2 ys.length c2)).cell? ⟨N + 1, 2, none⟩ = some (.int .i64 0) := B2.cell 2
  have r2 := B2.free 2
  have n3 : (w4.setCell ⟨N, 6, none⟩ (.slice A2 ys.length c2)).cell? ⟨N, 3, none⟩ = some (.bool z4) := B1t.cell 3
  have q3 : (w4.setCell ⟨N, 6, none⟩ (.slice A2 ys.length c2)).cell? ⟨N + 1, 3, none⟩ = some (.bool false) := B2.cell 3
  have r3 := B2.free 3
  have n4 : (w4.setCell ⟨N, 6, none⟩ (.slice A2 ys.length c2)).cell? ⟨N, 4, none⟩ = some (.bool z5) := B1t.cell 4
  have q4 : (w4.setCell ⟨N, 6, none⟩ (.slice A2 ys.length c2)).cell? ⟨N + 1, 4, none⟩ = some (.bool false) := B2.cell 4
  have r4 := B2.free 4
  have n5 : (w4.setCell ⟨N, 6, none⟩ (.slice A2 ys.length c2)).cell? ⟨N, 5, none⟩ = some (.slice A1 xs.length c1) := B1t.cell 5
  have q5 : (w4.setCell ⟨N, 6, none⟩ (.slice A2 ys.length c2)).cell? ⟨N + 1, 5, none⟩ = some (.slice none 0 0) := B2.cell 5
  have r5 := B2.free 5
  have n6 : (w4.setCell ⟨N, 6, none⟩ (.slice A2 ys.length c2)).cell? ⟨N, 6, none⟩ = some (.slice A2 ys.length c2) := B1t.cell 6
  have q6 : (w4.setCell ⟨N, 6, none⟩ (.slice A2 ys.length c2)).cell? ⟨N + 1, 6, none⟩ = some (.slice none 0 0) := B2.cell 6
  have r6 := B2.free 6
  have n7 : (w4.setCell ⟨N, 6, none⟩ (.slice A2 ys.length c2)).cell? ⟨N, 7, none⟩ = some (.bool z6) := B1t.cell 7
  have q7 : (w4.setCell ⟨N, 6, none⟩ (.slice A2 ys.length c2)).cell? ⟨N + 1, 7, none⟩ = some (.bool false) := B2.cell 7
  have r7 := B2.free 7
  clear B1t B2
  go_wp2_with fail
  have hZ : Zf (fun k => k = N ∨ k = N + 1) w4 _ := ((((((((((Zf.refl _ w4).set (g := N) (i := 6) (u := .slice A2 ys.length c2) (.inl rfl)).set (g := N + 1) (i := 0) (u := .int .i64 z1) (.inr rfl)).set (g := N + 1) (i := 1) (u := .int .i64 z2) (.inr rfl)).set (g := N + 1) (i := 2) (u := .int .i64 z3) (.inr rfl)).set (g := N + 1) (i := 3) (u := .bool z4) (.inr rfl)).set (g := N + 1) (i := 4) (u := .bool z5) (.inr rfl)).set (g := N + 1) (i := 5) (u := .slice A1 xs.length c1) (.inr rfl)).set (g := N + 1) (i := 6) (u := .slice A2 ys.length c2) (.inr rfl)).set (g := N + 1) (i := 7) (u := .bool z6) (.inr rfl))
  refine bodyPost_ret (v := .agg #[.int .i64 z1, .int .i64 z2, .int .i64 z3, .bool z4, .bool z5, .slice A1 xs.length c1, .slice A2 ys.length c2, .bool z6]) (by simp [results, Try.results27, go_sem, q0, q1, q2, q3, q4, q5, q6, q7]) rfl (HP.out _ _ _ ?_ ?_ HNE.out ?_)
  · exact own_base (own_zf HW1.out hZ (fun g e k => by have := (HW1.out.lt g e).1; omega)) (by have := HG0.out.size; have := HN.out; omega)
  · exact own_base (own_zf HW2'.out hZ (fun g e k => by have := (HW2'.out.lt g e).1; omega)) (by have := HG0.out.size; have := HN.out; omega)
  · exact Zf.gb (HGW.out) hZ (fun i h => by have := HN.out; omega)
end Go.Proofs.Yteieljkkcnpfmaa
