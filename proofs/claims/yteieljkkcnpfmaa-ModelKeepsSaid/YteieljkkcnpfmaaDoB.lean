/-
  Do: get, load, read.
-/
import Derived.Test.YteieljkkcnpfmaaDo1
import Derived.BigRegion
namespace Go.Proofs.Yteieljkkcnpfmaa
open Go.ChangeShapes Go.WideShapes Go.ChangeAt Go.RowKit
set_option linter.unusedVariables false

set_option maxRecDepth 100000 in
set_option maxHeartbeats 16000000 in
theorem do_get (Ao Aq : Option Addr) (co cq : Nat) (L : List Ov) (Q : List (Int × Int)) (r : Nat → Int) (k : Int) (a b : Nat) (i n fresh seen : Int) (w : World) (hL : RL w Ao L) (hQ : Rc w Aq Q.length 2 (its Q)) (hs : Sm L Q) (hk1 : 1 ≤ k) (hk2 : k ≤ 14) (ha : a < 6) (hb : b < 6) (hi : 0 ≤ i) (hr : RightD (dd k a b i n) (parts k)) (hf : flt (obs L) r k a b i fresh = 0) (hkk : 4 = k) (p : Nat) (ht : tgt (obs L) (r b) = some p) (j : Nat) (hij : (j : Int) = i) (hj : j < ((obs L).getD p ob0).ps.length) :
    Calls Try.prog 12 #[.agg #[.slice Ao L.length co, .slice Aq Q.length cq], .agg (rcs r), .agg #[.int .i64 k, .int .i64 a, .int .i64 b, .int .i64 i, .int .i64 n], .int .i64 fresh, .int .i64 seen] w (DoP w (obs L) Q (upd r a (((obs L).getD p ob0).ps.getD j 0)) (((obs L).getD p ob0).ps.getD j 0) 0) := by
  obtain ⟨Post, hPost⟩ : ∃ Post, Post = (DoP w (obs L) Q (upd r a (((obs L).getD p ob0).ps.getD j 0)) (((obs L).getD p ob0).ps.getD j 0) 0) := ⟨_, rfl⟩
  rw [← hPost]
  have HPost := Lib.hid hPost
  clear hPost
  obtain ⟨b1, b2, b3, b4, b5, hsz⟩ := bx5_blk w #[.slice Ao L.length co, .slice Aq Q.length cq] (rcs r) #[.int .i64 k, .int .i64 a, .int .i64 b, .int .i64 i, .int .i64 n]
  have hg := bx5_gb w #[.slice Ao L.length co, .slice Aq Q.length cq] (rcs r) #[.int .i64 k, .int .i64 a, .int .i64 b, .int .i64 i, .int .i64 n]
  have HRT := Lib.hid hr
  have HSM := Lib.hid hs
  have HL0 := Lib.hid (hL.gb hg)
  have HQ0 := Lib.hid (hQ.gb hg)
  have HG0 := Lib.hid hg
  obtain ⟨wb, hwb⟩ : ∃ wb, bx5 w #[.slice Ao L.length co, .slice Aq Q.length cq] (rcs r) #[.int .i64 k, .int .i64 a, .int .i64 b, .int .i64 i, .int .i64 n] = wb := ⟨_, rfl⟩
  rw [hwb] at b1 b2 b3 b4 b5 hsz HL0 HQ0 HG0
  have HWB := Lib.hid hwb
  have c0 : wb.cell? ⟨w.heap.size, 0, none⟩ = some (.slice Ao L.length co) := b1.cell 0
  have c1 : wb.cell? ⟨w.heap.size, 1, none⟩ = some (.slice Aq Q.length cq) := b1.cell 1
  have HB1 := Lib.hid b1; have HB2 := Lib.hid b2; have HB3 := Lib.hid b3; have HB4 := Lib.hid b4; have HB5 := Lib.hid b5
  have HSZ := Lib.hid hsz
  have hN : ∃ N, w.heap.size = N := ⟨_, rfl⟩
  clear hL hQ hs hr hg hwb b1 b2 b3 b4 b5 hsz
  unfold rcs
  go_enter Try.func12, Try.ntmps12
  go_upto_region 1 with (fail)
  change Code.wp _ _ _ _ (bx5 w #[.slice Ao L.length co, .slice Aq Q.length cq] (rcs r) #[.int .i64 k, .int .i64 a, .int .i64 b, .int .i64 i, .int .i64 n])
  rw [HWB.out]
  clear HWB
  go_wp2_with fail
  refine (ownModel_any Ao Aq co cq L Q wb HL0.out HQ0.out HSM.out).mono ?_
  rintro e w2 ⟨vo, vq, L', rfl, hobs, hom, hg2⟩
  obtain ⟨A1, c1', rfl, _, _, _⟩ := Rc.of_own hom.row
  obtain ⟨A2, c2', rfl, _, _, _⟩ := Rc.of_own hom.que
  have hw2 := hg2.size
  have HDB : Hid (Db w (w2.alloc (.cells #[.slice A1 L'.length c1', .slice A2 Q.length c2'] 29)) w.heap.size w2.heap.size r #[.int .i64 k, .int .i64 a, .int .i64 b, .int .i64 i, .int .i64 n] (.slice A1 L'.length c1') (.slice A2 Q.length c2') L' Q) := by
    have ga := World.grownBy_alloc w2 (.cells #[.slice A1 L'.length c1', .slice A2 Q.length c2'] 29) none
    have gb := grownBy_trans hg2 ga
    have hz : ∀ k, (wb.heap.size ≤ k ∧ k < w2.heap.size) → Z5 w.heap.size w2.heap.size k := fun k hk => ⟨by have := HSZ.out; omega, by omega⟩
    have hom2 := hom.gb ga
    exact ⟨HB2.out.gb gb (by simp), HB3.out.gb gb (by simp), HB4.out.gb gb (by simp), HB5.out.gb gb (by simp), Blk.new w2 29 _, ⟨hom2.row, hom2.que, hom2.os.wide hz, fun g e => hz g (hom.zo g e), fun g e => hz g (hom.zq g e)⟩, grownBy_trans HG0.out gb, rfl, by have := HSZ.out; omega⟩
  have HOBS := Lib.hid hobs
  have HGB := Lib.hid (grownBy_trans hg2 (World.grownBy_alloc w2 (.cells #[.slice A1 L'.length c1', .slice A2 Q.length c2'] 29) none))
  clear hobs hom hg2 c0 c1
  have HC0 : Hid (Blk (w2.alloc (.cells #[.slice A1 L'.length c1', .slice A2 Q.length c2'] 29)) w.heap.size 29 #[.slice Ao L.length co, .slice Aq Q.length cq]) := HB1.out.gb HGB.out (by simp)
  have d0 : (w2.alloc (.cells #[.slice A1 L'.length c1', .slice A2 Q.length c2'] 29)).cell? ⟨w.heap.size + 1 + 1, 0, none⟩ = some (.int .i64 k) := HDB.out.bd.cell 0
  have d1 : (w2.alloc (.cells #[.slice A1 L'.length c1', .slice A2 Q.length c2'] 29)).cell? ⟨w.heap.size + 1 + 1, 1, none⟩ = some (.int .i64 a) := HDB.out.bd.cell 1
  have d2 : (w2.alloc (.cells #[.slice A1 L'.length c1', .slice A2 Q.length c2'] 29)).cell? ⟨w.heap.size + 1 + 1, 2, none⟩ = some (.int .i64 b) := HDB.out.bd.cell 2
  have d3 : (w2.alloc (.cells #[.slice A1 L'.length c1', .slice A2 Q.length c2'] 29)).cell? ⟨w.heap.size + 1 + 1, 3, none⟩ = some (.int .i64 i) := HDB.out.bd.cell 3
  have d4 : (w2.alloc (.cells #[.slice A1 L'.length c1', .slice A2 Q.length c2'] 29)).cell? ⟨w.heap.size + 1 + 1, 4, none⟩ = some (.int .i64 n) := HDB.out.bd.cell 4
  go_wp2_with fail
  generalize w2.alloc (.cells #[.slice A1 L'.length c1', .slice A2 Q.length c2'] 29) = w3 at *
  generalize w2.heap.size = B at *
  refine (right_any (dd k a b i n) hk1 hk2 HRT.out w3).mono ?_
  rintro e w4 ⟨rfl, hg4⟩
  have HDB4 := Lib.hid (HDB.out.gb hg4)
  have HL4 := Lib.hid ((HL0.out.gb HGB.out).gb hg4)
  have q0 : w4.cell? ⟨w.heap.size, 0, none⟩ = some (.slice Ao L.length co) := (HC0.out.gb hg4 (by simp)).cell 0
  have q1 : w4.cell? ⟨w.heap.size, 1, none⟩ = some (.slice Aq Q.length cq) := (HC0.out.gb hg4 (by simp)).cell 1
  have r0 : w4.cell? ⟨w.heap.size + 1, 0, none⟩ = some (.int .i64 (r 0)) := HDB4.out.br.cell 0
  have r1 : w4.cell? ⟨w.heap.size + 1, 1, none⟩ = some (.int .i64 (r 1)) := HDB4.out.br.cell 1
  have r2 : w4.cell? ⟨w.heap.size + 1, 2, none⟩ = some (.int .i64 (r 2)) := HDB4.out.br.cell 2
  have r3 : w4.cell? ⟨w.heap.size + 1, 3, none⟩ = some (.int .i64 (r 3)) := HDB4.out.br.cell 3
  have r4 : w4.cell? ⟨w.heap.size + 1, 4, none⟩ = some (.int .i64 (r 4)) := HDB4.out.br.cell 4
  have r5 : w4.cell? ⟨w.heap.size + 1, 5, none⟩ = some (.int .i64 (r 5)) := HDB4.out.br.cell 5
  replace d0 := cellk d0 hg4
  replace d1 := cellk d1 hg4
  replace d2 := cellk d2 hg4
  replace d3 := cellk d3 hg4
  replace d4 := cellk d4 hg4
  clear hg4 HDB
  go_wp2_with fail
  refine (fault_any Ao Aq co cq Q.length L r k a b i n fresh w4 HL4.out hk1 hk2 ha hb hi).mono ?_
  rintro e w5 ⟨rfl, hg5⟩
  have HDB5 := Lib.hid (HDB4.out.gb hg5)
  replace d0 := cellk d0 hg5
  replace d1 := cellk d1 hg5
  replace d2 := cellk d2 hg5
  replace d3 := cellk d3 hg5
  replace d4 := cellk d4 hg5
  clear hg5 HDB4 q0 q1 r0 r1 r2 r3 r4 r5 HC0 HGB HL4 HSZ HL0 HQ0 HG0 HB1 HB2 HB3 HB4 HB5 HRT
  rw [hf]
  have ya : w5.cell? ⟨w.heap.size + 1, a, none⟩ = some (.int .i64 (r a)) := by rw [HDB5.out.br.cell]; exact rcs_get r a ha
  have yb : w5.cell? ⟨w.heap.size + 1, b, none⟩ = some (.int .i64 (r b)) := by rw [HDB5.out.br.cell]; exact rcs_get r b hb
  have ha0 : (0 : Int) ≤ (a : Int) := by omega
  have hb0 : (0 : Int) ≤ (b : Int) := by omega
  have ha1 : (a : Int) < 6 := by omega
  have hb1 : (b : Int) < 6 := by omega
  go_wp2_with fail
  go_quiet (fail)
  have HDB6 := Lib.hid (HDB5.out.gb (gb_drewN w5 nq none))
  replace d0 := cellk d0 (gb_drewN w5 nq none)
  replace d1 := cellk d1 (gb_drewN w5 nq none)
  replace d2 := cellk d2 (gb_drewN w5 nq none)
  replace d3 := cellk d3 (gb_drewN w5 nq none)
  replace d4 := cellk d4 (gb_drewN w5 nq none)
  clear HDB5 ya yb
  generalize w5.drewN nq = w6 at *
  subst hkk
  rw [← HOBS.out] at HPost ht hj
  obtain ⟨t1, t2, -⟩ := tgt_inv ht
  have hpl : p < L'.length := by simpa [obs] using t2
  have HT := Lib.hid t1
  clear t1 t2 ht
  rw [obs_getD L' p hpl] at HPost hj
  obtain ⟨g, hA1, -, -, hfg, -⟩ := own_some HDB6.out.om.row (by omega)
  subst hA1
  have HFG := Lib.hid hfg
  have HRL := Lib.hid HDB6.out.om.rl
  obtain ⟨b', off', e1, -, k0, k1, k2, k3, k4, k5, k6, k7⟩ := HRL.out.cells p hpl
  cases e1
  simp only [Nat.zero_add] at k5 k6 k7
  have hp0 : (0 : Int) ≤ (p : Int) := by omega
  have hp1 : (p : Int) < (L'.length : Int) := by omega
  have x0 : w6.cell? ⟨B, 0, none⟩ = some (Value.slice (some ⟨g, 0, none⟩) L'.length c1') := HDB6.out.bx.cell 0
  clear k0 k1 k2 k3 k4 hfg
  subst hij
  have hrow := HDB6.out.om.os.p L'[p] (List.getElem_mem _)
  obtain ⟨Ap, cp, hvp, -, -, -⟩ := Rc.of_own hrow
  rw [hvp] at hrow
  obtain ⟨gp, hAp, -, -, hfp, hcp⟩ := own_some hrow (by omega)
  subst hAp
  rw [hvp] at k5
  have hcj : w6.cell? ⟨gp, j, none⟩ = some (.int .i64 (L'[p].o.ps.getD j 0)) := by
    rw [hcp j (by omega)]; simp [ints, hj]
  have hfj := hfp j
  have HVP := Lib.hid hvp
  have HROW := Lib.hid hrow
  have hj1 : (j : Int) < (L'[p].o.ps.length : Int) := by omega
  have hj0 : (0 : Int) ≤ (j : Int) := by omega
  clear hcp hfp hrow hvp
  obtain ⟨y, hy⟩ : ∃ y, L'[p].o.ps.getD j 0 = y := ⟨_, rfl⟩
  rw [hy] at hcj HPost
  clear hy
  go_wp2_with fail
  go_quiet ((go_at_call 22; exact Calls.quiet_of_same (place_q HRL.out HT.out _)))
  have HDB7 := Lib.hid (HDB6.out.gb (gb_drewN w6 nq none))
  clear HDB6 x0 k5 k6 k7 hcj hfj HRL
  have fa := HDB7.out.br.free a
  have ca : (w6.drewN nq).cell? ⟨w.heap.size + 1, a, none⟩ = some (.int .i64 (r a)) := by rw [HDB7.out.br.cell]; exact rcs_get r a ha
  replace d1 := cellk d1 (gb_drewN w6 nq none)
  generalize w6.drewN nq = w7 at *
  have HDB8 := Lib.hid (HDB7.out.reg a ha y)
  go_wp2_with fail
  generalize w7.setCell ⟨w.heap.size + 1, a, none⟩ (.int .i64 y) = w8 at *
  generalize upd r a y = r' at *
  have x0 : w8.cell? ⟨B, 0, none⟩ = some (Value.slice (some ⟨g, 0, none⟩) L'.length c1') := HDB8.out.bx.cell 0
  have x1 : w8.cell? ⟨B, 1, none⟩ = some (Value.slice A2 Q.length c2') := HDB8.out.bx.cell 1
  have y0 : w8.cell? ⟨w.heap.size + 1, 0, none⟩ = some (.int .i64 (r' 0)) := HDB8.out.br.cell 0
  have y1 : w8.cell? ⟨w.heap.size + 1, 1, none⟩ = some (.int .i64 (r' 1)) := HDB8.out.br.cell 1
  have y2 : w8.cell? ⟨w.heap.size + 1, 2, none⟩ = some (.int .i64 (r' 2)) := HDB8.out.br.cell 2
  have y3 : w8.cell? ⟨w.heap.size + 1, 3, none⟩ = some (.int .i64 (r' 3)) := HDB8.out.br.cell 3
  have y4 : w8.cell? ⟨w.heap.size + 1, 4, none⟩ = some (.int .i64 (r' 4)) := HDB8.out.br.cell 4
  have y5 : w8.cell? ⟨w.heap.size + 1, 5, none⟩ = some (.int .i64 (r' 5)) := HDB8.out.br.cell 5
  have s0 : w8.cell? ⟨w.heap.size + 1 + 1 + 1, 0, none⟩ = some (.slice none 0 0) := HDB8.out.rm.cell 0
  have sf0 := HDB8.out.rm.free 0
  have s1 : w8.cell? ⟨w.heap.size + 1 + 1 + 1, 1, none⟩ = some (.slice none 0 0) := HDB8.out.rm.cell 1
  have sf1 := HDB8.out.rm.free 1
  have u0 : w8.cell? ⟨w.heap.size + 1 + 1 + 1 + 1, 0, none⟩ = some (.int .i64 0) := HDB8.out.rr.cell 0
  have uf0 := HDB8.out.rr.free 0
  have u1 : w8.cell? ⟨w.heap.size + 1 + 1 + 1 + 1, 1, none⟩ = some (.int .i64 0) := HDB8.out.rr.cell 1
  have uf1 := HDB8.out.rr.free 1
  have u2 : w8.cell? ⟨w.heap.size + 1 + 1 + 1 + 1, 2, none⟩ = some (.int .i64 0) := HDB8.out.rr.cell 2
  have uf2 := HDB8.out.rr.free 2
  have u3 : w8.cell? ⟨w.heap.size + 1 + 1 + 1 + 1, 3, none⟩ = some (.int .i64 0) := HDB8.out.rr.cell 3
  have uf3 := HDB8.out.rr.free 3
  have u4 : w8.cell? ⟨w.heap.size + 1 + 1 + 1 + 1, 4, none⟩ = some (.int .i64 0) := HDB8.out.rr.cell 4
  have uf4 := HDB8.out.rr.free 4
  have u5 : w8.cell? ⟨w.heap.size + 1 + 1 + 1 + 1, 5, none⟩ = some (.int .i64 0) := HDB8.out.rr.cell 5
  have uf5 := HDB8.out.rr.free 5
  go_region
  go_wp2_with fail
  rw [HPost.out]
  refine bodyPost_ret (v := .tuple #[.agg #[Value.slice (some ⟨g, 0, none⟩) L'.length c1', Value.slice A2 Q.length c2'], .agg (rcs (r')), .int .i64 (y), .int .i64 (0)]) (by simp [results, Try.results12, go_sem, rcs, s0, s1, u0, u1, u2, u3, u4, u5]) rfl (HDB8.out.fin (y) (0) ?_)
  exact (((((((((Zf.refl _ _).set (.inl rfl)).set (.inl rfl)).set (.inr rfl)).set (.inr rfl)).set (.inr rfl)).set (.inr rfl)).set (.inr rfl)).set (.inr rfl)).later (gb_drew _ none)

set_option maxRecDepth 100000 in
set_option maxHeartbeats 16000000 in
theorem do_load (Ao Aq : Option Addr) (co cq : Nat) (L : List Ov) (Q : List (Int × Int)) (r : Nat → Int) (k : Int) (a b : Nat) (i n fresh seen : Int) (w : World) (hL : RL w Ao L) (hQ : Rc w Aq Q.length 2 (its Q)) (hs : Sm L Q) (hk1 : 1 ≤ k) (hk2 : k ≤ 14) (ha : a < 6) (hb : b < 6) (hi : 0 ≤ i) (hr : RightD (dd k a b i n) (parts k)) (hf : flt (obs L) r k a b i fresh = 0) (hkk : 9 = k) (p : Nat) (ht : tgt (obs L) (r b) = some p) (j : Nat) (hij : (j : Int) = i) (hj : j < ((obs L).getD p ob0).ps.length) :
    Calls Try.prog 12 #[.agg #[.slice Ao L.length co, .slice Aq Q.length cq], .agg (rcs r), .agg #[.int .i64 k, .int .i64 a, .int .i64 b, .int .i64 i, .int .i64 n], .int .i64 fresh, .int .i64 seen] w (DoP w (obs L) Q (upd r a (((obs L).getD p ob0).ps.getD j 0)) (((obs L).getD p ob0).ps.getD j 0) 0) := by
  obtain ⟨Post, hPost⟩ : ∃ Post, Post = (DoP w (obs L) Q (upd r a (((obs L).getD p ob0).ps.getD j 0)) (((obs L).getD p ob0).ps.getD j 0) 0) := ⟨_, rfl⟩
  rw [← hPost]
  have HPost := Lib.hid hPost
  clear hPost
  obtain ⟨b1, b2, b3, b4, b5, hsz⟩ := bx5_blk w #[.slice Ao L.length co, .slice Aq Q.length cq] (rcs r) #[.int .i64 k, .int .i64 a, .int .i64 b, .int .i64 i, .int .i64 n]
  have hg := bx5_gb w #[.slice Ao L.length co, .slice Aq Q.length cq] (rcs r) #[.int .i64 k, .int .i64 a, .int .i64 b, .int .i64 i, .int .i64 n]
  have HRT := Lib.hid hr
  have HSM := Lib.hid hs
  have HL0 := Lib.hid (hL.gb hg)
  have HQ0 := Lib.hid (hQ.gb hg)
  have HG0 := Lib.hid hg
  obtain ⟨wb, hwb⟩ : ∃ wb, bx5 w #[.slice Ao L.length co, .slice Aq Q.length cq] (rcs r) #[.int .i64 k, .int .i64 a, .int .i64 b, .int .i64 i, .int .i64 n] = wb := ⟨_, rfl⟩
  rw [hwb] at b1 b2 b3 b4 b5 hsz HL0 HQ0 HG0
  have HWB := Lib.hid hwb
  have c0 : wb.cell? ⟨w.heap.size, 0, none⟩ = some (.slice Ao L.length co) := b1.cell 0
  have c1 : wb.cell? ⟨w.heap.size, 1, none⟩ = some (.slice Aq Q.length cq) := b1.cell 1
  have HB1 := Lib.hid b1; have HB2 := Lib.hid b2; have HB3 := Lib.hid b3; have HB4 := Lib.hid b4; have HB5 := Lib.hid b5
  have HSZ := Lib.hid hsz
  have hN : ∃ N, w.heap.size = N := ⟨_, rfl⟩
  clear hL hQ hs hr hg hwb b1 b2 b3 b4 b5 hsz
  unfold rcs
  go_enter Try.func12, Try.ntmps12
  go_upto_region 1 with (fail)
  change Code.wp _ _ _ _ (bx5 w #[.slice Ao L.length co, .slice Aq Q.length cq] (rcs r) #[.int .i64 k, .int .i64 a, .int .i64 b, .int .i64 i, .int .i64 n])
  rw [HWB.out]
  clear HWB
  go_wp2_with fail
  refine (ownModel_any Ao Aq co cq L Q wb HL0.out HQ0.out HSM.out).mono ?_
  rintro e w2 ⟨vo, vq, L', rfl, hobs, hom, hg2⟩
  obtain ⟨A1, c1', rfl, _, _, _⟩ := Rc.of_own hom.row
  obtain ⟨A2, c2', rfl, _, _, _⟩ := Rc.of_own hom.que
  have hw2 := hg2.size
  have HDB : Hid (Db w (w2.alloc (.cells #[.slice A1 L'.length c1', .slice A2 Q.length c2'] 29)) w.heap.size w2.heap.size r #[.int .i64 k, .int .i64 a, .int .i64 b, .int .i64 i, .int .i64 n] (.slice A1 L'.length c1') (.slice A2 Q.length c2') L' Q) := by
    have ga := World.grownBy_alloc w2 (.cells #[.slice A1 L'.length c1', .slice A2 Q.length c2'] 29) none
    have gb := grownBy_trans hg2 ga
    have hz : ∀ k, (wb.heap.size ≤ k ∧ k < w2.heap.size) → Z5 w.heap.size w2.heap.size k := fun k hk => ⟨by have := HSZ.out; omega, by omega⟩
    have hom2 := hom.gb ga
    exact ⟨HB2.out.gb gb (by simp), HB3.out.gb gb (by simp), HB4.out.gb gb (by simp), HB5.out.gb gb (by simp), Blk.new w2 29 _, ⟨hom2.row, hom2.que, hom2.os.wide hz, fun g e => hz g (hom.zo g e), fun g e => hz g (hom.zq g e)⟩, grownBy_trans HG0.out gb, rfl, by have := HSZ.out; omega⟩
  have HOBS := Lib.hid hobs
  have HGB := Lib.hid (grownBy_trans hg2 (World.grownBy_alloc w2 (.cells #[.slice A1 L'.length c1', .slice A2 Q.length c2'] 29) none))
  clear hobs hom hg2 c0 c1
  have HC0 : Hid (Blk (w2.alloc (.cells #[.slice A1 L'.length c1', .slice A2 Q.length c2'] 29)) w.heap.size 29 #[.slice Ao L.length co, .slice Aq Q.length cq]) := HB1.out.gb HGB.out (by simp)
  have d0 : (w2.alloc (.cells #[.slice A1 L'.length c1', .slice A2 Q.length c2'] 29)).cell? ⟨w.heap.size + 1 + 1, 0, none⟩ = some (.int .i64 k) := HDB.out.bd.cell 0
  have d1 : (w2.alloc (.cells #[.slice A1 L'.length c1', .slice A2 Q.length c2'] 29)).cell? ⟨w.heap.size + 1 + 1, 1, none⟩ = some (.int .i64 a) := HDB.out.bd.cell 1
  have d2 : (w2.alloc (.cells #[.slice A1 L'.length c1', .slice A2 Q.length c2'] 29)).cell? ⟨w.heap.size + 1 + 1, 2, none⟩ = some (.int .i64 b) := HDB.out.bd.cell 2
  have d3 : (w2.alloc (.cells #[.slice A1 L'.length c1', .slice A2 Q.length c2'] 29)).cell? ⟨w.heap.size + 1 + 1, 3, none⟩ = some (.int .i64 i) := HDB.out.bd.cell 3
  have d4 : (w2.alloc (.cells #[.slice A1 L'.length c1', .slice A2 Q.length c2'] 29)).cell? ⟨w.heap.size + 1 + 1, 4, none⟩ = some (.int .i64 n) := HDB.out.bd.cell 4
  go_wp2_with fail
  generalize w2.alloc (.cells #[.slice A1 L'.length c1', .slice A2 Q.length c2'] 29) = w3 at *
  generalize w2.heap.size = B at *
  refine (right_any (dd k a b i n) hk1 hk2 HRT.out w3).mono ?_
  rintro e w4 ⟨rfl, hg4⟩
  have HDB4 := Lib.hid (HDB.out.gb hg4)
  have HL4 := Lib.hid ((HL0.out.gb HGB.out).gb hg4)
  have q0 : w4.cell? ⟨w.heap.size, 0, none⟩ = some (.slice Ao L.length co) := (HC0.out.gb hg4 (by simp)).cell 0
  have q1 : w4.cell? ⟨w.heap.size, 1, none⟩ = some (.slice Aq Q.length cq) := (HC0.out.gb hg4 (by simp)).cell 1
  have r0 : w4.cell? ⟨w.heap.size + 1, 0, none⟩ = some (.int .i64 (r 0)) := HDB4.out.br.cell 0
  have r1 : w4.cell? ⟨w.heap.size + 1, 1, none⟩ = some (.int .i64 (r 1)) := HDB4.out.br.cell 1
  have r2 : w4.cell? ⟨w.heap.size + 1, 2, none⟩ = some (.int .i64 (r 2)) := HDB4.out.br.cell 2
  have r3 : w4.cell? ⟨w.heap.size + 1, 3, none⟩ = some (.int .i64 (r 3)) := HDB4.out.br.cell 3
  have r4 : w4.cell? ⟨w.heap.size + 1, 4, none⟩ = some (.int .i64 (r 4)) := HDB4.out.br.cell 4
  have r5 : w4.cell? ⟨w.heap.size + 1, 5, none⟩ = some (.int .i64 (r 5)) := HDB4.out.br.cell 5
  replace d0 := cellk d0 hg4
  replace d1 := cellk d1 hg4
  replace d2 := cellk d2 hg4
  replace d3 := cellk d3 hg4
  replace d4 := cellk d4 hg4
  clear hg4 HDB
  go_wp2_with fail
  refine (fault_any Ao Aq co cq Q.length L r k a b i n fresh w4 HL4.out hk1 hk2 ha hb hi).mono ?_
  rintro e w5 ⟨rfl, hg5⟩
  have HDB5 := Lib.hid (HDB4.out.gb hg5)
  replace d0 := cellk d0 hg5
  replace d1 := cellk d1 hg5
  replace d2 := cellk d2 hg5
  replace d3 := cellk d3 hg5
  replace d4 := cellk d4 hg5
  clear hg5 HDB4 q0 q1 r0 r1 r2 r3 r4 r5 HC0 HGB HL4 HSZ HL0 HQ0 HG0 HB1 HB2 HB3 HB4 HB5 HRT
  rw [hf]
  have ya : w5.cell? ⟨w.heap.size + 1, a, none⟩ = some (.int .i64 (r a)) := by rw [HDB5.out.br.cell]; exact rcs_get r a ha
  have yb : w5.cell? ⟨w.heap.size + 1, b, none⟩ = some (.int .i64 (r b)) := by rw [HDB5.out.br.cell]; exact rcs_get r b hb
  have ha0 : (0 : Int) ≤ (a : Int) := by omega
  have hb0 : (0 : Int) ≤ (b : Int) := by omega
  have ha1 : (a : Int) < 6 := by omega
  have hb1 : (b : Int) < 6 := by omega
  go_wp2_with fail
  go_quiet (fail)
  have HDB6 := Lib.hid (HDB5.out.gb (gb_drewN w5 nq none))
  replace d0 := cellk d0 (gb_drewN w5 nq none)
  replace d1 := cellk d1 (gb_drewN w5 nq none)
  replace d2 := cellk d2 (gb_drewN w5 nq none)
  replace d3 := cellk d3 (gb_drewN w5 nq none)
  replace d4 := cellk d4 (gb_drewN w5 nq none)
  clear HDB5 ya yb
  generalize w5.drewN nq = w6 at *
  subst hkk
  rw [← HOBS.out] at HPost ht hj
  obtain ⟨t1, t2, -⟩ := tgt_inv ht
  have hpl : p < L'.length := by simpa [obs] using t2
  have HT := Lib.hid t1
  clear t1 t2 ht
  rw [obs_getD L' p hpl] at HPost hj
  obtain ⟨g, hA1, -, -, hfg, -⟩ := own_some HDB6.out.om.row (by omega)
  subst hA1
  have HFG := Lib.hid hfg
  have HRL := Lib.hid HDB6.out.om.rl
  obtain ⟨b', off', e1, -, k0, k1, k2, k3, k4, k5, k6, k7⟩ := HRL.out.cells p hpl
  cases e1
  simp only [Nat.zero_add] at k5 k6 k7
  have hp0 : (0 : Int) ≤ (p : Int) := by omega
  have hp1 : (p : Int) < (L'.length : Int) := by omega
  have x0 : w6.cell? ⟨B, 0, none⟩ = some (Value.slice (some ⟨g, 0, none⟩) L'.length c1') := HDB6.out.bx.cell 0
  clear k0 k1 k2 k3 k4 hfg
  subst hij
  have hrow := HDB6.out.om.os.p L'[p] (List.getElem_mem _)
  obtain ⟨Ap, cp, hvp, -, -, -⟩ := Rc.of_own hrow
  rw [hvp] at hrow
  obtain ⟨gp, hAp, -, -, hfp, hcp⟩ := own_some hrow (by omega)
  subst hAp
  rw [hvp] at k5
  have hcj : w6.cell? ⟨gp, j, none⟩ = some (.int .i64 (L'[p].o.ps.getD j 0)) := by
    rw [hcp j (by omega)]; simp [ints, hj]
  have hfj := hfp j
  have HVP := Lib.hid hvp
  have HROW := Lib.hid hrow
  have hj1 : (j : Int) < (L'[p].o.ps.length : Int) := by omega
  have hj0 : (0 : Int) ≤ (j : Int) := by omega
  clear hcp hfp hrow hvp
  obtain ⟨y, hy⟩ : ∃ y, L'[p].o.ps.getD j 0 = y := ⟨_, rfl⟩
  rw [hy] at hcj HPost
  clear hy
  go_wp2_with fail
  go_quiet ((go_at_call 22; exact Calls.quiet_of_same (place_q HRL.out HT.out _)))
  have HDB7 := Lib.hid (HDB6.out.gb (gb_drewN w6 nq none))
  clear HDB6 x0 k5 k6 k7 hcj hfj HRL
  have fa := HDB7.out.br.free a
  have ca : (w6.drewN nq).cell? ⟨w.heap.size + 1, a, none⟩ = some (.int .i64 (r a)) := by rw [HDB7.out.br.cell]; exact rcs_get r a ha
  replace d1 := cellk d1 (gb_drewN w6 nq none)
  generalize w6.drewN nq = w7 at *
  have HDB8 := Lib.hid (HDB7.out.reg a ha y)
  go_wp2_with fail
  generalize w7.setCell ⟨w.heap.size + 1, a, none⟩ (.int .i64 y) = w8 at *
  generalize upd r a y = r' at *
  have x0 : w8.cell? ⟨B, 0, none⟩ = some (Value.slice (some ⟨g, 0, none⟩) L'.length c1') := HDB8.out.bx.cell 0
  have x1 : w8.cell? ⟨B, 1, none⟩ = some (Value.slice A2 Q.length c2') := HDB8.out.bx.cell 1
  have y0 : w8.cell? ⟨w.heap.size + 1, 0, none⟩ = some (.int .i64 (r' 0)) := HDB8.out.br.cell 0
  have y1 : w8.cell? ⟨w.heap.size + 1, 1, none⟩ = some (.int .i64 (r' 1)) := HDB8.out.br.cell 1
  have y2 : w8.cell? ⟨w.heap.size + 1, 2, none⟩ = some (.int .i64 (r' 2)) := HDB8.out.br.cell 2
  have y3 : w8.cell? ⟨w.heap.size + 1, 3, none⟩ = some (.int .i64 (r' 3)) := HDB8.out.br.cell 3
  have y4 : w8.cell? ⟨w.heap.size + 1, 4, none⟩ = some (.int .i64 (r' 4)) := HDB8.out.br.cell 4
  have y5 : w8.cell? ⟨w.heap.size + 1, 5, none⟩ = some (.int .i64 (r' 5)) := HDB8.out.br.cell 5
  have s0 : w8.cell? ⟨w.heap.size + 1 + 1 + 1, 0, none⟩ = some (.slice none 0 0) := HDB8.out.rm.cell 0
  have sf0 := HDB8.out.rm.free 0
  have s1 : w8.cell? ⟨w.heap.size + 1 + 1 + 1, 1, none⟩ = some (.slice none 0 0) := HDB8.out.rm.cell 1
  have sf1 := HDB8.out.rm.free 1
  have u0 : w8.cell? ⟨w.heap.size + 1 + 1 + 1 + 1, 0, none⟩ = some (.int .i64 0) := HDB8.out.rr.cell 0
  have uf0 := HDB8.out.rr.free 0
  have u1 : w8.cell? ⟨w.heap.size + 1 + 1 + 1 + 1, 1, none⟩ = some (.int .i64 0) := HDB8.out.rr.cell 1
  have uf1 := HDB8.out.rr.free 1
  have u2 : w8.cell? ⟨w.heap.size + 1 + 1 + 1 + 1, 2, none⟩ = some (.int .i64 0) := HDB8.out.rr.cell 2
  have uf2 := HDB8.out.rr.free 2
  have u3 : w8.cell? ⟨w.heap.size + 1 + 1 + 1 + 1, 3, none⟩ = some (.int .i64 0) := HDB8.out.rr.cell 3
  have uf3 := HDB8.out.rr.free 3
  have u4 : w8.cell? ⟨w.heap.size + 1 + 1 + 1 + 1, 4, none⟩ = some (.int .i64 0) := HDB8.out.rr.cell 4
  have uf4 := HDB8.out.rr.free 4
  have u5 : w8.cell? ⟨w.heap.size + 1 + 1 + 1 + 1, 5, none⟩ = some (.int .i64 0) := HDB8.out.rr.cell 5
  have uf5 := HDB8.out.rr.free 5
  go_region
  go_wp2_with fail
  rw [HPost.out]
  refine bodyPost_ret (v := .tuple #[.agg #[Value.slice (some ⟨g, 0, none⟩) L'.length c1', Value.slice A2 Q.length c2'], .agg (rcs (r')), .int .i64 (y), .int .i64 (0)]) (by simp [results, Try.results12, go_sem, rcs, s0, s1, u0, u1, u2, u3, u4, u5]) rfl (HDB8.out.fin (y) (0) ?_)
  exact (((((((((Zf.refl _ _).set (.inl rfl)).set (.inl rfl)).set (.inr rfl)).set (.inr rfl)).set (.inr rfl)).set (.inr rfl)).set (.inr rfl)).set (.inr rfl)).later (gb_drew _ none)

set_option maxRecDepth 100000 in
set_option maxHeartbeats 16000000 in
theorem do_read (Ao Aq : Option Addr) (co cq : Nat) (L : List Ov) (Q : List (Int × Int)) (r : Nat → Int) (k : Int) (a b : Nat) (i n fresh seen : Int) (w : World) (hL : RL w Ao L) (hQ : Rc w Aq Q.length 2 (its Q)) (hs : Sm L Q) (hk1 : 1 ≤ k) (hk2 : k ≤ 14) (ha : a < 6) (hb : b < 6) (hi : 0 ≤ i) (hr : RightD (dd k a b i n) (parts k)) (hf : flt (obs L) r k a b i fresh = 0) (hkk : 6 = k) (p : Nat) (ht : tgt (obs L) (r a) = some p) (j : Nat) (hij : (j : Int) = i) (hj : j < ((obs L).getD p ob0).ns.length) :
    Calls Try.prog 12 #[.agg #[.slice Ao L.length co, .slice Aq Q.length cq], .agg (rcs r), .agg #[.int .i64 k, .int .i64 a, .int .i64 b, .int .i64 i, .int .i64 n], .int .i64 fresh, .int .i64 seen] w (DoP w (obs L) Q r (((obs L).getD p ob0).ns.getD j 0) 0) := by
  obtain ⟨Post, hPost⟩ : ∃ Post, Post = (DoP w (obs L) Q r (((obs L).getD p ob0).ns.getD j 0) 0) := ⟨_, rfl⟩
  rw [← hPost]
  have HPost := Lib.hid hPost
  clear hPost
  obtain ⟨b1, b2, b3, b4, b5, hsz⟩ := bx5_blk w #[.slice Ao L.length co, .slice Aq Q.length cq] (rcs r) #[.int .i64 k, .int .i64 a, .int .i64 b, .int .i64 i, .int .i64 n]
  have hg := bx5_gb w #[.slice Ao L.length co, .slice Aq Q.length cq] (rcs r) #[.int .i64 k, .int .i64 a, .int .i64 b, .int .i64 i, .int .i64 n]
  have HRT := Lib.hid hr
  have HSM := Lib.hid hs
  have HL0 := Lib.hid (hL.gb hg)
  have HQ0 := Lib.hid (hQ.gb hg)
  have HG0 := Lib.hid hg
  obtain ⟨wb, hwb⟩ : ∃ wb, bx5 w #[.slice Ao L.length co, .slice Aq Q.length cq] (rcs r) #[.int .i64 k, .int .i64 a, .int .i64 b, .int .i64 i, .int .i64 n] = wb := ⟨_, rfl⟩
  rw [hwb] at b1 b2 b3 b4 b5 hsz HL0 HQ0 HG0
  have HWB := Lib.hid hwb
  have c0 : wb.cell? ⟨w.heap.size, 0, none⟩ = some (.slice Ao L.length co) := b1.cell 0
  have c1 : wb.cell? ⟨w.heap.size, 1, none⟩ = some (.slice Aq Q.length cq) := b1.cell 1
  have HB1 := Lib.hid b1; have HB2 := Lib.hid b2; have HB3 := Lib.hid b3; have HB4 := Lib.hid b4; have HB5 := Lib.hid b5
  have HSZ := Lib.hid hsz
  have hN : ∃ N, w.heap.size = N := ⟨_, rfl⟩
  clear hL hQ hs hr hg hwb b1 b2 b3 b4 b5 hsz
  unfold rcs
  go_enter Try.func12, Try.ntmps12
  go_upto_region 1 with (fail)
  change Code.wp _ _ _ _ (bx5 w #[.slice Ao L.length co, .slice Aq Q.length cq] (rcs r) #[.int .i64 k, .int .i64 a, .int .i64 b, .int .i64 i, .int .i64 n])
  rw [HWB.out]
  clear HWB
  go_wp2_with fail
  refine (ownModel_any Ao Aq co cq L Q wb HL0.out HQ0.out HSM.out).mono ?_
  rintro e w2 ⟨vo, vq, L', rfl, hobs, hom, hg2⟩
  obtain ⟨A1, c1', rfl, _, _, _⟩ := Rc.of_own hom.row
  obtain ⟨A2, c2', rfl, _, _, _⟩ := Rc.of_own hom.que
  have hw2 := hg2.size
  have HDB : Hid (Db w (w2.alloc (.cells #[.slice A1 L'.length c1', .slice A2 Q.length c2'] 29)) w.heap.size w2.heap.size r #[.int .i64 k, .int .i64 a, .int .i64 b, .int .i64 i, .int .i64 n] (.slice A1 L'.length c1') (.slice A2 Q.length c2') L' Q) := by
    have ga := World.grownBy_alloc w2 (.cells #[.slice A1 L'.length c1', .slice A2 Q.length c2'] 29) none
    have gb := grownBy_trans hg2 ga
    have hz : ∀ k, (wb.heap.size ≤ k ∧ k < w2.heap.size) → Z5 w.heap.size w2.heap.size k := fun k hk => ⟨by have := HSZ.out; omega, by omega⟩
    have hom2 := hom.gb ga
    exact ⟨HB2.out.gb gb (by simp), HB3.out.gb gb (by simp), HB4.out.gb gb (by simp), HB5.out.gb gb (by simp), Blk.new w2 29 _, ⟨hom2.row, hom2.que, hom2.os.wide hz, fun g e => hz g (hom.zo g e), fun g e => hz g (hom.zq g e)⟩, grownBy_trans HG0.out gb, rfl, by have := HSZ.out; omega⟩
  have HOBS := Lib.hid hobs
  have HGB := Lib.hid (grownBy_trans hg2 (World.grownBy_alloc w2 (.cells #[.slice A1 L'.length c1', .slice A2 Q.length c2'] 29) none))
  clear hobs hom hg2 c0 c1
  have HC0 : Hid (Blk (w2.alloc (.cells #[.slice A1 L'.length c1', .slice A2 Q.length c2'] 29)) w.heap.size 29 #[.slice Ao L.length co, .slice Aq Q.length cq]) := HB1.out.gb HGB.out (by simp)
  have d0 : (w2.alloc (.cells #[.slice A1 L'.length c1', .slice A2 Q.length c2'] 29)).cell? ⟨w.heap.size + 1 + 1, 0, none⟩ = some (.int .i64 k) := HDB.out.bd.cell 0
  have d1 : (w2.alloc (.cells #[.slice A1 L'.length c1', .slice A2 Q.length c2'] 29)).cell? ⟨w.heap.size + 1 + 1, 1, none⟩ = some (.int .i64 a) := HDB.out.bd.cell 1
  have d2 : (w2.alloc (.cells #[.slice A1 L'.length c1', .slice A2 Q.length c2'] 29)).cell? ⟨w.heap.size + 1 + 1, 2, none⟩ = some (.int .i64 b) := HDB.out.bd.cell 2
  have d3 : (w2.alloc (.cells #[.slice A1 L'.length c1', .slice A2 Q.length c2'] 29)).cell? ⟨w.heap.size + 1 + 1, 3, none⟩ = some (.int .i64 i) := HDB.out.bd.cell 3
  have d4 : (w2.alloc (.cells #[.slice A1 L'.length c1', .slice A2 Q.length c2'] 29)).cell? ⟨w.heap.size + 1 + 1, 4, none⟩ = some (.int .i64 n) := HDB.out.bd.cell 4
  go_wp2_with fail
  generalize w2.alloc (.cells #[.slice A1 L'.length c1', .slice A2 Q.length c2'] 29) = w3 at *
  generalize w2.heap.size = B at *
  refine (right_any (dd k a b i n) hk1 hk2 HRT.out w3).mono ?_
  rintro e w4 ⟨rfl, hg4⟩
  have HDB4 := Lib.hid (HDB.out.gb hg4)
  have HL4 := Lib.hid ((HL0.out.gb HGB.out).gb hg4)
  have q0 : w4.cell? ⟨w.heap.size, 0, none⟩ = some (.slice Ao L.length co) := (HC0.out.gb hg4 (by simp)).cell 0
  have q1 : w4.cell? ⟨w.heap.size, 1, none⟩ = some (.slice Aq Q.length cq) := (HC0.out.gb hg4 (by simp)).cell 1
  have r0 : w4.cell? ⟨w.heap.size + 1, 0, none⟩ = some (.int .i64 (r 0)) := HDB4.out.br.cell 0
  have r1 : w4.cell? ⟨w.heap.size + 1, 1, none⟩ = some (.int .i64 (r 1)) := HDB4.out.br.cell 1
  have r2 : w4.cell? ⟨w.heap.size + 1, 2, none⟩ = some (.int .i64 (r 2)) := HDB4.out.br.cell 2
  have r3 : w4.cell? ⟨w.heap.size + 1, 3, none⟩ = some (.int .i64 (r 3)) := HDB4.out.br.cell 3
  have r4 : w4.cell? ⟨w.heap.size + 1, 4, none⟩ = some (.int .i64 (r 4)) := HDB4.out.br.cell 4
  have r5 : w4.cell? ⟨w.heap.size + 1, 5, none⟩ = some (.int .i64 (r 5)) := HDB4.out.br.cell 5
  replace d0 := cellk d0 hg4
  replace d1 := cellk d1 hg4
  replace d2 := cellk d2 hg4
  replace d3 := cellk d3 hg4
  replace d4 := cellk d4 hg4
  clear hg4 HDB
  go_wp2_with fail
  refine (fault_any Ao Aq co cq Q.length L r k a b i n fresh w4 HL4.out hk1 hk2 ha hb hi).mono ?_
  rintro e w5 ⟨rfl, hg5⟩
  have HDB5 := Lib.hid (HDB4.out.gb hg5)
  replace d0 := cellk d0 hg5
  replace d1 := cellk d1 hg5
  replace d2 := cellk d2 hg5
  replace d3 := cellk d3 hg5
  replace d4 := cellk d4 hg5
  clear hg5 HDB4 q0 q1 r0 r1 r2 r3 r4 r5 HC0 HGB HL4 HSZ HL0 HQ0 HG0 HB1 HB2 HB3 HB4 HB5 HRT
  rw [hf]
  have ya : w5.cell? ⟨w.heap.size + 1, a, none⟩ = some (.int .i64 (r a)) := by rw [HDB5.out.br.cell]; exact rcs_get r a ha
  have yb : w5.cell? ⟨w.heap.size + 1, b, none⟩ = some (.int .i64 (r b)) := by rw [HDB5.out.br.cell]; exact rcs_get r b hb
  have ha0 : (0 : Int) ≤ (a : Int) := by omega
  have hb0 : (0 : Int) ≤ (b : Int) := by omega
  have ha1 : (a : Int) < 6 := by omega
  have hb1 : (b : Int) < 6 := by omega
  go_wp2_with fail
  go_quiet (fail)
  have HDB6 := Lib.hid (HDB5.out.gb (gb_drewN w5 nq none))
  replace d0 := cellk d0 (gb_drewN w5 nq none)
  replace d1 := cellk d1 (gb_drewN w5 nq none)
  replace d2 := cellk d2 (gb_drewN w5 nq none)
  replace d3 := cellk d3 (gb_drewN w5 nq none)
  replace d4 := cellk d4 (gb_drewN w5 nq none)
  clear HDB5 ya yb
  generalize w5.drewN nq = w6 at *
  subst hkk
  rw [← HOBS.out] at HPost ht hj
  obtain ⟨t1, t2, -⟩ := tgt_inv ht
  have hpl : p < L'.length := by simpa [obs] using t2
  have HT := Lib.hid t1
  clear t1 t2 ht
  rw [obs_getD L' p hpl] at HPost hj
  obtain ⟨g, hA1, -, -, hfg, -⟩ := own_some HDB6.out.om.row (by omega)
  subst hA1
  have HFG := Lib.hid hfg
  have HRL := Lib.hid HDB6.out.om.rl
  obtain ⟨b', off', e1, -, k0, k1, k2, k3, k4, k5, k6, k7⟩ := HRL.out.cells p hpl
  cases e1
  simp only [Nat.zero_add] at k5 k6 k7
  have hp0 : (0 : Int) ≤ (p : Int) := by omega
  have hp1 : (p : Int) < (L'.length : Int) := by omega
  have x0 : w6.cell? ⟨B, 0, none⟩ = some (Value.slice (some ⟨g, 0, none⟩) L'.length c1') := HDB6.out.bx.cell 0
  clear k0 k1 k2 k3 k4 hfg
  subst hij
  have hrow := HDB6.out.om.os.n L'[p] (List.getElem_mem _)
  obtain ⟨Ap, cp, hvp, -, -, -⟩ := Rc.of_own hrow
  rw [hvp] at hrow
  obtain ⟨gp, hAp, -, -, hfp, hcp⟩ := own_some hrow (by omega)
  subst hAp
  rw [hvp] at k6
  have hcj : w6.cell? ⟨gp, j, none⟩ = some (.int .i64 (L'[p].o.ns.getD j 0)) := by
    rw [hcp j (by omega)]; simp [ints, hj]
  have hfj := hfp j
  have HVP := Lib.hid hvp
  have HROW := Lib.hid hrow
  have hj1 : (j : Int) < (L'[p].o.ns.length : Int) := by omega
  have hj0 : (0 : Int) ≤ (j : Int) := by omega
  clear hcp hfp hrow hvp
  obtain ⟨y, hy⟩ : ∃ y, L'[p].o.ns.getD j 0 = y := ⟨_, rfl⟩
  rw [hy] at hcj HPost
  clear hy
  go_wp2_with fail
  go_quiet ((go_at_call 22; exact Calls.quiet_of_same (place_q HRL.out HT.out _)))
  have HDB7 := Lib.hid (HDB6.out.gb (gb_drewN w6 nq none))
  clear HDB6 x0 k5 k6 k7 hcj hfj HRL
  generalize w6.drewN nq = w7 at *
  go_wp2_with fail
  have x0 : w7.cell? ⟨B, 0, none⟩ = some (Value.slice (some ⟨g, 0, none⟩) L'.length c1') := HDB7.out.bx.cell 0
  have x1 : w7.cell? ⟨B, 1, none⟩ = some (Value.slice A2 Q.length c2') := HDB7.out.bx.cell 1
  have y0 : w7.cell? ⟨w.heap.size + 1, 0, none⟩ = some (.int .i64 (r 0)) := HDB7.out.br.cell 0
  have y1 : w7.cell? ⟨w.heap.size + 1, 1, none⟩ = some (.int .i64 (r 1)) := HDB7.out.br.cell 1
  have y2 : w7.cell? ⟨w.heap.size + 1, 2, none⟩ = some (.int .i64 (r 2)) := HDB7.out.br.cell 2
  have y3 : w7.cell? ⟨w.heap.size + 1, 3, none⟩ = some (.int .i64 (r 3)) := HDB7.out.br.cell 3
  have y4 : w7.cell? ⟨w.heap.size + 1, 4, none⟩ = some (.int .i64 (r 4)) := HDB7.out.br.cell 4
  have y5 : w7.cell? ⟨w.heap.size + 1, 5, none⟩ = some (.int .i64 (r 5)) := HDB7.out.br.cell 5
  have s0 : w7.cell? ⟨w.heap.size + 1 + 1 + 1, 0, none⟩ = some (.slice none 0 0) := HDB7.out.rm.cell 0
  have sf0 := HDB7.out.rm.free 0
  have s1 : w7.cell? ⟨w.heap.size + 1 + 1 + 1, 1, none⟩ = some (.slice none 0 0) := HDB7.out.rm.cell 1
  have sf1 := HDB7.out.rm.free 1
  have u0 : w7.cell? ⟨w.heap.size + 1 + 1 + 1 + 1, 0, none⟩ = some (.int .i64 0) := HDB7.out.rr.cell 0
  have uf0 := HDB7.out.rr.free 0
  have u1 : w7.cell? ⟨w.heap.size + 1 + 1 + 1 + 1, 1, none⟩ = some (.int .i64 0) := HDB7.out.rr.cell 1
  have uf1 := HDB7.out.rr.free 1
  have u2 : w7.cell? ⟨w.heap.size + 1 + 1 + 1 + 1, 2, none⟩ = some (.int .i64 0) := HDB7.out.rr.cell 2
  have uf2 := HDB7.out.rr.free 2
  have u3 : w7.cell? ⟨w.heap.size + 1 + 1 + 1 + 1, 3, none⟩ = some (.int .i64 0) := HDB7.out.rr.cell 3
  have uf3 := HDB7.out.rr.free 3
  have u4 : w7.cell? ⟨w.heap.size + 1 + 1 + 1 + 1, 4, none⟩ = some (.int .i64 0) := HDB7.out.rr.cell 4
  have uf4 := HDB7.out.rr.free 4
  have u5 : w7.cell? ⟨w.heap.size + 1 + 1 + 1 + 1, 5, none⟩ = some (.int .i64 0) := HDB7.out.rr.cell 5
  have uf5 := HDB7.out.rr.free 5
  go_region
  go_wp2_with fail
  rw [HPost.out]
  refine bodyPost_ret (v := .tuple #[.agg #[Value.slice (some ⟨g, 0, none⟩) L'.length c1', Value.slice A2 Q.length c2'], .agg (rcs (r)), .int .i64 (y), .int .i64 (0)]) (by simp [results, Try.results12, go_sem, rcs, s0, s1, u0, u1, u2, u3, u4, u5]) rfl (HDB7.out.fin (y) (0) ?_)
  exact (((((((((Zf.refl _ _).set (.inl rfl)).set (.inl rfl)).set (.inr rfl)).set (.inr rfl)).set (.inr rfl)).set (.inr rfl)).set (.inr rfl)).set (.inr rfl)).later (gb_drew _ none)
end Go.Proofs.Yteieljkkcnpfmaa
