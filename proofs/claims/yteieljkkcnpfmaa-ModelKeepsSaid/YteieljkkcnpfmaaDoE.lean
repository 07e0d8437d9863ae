/-
  Do: weak.
-/
import Derived.Test.YteieljkkcnpfmaaDo2
import Derived.BigRegion
namespace Go.Proofs.Yteieljkkcnpfmaa
open Go.ChangeShapes Go.WideShapes Go.ChangeAt Go.RowKit
set_option linter.unusedVariables false

set_option maxRecDepth 100000 in
set_option maxHeartbeats 16000000 in
theorem do_weak (Ao Aq : Option Addr) (co cq : Nat) (L : List Ov) (Q : List (Int × Int)) (r : Nat → Int) (k : Int) (a b : Nat) (i n fresh seen : Int) (w : World) (hL : RL w Ao L) (hQ : Rc w Aq Q.length 2 (its Q)) (hs : Sm L Q) (hk1 : 1 ≤ k) (hk2 : k ≤ 14) (ha : a < 6) (hb : b < 6) (hi : 0 ≤ i) (hr : RightD (dd k a b i n) (parts k)) (hf : flt (obs L) r k a b i fresh = 0) (hkk : 3 = k) :
    Calls Try.prog 12 #[.agg #[.slice Ao L.length co, .slice Aq Q.length cq], .agg (rcs r), .agg #[.int .i64 k, .int .i64 a, .int .i64 b, .int .i64 i, .int .i64 n], .int .i64 fresh, .int .i64 seen] w (DoP w (obs L ++ [(⟨fresh, 1, 0, true, false, [r b], [], false⟩ : Ob)]) Q (upd r a fresh) fresh 0) := by
  obtain ⟨Post, hPost⟩ : ∃ Post, Post = (DoP w (obs L ++ [(⟨fresh, 1, 0, true, false, [r b], [], false⟩ : Ob)]) Q (upd r a fresh) fresh 0) := ⟨_, rfl⟩
  rw [← hPost]
  have HPost := Lib.hid hPost
  clear hPost
  obtain ⟨b1, b2, b3, b4, b5, hsz⟩ := bx5_blk w #[.slice Ao L.length co, .slice Aq Q.length cq] (rcs r) #[.int .i64 k, .int .i64 a, .int .i64 b, .int .i64 i, .int .i64 n]
  have hg := bx5_gb w #[.slice Ao L.length co, .slice Aq Q.length cq] (rcs r) #[.int .i64 k, .int .i64 a, .int .i64 b, .int .i64 i, .int .i64 n]
  have HRT := Lib.hid hr
  have HSM := Lib.hid hs
  have HL0 := Lib.hid (hL.gb hg)
  have HQ0 := Lib.hid (hQ.gb hg)
  have HG0 := Lib.hid hg
  obtain ⟨wb, hwb⟩ : ∃ wb, bx5 w #[.slice Ao L.length co, .slice Aq Q.length cq] (rcs r) #[.int .i64 k, .int .i64 a, .int .i64 b, .int .i64 i, .int .i64 n] = wb := ⟨_, rfl⟩
  rw [hwb] at b1 b2 b3 b4 b5 hsz HL0 HQ0 HG0
  have HWB := Lib.hid hwb
  have c0 : wb.cell? ⟨w.heap.size, 0, none⟩ = some (.slice Ao L.length co) := b1.cell 0
  have c1 : wb.cell? ⟨w.heap.size, 1, none⟩ = some (.slice Aq Q.length cq) := b1.cell 1
  have HB1 := Lib.hid b1; have HB2 := Lib.hid b2; have HB3 := Lib.hid b3; have HB4 := Lib.hid b4; have HB5 := Lib.hid b5
  have HSZ := Lib.hid hsz
  have hN : ∃ N, w.heap.size = N := ⟨_, rfl⟩
  clear hL hQ hs hr hg hwb b1 b2 b3 b4 b5 hsz
  unfold rcs
  go_enter Try.func12, Try.ntmps12
  go_upto_region 1 with (fail)
  change Code.wp _ _ _ _ (bx5 w #[.slice Ao L.length co, .slice Aq Q.length cq] (rcs r) #[.int .i64 k, .int .i64 a, .int .i64 b, .int .i64 i, .int .i64 n])
  rw [HWB.out]
  clear HWB
  go_wp2_with fail
  refine (ownModel_any Ao Aq co cq L Q wb HL0.out HQ0.out HSM.out).mono ?_
  rintro e w2 ⟨vo, vq, L', rfl, hobs, hom, hg2⟩
  obtain ⟨A1, c1', rfl, _, _, _⟩ := Rc.of_own hom.row
  obtain ⟨A2, c2', rfl, _, _, _⟩ := Rc.of_own hom.que
  have hw2 := hg2.size
  have HDB : Hid (Db w (w2.alloc (.cells #[.slice A1 L'.length c1', .slice A2 Q.length c2'] 29)) w.heap.size w2.heap.size r #[.int .i64 k, .int .i64 a, .int .i64 b, .int .i64 i, .int .i64 n] (.slice A1 L'.length c1') (.slice A2 Q.length c2') L' Q) := by
    have ga := World.grownBy_alloc w2 (.cells #[.slice A1 L'.length c1', .slice A2 Q.length c2'] 29) none
    have gb := grownBy_trans hg2 ga
    have hz : ∀ k, (wb.heap.size ≤ k ∧ k < w2.heap.size) → Z5 w.heap.size w2.heap.size k := fun k hk => ⟨by have := HSZ.out; omega, by omega⟩
    have hom2 := hom.gb ga
    exact ⟨HB2.out.gb gb (by simp), HB3.out.gb gb (by simp), HB4.out.gb gb (by simp), HB5.out.gb gb (by simp), Blk.new w2 29 _, ⟨hom2.row, hom2.que, hom2.os.wide hz, fun g e => hz g (hom.zo g e), fun g e => hz g (hom.zq g e)⟩, grownBy_trans HG0.out gb, rfl, by have := HSZ.out; omega⟩
  have HOBS := Lib.hid hobs
  have HGB := Lib.hid (grownBy_trans hg2 (World.grownBy_alloc w2 (.cells #[.slice A1 L'.length c1', .slice A2 Q.length c2'] 29) none))
  clear hobs hom hg2 c0 c1
  have HC0 : Hid (Blk (w2.alloc (.cells #[.slice A1 L'.length c1', .slice A2 Q.length c2'] 29)) w.heap.size 29 #[.slice Ao L.length co, .slice Aq Q.length cq]) := HB1.out.gb HGB.out (by simp)
  have d0 : (w2.alloc (.cells #[.slice A1 L'.length c1', .slice A2 Q.length c2'] 29)).cell? ⟨w.heap.size + 1 + 1, 0, none⟩ = some (.int .i64 k) := HDB.out.bd.cell 0
  have d1 : (w2.alloc (.cells #[.slice A1 L'.length c1', .slice A2 Q.length c2'] 29)).cell? ⟨w.heap.size + 1 + 1, 1, none⟩ = some (.int .i64 a) := HDB.out.bd.cell 1
  have d2 : (w2.alloc (.cells #[.slice A1 L'.length c1', .slice A2 Q.length c2'] 29)).cell? ⟨w.heap.size + 1 + 1, 2, none⟩ = some (.int .i64 b) := HDB.out.bd.cell 2
  have d3 : (w2.alloc (.cells #[.slice A1 L'.length c1', .slice A2 Q.length c2'] 29)).cell? ⟨w.heap.size + 1 + 1, 3, none⟩ = some (.int .i64 i) := HDB.out.bd.cell 3
  have d4 : (w2.alloc (.cells #[.slice A1 L'.length c1', .slice A2 Q.length c2'] 29)).cell? ⟨w.heap.size + 1 + 1, 4, none⟩ = some (.int .i64 n) := HDB.out.bd.cell 4
  go_wp2_with fail
  generalize w2.alloc (.cells #[.slice A1 L'.length c1', .slice A2 Q.length c2'] 29) = w3 at *
  generalize w2.heap.size = B at *
  refine (right_any (dd k a b i n) hk1 hk2 HRT.out w3).mono ?_
  rintro e w4 ⟨rfl, hg4⟩
  have HDB4 := Lib.hid (HDB.out.gb hg4)
  have HL4 := Lib.hid ((HL0.out.gb HGB.out).gb hg4)
  have q0 : w4.cell? ⟨w.heap.size, 0, none⟩ = some (.slice Ao L.length co) := (HC0.out.gb hg4 (by simp)).cell 0
  have q1 : w4.cell? ⟨w.heap.size, 1, none⟩ = some (.slice Aq Q.length cq) := (HC0.out.gb hg4 (by simp)).cell 1
  have r0 : w4.cell? ⟨w.heap.size + 1, 0, none⟩ = some (.int .i64 (r 0)) := HDB4.out.br.cell 0
  have r1 : w4.cell? ⟨w.heap.size + 1, 1, none⟩ = some (.int .i64 (r 1)) := HDB4.out.br.cell 1
  have r2 : w4.cell? ⟨w.heap.size + 1, 2, none⟩ = some (.int .i64 (r 2)) := HDB4.out.br.cell 2
  have r3 : w4.cell? ⟨w.heap.size + 1, 3, none⟩ = some (.int .i64 (r 3)) := HDB4.out.br.cell 3
  have r4 : w4.cell? ⟨w.heap.size + 1, 4, none⟩ = some (.int .i64 (r 4)) := HDB4.out.br.cell 4
  have r5 : w4.cell? ⟨w.heap.size + 1, 5, none⟩ = some (.int .i64 (r 5)) := HDB4.out.br.cell 5
  replace d0 := cellk d0 hg4
  replace d1 := cellk d1 hg4
  replace d2 := cellk d2 hg4
  replace d3 := cellk d3 hg4
  replace d4 := cellk d4 hg4
  clear hg4 HDB
  go_wp2_with fail
  refine (fault_any Ao Aq co cq Q.length L r k a b i n fresh w4 HL4.out hk1 hk2 ha hb hi).mono ?_
  rintro e w5 ⟨rfl, hg5⟩
  have HDB5 := Lib.hid (HDB4.out.gb hg5)
  replace d0 := cellk d0 hg5
  replace d1 := cellk d1 hg5
  replace d2 := cellk d2 hg5
  replace d3 := cellk d3 hg5
  replace d4 := cellk d4 hg5
  clear hg5 HDB4 q0 q1 r0 r1 r2 r3 r4 r5 HC0 HGB HL4 HSZ HL0 HQ0 HG0 HB1 HB2 HB3 HB4 HB5 HRT
  rw [hf]
  have ya : w5.cell? ⟨w.heap.size + 1, a, none⟩ = some (.int .i64 (r a)) := by rw [HDB5.out.br.cell]; exact rcs_get r a ha
  have yb : w5.cell? ⟨w.heap.size + 1, b, none⟩ = some (.int .i64 (r b)) := by rw [HDB5.out.br.cell]; exact rcs_get r b hb
  have ha0 : (0 : Int) ≤ (a : Int) := by omega
  have hb0 : (0 : Int) ≤ (b : Int) := by omega
  have ha1 : (a : Int) < 6 := by omega
  have hb1 : (b : Int) < 6 := by omega
  go_wp2_with fail
  go_quiet (fail)
  have HDB6 := Lib.hid (HDB5.out.gb (gb_drewN w5 nq none))
  replace d0 := cellk d0 (gb_drewN w5 nq none)
  replace d1 := cellk d1 (gb_drewN w5 nq none)
  replace d2 := cellk d2 (gb_drewN w5 nq none)
  replace d3 := cellk d3 (gb_drewN w5 nq none)
  replace d4 := cellk d4 (gb_drewN w5 nq none)
  clear HDB5 ya yb
  generalize w5.drewN nq = w6 at *
  subst hkk
  rw [← HOBS.out] at HPost
  obtain ⟨i0, hi0, hz0, hz1, hz2⟩ := info_parts info41
  have HI := Lib.hid hi0; have HZ0 := Lib.hid hz0; have HZ1 := Lib.hid hz1; have HZ2 := Lib.hid hz2
  clear hi0 hz0 hz1 hz2
  have hgW : w6.grownBy (((w6.alloc (.cells #[.int .i64 1, .int .i64 0, .bool true, .bool false] 38)).alloc (.cells #[.int .i64 (r b)] 3)).alloc (.cells #[.int .i64 fresh, .int .i64 1, .int .i64 0, .bool true, .bool false, .slice (some ⟨w6.heap.size + 1, 0, none⟩) 1 1, .slice none 0 0, .bool false] 41)) none := grownBy_trans (grownBy_trans (World.grownBy_alloc _ _ none) (World.grownBy_alloc _ _ none)) (World.grownBy_alloc _ _ none)
  have hbp : Blk (((w6.alloc (.cells #[.int .i64 1, .int .i64 0, .bool true, .bool false] 38)).alloc (.cells #[.int .i64 (r b)] 3)).alloc (.cells #[.int .i64 fresh, .int .i64 1, .int .i64 0, .bool true, .bool false, .slice (some ⟨w6.heap.size + 1, 0, none⟩) 1 1, .slice none 0 0, .bool false] 41)) (w6.heap.size + 1) 3 (ints [r b]).toArray := by
    have := (Blk.new (w6.alloc (.cells #[.int .i64 1, .int .i64 0, .bool true, .bool false] 38)) 3 #[.int .i64 (r b)]).gb (World.grownBy_alloc _ (.cells #[.int .i64 fresh, .int .i64 1, .int .i64 0, .bool true, .bool false, .slice (some ⟨w6.heap.size + 1, 0, none⟩) 1 1, .slice none 0 0, .bool false] 41) none) (by simp)
    simp at this
    exact this
  have hbe : Blk (((w6.alloc (.cells #[.int .i64 1, .int .i64 0, .bool true, .bool false] 38)).alloc (.cells #[.int .i64 (r b)] 3)).alloc (.cells #[.int .i64 fresh, .int .i64 1, .int .i64 0, .bool true, .bool false, .slice (some ⟨w6.heap.size + 1, 0, none⟩) 1 1, .slice none 0 0, .bool false] 41)) (w6.heap.size + 1 + 1) 41 (ov ⟨(⟨fresh, 1, 0, true, false, [r b], [], false⟩ : Ob), .slice (some ⟨w6.heap.size + 1, 0, none⟩) 1 1, .slice none 0 0⟩).toArray := by
    have := Blk.new ((w6.alloc (.cells #[.int .i64 1, .int .i64 0, .bool true, .bool false] 38)).alloc (.cells #[.int .i64 (r b)] 3)) 41 #[.int .i64 fresh, .int .i64 1, .int .i64 0, .bool true, .bool false, .slice (some ⟨w6.heap.size + 1, 0, none⟩) 1 1, .slice none 0 0, .bool false]
    simp at this
    exact this
  have HP : Hid ((((w6.alloc (.cells #[.int .i64 1, .int .i64 0, .bool true, .bool false] 38)).alloc (.cells #[.int .i64 (r b)] 3)).alloc (.cells #[.int .i64 fresh, .int .i64 1, .int .i64 0, .bool true, .bool false, .slice (some ⟨w6.heap.size + 1, 0, none⟩) 1 1, .slice none 0 0, .bool false] 41)).ownsRow w6.heap.size 3 1 (.slice (some ⟨w6.heap.size + 1, 0, none⟩) 1 1) 1 (ints [r b])) := own_lit hbp rfl (by omega) (by omega)
  have HN : Hid ((((w6.alloc (.cells #[.int .i64 1, .int .i64 0, .bool true, .bool false] 38)).alloc (.cells #[.int .i64 (r b)] 3)).alloc (.cells #[.int .i64 fresh, .int .i64 1, .int .i64 0, .bool true, .bool false, .slice (some ⟨w6.heap.size + 1, 0, none⟩) 1 1, .slice none 0 0, .bool false] 41)).ownsRow w6.heap.size 3 1 (.slice none 0 0) 0 (ints [])) := World.ownsRow_nil _ _ _ _
  have HROW : Hid ((((w6.alloc (.cells #[.int .i64 1, .int .i64 0, .bool true, .bool false] 38)).alloc (.cells #[.int .i64 (r b)] 3)).alloc (.cells #[.int .i64 fresh, .int .i64 1, .int .i64 0, .bool true, .bool false, .slice (some ⟨w6.heap.size + 1, 0, none⟩) 1 1, .slice none 0 0, .bool false] 41)).ownsRow 0 41 8 (Value.slice A1 L'.length c1') L'.length (ovs L')) := own_gb0 HDB6.out.om.row hgW
  have HCE := Lib.hid (cells_of_blk hbe)
  have HGW := Lib.hid hgW
  have hsz3 : (((w6.alloc (.cells #[.int .i64 1, .int .i64 0, .bool true, .bool false] 38)).alloc (.cells #[.int .i64 (r b)] 3)).alloc (.cells #[.int .i64 fresh, .int .i64 1, .int .i64 0, .bool true, .bool false, .slice (some ⟨w6.heap.size + 1, 0, none⟩) 1 1, .slice none 0 0, .bool false] 41)).heap.size = w6.heap.size + 3 := by simp
  have HSZ3 := Lib.hid hsz3
  have hlL : L'.length ≤ 100 := by have h1 := congrArg List.length HOBS.out; have h2 := HSM.out.1; simp [obs] at h1; omega
  have y0 : (w6.alloc (.cells #[.int .i64 1, .int .i64 0, .bool true, .bool false] 38)).cell? ⟨B, 0, none⟩ = some (Value.slice A1 L'.length c1') := ((HDB6.out.gb (World.grownBy_alloc w6 _ none)).bx).cell 0
  clear hgW hbp hbe hsz3
  go_wp2_with (at_builtin; go_must (refine wpList_append_lies _ rfl _ _ 22 rfl 0 41 i0 (.agg #[.int .i64 0, .int .i64 0, .int .i64 0, .bool false, .bool false, .slice none 0 0, .slice none 0 0, .bool false]) 8 88 Try.underlying22 HI.out HZ0.out HZ1.out HZ2.out rfl (by decide) (Value.slice A1 L'.length c1') L'.length (ovs L') rfl HROW.out ⟨w6.heap.size + 1 + 1, 0, none⟩ 1 1 (ov ⟨(⟨fresh, 1, 0, true, false, [r b], [], false⟩ : Ob), .slice (some ⟨w6.heap.size + 1, 0, none⟩) 1 1, .slice none 0 0⟩) rfl rfl HCE.out one_ov (by omega) (by unfold maxLen; omega) (by omega) (by omega) (w6.heap.size + 3) HSZ3.out ?_); intro g cap w8 hown8 g8 hat8 hlt8; have HDB8 := Lib.hid (HDB6.out.app HGW.out HP.out HN.out (fun q e k => by simp [Value.ownBlock] at k) hown8 g8 hat8 (by omega)); have c8 : w8.cell? ⟨B, 0, none⟩ = some (Value.slice A1 L'.length c1') := ((HDB6.out.gb HGW.out).bx.zf (Zf.of_gb (Z := fun k => (Value.slice A1 L'.length c1').ownBlock = some k) g8 (fun q e => e)) (fun e => (HDB6.out.om.zo B e).2 rfl)).cell 0; have f8 := ((HDB6.out.gb HGW.out).bx.zf (Zf.of_gb (Z := fun k => (Value.slice A1 L'.length c1').ownBlock = some k) g8 (fun q e => e)) (fun e => (HDB6.out.om.zo B e).2 rfl)).free 0; have e1 : (w8.setCell ⟨B, 0, none⟩ (.slice (some ⟨g, 0, none⟩) (L'.length + 1) cap)).cell? ⟨w.heap.size + 1 + 1, 1, none⟩ = some (.int .i64 a) := HDB8.out.bd.cell 1; have fa := HDB8.out.br.free a; have ca : (w8.setCell ⟨B, 0, none⟩ (.slice (some ⟨g, 0, none⟩) (L'.length + 1) cap)).cell? ⟨w.heap.size + 1, a, none⟩ = some (.int .i64 (r a)) := (by rw [HDB8.out.br.cell]; exact rcs_get r a ha); have HDB9 := Lib.hid (HDB8.out.reg a ha fresh); clear hown8 g8 hat8 hlt8)
  rw [show obs L' ++ [(⟨fresh, 1, 0, true, false, [r b], [], false⟩ : Ob)] = obs (L' ++ [⟨(⟨fresh, 1, 0, true, false, [r b], [], false⟩ : Ob), .slice (some ⟨w6.heap.size + 1, 0, none⟩) 1 1, .slice none 0 0⟩]) from by simp [obs]] at HPost
  clear e1 ca fa c8 f8 HDB8 HDB6 d0 d1 d2 d3 d4
  generalize (w8.setCell ⟨B, 0, none⟩ (.slice (some ⟨g, 0, none⟩) (L'.length + 1) cap)).setCell ⟨w.heap.size + 1, a, none⟩ (.int .i64 fresh) = w9 at *
  generalize upd r a fresh = r' at *
  have x0 : w9.cell? ⟨B, 0, none⟩ = some (Value.slice (some ⟨g, 0, none⟩) (L'.length + 1) cap) := HDB9.out.bx.cell 0
  have x1 : w9.cell? ⟨B, 1, none⟩ = some (Value.slice A2 Q.length c2') := HDB9.out.bx.cell 1
  have y0 : w9.cell? ⟨w.heap.size + 1, 0, none⟩ = some (.int .i64 (r' 0)) := HDB9.out.br.cell 0
  have y1 : w9.cell? ⟨w.heap.size + 1, 1, none⟩ = some (.int .i64 (r' 1)) := HDB9.out.br.cell 1
  have y2 : w9.cell? ⟨w.heap.size + 1, 2, none⟩ = some (.int .i64 (r' 2)) := HDB9.out.br.cell 2
  have y3 : w9.cell? ⟨w.heap.size + 1, 3, none⟩ = some (.int .i64 (r' 3)) := HDB9.out.br.cell 3
  have y4 : w9.cell? ⟨w.heap.size + 1, 4, none⟩ = some (.int .i64 (r' 4)) := HDB9.out.br.cell 4
  have y5 : w9.cell? ⟨w.heap.size + 1, 5, none⟩ = some (.int .i64 (r' 5)) := HDB9.out.br.cell 5
  have s0 : w9.cell? ⟨w.heap.size + 1 + 1 + 1, 0, none⟩ = some (.slice none 0 0) := HDB9.out.rm.cell 0
  have sf0 := HDB9.out.rm.free 0
  have s1 : w9.cell? ⟨w.heap.size + 1 + 1 + 1, 1, none⟩ = some (.slice none 0 0) := HDB9.out.rm.cell 1
  have sf1 := HDB9.out.rm.free 1
  have u0 : w9.cell? ⟨w.heap.size + 1 + 1 + 1 + 1, 0, none⟩ = some (.int .i64 0) := HDB9.out.rr.cell 0
  have uf0 := HDB9.out.rr.free 0
  have u1 : w9.cell? ⟨w.heap.size + 1 + 1 + 1 + 1, 1, none⟩ = some (.int .i64 0) := HDB9.out.rr.cell 1
  have uf1 := HDB9.out.rr.free 1
  have u2 : w9.cell? ⟨w.heap.size + 1 + 1 + 1 + 1, 2, none⟩ = some (.int .i64 0) := HDB9.out.rr.cell 2
  have uf2 := HDB9.out.rr.free 2
  have u3 : w9.cell? ⟨w.heap.size + 1 + 1 + 1 + 1, 3, none⟩ = some (.int .i64 0) := HDB9.out.rr.cell 3
  have uf3 := HDB9.out.rr.free 3
  have u4 : w9.cell? ⟨w.heap.size + 1 + 1 + 1 + 1, 4, none⟩ = some (.int .i64 0) := HDB9.out.rr.cell 4
  have uf4 := HDB9.out.rr.free 4
  have u5 : w9.cell? ⟨w.heap.size + 1 + 1 + 1 + 1, 5, none⟩ = some (.int .i64 0) := HDB9.out.rr.cell 5
  have uf5 := HDB9.out.rr.free 5
  go_region
  go_wp2_with fail
  rw [HPost.out]
  refine bodyPost_ret (v := .tuple #[.agg #[Value.slice (some ⟨g, 0, none⟩) (L'.length + 1) cap, Value.slice A2 Q.length c2'], .agg (rcs (r')), .int .i64 (fresh), .int .i64 (0)]) (by simp [results, Try.results12, go_sem, rcs, s0, s1, u0, u1, u2, u3, u4, u5]) rfl (HDB9.out.fin (fresh) (0) ?_)
  exact (((((((((Zf.refl _ _).set (.inl rfl)).set (.inl rfl)).set (.inr rfl)).set (.inr rfl)).set (.inr rfl)).set (.inr rfl)).set (.inr rfl)).set (.inr rfl)).later (gb_drew _ none)
end Go.Proofs.Yteieljkkcnpfmaa
