/-
  Canon at the example's model.
-/
import Derived.Test.YteieljkkcnpfmaaNode
import Derived.BigRegion
namespace Go.Proofs.Yteieljkkcnpfmaa
open Go.ChangeShapes Go.WideShapes Go.ChangeAt Go.RowKit Go.Maps
set_option linter.unusedVariables false
theorem Mp.keep {w w' : World} {b n : Nat} {D : DataW Unit} (h : Mp w b n D) (e : w'.heap[b]? = w.heap[b]?) : Mp w' b n D := by
  obtain ⟨es, clock, hb, F, hs, hD⟩ := h
  exact ⟨es, clock, e.trans hb, F, hs, hD⟩
theorem Mp.lt {w : World} {b n : Nat} {D : DataW Unit} (h : Mp w b n D) : b < w.heap.size := by
  obtain ⟨es, clock, hb, F, hs, hD⟩ := h
  exact (Array.getElem?_eq_some_iff.1 hb).1
theorem gb_any {a b : World} {r : Option Nat} (h : a.grownBy b none) : a.grownBy b r := ⟨h.os, h.tape, h.output, h.size, fun i hi _ => h.block i hi (by simp)⟩
theorem cellr {W W' : World} {r : Option Nat} {a : Addr} {v : Value} (h : W.cell? a = some v) (g : W.grownBy W' r) (hn : some a.block ≠ r) : W'.cell? a = some v :=
  (World.cell?_of_block (g.block a.block (World.block_lt_of_cell? W _ h) hn)).trans h
theorem cellz {Z : Nat → Prop} {W W' : World} {a : Addr} {v : Value} (h : W.cell? a = some v) (f : Zf Z W W') (hn : ¬ Z a.block) : W'.cell? a = some v :=
  (World.cell?_of_block (f.block a.block (World.block_lt_of_cell? W _ h) hn)).trans h
theorem info68 : (Try.prog.info? 68).map (fun i => (i.zero, i.size, i.bytes)) = some (some (.agg #[.int .i64 0, .int .i64 0, .int .i64 0, .bool false, .bool false, .bool false, .slice none 0 0, .slice none 0 0]), 8, 88) := by kernel_rfl
theorem mk53 {w : World} {ops : Array Oper} {rest : List Oper} {o : Oper} {a : Act} {Q : Exit → Act → World → Prop} (hgd : o.guard = none) (x y : Operand) (ho : o.op = .makeSlice 53 x y) (hx : a.eval x = .int .i64 0) (c : Nat) (hy : a.eval y = .int .i64 c) (hc : c ≤ 100)
    (h : ∀ w', w'.ownsRow w.heap.size 68 8 (.slice (some ⟨w.heap.size, 0, none⟩) 0 c) 0 [] → w.grownBy w' none → wpList Try.prog ops Q rest (a.put o.dst (.slice (some ⟨w.heap.size, 0, none⟩) 0 c)) w') : wpList Try.prog ops Q (o :: rest) a w := by
  obtain ⟨i0, hi0, hz0, hz1, hz2⟩ := info_parts info68
  obtain ⟨w', hr, hown, hg⟩ := run_makeSlice_owned (P := Try.prog) w w.heap.size 53 68 i0 _ 8 Try.underlying53 hi0 hz0 hz1 .i64 .i64 c (by omega) (by rw [hz2]; omega) (by unfold maxLen; omega) (Nat.le_refl _)
  refine wpList_plain hgd fun K hK => ?_
  unfold Oper.wp execOp
  simp only [ho, hx, hy, Sem.run_bind, Sem.run_pure, Result.andThen_ok, hr, Oper.upon]
  exact hK _ _ (h w' hown hg)
theorem keep10 {W W' : World} {r : Option Nat} {a0 a1 a2 a3 a4 a5 a6 a7 a8 a9 : Addr} {v0 v1 v2 v3 v4 v5 v6 v7 v8 v9 : Value} (h : W.cell? a0 = some v0 ∧ W.cell? a1 = some v1 ∧ W.cell? a2 = some v2 ∧ W.cell? a3 = some v3 ∧ W.cell? a4 = some v4 ∧ W.cell? a5 = some v5 ∧ W.cell? a6 = some v6 ∧ W.cell? a7 = some v7 ∧ W.cell? a8 = some v8 ∧ W.cell? a9 = some v9) (g : W.grownBy W' r) (n0 : some a0.block ≠ r) (n1 : some a1.block ≠ r) (n2 : some a2.block ≠ r) (n3 : some a3.block ≠ r) (n4 : some a4.block ≠ r) (n5 : some a5.block ≠ r) (n6 : some a6.block ≠ r) (n7 : some a7.block ≠ r) (n8 : some a8.block ≠ r) (n9 : some a9.block ≠ r) : W'.cell? a0 = some v0 ∧ W'.cell? a1 = some v1 ∧ W'.cell? a2 = some v2 ∧ W'.cell? a3 = some v3 ∧ W'.cell? a4 = some v4 ∧ W'.cell? a5 = some v5 ∧ W'.cell? a6 = some v6 ∧ W'.cell? a7 = some v7 ∧ W'.cell? a8 = some v8 ∧ W'.cell? a9 = some v9 :=
  ⟨cellr h.1 g n0, cellr h.2.1 g n1, cellr h.2.2.1 g n2, cellr h.2.2.2.1 g n3, cellr h.2.2.2.2.1 g n4, cellr h.2.2.2.2.2.1 g n5, cellr h.2.2.2.2.2.2.1 g n6, cellr h.2.2.2.2.2.2.2.1 g n7, cellr h.2.2.2.2.2.2.2.2.1 g n8, cellr h.2.2.2.2.2.2.2.2.2 g n9⟩
theorem keep10g {W W' : World} {a0 a1 a2 a3 a4 a5 a6 a7 a8 a9 : Addr} {v0 v1 v2 v3 v4 v5 v6 v7 v8 v9 : Value} (h : W.cell? a0 = some v0 ∧ W.cell? a1 = some v1 ∧ W.cell? a2 = some v2 ∧ W.cell? a3 = some v3 ∧ W.cell? a4 = some v4 ∧ W.cell? a5 = some v5 ∧ W.cell? a6 = some v6 ∧ W.cell? a7 = some v7 ∧ W.cell? a8 = some v8 ∧ W.cell? a9 = some v9) (g : W.grownBy W' none) : W'.cell? a0 = some v0 ∧ W'.cell? a1 = some v1 ∧ W'.cell? a2 = some v2 ∧ W'.cell? a3 = some v3 ∧ W'.cell? a4 = some v4 ∧ W'.cell? a5 = some v5 ∧ W'.cell? a6 = some v6 ∧ W'.cell? a7 = some v7 ∧ W'.cell? a8 = some v8 ∧ W'.cell? a9 = some v9 :=
  keep10 h g (by simp) (by simp) (by simp) (by simp) (by simp) (by simp) (by simp) (by simp) (by simp) (by simp)
theorem one_node {a b c : Int} {d e f : Bool} {A : Option Addr} {n m : Nat} : ∀ u ∈ [Value.int .i64 a, .int .i64 b, .int .i64 c, .bool d, .bool e, .bool f, .slice none 0 0, .slice A n m], u.oneCell' = true := by
  intro u hu
  simp at hu
  rcases hu with rfl | rfl | rfl | rfl | rfl | rfl | rfl | rfl <;> rfl
set_option maxHeartbeats 8000000 in
theorem canon_any (Ao Aq Ar : Option Addr) (co cq nq cr : Nat) (x : Ov) (w : World) (h : RL w Ao [x]) (hs : x.o.s = 7) (hps : x.o.ps = []) (hsw : x.o.sw = false) (hns : x.o.ns.length ≤ 100) (hr : Rd w Ar 6 [7, 0, 0, 0, 0, 0]) :
    Calls Try.prog 17 #[.agg #[.slice Ao 1 co, .slice Aq nq cq], .slice Ar 6 cr] w fun e w' => (∃ A c, e = .returned (.slice A 1 c)) ∧ w.grownBy w' none := by
  have hmm := @run_makeMap Try.prog
  obtain ⟨b, off, rfl, hb, k0, k1, k2, k3, k4, k5, k6, k7⟩ := h.cells 0 (by simp)
  obtain ⟨Ap, cp, An, cn, hvp, hvn, hr1, hr2⟩ := h.2 x (by simp)
  simp only [List.getElem_cons_zero, Nat.zero_mul, Nat.add_zero] at k0 k1 k2 k3 k4 k5 k6 k7
  rw [hvp, hps] at k5
  rw [hvn] at k6
  rw [hs] at k0
  rw [hsw] at k3
  have HR2 := Lib.hid hr2
  have HRR := Lib.hid hr
  clear hvp hvn hr1 hr2 hr h hs hps hsw
  have hg3 : w.grownBy (((w.alloc (.cells #[.slice (some ⟨b, off, none⟩) 1 co, .slice Aq nq cq] 29)).alloc (.map #[] 0)).alloc (.cells #[.map (some (w.heap.size + 1))] 64)) none := grownBy_trans (grownBy_trans (World.grownBy_alloc _ _ none) (World.grownBy_alloc _ _ none)) (World.grownBy_alloc _ _ none)
  have HG3 := Lib.hid hg3
  have bM : Blk (((w.alloc (.cells #[.slice (some ⟨b, off, none⟩) 1 co, .slice Aq nq cq] 29)).alloc (.map #[] 0)).alloc (.cells #[.map (some (w.heap.size + 1))] 64)) w.heap.size 29 #[.slice (some ⟨b, off, none⟩) 1 co, .slice Aq nq cq] := ((Blk.new w 29 _).gb (World.grownBy_alloc _ _ none) (by simp)).gb (World.grownBy_alloc _ _ none) (by simp)
  have b5 : Blk (((w.alloc (.cells #[.slice (some ⟨b, off, none⟩) 1 co, .slice Aq nq cq] 29)).alloc (.map #[] 0)).alloc (.cells #[.map (some (w.heap.size + 1))] 64)) (w.heap.size + 1 + 1) 64 #[.map (some (w.heap.size + 1))] := by
    have := Blk.new ((w.alloc (.cells #[.slice (some ⟨b, off, none⟩) 1 co, .slice Aq nq cq] 29)).alloc (.map #[] 0)) 64 #[.map (some (w.heap.size + 1))]
    simpa using this
  have m1 : Mp (((w.alloc (.cells #[.slice (some ⟨b, off, none⟩) 1 co, .slice Aq nq cq] 29)).alloc (.map #[] 0)).alloc (.cells #[.map (some (w.heap.size + 1))] 64)) (w.heap.size + 1) 0 D0 := by
    have := World.ownsMap_made (H := Unit) (w.alloc (.cells #[.slice (some ⟨b, off, none⟩) 1 co, .slice Aq nq cq] 29)) Try.prog 3 (plainElem Try.prog 3)
    have := Mp.keep (w' := (((w.alloc (.cells #[.slice (some ⟨b, off, none⟩) 1 co, .slice Aq nq cq] 29)).alloc (.map #[] 0)).alloc (.cells #[.map (some (w.heap.size + 1))] 64))) this ((World.grownBy_alloc _ (.cells #[.map (some (w.heap.size + 1))] 64) none).block _ (by simp) (by simp))
    simp at this
    exact this
  have HBM := Lib.hid bM; have HB5 := Lib.hid b5; have HM1 := Lib.hid m1
  have hsz3 : (((w.alloc (.cells #[.slice (some ⟨b, off, none⟩) 1 co, .slice Aq nq cq] 29)).alloc (.map #[] 0)).alloc (.cells #[.map (some (w.heap.size + 1))] 64)).heap.size = w.heap.size + 3 := by simp
  have HSZ3 := Lib.hid hsz3
  clear hg3 bM b5 m1 hsz3
  go_enter Try.func17, Try.ntmps17
  go_wp2_with fail
  generalize (((w.alloc (.cells #[.slice (some ⟨b, off, none⟩) 1 co, .slice Aq nq cq] 29)).alloc (.map #[] 0)).alloc (.cells #[.map (some (w.heap.size + 1))] 64)) = w3 at *
  replace k0 := cellk k0 HG3.out
  replace k1 := cellk k1 HG3.out
  replace k2 := cellk k2 HG3.out
  replace k3 := cellk k3 HG3.out
  replace k4 := cellk k4 HG3.out
  replace k5 := cellk k5 HG3.out
  replace k6 := cellk k6 HG3.out
  replace k7 := cellk k7 HG3.out
  have c5 : w3.cell? ⟨w.heap.size + 1 + 1, 0, none⟩ = some (.map (some (w.heap.size + 1))) := HB5.out.cell 0
  have HGB : Hid (w3.grownBy (w3.alloc (.cells #[.int .i64 7, .int .i64 x.o.sp, .int .i64 x.o.sd, .bool false, .bool x.o.sf, .slice Ap 0 cp, .slice An x.o.ns.length cn, .bool x.o.fr] 41)) none) := World.grownBy_alloc _ _ none
  have c5b := cellk c5 HGB.out
  have HM1b : Hid (Mp (w3.alloc (.cells #[.int .i64 7, .int .i64 x.o.sp, .int .i64 x.o.sd, .bool false, .bool x.o.sf, .slice Ap 0 cp, .slice An x.o.ns.length cn, .bool x.o.fr] 41)) (w.heap.size + 1) 0 D0) := HM1.out.keep (HGB.out.block _ HM1.out.lt (by simp))
  refine wp_loop_rounds 2 ?_
  rw [rounds_succ]
  go_wp2_with (first
    | (at_lookup; go_must (refine wpList_lookup_own_ok_int _ rfl _ _ 64 rfl 3 3 .i64 law3 Try.underlying64 Try.underlying3 (zero3 _) (w.heap.size + 1) 0 D0 rfl HM1b.out _ _ rfl key7 ?_); intro c2 hat2 hwc2; rw [has07]; clear hat2 hwc2)
    | (at_mapUpdate; go_must (refine wpList_mapUpdate_own _ rfl _ _ _ 64 rfl 3 3 law3 Try.underlying64 _ (w.heap.size + 1) 0 _ rfl HM1b.out (by unfold maxLen; omega) _ _ _ rfl rfl key7 _ [] (plainElem_int Try.underlying3 (by decide)) ?_); intro w4 hown4 hgrow4; have HO4 := Lib.hid hown4; have HG4 := Lib.hid hgrow4; clear hown4 hgrow4))
  rw [rounds_succ]
  go_wp2_with fail
  have g45 : w4.grownBy (((w4.alloc (.map #[] 0)).alloc (.cells #[.map (some w4.heap.size)] 64)).alloc (.cells #[.slice none 0 0] 39)) none := grownBy_trans (grownBy_trans (World.grownBy_alloc _ _ none) (World.grownBy_alloc _ _ none)) (World.grownBy_alloc _ _ none)
  have g34 : w3.grownBy w4 (some (w.heap.size + 1)) := grownBy_trans (gb_any HGB.out) HG4.out
  have gw4 : w.grownBy w4 none := gb_new HG3.out g34 (fun g e => by cases e; omega)
  have gw5 : w.grownBy (((w4.alloc (.map #[] 0)).alloc (.cells #[.map (some w4.heap.size)] 64)).alloc (.cells #[.slice none 0 0] 39)) none := grownBy_trans gw4 g45
  have hM1 : Mp (((w4.alloc (.map #[] 0)).alloc (.cells #[.map (some w4.heap.size)] 64)).alloc (.cells #[.slice none 0 0] 39)) (w.heap.size + 1) 1 D7 := Mp.keep (HO4.out : Mp w4 (w.heap.size + 1) 1 D7) (g45.block _ (Mp.lt (HO4.out : Mp w4 (w.heap.size + 1) 1 D7)) (by simp))
  have h5 : (((w4.alloc (.map #[] 0)).alloc (.cells #[.map (some w4.heap.size)] 64)).alloc (.cells #[.slice none 0 0] 39)).cell? ⟨w.heap.size + 1 + 1, 0, none⟩ = some (.map (some (w.heap.size + 1))) := ((HB5.out.gb g34 (by simp)).gb g45 (by simp)).cell 0
  have hbm := (HBM.out.gb g34 (by simp)).gb g45 (by simp)
  have h10 : (((w4.alloc (.map #[] 0)).alloc (.cells #[.map (some w4.heap.size)] 64)).alloc (.cells #[.slice none 0 0] 39)).cell? ⟨w4.heap.size + 1, 0, none⟩ = some (.map (some w4.heap.size)) := by
    have := ((Blk.new (w4.alloc (.map #[] 0)) 64 #[.map (some w4.heap.size)]).gb (World.grownBy_alloc _ (.cells #[.slice none 0 0] 39) none) (by simp)).cell 0
    simpa using this
  have h11 : Blk (((w4.alloc (.map #[] 0)).alloc (.cells #[.map (some w4.heap.size)] 64)).alloc (.cells #[.slice none 0 0] 39)) (w4.heap.size + 1 + 1) 39 #[.slice none 0 0] := by
    have := Blk.new ((w4.alloc (.map #[] 0)).alloc (.cells #[.map (some w4.heap.size)] 64)) 39 #[.slice none 0 0]
    simpa using this
  have hM2 : Mp (((w4.alloc (.map #[] 0)).alloc (.cells #[.map (some w4.heap.size)] 64)).alloc (.cells #[.slice none 0 0] 39)) w4.heap.size 0 D0 := by
    have := World.ownsMap_made (H := Unit) w4 Try.prog 3 (plainElem Try.prog 3)
    have := Mp.keep (w' := (((w4.alloc (.map #[] 0)).alloc (.cells #[.map (some w4.heap.size)] 64)).alloc (.cells #[.slice none 0 0] 39))) this ((grownBy_trans (World.grownBy_alloc (w4.alloc (.map #[] 0)) (.cells #[.map (some w4.heap.size)] 64) none) (World.grownBy_alloc _ (.cells #[.slice none 0 0] 39) none)).block _ (by simp) (by simp))
    exact this
  have hs5 : (((w4.alloc (.map #[] 0)).alloc (.cells #[.map (some w4.heap.size)] 64)).alloc (.cells #[.slice none 0 0] 39)).heap.size = w4.heap.size + 3 := by simp
  have hs4 : w.heap.size + 3 ≤ w4.heap.size := by have := HSZ3.out; have := g34.size; omega
  replace k0 := cellk (cellr k0 g34 (fun e => by injection e with e; simp at e; omega)) g45
  replace k1 := cellk (cellr k1 g34 (fun e => by injection e with e; simp at e; omega)) g45
  replace k2 := cellk (cellr k2 g34 (fun e => by injection e with e; simp at e; omega)) g45
  replace k3 := cellk (cellr k3 g34 (fun e => by injection e with e; simp at e; omega)) g45
  replace k4 := cellk (cellr k4 g34 (fun e => by injection e with e; simp at e; omega)) g45
  replace k5 := cellk (cellr k5 g34 (fun e => by injection e with e; simp at e; omega)) g45
  replace k6 := cellk (cellr k6 g34 (fun e => by injection e with e; simp at e; omega)) g45
  replace k7 := cellk (cellr k7 g34 (fun e => by injection e with e; simp at e; omega)) g45
  have HRW := Lib.hid (HRR.out.gb gw5)
  have HRN := Lib.hid (HR2.out.gb gw5)
  have HBM5 := Lib.hid hbm
  have HG5 := Lib.hid gw5
  clear HBM HB5 HM1 HGB HG4 HO4 HM1b c5 c5b
  obtain ⟨br, offr, rfl, hbr0, hbr⟩ := HRR.out.at_ (by omega)
  have r0 : (((w4.alloc (.map #[] 0)).alloc (.cells #[.map (some w4.heap.size)] 64)).alloc (.cells #[.slice none 0 0] 39)).cell? ⟨br, offr + 0, none⟩ = some (.int .i64 7) := cellk (hbr 0 (by omega)) HG5.out
  have r1 : (((w4.alloc (.map #[] 0)).alloc (.cells #[.map (some w4.heap.size)] 64)).alloc (.cells #[.slice none 0 0] 39)).cell? ⟨br, offr + 1, none⟩ = some (.int .i64 0) := cellk (hbr 1 (by omega)) HG5.out
  have r2 : (((w4.alloc (.map #[] 0)).alloc (.cells #[.map (some w4.heap.size)] 64)).alloc (.cells #[.slice none 0 0] 39)).cell? ⟨br, offr + 2, none⟩ = some (.int .i64 0) := cellk (hbr 2 (by omega)) HG5.out
  have r3 : (((w4.alloc (.map #[] 0)).alloc (.cells #[.map (some w4.heap.size)] 64)).alloc (.cells #[.slice none 0 0] 39)).cell? ⟨br, offr + 3, none⟩ = some (.int .i64 0) := cellk (hbr 3 (by omega)) HG5.out
  have r4 : (((w4.alloc (.map #[] 0)).alloc (.cells #[.map (some w4.heap.size)] 64)).alloc (.cells #[.slice none 0 0] 39)).cell? ⟨br, offr + 4, none⟩ = some (.int .i64 0) := cellk (hbr 4 (by omega)) HG5.out
  have r5 : (((w4.alloc (.map #[] 0)).alloc (.cells #[.map (some w4.heap.size)] 64)).alloc (.cells #[.slice none 0 0] 39)).cell? ⟨br, offr + 5, none⟩ = some (.int .i64 0) := cellk (hbr 5 (by omega)) HG5.out
  rw [Nat.add_zero] at r0
  have HM1 := Lib.hid hM1
  have HM2 := Lib.hid hM2
  have H11 := Lib.hid h11
  have c11 : (((w4.alloc (.map #[] 0)).alloc (.cells #[.map (some w4.heap.size)] 64)).alloc (.cells #[.slice none 0 0] 39)).cell? ⟨w4.heap.size + 1 + 1, 0, none⟩ = some (.slice none 0 0) := h11.cell 0
  have HS5 := Lib.hid hs5
  clear hbr HRR hM1 hM2 h11 hbm gw5 gw4 g45 hs5 g34
  generalize hw5 : (((w4.alloc (.map #[] 0)).alloc (.cells #[.map (some w4.heap.size)] 64)).alloc (.cells #[.slice none 0 0] 39)) = w5 at *
  clear hw5
  have HF5 : Hid (∀ k, k ≠ w4.heap.size ∧ k ≠ w4.heap.size + 1 + 1 → ¬ (k = w4.heap.size ∨ k = w4.heap.size + 1 + 1)) := fun k hk e => by omega
  refine wp_loop_rounds 7 ?_
  rw [rounds_succ]
  go_wp2_with fail
  refine (come7 _ _ _ _ _ w5 h5 h10 H11.out HM1.out HM2.out (by omega) (by omega) (by omega)).mono ?_
  rintro e w6 ⟨⟨v6, rfl⟩, hm6, ⟨g6, cap6, c6, hg6, hr6⟩, f6⟩
  have gw6 : w.grownBy w6 none := Zf.gb HG5.out f6 (fun k hk => by omega)
  replace k0 := cellz k0 f6 (by simp; omega)
  replace k1 := cellz k1 f6 (by simp; omega)
  replace k2 := cellz k2 f6 (by simp; omega)
  replace k3 := cellz k3 f6 (by simp; omega)
  replace k4 := cellz k4 f6 (by simp; omega)
  replace k5 := cellz k5 f6 (by simp; omega)
  replace k6 := cellz k6 f6 (by simp; omega)
  replace k7 := cellz k7 f6 (by simp; omega)
  replace r0 := cellz r0 f6 (by simp; omega)
  replace r1 := cellz r1 f6 (by simp; omega)
  replace r2 := cellz r2 f6 (by simp; omega)
  replace r3 := cellz r3 f6 (by simp; omega)
  replace r4 := cellz r4 f6 (by simp; omega)
  replace r5 := cellz r5 f6 (by simp; omega)
  replace h5 := cellz h5 f6 (by simp; omega)
  replace h10 := cellz h10 f6 (by simp)
  have HM16 : Hid (Mp w6 (w.heap.size + 1) 1 D7) := HM1.out.keep (f6.block _ HM1.out.lt (by omega))
  have HBM6 := Lib.hid (HBM5.out.zf f6 (by omega))
  have HR6 := Lib.hid hr6
  have HG6 := Lib.hid gw6
  have HGG := Lib.hid hg6
  clear c11 HM1 HM2 H11 HBM5 HRW HRN hm6 hr6 f6 gw6 hg6 r0 hbr0
  dsimp only
  go_wp2_with fail
  rw [rounds_succ]
  go_wp2_with fail
  refine (come0 _ _ _ _ w6 h5 HM16.out).mono ?_
  rintro e w7 ⟨⟨v7, rfl⟩, rfl⟩
  clear r1
  go_wp2_with fail
  rw [rounds_succ]
  go_wp2_with fail
  refine (come0 _ _ _ _ w6 h5 HM16.out).mono ?_
  rintro e w7 ⟨⟨v8, rfl⟩, rfl⟩
  clear r2
  go_wp2_with fail
  rw [rounds_succ]
  go_wp2_with fail
  refine (come0 _ _ _ _ w6 h5 HM16.out).mono ?_
  rintro e w7 ⟨⟨v9, rfl⟩, rfl⟩
  clear r3
  go_wp2_with fail
  rw [rounds_succ]
  go_wp2_with fail
  refine (come0 _ _ _ _ w6 h5 HM16.out).mono ?_
  rintro e w7 ⟨⟨v10, rfl⟩, rfl⟩
  clear r4
  go_wp2_with fail
  rw [rounds_succ]
  go_wp2_with fail
  refine (come0 _ _ _ _ w6 h5 HM16.out).mono ?_
  rintro e w7 ⟨⟨v11, rfl⟩, rfl⟩
  clear r5
  go_wp2_with fail
  rw [rounds_succ]
  go_wp2_with fail
  have c60 : w6.cell? ⟨g6, 0, none⟩ = some (.int .i64 0) := by
    obtain ⟨b', off', e, _, hc⟩ := HR6.out.at_ (by omega)
    cases e
    exact hc 0 (by omega)
  have cm0 : w6.cell? ⟨w.heap.size, 0, none⟩ = some (.slice (some ⟨b, off, none⟩) 1 co) := HBM6.out.cell 0
  refine wp_loop_rounds 2 ?_
  rw [rounds_succ]
  go_upto_region 1 with (fail)
  have g68 : w6.grownBy (w6.alloc (.cells #[.int .i64 0, .int .i64 0, .int .i64 0, .bool false, .bool false, .slice none 0 0, .slice none 0 0, .bool false] 41)) none := World.grownBy_alloc _ _ none
  have q0 := cellk k0 g68
  have q1 := cellk k1 g68
  have q2 := cellk k2 g68
  have q3 := cellk k3 g68
  have q4 := cellk k4 g68
  have q5 := cellk k5 g68
  have q6 := cellk k6 g68
  have q7 := cellk k7 g68
  have qm := cellk cm0 g68
  have q11 := cellk c6 g68
  have q60 := cellk c60 g68
  go_region
  clear q0 q1 q2 q3 q4 q5 q6 q7 qm q11 q60
  go_wp2_with fail
  clear g68
  have g68 : w6.grownBy (w6.alloc (.cells #[.int .i64 7, .int .i64 x.o.sp, .int .i64 x.o.sd, .bool false, .bool x.o.sf, .slice Ap 0 cp, .slice An x.o.ns.length cn, .bool x.o.fr] 41)).drew none := grownBy_trans (World.grownBy_alloc _ _ none) (gb_drew _ _)
  replace k0 := cellk k0 g68
  replace k1 := cellk k1 g68
  replace k2 := cellk k2 g68
  replace k3 := cellk k3 g68
  replace k4 := cellk k4 g68
  replace k5 := cellk k5 g68
  replace k6 := cellk k6 g68
  replace k7 := cellk k7 g68
  replace cm0 := cellk cm0 g68
  replace c6 := cellk c6 g68
  replace c60 := cellk c60 g68
  replace h10 := cellk h10 g68
  have HG8 := Lib.hid (grownBy_trans HG6.out g68)
  clear g68 h5 HR6 HBM6 HM16
  generalize hw8 : (w6.alloc (.cells #[.int .i64 7, .int .i64 x.o.sp, .int .i64 x.o.sd, .bool false, .bool x.o.sf, .slice Ap 0 cp, .slice An x.o.ns.length cn, .bool x.o.fr] 41)).drew = w8 at *
  clear hw8
  refine wp_loop_rounds 1 ?_
  rw [rounds_succ]
  go_wp2_with fail
  rw [rounds_succ]
  go_wp2_with (at_make; go_must (refine mk53 rfl _ _ rfl rfl 1 rfl (by omega) ?_); intro w9 hown9 hg9; have HO9 := Lib.hid hown9; have HG9 := Lib.hid hg9; have d6 := cellk c6 hg9; clear hown9 hg9)
  have hrn9 : Rd w9 An x.o.ns.length x.o.ns := (HR2.out.gb (grownBy_trans HG8.out HG9.out))
  have HND : Hid (Calls Try.prog 29 #[.agg #[.int .i64 7, .int .i64 x.o.sp, .int .i64 x.o.sd, .bool false, .bool x.o.sf, .slice Ap 0 cp, .slice An x.o.ns.length cn, .bool x.o.fr], .map (some w4.heap.size)] w9.drew (NodeP ⟨7, x.o.sp, x.o.sd, false, x.o.sf, [], x.o.ns, x.o.fr⟩ w9.drew)) := node_any ⟨7, x.o.sp, x.o.sd, false, x.o.sf, [], x.o.ns, x.o.fr⟩ Ap An cp cn w4.heap.size w9.drew (hrn9.gb (gb_drew _ none)) hns
  have sb : w9.cell? ⟨b, off, none⟩ = some (.int .i64 7) ∧ w9.cell? ⟨b, off + 1, none⟩ = some (.int .i64 x.o.sp) ∧ w9.cell? ⟨b, off + 2, none⟩ = some (.int .i64 x.o.sd) ∧ w9.cell? ⟨b, off + 3, none⟩ = some (.bool false) ∧ w9.cell? ⟨b, off + 4, none⟩ = some (.bool x.o.sf) ∧ w9.cell? ⟨b, off + 5, none⟩ = some (.slice Ap 0 cp) ∧ w9.cell? ⟨b, off + 6, none⟩ = some (.slice An x.o.ns.length cn) ∧ w9.cell? ⟨b, off + 7, none⟩ = some (.bool x.o.fr) ∧ w9.cell? ⟨w.heap.size, 0, none⟩ = some (.slice (some ⟨b, off, none⟩) 1 co) ∧ w9.cell? ⟨w4.heap.size + 1, 0, none⟩ = some (.map (some w4.heap.size)) := keep10g ⟨k0, k1, k2, k3, k4, k5, k6, k7, cm0, h10⟩ HG9.out
  have d60 := cellk c60 HG9.out
  have hG9 := Lib.hid (grownBy_trans HG8.out HG9.out)
  have hb8 : b < w8.heap.size := World.block_lt_of_cell? w8 _ k0
  have hN8 : w.heap.size < w8.heap.size := World.block_lt_of_cell? w8 _ cm0
  have h108 : w4.heap.size + 1 < w8.heap.size := World.block_lt_of_cell? w8 _ h10
  have hs9 : w8.heap.size < w9.heap.size := own_lt HO9.out rfl
  obtain ⟨i0, hi0, hz0, hz1, hz2⟩ := info_parts info68
  have HI := Lib.hid hi0; have HZ0 := Lib.hid hz0; have HZ1 := Lib.hid hz1; have HZ2 := Lib.hid hz2
  clear hi0 hz0 hz1 hz2 k0 k1 k2 k3 k4 k5 k6 k7 cm0 h10 hrn9 c6 c60
  refine wp_loop_rounds 2 ?_
  rw [rounds_succ]
  go_wp2_with fail
  go_region_held3 (fun w' => w'.cell? ⟨b, off, none⟩ = some (.int .i64 7) ∧ w'.cell? ⟨b, off + 1, none⟩ = some (.int .i64 x.o.sp) ∧ w'.cell? ⟨b, off + 2, none⟩ = some (.int .i64 x.o.sd) ∧ w'.cell? ⟨b, off + 3, none⟩ = some (.bool false) ∧ w'.cell? ⟨b, off + 4, none⟩ = some (.bool x.o.sf) ∧ w'.cell? ⟨b, off + 5, none⟩ = some (.slice Ap 0 cp) ∧ w'.cell? ⟨b, off + 6, none⟩ = some (.slice An x.o.ns.length cn) ∧ w'.cell? ⟨b, off + 7, none⟩ = some (.bool x.o.fr) ∧ w'.cell? ⟨w.heap.size, 0, none⟩ = some (.slice (some ⟨b, off, none⟩) 1 co) ∧ w'.cell? ⟨w4.heap.size + 1, 0, none⟩ = some (.map (some w4.heap.size)))
    (first | with_reducible exact sB | with_reducible exact keep10g sA (World.grownBy_alloc _ _ none) | with_reducible exact sA | with_reducible exact keep10g sb (gb_drew _ none))
    (first | (go_at_call 29; (with_reducible refine HND.out.mono ?_); rintro e wA ⟨A3, c3, rfl, hgA⟩; have sA := keep10g (keep10g sb (gb_drew _ none)) hgA) | (refine step_append_lies _ (by rfl) (.tmp 94) (.tmp 102) 53 (by rfl) 0 68 i0 (.agg #[.int .i64 0, .int .i64 0, .int .i64 0, .bool false, .bool false, .bool false, .slice none 0 0, .slice none 0 0]) 8 88 Try.underlying53 HI.out HZ0.out HZ1.out HZ2.out rfl (by decide) (.slice (some ⟨w8.heap.size, 0, none⟩) 0 1) 0 [] (by rfl) (own_gb0 (own_base HO9.out (Nat.zero_le _)) (grownBy_trans (grownBy_trans (gb_drew _ none) hgA) (World.grownBy_alloc _ _ none))) ⟨wA.heap.size, 0, none⟩ 1 1 [.int .i64 7, .int .i64 x.o.sp, .int .i64 x.o.sd, .bool false, .bool x.o.sf, .bool x.o.fr, .slice none 0 0, .slice A3 x.o.ns.length c3] (by rfl) rfl (World.news_of_block (heap_alloc_new wA (.cells #[.int .i64 7, .int .i64 x.o.sp, .int .i64 x.o.sd, .bool false, .bool x.o.sf, .bool x.o.fr, .slice none 0 0, .slice A3 x.o.ns.length c3] 68))) one_node (by omega) (by unfold maxLen; omega) (by omega) (by omega) (wA.heap.size + 1) (by simp) ?_; intro g cap wB hownB gB hatB hltB; have sB := keep10 (keep10g sA (World.grownBy_alloc _ _ none)) gB (by simp [Value.ownBlock]; omega) (by simp [Value.ownBlock]; omega) (by simp [Value.ownBlock]; omega) (by simp [Value.ownBlock]; omega) (by simp [Value.ownBlock]; omega) (by simp [Value.ownBlock]; omega) (by simp [Value.ownBlock]; omega) (by simp [Value.ownBlock]; omega) (by simp [Value.ownBlock]; omega) (by simp [Value.ownBlock]; omega)))
  have HGB2 : Hid (w9.grownBy wB (some w8.heap.size)) := grownBy_trans (gb_any (grownBy_trans (grownBy_trans (gb_drew _ none) hgA) (World.grownBy_alloc _ _ none))) gB
  clear gB hownB hatB hltB sA sB hgA d6 d60 sb
  go_wp2_with fail
  rw [rounds_succ]
  go_wp2_with fail
  go_ret
  exact ⟨⟨_, _, rfl⟩, gb_new HG8.out (grownBy_trans (gb_any HG9.out) HGB2.out) (fun g e => by cases e; exact HG8.out.size)⟩
end Go.Proofs.Yteieljkkcnpfmaa
