/-
  Do: alloc, final.
-/
import Derived.Test.YteieljkkcnpfmaaDo2
import Derived.BigRegion
import Derived.Laws.OwnMore
namespace Go.Proofs.Yteieljkkcnpfmaa
open Go.ChangeShapes Go.WideShapes Go.ChangeAt Go.RowKit
set_option linter.unusedVariables false

theorem made0 (n : Nat) : (madeCells #[.int .i64 0] n).toList = ints (List.replicate n 0) := by
  unfold madeCells ints
  apply List.ext_getElem
  · simp
  · intro k h1 h2
    simp at h1 h2 ⊢
    have : k % 1 = 0 := Nat.mod_one k
    simp [this]
/-- make([]int, c) as one step. -/
theorem mk39 {o : Oper} {a : Act} {w : World} {K : Act → World → Prop} {Q : Exit → Act → World → Prop} (x : Operand) (ho : o.op = .makeSlice 39 x x) (c : Nat) (hx : a.eval x = .int .i64 c) (hc : c ≤ 100)
    (h : ∀ w', w'.ownsRow w.heap.size 3 1 (.slice (some ⟨w.heap.size, 0, none⟩) c c) c (ints (List.replicate c 0)) → w.grownBy w' none → K (a.put o.dst (.slice (some ⟨w.heap.size, 0, none⟩) c c)) w') : o.wp Try.prog a w K Q := by
  obtain ⟨i0, hi0, hz0, hz1, hz2⟩ := info_parts info3
  obtain ⟨w', hr, hown, hg⟩ := run_makeSlice_full (P := Try.prog) w w.heap.size 39 3 i0 (.int .i64 0) 1 Try.underlying39 hi0 hz0 hz1 .i64 .i64 c (by omega) (by rw [hz2]; omega) (by unfold maxLen; omega) (Nat.le_refl _)
  unfold Oper.wp execOp
  simp only [ho, hx, Sem.run_bind, Sem.run_pure, Result.andThen_ok, hr, Oper.upon]
  refine h w' ?_ hg
  rw [show (madeCells (Value.int .i64 0).cells (c * 1)).toList = ints (List.replicate c 0) from by rw [Nat.mul_one]; exact made0 c] at hown
  exact hown

theorem keep7 {W W' : World} {B Bs D : Nat} {v0 v1 v2 v3 v4 v5 v6 : Value} (h : W.cell? ⟨B, 0, none⟩ = some v0 ∧ W.cell? ⟨Bs, 0, none⟩ = some v1 ∧ W.cell? ⟨Bs, 1, none⟩ = some v2 ∧ W.cell? ⟨Bs, 2, none⟩ = some v3 ∧ W.cell? ⟨Bs, 3, none⟩ = some v4 ∧ W.cell? ⟨D, 3, none⟩ = some v5 ∧ W.cell? ⟨D, 4, none⟩ = some v6) (g : W.grownBy W' none) : W'.cell? ⟨B, 0, none⟩ = some v0 ∧ W'.cell? ⟨Bs, 0, none⟩ = some v1 ∧ W'.cell? ⟨Bs, 1, none⟩ = some v2 ∧ W'.cell? ⟨Bs, 2, none⟩ = some v3 ∧ W'.cell? ⟨Bs, 3, none⟩ = some v4 ∧ W'.cell? ⟨D, 3, none⟩ = some v5 ∧ W'.cell? ⟨D, 4, none⟩ = some v6 := by
  obtain ⟨h0, h1, h2, h3, h4, h5, h6⟩ := h
  exact ⟨cellk h0 g, cellk h1 g, cellk h2 g, cellk h3 g, cellk h4 g, cellk h5 g, cellk h6 g⟩
theorem keep7z {W W' : World} {Z : Nat → Prop} {B Bs D : Nat} {v0 v1 v2 v3 v4 v5 v6 : Value} (h : W.cell? ⟨B, 0, none⟩ = some v0 ∧ W.cell? ⟨Bs, 0, none⟩ = some v1 ∧ W.cell? ⟨Bs, 1, none⟩ = some v2 ∧ W.cell? ⟨Bs, 2, none⟩ = some v3 ∧ W.cell? ⟨Bs, 3, none⟩ = some v4 ∧ W.cell? ⟨D, 3, none⟩ = some v5 ∧ W.cell? ⟨D, 4, none⟩ = some v6) (f : Zf Z W W') (z0 : ¬ Z B) (z1 : ¬ Z Bs) (z2 : ¬ Z D) : W'.cell? ⟨B, 0, none⟩ = some v0 ∧ W'.cell? ⟨Bs, 0, none⟩ = some v1 ∧ W'.cell? ⟨Bs, 1, none⟩ = some v2 ∧ W'.cell? ⟨Bs, 2, none⟩ = some v3 ∧ W'.cell? ⟨Bs, 3, none⟩ = some v4 ∧ W'.cell? ⟨D, 3, none⟩ = some v5 ∧ W'.cell? ⟨D, 4, none⟩ = some v6 := by
  obtain ⟨h0, h1, h2, h3, h4, h5, h6⟩ := h
  have key : ∀ (b j : Nat) (v : Value), ¬ Z b → W.cell? ⟨b, j, none⟩ = some v → W'.cell? ⟨b, j, none⟩ = some v := fun b j v hz hc => (World.cell?_of_block (a := ⟨b, j, none⟩) (f.block b (World.block_lt_of_cell? W _ hc) hz)).trans hc
  exact ⟨key _ _ _ z0 h0, key _ _ _ z1 h1, key _ _ _ z1 h2, key _ _ _ z1 h3, key _ _ _ z1 h4, key _ _ _ z2 h5, key _ _ _ z2 h6⟩

set_option maxRecDepth 100000 in
set_option maxHeartbeats 16000000 in
theorem do_alloc (Ao Aq : Option Addr) (co cq : Nat) (L : List Ov) (Q : List (Int × Int)) (r : Nat → Int) (k : Int) (a b : Nat) (i n fresh seen : Int) (w : World) (hL : RL w Ao L) (hQ : Rc w Aq Q.length 2 (its Q)) (hs : Sm L Q) (hk1 : 1 ≤ k) (hk2 : k ≤ 14) (ha : a < 6) (hb : b < 6) (hi : 0 ≤ i) (hr : RightD (dd k a b i n) (parts k)) (hf : flt (obs L) r k a b i fresh = 0) (hkk : 1 = k) (hi4 : i ≤ 4) (hn0 : 0 ≤ n) (hn4 : n ≤ 4) :
    Calls Try.prog 12 #[.agg #[.slice Ao L.length co, .slice Aq Q.length cq], .agg (rcs r), .agg #[.int .i64 k, .int .i64 a, .int .i64 b, .int .i64 i, .int .i64 n], .int .i64 fresh, .int .i64 seen] w (DoP w (obs L ++ [(⟨fresh, i, n, false, false, List.replicate i.toNat 0, List.replicate n.toNat 0, false⟩ : Ob)]) Q (upd r a fresh) fresh 0) := by
  obtain ⟨Post, hPost⟩ : ∃ Post, Post = (DoP w (obs L ++ [(⟨fresh, i, n, false, false, List.replicate i.toNat 0, List.replicate n.toNat 0, false⟩ : Ob)]) Q (upd r a fresh) fresh 0) := ⟨_, rfl⟩
  rw [← hPost]
  have HPost := Lib.hid hPost
  clear hPost
  obtain ⟨b1, b2, b3, b4, b5, hsz⟩ := bx5_blk w #[.slice Ao L.length co, .slice Aq Q.length cq] (rcs r) #[.int .i64 k, .int .i64 a, .int .i64 b, .int .i64 i, .int .i64 n]
  have hg := bx5_gb w #[.slice Ao L.length co, .slice Aq Q.length cq] (rcs r) #[.int .i64 k, .int .i64 a, .int .i64 b, .int .i64 i, .int .i64 n]
  have HRT := Lib.hid hr
  have HSM := Lib.hid hs
  have HL0 := Lib.hid (hL.gb hg)
  have HQ0 := Lib.hid (hQ.gb hg)
  have HG0 := Lib.hid hg
  obtain ⟨wb, hwb⟩ : ∃ wb, bx5 w #[.slice Ao L.length co, .slice Aq Q.length cq] (rcs r) #[.int .i64 k, .int .i64 a, .int .i64 b, .int .i64 i, .int .i64 n] = wb := ⟨_, rfl⟩
  rw [hwb] at b1 b2 b3 b4 b5 hsz HL0 HQ0 HG0
  have HWB := Lib.hid hwb
  have c0 : wb.cell? ⟨w.heap.size, 0, none⟩ = some (.slice Ao L.length co) := b1.cell 0
  have c1 : wb.cell? ⟨w.heap.size, 1, none⟩ = some (.slice Aq Q.length cq) := b1.cell 1
  have HB1 := Lib.hid b1; have HB2 := Lib.hid b2; have HB3 := Lib.hid b3; have HB4 := Lib.hid b4; have HB5 := Lib.hid b5
  have HSZ := Lib.hid hsz
  have hN : ∃ N, w.heap.size = N := ⟨_, rfl⟩
  clear hL hQ hs hr hg hwb b1 b2 b3 b4 b5 hsz
  unfold rcs
  go_enter Try.func12, Try.ntmps12
  go_upto_region 1 with (fail)
  change Code.wp _ _ _ _ (bx5 w #[.slice Ao L.length co, .slice Aq Q.length cq] (rcs r) #[.int .i64 k, .int .i64 a, .int .i64 b, .int .i64 i, .int .i64 n])
  rw [HWB.out]
  clear HWB
  go_wp2_with fail
  refine (ownModel_any Ao Aq co cq L Q wb HL0.out HQ0.out HSM.out).mono ?_
  rintro e w2 ⟨vo, vq, L', rfl, hobs, hom, hg2⟩
  obtain ⟨A1, c1', rfl, _, _, _⟩ := Rc.of_own hom.row
  obtain ⟨A2, c2', rfl, _, _, _⟩ := Rc.of_own hom.que
  have hw2 := hg2.size
  have HDB : Hid (Db w (w2.alloc (.cells #[.slice A1 L'.length c1', .slice A2 Q.length c2'] 29)) w.heap.size w2.heap.size r #[.int .i64 k, .int .i64 a, .int .i64 b, .int .i64 i, .int .i64 n] (.slice A1 L'.length c1') (.slice A2 Q.length c2') L' Q) := by
    have ga := World.grownBy_alloc w2 (.cells #[.slice A1 L'.length c1', .slice A2 Q.length c2'] 29) none
    have gb := grownBy_trans hg2 ga
    have hz : ∀ k, (wb.heap.size ≤ k ∧ k < w2.heap.size) → Z5 w.heap.size w2.heap.size k := fun k hk => ⟨by have := HSZ.out; omega, by omega⟩
    have hom2 := hom.gb ga
    exact ⟨HB2.out.gb gb (by simp), HB3.out.gb gb (by simp), HB4.out.gb gb (by simp), HB5.out.gb gb (by simp), Blk.new w2 29 _, ⟨hom2.row, hom2.que, hom2.os.wide hz, fun g e => hz g (hom.zo g e), fun g e => hz g (hom.zq g e)⟩, grownBy_trans HG0.out gb, rfl, by have := HSZ.out; omega⟩
  have HOBS := Lib.hid hobs
  have HGB := Lib.hid (grownBy_trans hg2 (World.grownBy_alloc w2 (.cells #[.slice A1 L'.length c1', .slice A2 Q.length c2'] 29) none))
  clear hobs hom hg2 c0 c1
  have HC0 : Hid (Blk (w2.alloc (.cells #[.slice A1 L'.length c1', .slice A2 Q.length c2'] 29)) w.heap.size 29 #[.slice Ao L.length co, .slice Aq Q.length cq]) := HB1.out.gb HGB.out (by simp)
  have d0 : (w2.alloc (.cells #[.slice A1 L'.length c1', .slice A2 Q.length c2'] 29)).cell? ⟨w.heap.size + 1 + 1, 0, none⟩ = some (.int .i64 k) := HDB.out.bd.cell 0
  have d1 : (w2.alloc (.cells #[.slice A1 L'.length c1', .slice A2 Q.length c2'] 29)).cell? ⟨w.heap.size + 1 + 1, 1, none⟩ = some (.int .i64 a) := HDB.out.bd.cell 1
  have d2 : (w2.alloc (.cells #[.slice A1 L'.length c1', .slice A2 Q.length c2'] 29)).cell? ⟨w.heap.size + 1 + 1, 2, none⟩ = some (.int .i64 b) := HDB.out.bd.cell 2
  have d3 : (w2.alloc (.cells #[.slice A1 L'.length c1', .slice A2 Q.length c2'] 29)).cell? ⟨w.heap.size + 1 + 1, 3, none⟩ = some (.int .i64 i) := HDB.out.bd.cell 3
  have d4 : (w2.alloc (.cells #[.slice A1 L'.length c1', .slice A2 Q.length c2'] 29)).cell? ⟨w.heap.size + 1 + 1, 4, none⟩ = some (.int .i64 n) := HDB.out.bd.cell 4
  go_wp2_with fail
  generalize w2.alloc (.cells #[.slice A1 L'.length c1', .slice A2 Q.length c2'] 29) = w3 at *
  generalize w2.heap.size = B at *
  refine (right_any (dd k a b i n) hk1 hk2 HRT.out w3).mono ?_
  rintro e w4 ⟨rfl, hg4⟩
  have HDB4 := Lib.hid (HDB.out.gb hg4)
  have HL4 := Lib.hid ((HL0.out.gb HGB.out).gb hg4)
  have q0 : w4.cell? ⟨w.heap.size, 0, none⟩ = some (.slice Ao L.length co) := (HC0.out.gb hg4 (by simp)).cell 0
  have q1 : w4.cell? ⟨w.heap.size, 1, none⟩ = some (.slice Aq Q.length cq) := (HC0.out.gb hg4 (by simp)).cell 1
  have r0 : w4.cell? ⟨w.heap.size + 1, 0, none⟩ = some (.int .i64 (r 0)) := HDB4.out.br.cell 0
  have r1 : w4.cell? ⟨w.heap.size + 1, 1, none⟩ = some (.int .i64 (r 1)) := HDB4.out.br.cell 1
  have r2 : w4.cell? ⟨w.heap.size + 1, 2, none⟩ = some (.int .i64 (r 2)) := HDB4.out.br.cell 2
  have r3 : w4.cell? ⟨w.heap.size + 1, 3, none⟩ = some (.int .i64 (r 3)) := HDB4.out.br.cell 3
  have r4 : w4.cell? ⟨w.heap.size + 1, 4, none⟩ = some (.int .i64 (r 4)) := HDB4.out.br.cell 4
  have r5 : w4.cell? ⟨w.heap.size + 1, 5, none⟩ = some (.int .i64 (r 5)) := HDB4.out.br.cell 5
  replace d0 := cellk d0 hg4
  replace d1 := cellk d1 hg4
  replace d2 := cellk d2 hg4
  replace d3 := cellk d3 hg4
  replace d4 := cellk d4 hg4
  clear hg4 HDB
  go_wp2_with fail
  refine (fault_any Ao Aq co cq Q.length L r k a b i n fresh w4 HL4.out hk1 hk2 ha hb hi).mono ?_
  rintro e w5 ⟨rfl, hg5⟩
  have HDB5 := Lib.hid (HDB4.out.gb hg5)
  replace d0 := cellk d0 hg5
  replace d1 := cellk d1 hg5
  replace d2 := cellk d2 hg5
  replace d3 := cellk d3 hg5
  replace d4 := cellk d4 hg5
  clear hg5 HDB4 q0 q1 r0 r1 r2 r3 r4 r5 HC0 HGB HL4 HSZ HL0 HQ0 HG0 HB1 HB2 HB3 HB4 HB5 HRT
  rw [hf]
  have ya : w5.cell? ⟨w.heap.size + 1, a, none⟩ = some (.int .i64 (r a)) := by rw [HDB5.out.br.cell]; exact rcs_get r a ha
  have yb : w5.cell? ⟨w.heap.size + 1, b, none⟩ = some (.int .i64 (r b)) := by rw [HDB5.out.br.cell]; exact rcs_get r b hb
  have ha0 : (0 : Int) ≤ (a : Int) := by omega
  have hb0 : (0 : Int) ≤ (b : Int) := by omega
  have ha1 : (a : Int) < 6 := by omega
  have hb1 : (b : Int) < 6 := by omega
  go_wp2_with fail
  go_quiet (fail)
  have HDB6 := Lib.hid (HDB5.out.gb (gb_drewN w5 nq none))
  replace d0 := cellk d0 (gb_drewN w5 nq none)
  replace d1 := cellk d1 (gb_drewN w5 nq none)
  replace d2 := cellk d2 (gb_drewN w5 nq none)
  replace d3 := cellk d3 (gb_drewN w5 nq none)
  replace d4 := cellk d4 (gb_drewN w5 nq none)
  clear HDB5 ya yb
  generalize w5.drewN nq = w6 at *
  subst hkk
  rw [← HOBS.out] at HPost
  obtain ⟨iN, rfl⟩ : ∃ t : Nat, i = t := ⟨i.toNat, by omega⟩
  obtain ⟨nN, rfl⟩ : ∃ t : Nat, n = t := ⟨n.toNat, by omega⟩
  rw [Int.toNat_natCast, Int.toNat_natCast] at HPost
  have hi4 : iN ≤ 4 := by omega
  have hn4 : nN ≤ 4 := by omega
  go_wp2_with fail
  have HG7 : Hid (w6.grownBy (w6.alloc (.cells #[.int .i64 iN, .int .i64 nN, .bool false, .bool false] 38)) none) := World.grownBy_alloc _ _ none
  have bs : Blk (w6.alloc (.cells #[.int .i64 iN, .int .i64 nN, .bool false, .bool false] 38)) w6.heap.size 38 #[.int .i64 iN, .int .i64 nN, .bool false, .bool false] := Blk.new w6 38 _
  have HDB7 := Lib.hid (HDB6.out.gb HG7.out)
  generalize w6.alloc (.cells #[.int .i64 iN, .int .i64 nN, .bool false, .bool false] 38) = w7 at *
  generalize w6.heap.size = Bs at *
  have s0 : w7.cell? ⟨Bs, 0, none⟩ = some (.int .i64 iN) := bs.cell 0
  have s1 : w7.cell? ⟨Bs, 1, none⟩ = some (.int .i64 nN) := bs.cell 1
  have s2 : w7.cell? ⟨Bs, 2, none⟩ = some (.bool false) := bs.cell 2
  have s3 : w7.cell? ⟨Bs, 3, none⟩ = some (.bool false) := bs.cell 3
  have y0 : w7.cell? ⟨B, 0, none⟩ = some (Value.slice A1 L'.length c1') := HDB7.out.bx.cell 0
  have e3 := cellk d3 HG7.out
  have e4 := cellk d4 HG7.out
  have HBS : Hid (Blk w7.drew Bs 38 #[.int .i64 iN, .int .i64 nN, .bool false, .bool false]) := bs.gb (gb_drew _ none) (by simp)
  clear d0 d1 d2 d3 d4 HDB6 bs
  obtain ⟨i0, hi0, hz0, hz1, hz2⟩ := info_parts info41
  have HI := Lib.hid hi0; have HZ0 := Lib.hid hz0; have HZ1 := Lib.hid hz1; have HZ2 := Lib.hid hz2
  clear hi0 hz0 hz1 hz2
  have HDBd := Lib.hid (HDB7.out.gb (gb_drew w7 none))
  have hlL : L'.length ≤ 100 := by have h1 := congrArg List.length HOBS.out; have h2 := HSM.out.1; simp [obs] at h1; omega
  have hBlt := HDBd.out.hB
  refine wp_region_noPanic ?_
  have hS : (fun w' : World => w'.cell? ⟨B, 0, none⟩ = some (Value.slice A1 L'.length c1') ∧ w'.cell? ⟨Bs, 0, none⟩ = some (.int .i64 iN) ∧ w'.cell? ⟨Bs, 1, none⟩ = some (.int .i64 nN) ∧ w'.cell? ⟨Bs, 2, none⟩ = some (.bool false) ∧ w'.cell? ⟨Bs, 3, none⟩ = some (.bool false) ∧ w'.cell? ⟨w.heap.size + 1 + 1, 3, none⟩ = some (.int .i64 iN) ∧ w'.cell? ⟨w.heap.size + 1 + 1, 4, none⟩ = some (.int .i64 nN)) w7.drew := ⟨y0, s0, s1, s2, s3, e3, e4⟩
  refine Tl.begin (S := fun w' => w'.cell? ⟨B, 0, none⟩ = some (Value.slice A1 L'.length c1') ∧ w'.cell? ⟨Bs, 0, none⟩ = some (.int .i64 iN) ∧ w'.cell? ⟨Bs, 1, none⟩ = some (.int .i64 nN) ∧ w'.cell? ⟨Bs, 2, none⟩ = some (.bool false) ∧ w'.cell? ⟨Bs, 3, none⟩ = some (.bool false) ∧ w'.cell? ⟨w.heap.size + 1 + 1, 3, none⟩ = some (.int .i64 iN) ∧ w'.cell? ⟨w.heap.size + 1 + 1, 4, none⟩ = some (.int .i64 nN)) (m := 14) (by kernel_rfl) ?_
  refine Tl.take (i := 0) (oi := ⟨some 59, _, _, _, _, _⟩) (v := .pointer (some ⟨B, 0, none⟩)) rfl (by kernel_rfl) (by kernel_rfl) (by kernel_rfl) (by kernel_rfl) (fun _ _ _ h => h) (Or.inl ⟨by rfl, ?_⟩) hS ?_
  · intro w' hSw
    obtain ⟨j0, j1, j2, j3, j4, j5, j6⟩ := hSw
    go_simp
  simp only [Act.put, List.setIfInBounds_toArray, List.set_cons_zero, List.set_cons_succ]
  refine Tl.take (i := 1) (oi := ⟨some 60, _, _, _, _, _⟩) (v := Value.slice A1 L'.length c1') rfl (by kernel_rfl) (by kernel_rfl) (by kernel_rfl) (by kernel_rfl) (fun _ _ _ h => h) (Or.inl ⟨by rfl, ?_⟩) hS ?_
  · intro w' hSw
    obtain ⟨j0, j1, j2, j3, j4, j5, j6⟩ := hSw
    go_simp
  simp only [Act.put, List.setIfInBounds_toArray, List.set_cons_zero, List.set_cons_succ]
  refine Tl.take (i := 2) (oi := ⟨some 61, _, _, _, _, _⟩) (v := .int .i64 fresh) rfl (by kernel_rfl) (by kernel_rfl) (by kernel_rfl) (by kernel_rfl) (fun _ _ _ h => h) (Or.inl ⟨by rfl, ?_⟩) hS ?_
  · intro w' hSw
    obtain ⟨j0, j1, j2, j3, j4, j5, j6⟩ := hSw
    go_simp
  simp only [Act.put, List.setIfInBounds_toArray, List.set_cons_zero, List.set_cons_succ]
  refine Tl.take (i := 3) (oi := ⟨some 62, _, _, _, _, _⟩) (v := .agg #[.int .i64 iN, .int .i64 nN, .bool false, .bool false]) rfl (by kernel_rfl) (by kernel_rfl) (by kernel_rfl) (by kernel_rfl) (fun _ _ _ h => h) (Or.inl ⟨by rfl, ?_⟩) hS ?_
  · intro w' hSw
    obtain ⟨j0, j1, j2, j3, j4, j5, j6⟩ := hSw
    go_simp
  simp only [Act.put, List.setIfInBounds_toArray, List.set_cons_zero, List.set_cons_succ]
  refine Tl.take (i := 4) (oi := ⟨some 63, _, _, _, _, _⟩) (v := .pointer (some ⟨w.heap.size + 1 + 1, 3, none⟩)) rfl (by kernel_rfl) (by kernel_rfl) (by kernel_rfl) (by kernel_rfl) (fun _ _ _ h => h) (Or.inl ⟨by rfl, ?_⟩) hS ?_
  · intro w' hSw
    obtain ⟨j0, j1, j2, j3, j4, j5, j6⟩ := hSw
    go_simp
  simp only [Act.put, List.setIfInBounds_toArray, List.set_cons_zero, List.set_cons_succ]
  refine Tl.take (i := 5) (oi := ⟨some 64, _, _, _, _, _⟩) (v := .int .i64 iN) rfl (by kernel_rfl) (by kernel_rfl) (by kernel_rfl) (by kernel_rfl) (fun _ _ _ h => h) (Or.inl ⟨by rfl, ?_⟩) hS ?_
  · intro w' hSw
    obtain ⟨j0, j1, j2, j3, j4, j5, j6⟩ := hSw
    go_simp
  simp only [Act.put, List.setIfInBounds_toArray, List.set_cons_zero, List.set_cons_succ]
  refine Tl.take (i := 7) (oi := ⟨some 66, _, _, _, _, _⟩) (v := .pointer (some ⟨w.heap.size + 1 + 1, 4, none⟩)) rfl (by kernel_rfl) (by kernel_rfl) (by kernel_rfl) (by kernel_rfl) (fun _ _ _ h => h) (Or.inl ⟨by rfl, ?_⟩) hS ?_
  · intro w' hSw
    obtain ⟨j0, j1, j2, j3, j4, j5, j6⟩ := hSw
    go_simp
  simp only [Act.put, List.setIfInBounds_toArray, List.set_cons_zero, List.set_cons_succ]
  refine Tl.take (i := 8) (oi := ⟨some 67, _, _, _, _, _⟩) (v := .int .i64 nN) rfl (by kernel_rfl) (by kernel_rfl) (by kernel_rfl) (by kernel_rfl) (fun _ _ _ h => h) (Or.inl ⟨by rfl, ?_⟩) hS ?_
  · intro w' hSw
    obtain ⟨j0, j1, j2, j3, j4, j5, j6⟩ := hSw
    go_simp
  simp only [Act.put, List.setIfInBounds_toArray, List.set_cons_zero, List.set_cons_succ]
  refine Tl.two (i := 6) (j := 9) (o := ⟨some 65, _, _, _, _, _⟩) (p := ⟨some 68, _, _, _, _, _⟩) (by kernel_rfl) rfl rfl rfl rfl (fun K hK => ?_) (fun K hK => ?_)
  · refine mk39 (.tmp 64) rfl iN rfl (by omega) ?_
    intro wA hoA hgA
    have hSA := keep7 hS hgA
    refine hK.out _ _ (fun _ => hSA) ?_
    simp only [Act.put, List.setIfInBounds_toArray, List.set_cons_zero, List.set_cons_succ]
    refine Tl.one (i := 9) (o := ⟨some 68, _, _, _, _, _⟩) (by kernel_rfl) rfl rfl (fun K2 hK2 => ?_)
    refine mk39 (.tmp 67) rfl nN rfl (by omega) ?_
    intro wB hoB hgB
    have hSB := keep7 hSA hgB
    have hne : w7.drew.heap.size ≠ wA.heap.size := by have := own_lt (g := w7.drew.heap.size) hoA rfl; omega
    have hszA : w7.drew.heap.size ≤ wA.heap.size := hgA.size
    have hoA' := own_gb0 hoA hgB
    generalize hbA : w7.drew.heap.size = bA at *
    generalize hbB : wA.heap.size = bB at *
    have HbA := Lib.hid hbA
    have HbB := Lib.hid hbB
    clear hbA hbB
    refine hK2.out _ _ (fun _ => hSB) ?_
    simp only [Act.put, List.setIfInBounds_toArray, List.set_cons_zero, List.set_cons_succ]
    refine Tl.take (i := 10) (oi := ⟨some 69, _, _, _, _, _⟩) (v := .agg #[.int .i64 fresh, .int .i64 iN, .int .i64 nN, .bool false, .bool false, (Value.slice (some ⟨bA, 0, none⟩) iN iN), (Value.slice (some ⟨bB, 0, none⟩) nN nN), .bool false]) rfl (by kernel_rfl) (by kernel_rfl) (by kernel_rfl) (by kernel_rfl) (fun _ _ _ h => h) (Or.inl ⟨by rfl, ?_⟩) hSB ?_
    · intro w' hSw
      clear hSw
      go_simp
    simp only [Act.put, List.setIfInBounds_toArray, List.set_cons_zero, List.set_cons_succ]
    have hgW : w7.drew.grownBy (wB.alloc (.cells #[.int .i64 fresh, .int .i64 iN, .int .i64 nN, .bool false, .bool false, (Value.slice (some ⟨bA, 0, none⟩) iN iN), (Value.slice (some ⟨bB, 0, none⟩) nN nN), .bool false] 41)) none := grownBy_trans (grownBy_trans hgA hgB) (World.grownBy_alloc _ _ none)
    have hSW := keep7 hSB (World.grownBy_alloc wB (.cells #[.int .i64 fresh, .int .i64 iN, .int .i64 nN, .bool false, .bool false, (Value.slice (some ⟨bA, 0, none⟩) iN iN), (Value.slice (some ⟨bB, 0, none⟩) nN nN), .bool false] 41) none)
    refine Tl.one (i := 11) (o := ⟨some 70, _, _, _, _, _⟩) (by kernel_rfl) rfl rfl (fun K3 hK3 => ?_)
    go_simp
    refine hK3.out _ _ (fun _ => hSW) ?_
    have hbe : Blk (wB.alloc (.cells #[.int .i64 fresh, .int .i64 iN, .int .i64 nN, .bool false, .bool false, (Value.slice (some ⟨bA, 0, none⟩) iN iN), (Value.slice (some ⟨bB, 0, none⟩) nN nN), .bool false] 41)) wB.heap.size 41 (ov ⟨(⟨fresh, iN, nN, false, false, List.replicate iN 0, List.replicate nN 0, false⟩ : Ob), (Value.slice (some ⟨bA, 0, none⟩) iN iN), (Value.slice (some ⟨bB, 0, none⟩) nN nN)⟩).toArray := Blk.new wB 41 _
    have HP : Hid ((wB.alloc (.cells #[.int .i64 fresh, .int .i64 iN, .int .i64 nN, .bool false, .bool false, (Value.slice (some ⟨bA, 0, none⟩) iN iN), (Value.slice (some ⟨bB, 0, none⟩) nN nN), .bool false] 41)).ownsRow w7.drew.heap.size 3 1 (Value.slice (some ⟨bA, 0, none⟩) iN iN) (List.replicate iN (0 : Int)).length (ints (List.replicate iN 0))) := by
      unfold Hid; rw [List.length_replicate]; exact own_gb0 (own_base hoA' (by rw [HbA.out]; omega)) (World.grownBy_alloc _ _ none)
    have HN : Hid ((wB.alloc (.cells #[.int .i64 fresh, .int .i64 iN, .int .i64 nN, .bool false, .bool false, (Value.slice (some ⟨bA, 0, none⟩) iN iN), (Value.slice (some ⟨bB, 0, none⟩) nN nN), .bool false] 41)).ownsRow w7.drew.heap.size 3 1 (Value.slice (some ⟨bB, 0, none⟩) nN nN) (List.replicate nN (0 : Int)).length (ints (List.replicate nN 0))) := by
      unfold Hid; rw [List.length_replicate]; exact own_gb0 (own_base hoB (by rw [HbA.out]; omega)) (World.grownBy_alloc _ _ none)
    have HROW := Lib.hid (own_gb0 HDBd.out.om.row hgW)
    have HCE := Lib.hid (cells_of_blk hbe)
    have HGW := Lib.hid hgW
    have HSZW : Hid ((wB.alloc (.cells #[.int .i64 fresh, .int .i64 iN, .int .i64 nN, .bool false, .bool false, (Value.slice (some ⟨bA, 0, none⟩) iN iN), (Value.slice (some ⟨bB, 0, none⟩) nN nN), .bool false] 41)).heap.size = wB.heap.size + 1) := by unfold Hid; simp
    refine Tl.one (i := 12) (o := ⟨some 71, _, _, _, _, _⟩) (by kernel_rfl) rfl rfl (fun K4 hK4 => ?_)
    refine wp_append_lies (wB.alloc (.cells #[.int .i64 fresh, .int .i64 iN, .int .i64 nN, .bool false, .bool false, (Value.slice (some ⟨bA, 0, none⟩) iN iN), (Value.slice (some ⟨bB, 0, none⟩) nN nN), .bool false] 41)) (.tmp 60) (.tmp 70) 22 rfl 0 41 i0 (.agg #[.int .i64 0, .int .i64 0, .int .i64 0, .bool false, .bool false, .slice none 0 0, .slice none 0 0, .bool false]) 8 88 Try.underlying22 HI.out HZ0.out HZ1.out HZ2.out rfl (by decide) (Value.slice A1 L'.length c1') L'.length (ovs L') rfl HROW.out ⟨wB.heap.size, 0, none⟩ 1 1 (ov ⟨(⟨fresh, iN, nN, false, false, List.replicate iN 0, List.replicate nN 0, false⟩ : Ob), (Value.slice (some ⟨bA, 0, none⟩) iN iN), (Value.slice (some ⟨bB, 0, none⟩) nN nN)⟩) rfl rfl HCE.out one_ov (by omega) (by unfold maxLen; omega) (by omega) (by omega) (wB.heap.size + 1) HSZW.out ?_
    intro g cap w8 hown8 g8 hat8 hlt8
    have hZ8 : Zf (fun q => (Value.slice A1 L'.length c1').ownBlock = some q) (wB.alloc (.cells #[.int .i64 fresh, .int .i64 iN, .int .i64 nN, .bool false, .bool false, (Value.slice (some ⟨bA, 0, none⟩) iN iN), (Value.slice (some ⟨bB, 0, none⟩) nN nN), .bool false] 41)) w8 := Zf.of_gb g8 (fun q e => e)
    have hbx8 := (HDBd.out.gb HGW.out).bx.zf hZ8 (fun e => (HDBd.out.om.zo B e).2 rfl)
    have hS8 := keep7z hSW hZ8 (fun e => (HDBd.out.om.zo B e).2 rfl) (fun e => own_ne HROW.out (HBS.out.gb hgW (by simp)) (by decide) e) (fun e => by have := HDBd.out.om.zo _ e; unfold Z5 at this; omega)
    have HDB8 := Lib.hid (HDBd.out.app HGW.out HP.out HN.out (fun q e q2 => by
      have e1 : bA = q := by simpa [Value.ownBlock] using e
      have e2 : bB = q := by simpa [Value.ownBlock] using q2
      exact hne (e1.trans e2.symm)) hown8 g8 hat8 (by have := HGW.out.size; have := HSZW.out; omega))
    have c8 : w8.cell? ⟨B, 0, none⟩ = some (Value.slice A1 L'.length c1') := hbx8.cell 0
    have f8 := hbx8.free 0
    refine hK4.out _ _ (fun _ => hS8) ?_
    simp only [Act.put, List.setIfInBounds_toArray, List.set_cons_zero, List.set_cons_succ]
    refine Tl.take (i := 13) (oi := ⟨some 72, _, _, _, _, _⟩) (v := .pointer (some ⟨B, 0, none⟩)) rfl (by kernel_rfl) (by kernel_rfl) (by kernel_rfl) (by kernel_rfl) (fun _ _ _ h => h) (Or.inl ⟨by rfl, ?_⟩) hS8 ?_
    · intro w' hSw
      clear hSw
      go_simp
    simp only [Act.put, List.setIfInBounds_toArray, List.set_cons_zero, List.set_cons_succ]
    clear hSA hSB hSW hS8 hS hoA hoA' hoB hgA hgB hgW hbe hown8 g8 hat8 hlt8 hZ8 hbx8 y0 s0 s1 s2 s3 e3 e4
    refine Tl.one (i := 14) (o := ⟨none, _, _, _, _, _⟩) (by kernel_rfl) rfl rfl (fun K5 hK5 => ?_)
    go_simp
    refine hK5.out _ _ (fun h => absurd rfl h) ?_
    refine Tl.done (by kernel_rfl) ?_ _
    refine NoPanic.normal ?_
    have e1 : (w8.setCell ⟨B, 0, none⟩ (.slice (some ⟨g, 0, none⟩) (L'.length + 1) cap)).cell? ⟨w.heap.size + 1 + 1, 1, none⟩ = some (.int .i64 a) := HDB8.out.bd.cell 1
    have fa := HDB8.out.br.free a
    have ca : (w8.setCell ⟨B, 0, none⟩ (.slice (some ⟨g, 0, none⟩) (L'.length + 1) cap)).cell? ⟨w.heap.size + 1, a, none⟩ = some (.int .i64 (r a)) := by rw [HDB8.out.br.cell]; exact rcs_get r a ha
    have HDB9 := Lib.hid (HDB8.out.reg a ha fresh)
    rw [show obs L' ++ [(⟨fresh, iN, nN, false, false, List.replicate iN 0, List.replicate nN 0, false⟩ : Ob)] = obs (L' ++ [⟨(⟨fresh, iN, nN, false, false, List.replicate iN 0, List.replicate nN 0, false⟩ : Ob), (Value.slice (some ⟨bA, 0, none⟩) iN iN), (Value.slice (some ⟨bB, 0, none⟩) nN nN)⟩]) from by simp [obs]] at HPost
    go_wp2_with fail
    generalize (w8.setCell ⟨B, 0, none⟩ (.slice (some ⟨g, 0, none⟩) (L'.length + 1) cap)).setCell ⟨w.heap.size + 1, a, none⟩ (.int .i64 fresh) = w9 at *
    generalize upd r a fresh = r' at *
    have x0 : w9.cell? ⟨B, 0, none⟩ = some (Value.slice (some ⟨g, 0, none⟩) (L'.length + 1) cap) := HDB9.out.bx.cell 0
    have x1 : w9.cell? ⟨B, 1, none⟩ = some (Value.slice A2 Q.length c2') := HDB9.out.bx.cell 1
    have y0 : w9.cell? ⟨w.heap.size + 1, 0, none⟩ = some (.int .i64 (r' 0)) := HDB9.out.br.cell 0
    have y1 : w9.cell? ⟨w.heap.size + 1, 1, none⟩ = some (.int .i64 (r' 1)) := HDB9.out.br.cell 1
    have y2 : w9.cell? ⟨w.heap.size + 1, 2, none⟩ = some (.int .i64 (r' 2)) := HDB9.out.br.cell 2
    have y3 : w9.cell? ⟨w.heap.size + 1, 3, none⟩ = some (.int .i64 (r' 3)) := HDB9.out.br.cell 3
    have y4 : w9.cell? ⟨w.heap.size + 1, 4, none⟩ = some (.int .i64 (r' 4)) := HDB9.out.br.cell 4
    have y5 : w9.cell? ⟨w.heap.size + 1, 5, none⟩ = some (.int .i64 (r' 5)) := HDB9.out.br.cell 5
    have s0 : w9.cell? ⟨w.heap.size + 1 + 1 + 1, 0, none⟩ = some (.slice none 0 0) := HDB9.out.rm.cell 0
    have sf0 := HDB9.out.rm.free 0
    have s1 : w9.cell? ⟨w.heap.size + 1 + 1 + 1, 1, none⟩ = some (.slice none 0 0) := HDB9.out.rm.cell 1
    have sf1 := HDB9.out.rm.free 1
    have u0 : w9.cell? ⟨w.heap.size + 1 + 1 + 1 + 1, 0, none⟩ = some (.int .i64 0) := HDB9.out.rr.cell 0
    have uf0 := HDB9.out.rr.free 0
    have u1 : w9.cell? ⟨w.heap.size + 1 + 1 + 1 + 1, 1, none⟩ = some (.int .i64 0) := HDB9.out.rr.cell 1
    have uf1 := HDB9.out.rr.free 1
    have u2 : w9.cell? ⟨w.heap.size + 1 + 1 + 1 + 1, 2, none⟩ = some (.int .i64 0) := HDB9.out.rr.cell 2
    have uf2 := HDB9.out.rr.free 2
    have u3 : w9.cell? ⟨w.heap.size + 1 + 1 + 1 + 1, 3, none⟩ = some (.int .i64 0) := HDB9.out.rr.cell 3
    have uf3 := HDB9.out.rr.free 3
    have u4 : w9.cell? ⟨w.heap.size + 1 + 1 + 1 + 1, 4, none⟩ = some (.int .i64 0) := HDB9.out.rr.cell 4
    have uf4 := HDB9.out.rr.free 4
    have u5 : w9.cell? ⟨w.heap.size + 1 + 1 + 1 + 1, 5, none⟩ = some (.int .i64 0) := HDB9.out.rr.cell 5
    have uf5 := HDB9.out.rr.free 5
    go_region
    go_wp2_with fail
    rw [HPost.out]
    refine bodyPost_ret (v := .tuple #[.agg #[Value.slice (some ⟨g, 0, none⟩) (L'.length + 1) cap, Value.slice A2 Q.length c2'], .agg (rcs (r')), .int .i64 (fresh), .int .i64 (0)]) (by simp [results, Try.results12, go_sem, rcs, s0, s1, u0, u1, u2, u3, u4, u5]) rfl (HDB9.out.fin (fresh) (0) ?_)
    exact (((((((((Zf.refl _ _).set (.inl rfl)).set (.inl rfl)).set (.inr rfl)).set (.inr rfl)).set (.inr rfl)).set (.inr rfl)).set (.inr rfl)).set (.inr rfl)).later (gb_drew _ none)
  · refine mk39 (.tmp 67) rfl nN rfl (by omega) ?_
    intro wA hoA hgA
    have hSA := keep7 hS hgA
    refine hK.out _ _ (fun _ => hSA) ?_
    simp only [Act.put, List.setIfInBounds_toArray, List.set_cons_zero, List.set_cons_succ]
    refine Tl.one (i := 6) (o := ⟨some 65, _, _, _, _, _⟩) (by kernel_rfl) rfl rfl (fun K2 hK2 => ?_)
    refine mk39 (.tmp 64) rfl iN rfl (by omega) ?_
    intro wB hoB hgB
    have hSB := keep7 hSA hgB
    have hne : w7.drew.heap.size ≠ wA.heap.size := by have := own_lt (g := w7.drew.heap.size) hoA rfl; omega
    have hszA : w7.drew.heap.size ≤ wA.heap.size := hgA.size
    have hoA' := own_gb0 hoA hgB
    generalize hbA : w7.drew.heap.size = bA at *
    generalize hbB : wA.heap.size = bB at *
    have HbA := Lib.hid hbA
    have HbB := Lib.hid hbB
    clear hbA hbB
    refine hK2.out _ _ (fun _ => hSB) ?_
    simp only [Act.put, List.setIfInBounds_toArray, List.set_cons_zero, List.set_cons_succ]
    refine Tl.take (i := 10) (oi := ⟨some 69, _, _, _, _, _⟩) (v := .agg #[.int .i64 fresh, .int .i64 iN, .int .i64 nN, .bool false, .bool false, (Value.slice (some ⟨bB, 0, none⟩) iN iN), (Value.slice (some ⟨bA, 0, none⟩) nN nN), .bool false]) rfl (by kernel_rfl) (by kernel_rfl) (by kernel_rfl) (by kernel_rfl) (fun _ _ _ h => h) (Or.inl ⟨by rfl, ?_⟩) hSB ?_
    · intro w' hSw
      clear hSw
      go_simp
    simp only [Act.put, List.setIfInBounds_toArray, List.set_cons_zero, List.set_cons_succ]
    have hgW : w7.drew.grownBy (wB.alloc (.cells #[.int .i64 fresh, .int .i64 iN, .int .i64 nN, .bool false, .bool false, (Value.slice (some ⟨bB, 0, none⟩) iN iN), (Value.slice (some ⟨bA, 0, none⟩) nN nN), .bool false] 41)) none := grownBy_trans (grownBy_trans hgA hgB) (World.grownBy_alloc _ _ none)
    have hSW := keep7 hSB (World.grownBy_alloc wB (.cells #[.int .i64 fresh, .int .i64 iN, .int .i64 nN, .bool false, .bool false, (Value.slice (some ⟨bB, 0, none⟩) iN iN), (Value.slice (some ⟨bA, 0, none⟩) nN nN), .bool false] 41) none)
    refine Tl.one (i := 11) (o := ⟨some 70, _, _, _, _, _⟩) (by kernel_rfl) rfl rfl (fun K3 hK3 => ?_)
    go_simp
    refine hK3.out _ _ (fun _ => hSW) ?_
    have hbe : Blk (wB.alloc (.cells #[.int .i64 fresh, .int .i64 iN, .int .i64 nN, .bool false, .bool false, (Value.slice (some ⟨bB, 0, none⟩) iN iN), (Value.slice (some ⟨bA, 0, none⟩) nN nN), .bool false] 41)) wB.heap.size 41 (ov ⟨(⟨fresh, iN, nN, false, false, List.replicate iN 0, List.replicate nN 0, false⟩ : Ob), (Value.slice (some ⟨bB, 0, none⟩) iN iN), (Value.slice (some ⟨bA, 0, none⟩) nN nN)⟩).toArray := Blk.new wB 41 _
    have HP : Hid ((wB.alloc (.cells #[.int .i64 fresh, .int .i64 iN, .int .i64 nN, .bool false, .bool false, (Value.slice (some ⟨bB, 0, none⟩) iN iN), (Value.slice (some ⟨bA, 0, none⟩) nN nN), .bool false] 41)).ownsRow w7.drew.heap.size 3 1 (Value.slice (some ⟨bB, 0, none⟩) iN iN) (List.replicate iN (0 : Int)).length (ints (List.replicate iN 0))) := by
      unfold Hid; rw [List.length_replicate]; exact own_gb0 (own_base hoB (by rw [HbA.out]; omega)) (World.grownBy_alloc _ _ none)
    have HN : Hid ((wB.alloc (.cells #[.int .i64 fresh, .int .i64 iN, .int .i64 nN, .bool false, .bool false, (Value.slice (some ⟨bB, 0, none⟩) iN iN), (Value.slice (some ⟨bA, 0, none⟩) nN nN), .bool false] 41)).ownsRow w7.drew.heap.size 3 1 (Value.slice (some ⟨bA, 0, none⟩) nN nN) (List.replicate nN (0 : Int)).length (ints (List.replicate nN 0))) := by
      unfold Hid; rw [List.length_replicate]; exact own_gb0 (own_base hoA' (by rw [HbA.out]; omega)) (World.grownBy_alloc _ _ none)
    have HROW := Lib.hid (own_gb0 HDBd.out.om.row hgW)
    have HCE := Lib.hid (cells_of_blk hbe)
    have HGW := Lib.hid hgW
    have HSZW : Hid ((wB.alloc (.cells #[.int .i64 fresh, .int .i64 iN, .int .i64 nN, .bool false, .bool false, (Value.slice (some ⟨bB, 0, none⟩) iN iN), (Value.slice (some ⟨bA, 0, none⟩) nN nN), .bool false] 41)).heap.size = wB.heap.size + 1) := by unfold Hid; simp
    refine Tl.one (i := 12) (o := ⟨some 71, _, _, _, _, _⟩) (by kernel_rfl) rfl rfl (fun K4 hK4 => ?_)
    refine wp_append_lies (wB.alloc (.cells #[.int .i64 fresh, .int .i64 iN, .int .i64 nN, .bool false, .bool false, (Value.slice (some ⟨bB, 0, none⟩) iN iN), (Value.slice (some ⟨bA, 0, none⟩) nN nN), .bool false] 41)) (.tmp 60) (.tmp 70) 22 rfl 0 41 i0 (.agg #[.int .i64 0, .int .i64 0, .int .i64 0, .bool false, .bool false, .slice none 0 0, .slice none 0 0, .bool false]) 8 88 Try.underlying22 HI.out HZ0.out HZ1.out HZ2.out rfl (by decide) (Value.slice A1 L'.length c1') L'.length (ovs L') rfl HROW.out ⟨wB.heap.size, 0, none⟩ 1 1 (ov ⟨(⟨fresh, iN, nN, false, false, List.replicate iN 0, List.replicate nN 0, false⟩ : Ob), (Value.slice (some ⟨bB, 0, none⟩) iN iN), (Value.slice (some ⟨bA, 0, none⟩) nN nN)⟩) rfl rfl HCE.out one_ov (by omega) (by unfold maxLen; omega) (by omega) (by omega) (wB.heap.size + 1) HSZW.out ?_
    intro g cap w8 hown8 g8 hat8 hlt8
    have hZ8 : Zf (fun q => (Value.slice A1 L'.length c1').ownBlock = some q) (wB.alloc (.cells #[.int .i64 fresh, .int .i64 iN, .int .i64 nN, .bool false, .bool false, (Value.slice (some ⟨bB, 0, none⟩) iN iN), (Value.slice (some ⟨bA, 0, none⟩) nN nN), .bool false] 41)) w8 := Zf.of_gb g8 (fun q e => e)
    have hbx8 := (HDBd.out.gb HGW.out).bx.zf hZ8 (fun e => (HDBd.out.om.zo B e).2 rfl)
    have hS8 := keep7z hSW hZ8 (fun e => (HDBd.out.om.zo B e).2 rfl) (fun e => own_ne HROW.out (HBS.out.gb hgW (by simp)) (by decide) e) (fun e => by have := HDBd.out.om.zo _ e; unfold Z5 at this; omega)
    have HDB8 := Lib.hid (HDBd.out.app HGW.out HP.out HN.out (fun q e q2 => by
      have e1 : bB = q := by simpa [Value.ownBlock] using e
      have e2 : bA = q := by simpa [Value.ownBlock] using q2
      exact hne (e2.trans e1.symm)) hown8 g8 hat8 (by have := HGW.out.size; have := HSZW.out; omega))
    have c8 : w8.cell? ⟨B, 0, none⟩ = some (Value.slice A1 L'.length c1') := hbx8.cell 0
    have f8 := hbx8.free 0
    refine hK4.out _ _ (fun _ => hS8) ?_
    simp only [Act.put, List.setIfInBounds_toArray, List.set_cons_zero, List.set_cons_succ]
    refine Tl.take (i := 13) (oi := ⟨some 72, _, _, _, _, _⟩) (v := .pointer (some ⟨B, 0, none⟩)) rfl (by kernel_rfl) (by kernel_rfl) (by kernel_rfl) (by kernel_rfl) (fun _ _ _ h => h) (Or.inl ⟨by rfl, ?_⟩) hS8 ?_
    · intro w' hSw
      clear hSw
      go_simp
    simp only [Act.put, List.setIfInBounds_toArray, List.set_cons_zero, List.set_cons_succ]
    clear hSA hSB hSW hS8 hS hoA hoA' hoB hgA hgB hgW hbe hown8 g8 hat8 hlt8 hZ8 hbx8 y0 s0 s1 s2 s3 e3 e4
    refine Tl.one (i := 14) (o := ⟨none, _, _, _, _, _⟩) (by kernel_rfl) rfl rfl (fun K5 hK5 => ?_)
    go_simp
    refine hK5.out _ _ (fun h => absurd rfl h) ?_
    refine Tl.done (by kernel_rfl) ?_ _
    refine NoPanic.normal ?_
    have e1 : (w8.setCell ⟨B, 0, none⟩ (.slice (some ⟨g, 0, none⟩) (L'.length + 1) cap)).cell? ⟨w.heap.size + 1 + 1, 1, none⟩ = some (.int .i64 a) := HDB8.out.bd.cell 1
    have fa := HDB8.out.br.free a
    have ca : (w8.setCell ⟨B, 0, none⟩ (.slice (some ⟨g, 0, none⟩) (L'.length + 1) cap)).cell? ⟨w.heap.size + 1, a, none⟩ = some (.int .i64 (r a)) := by rw [HDB8.out.br.cell]; exact rcs_get r a ha
    have HDB9 := Lib.hid (HDB8.out.reg a ha fresh)
    rw [show obs L' ++ [(⟨fresh, iN, nN, false, false, List.replicate iN 0, List.replicate nN 0, false⟩ : Ob)] = obs (L' ++ [⟨(⟨fresh, iN, nN, false, false, List.replicate iN 0, List.replicate nN 0, false⟩ : Ob), (Value.slice (some ⟨bB, 0, none⟩) iN iN), (Value.slice (some ⟨bA, 0, none⟩) nN nN)⟩]) from by simp [obs]] at HPost
    go_wp2_with fail
    generalize (w8.setCell ⟨B, 0, none⟩ (.slice (some ⟨g, 0, none⟩) (L'.length + 1) cap)).setCell ⟨w.heap.size + 1, a, none⟩ (.int .i64 fresh) = w9 at *
    generalize upd r a fresh = r' at *
    have x0 : w9.cell? ⟨B, 0, none⟩ = some (Value.slice (some ⟨g, 0, none⟩) (L'.length + 1) cap) := HDB9.out.bx.cell 0
    have x1 : w9.cell? ⟨B, 1, none⟩ = some (Value.slice A2 Q.length c2') := HDB9.out.bx.cell 1
    have y0 : w9.cell? ⟨w.heap.size + 1, 0, none⟩ = some (.int .i64 (r' 0)) := HDB9.out.br.cell 0
    have y1 : w9.cell? ⟨w.heap.size + 1, 1, none⟩ = some (.int .i64 (r' 1)) := HDB9.out.br.cell 1
    have y2 : w9.cell? ⟨w.heap.size + 1, 2, none⟩ = some (.int .i64 (r' 2)) := HDB9.out.br.cell 2
    have y3 : w9.cell? ⟨w.heap.size + 1, 3, none⟩ = some (.int .i64 (r' 3)) := HDB9.out.br.cell 3
    have y4 : w9.cell? ⟨w.heap.size + 1, 4, none⟩ = some (.int .i64 (r' 4)) := HDB9.out.br.cell 4
    have y5 : w9.cell? ⟨w.heap.size + 1, 5, none⟩ = some (.int .i64 (r' 5)) := HDB9.out.br.cell 5
    have s0 : w9.cell? ⟨w.heap.size + 1 + 1 + 1, 0, none⟩ = some (.slice none 0 0) := HDB9.out.rm.cell 0
    have sf0 := HDB9.out.rm.free 0
    have s1 : w9.cell? ⟨w.heap.size + 1 + 1 + 1, 1, none⟩ = some (.slice none 0 0) := HDB9.out.rm.cell 1
    have sf1 := HDB9.out.rm.free 1
    have u0 : w9.cell? ⟨w.heap.size + 1 + 1 + 1 + 1, 0, none⟩ = some (.int .i64 0) := HDB9.out.rr.cell 0
    have uf0 := HDB9.out.rr.free 0
    have u1 : w9.cell? ⟨w.heap.size + 1 + 1 + 1 + 1, 1, none⟩ = some (.int .i64 0) := HDB9.out.rr.cell 1
    have uf1 := HDB9.out.rr.free 1
    have u2 : w9.cell? ⟨w.heap.size + 1 + 1 + 1 + 1, 2, none⟩ = some (.int .i64 0) := HDB9.out.rr.cell 2
    have uf2 := HDB9.out.rr.free 2
    have u3 : w9.cell? ⟨w.heap.size + 1 + 1 + 1 + 1, 3, none⟩ = some (.int .i64 0) := HDB9.out.rr.cell 3
    have uf3 := HDB9.out.rr.free 3
    have u4 : w9.cell? ⟨w.heap.size + 1 + 1 + 1 + 1, 4, none⟩ = some (.int .i64 0) := HDB9.out.rr.cell 4
    have uf4 := HDB9.out.rr.free 4
    have u5 : w9.cell? ⟨w.heap.size + 1 + 1 + 1 + 1, 5, none⟩ = some (.int .i64 0) := HDB9.out.rr.cell 5
    have uf5 := HDB9.out.rr.free 5
    go_region
    go_wp2_with fail
    rw [HPost.out]
    refine bodyPost_ret (v := .tuple #[.agg #[Value.slice (some ⟨g, 0, none⟩) (L'.length + 1) cap, Value.slice A2 Q.length c2'], .agg (rcs (r')), .int .i64 (fresh), .int .i64 (0)]) (by simp [results, Try.results12, go_sem, rcs, s0, s1, u0, u1, u2, u3, u4, u5]) rfl (HDB9.out.fin (fresh) (0) ?_)
    exact (((((((((Zf.refl _ _).set (.inl rfl)).set (.inl rfl)).set (.inr rfl)).set (.inr rfl)).set (.inr rfl)).set (.inr rfl)).set (.inr rfl)).set (.inr rfl)).later (gb_drew _ none)

set_option maxRecDepth 100000 in
set_option maxHeartbeats 16000000 in
theorem do_final (Ao Aq : Option Addr) (co cq : Nat) (L : List Ov) (Q : List (Int × Int)) (r : Nat → Int) (k : Int) (a b : Nat) (i n fresh seen : Int) (w : World) (hL : RL w Ao L) (hQ : Rc w Aq Q.length 2 (its Q)) (hs : Sm L Q) (hk1 : 1 ≤ k) (hk2 : k ≤ 14) (ha : a < 6) (hb : b < 6) (hi : 0 ≤ i) (hr : RightD (dd k a b i n) (parts k)) (hf : flt (obs L) r k a b i fresh = 0) (hkk : 2 = k) (hi4 : i ≤ 4) (hn0 : 0 ≤ n) (hn4 : n ≤ 4) :
    Calls Try.prog 12 #[.agg #[.slice Ao L.length co, .slice Aq Q.length cq], .agg (rcs r), .agg #[.int .i64 k, .int .i64 a, .int .i64 b, .int .i64 i, .int .i64 n], .int .i64 fresh, .int .i64 seen] w (DoP w (obs L ++ [(⟨fresh, i, n, false, true, List.replicate i.toNat 0, List.replicate n.toNat 0, false⟩ : Ob)]) Q (upd r a fresh) fresh 0) := by
  obtain ⟨Post, hPost⟩ : ∃ Post, Post = (DoP w (obs L ++ [(⟨fresh, i, n, false, true, List.replicate i.toNat 0, List.replicate n.toNat 0, false⟩ : Ob)]) Q (upd r a fresh) fresh 0) := ⟨_, rfl⟩
  rw [← hPost]
  have HPost := Lib.hid hPost
  clear hPost
  obtain ⟨b1, b2, b3, b4, b5, hsz⟩ := bx5_blk w #[.slice Ao L.length co, .slice Aq Q.length cq] (rcs r) #[.int .i64 k, .int .i64 a, .int .i64 b, .int .i64 i, .int .i64 n]
  have hg := bx5_gb w #[.slice Ao L.length co, .slice Aq Q.length cq] (rcs r) #[.int .i64 k, .int .i64 a, .int .i64 b, .int .i64 i, .int .i64 n]
  have HRT := Lib.hid hr
  have HSM := Lib.hid hs
  have HL0 := Lib.hid (hL.gb hg)
  have HQ0 := Lib.hid (hQ.gb hg)
  have HG0 := Lib.hid hg
  obtain ⟨wb, hwb⟩ : ∃ wb, bx5 w #[.slice Ao L.length co, .slice Aq Q.length cq] (rcs r) #[.int .i64 k, .int .i64 a, .int .i64 b, .int .i64 i, .int .i64 n] = wb := ⟨_, rfl⟩
  rw [hwb] at b1 b2 b3 b4 b5 hsz HL0 HQ0 HG0
  have HWB := Lib.hid hwb
  have c0 : wb.cell? ⟨w.heap.size, 0, none⟩ = some (.slice Ao L.length co) := b1.cell 0
  have c1 : wb.cell? ⟨w.heap.size, 1, none⟩ = some (.slice Aq Q.length cq) := b1.cell 1
  have HB1 := Lib.hid b1; have HB2 := Lib.hid b2; have HB3 := Lib.hid b3; have HB4 := Lib.hid b4; have HB5 := Lib.hid b5
  have HSZ := Lib.hid hsz
  have hN : ∃ N, w.heap.size = N := ⟨_, rfl⟩
  clear hL hQ hs hr hg hwb b1 b2 b3 b4 b5 hsz
  unfold rcs
  go_enter Try.func12, Try.ntmps12
  go_upto_region 1 with (fail)
  change Code.wp _ _ _ _ (bx5 w #[.slice Ao L.length co, .slice Aq Q.length cq] (rcs r) #[.int .i64 k, .int .i64 a, .int .i64 b, .int .i64 i, .int .i64 n])
  rw [HWB.out]
  clear HWB
  go_wp2_with fail
  refine (ownModel_any Ao Aq co cq L Q wb HL0.out HQ0.out HSM.out).mono ?_
  rintro e w2 ⟨vo, vq, L', rfl, hobs, hom, hg2⟩
  obtain ⟨A1, c1', rfl, _, _, _⟩ := Rc.of_own hom.row
  obtain ⟨A2, c2', rfl, _, _, _⟩ := Rc.of_own hom.que
  have hw2 := hg2.size
  have HDB : Hid (Db w (w2.alloc (.cells #[.slice A1 L'.length c1', .slice A2 Q.length c2'] 29)) w.heap.size w2.heap.size r #[.int .i64 k, .int .i64 a, .int .i64 b, .int .i64 i, .int .i64 n] (.slice A1 L'.length c1') (.slice A2 Q.length c2') L' Q) := by
    have ga := World.grownBy_alloc w2 (.cells #[.slice A1 L'.length c1', .slice A2 Q.length c2'] 29) none
    have gb := grownBy_trans hg2 ga
    have hz : ∀ k, (wb.heap.size ≤ k ∧ k < w2.heap.size) → Z5 w.heap.size w2.heap.size k := fun k hk => ⟨by have := HSZ.out; omega, by omega⟩
    have hom2 := hom.gb ga
    exact ⟨HB2.out.gb gb (by simp), HB3.out.gb gb (by simp), HB4.out.gb gb (by simp), HB5.out.gb gb (by simp), Blk.new w2 29 _, ⟨hom2.row, hom2.que, hom2.os.wide hz, fun g e => hz g (hom.zo g e), fun g e => hz g (hom.zq g e)⟩, grownBy_trans HG0.out gb, rfl, by have := HSZ.out; omega⟩
  have HOBS := Lib.hid hobs
  have HGB := Lib.hid (grownBy_trans hg2 (World.grownBy_alloc w2 (.cells #[.slice A1 L'.length c1', .slice A2 Q.length c2'] 29) none))
  clear hobs hom hg2 c0 c1
  have HC0 : Hid (Blk (w2.alloc (.cells #[.slice A1 L'.length c1', .slice A2 Q.length c2'] 29)) w.heap.size 29 #[.slice Ao L.length co, .slice Aq Q.length cq]) := HB1.out.gb HGB.out (by simp)
  have d0 : (w2.alloc (.cells #[.slice A1 L'.length c1', .slice A2 Q.length c2'] 29)).cell? ⟨w.heap.size + 1 + 1, 0, none⟩ = some (.int .i64 k) := HDB.out.bd.cell 0
  have d1 : (w2.alloc (.cells #[.slice A1 L'.length c1', .slice A2 Q.length c2'] 29)).cell? ⟨w.heap.size + 1 + 1, 1, none⟩ = some (.int .i64 a) := HDB.out.bd.cell 1
  have d2 : (w2.alloc (.cells #[.slice A1 L'.length c1', .slice A2 Q.length c2'] 29)).cell? ⟨w.heap.size + 1 + 1, 2, none⟩ = some (.int .i64 b) := HDB.out.bd.cell 2
  have d3 : (w2.alloc (.cells #[.slice A1 L'.length c1', .slice A2 Q.length c2'] 29)).cell? ⟨w.heap.size + 1 + 1, 3, none⟩ = some (.int .i64 i) := HDB.out.bd.cell 3
  have d4 : (w2.alloc (.cells #[.slice A1 L'.length c1', .slice A2 Q.length c2'] 29)).cell? ⟨w.heap.size + 1 + 1, 4, none⟩ = some (.int .i64 n) := HDB.out.bd.cell 4
  go_wp2_with fail
  generalize w2.alloc (.cells #[.slice A1 L'.length c1', .slice A2 Q.length c2'] 29) = w3 at *
  generalize w2.heap.size = B at *
  refine (right_any (dd k a b i n) hk1 hk2 HRT.out w3).mono ?_
  rintro e w4 ⟨rfl, hg4⟩
  have HDB4 := Lib.hid (HDB.out.gb hg4)
  have HL4 := Lib.hid ((HL0.out.gb HGB.out).gb hg4)
  have q0 : w4.cell? ⟨w.heap.size, 0, none⟩ = some (.slice Ao L.length co) := (HC0.out.gb hg4 (by simp)).cell 0
  have q1 : w4.cell? ⟨w.heap.size, 1, none⟩ = some (.slice Aq Q.length cq) := (HC0.out.gb hg4 (by simp)).cell 1
  have r0 : w4.cell? ⟨w.heap.size + 1, 0, none⟩ = some (.int .i64 (r 0)) := HDB4.out.br.cell 0
  have r1 : w4.cell? ⟨w.heap.size + 1, 1, none⟩ = some (.int .i64 (r 1)) := HDB4.out.br.cell 1
  have r2 : w4.cell? ⟨w.heap.size + 1, 2, none⟩ = some (.int .i64 (r 2)) := HDB4.out.br.cell 2
  have r3 : w4.cell? ⟨w.heap.size + 1, 3, none⟩ = some (.int .i64 (r 3)) := HDB4.out.br.cell 3
  have r4 : w4.cell? ⟨w.heap.size + 1, 4, none⟩ = some (.int .i64 (r 4)) := HDB4.out.br.cell 4
  have r5 : w4.cell? ⟨w.heap.size + 1, 5, none⟩ = some (.int .i64 (r 5)) := HDB4.out.br.cell 5
  replace d0 := cellk d0 hg4
  replace d1 := cellk d1 hg4
  replace d2 := cellk d2 hg4
  replace d3 := cellk d3 hg4
  replace d4 := cellk d4 hg4
  clear hg4 HDB
  go_wp2_with fail
  refine (fault_any Ao Aq co cq Q.length L r k a b i n fresh w4 HL4.out hk1 hk2 ha hb hi).mono ?_
  rintro e w5 ⟨rfl, hg5⟩
  have HDB5 := Lib.hid (HDB4.out.gb hg5)
  replace d0 := cellk d0 hg5
  replace d1 := cellk d1 hg5
  replace d2 := cellk d2 hg5
  replace d3 := cellk d3 hg5
  replace d4 := cellk d4 hg5
  clear hg5 HDB4 q0 q1 r0 r1 r2 r3 r4 r5 HC0 HGB HL4 HSZ HL0 HQ0 HG0 HB1 HB2 HB3 HB4 HB5 HRT
  rw [hf]
  have ya : w5.cell? ⟨w.heap.size + 1, a, none⟩ = some (.int .i64 (r a)) := by rw [HDB5.out.br.cell]; exact rcs_get r a ha
  have yb : w5.cell? ⟨w.heap.size + 1, b, none⟩ = some (.int .i64 (r b)) := by rw [HDB5.out.br.cell]; exact rcs_get r b hb
  have ha0 : (0 : Int) ≤ (a : Int) := by omega
  have hb0 : (0 : Int) ≤ (b : Int) := by omega
  have ha1 : (a : Int) < 6 := by omega
  have hb1 : (b : Int) < 6 := by omega
  go_wp2_with fail
  go_quiet (fail)
  have HDB6 := Lib.hid (HDB5.out.gb (gb_drewN w5 nq none))
  replace d0 := cellk d0 (gb_drewN w5 nq none)
  replace d1 := cellk d1 (gb_drewN w5 nq none)
  replace d2 := cellk d2 (gb_drewN w5 nq none)
  replace d3 := cellk d3 (gb_drewN w5 nq none)
  replace d4 := cellk d4 (gb_drewN w5 nq none)
  clear HDB5 ya yb
  generalize w5.drewN nq = w6 at *
  subst hkk
  rw [← HOBS.out] at HPost
  obtain ⟨iN, rfl⟩ : ∃ t : Nat, i = t := ⟨i.toNat, by omega⟩
  obtain ⟨nN, rfl⟩ : ∃ t : Nat, n = t := ⟨n.toNat, by omega⟩
  rw [Int.toNat_natCast, Int.toNat_natCast] at HPost
  have hi4 : iN ≤ 4 := by omega
  have hn4 : nN ≤ 4 := by omega
  go_wp2_with fail
  have HG7 : Hid (w6.grownBy (w6.alloc (.cells #[.int .i64 iN, .int .i64 nN, .bool false, .bool true] 38)) none) := World.grownBy_alloc _ _ none
  have bs : Blk (w6.alloc (.cells #[.int .i64 iN, .int .i64 nN, .bool false, .bool true] 38)) w6.heap.size 38 #[.int .i64 iN, .int .i64 nN, .bool false, .bool true] := Blk.new w6 38 _
  have HDB7 := Lib.hid (HDB6.out.gb HG7.out)
  generalize w6.alloc (.cells #[.int .i64 iN, .int .i64 nN, .bool false, .bool true] 38) = w7 at *
  generalize w6.heap.size = Bs at *
  have s0 : w7.cell? ⟨Bs, 0, none⟩ = some (.int .i64 iN) := bs.cell 0
  have s1 : w7.cell? ⟨Bs, 1, none⟩ = some (.int .i64 nN) := bs.cell 1
  have s2 : w7.cell? ⟨Bs, 2, none⟩ = some (.bool false) := bs.cell 2
  have s3 : w7.cell? ⟨Bs, 3, none⟩ = some (.bool true) := bs.cell 3
  have y0 : w7.cell? ⟨B, 0, none⟩ = some (Value.slice A1 L'.length c1') := HDB7.out.bx.cell 0
  have e3 := cellk d3 HG7.out
  have e4 := cellk d4 HG7.out
  have HBS : Hid (Blk w7.drew Bs 38 #[.int .i64 iN, .int .i64 nN, .bool false, .bool true]) := bs.gb (gb_drew _ none) (by simp)
  clear d0 d1 d2 d3 d4 HDB6 bs
  obtain ⟨i0, hi0, hz0, hz1, hz2⟩ := info_parts info41
  have HI := Lib.hid hi0; have HZ0 := Lib.hid hz0; have HZ1 := Lib.hid hz1; have HZ2 := Lib.hid hz2
  clear hi0 hz0 hz1 hz2
  have HDBd := Lib.hid (HDB7.out.gb (gb_drew w7 none))
  have hlL : L'.length ≤ 100 := by have h1 := congrArg List.length HOBS.out; have h2 := HSM.out.1; simp [obs] at h1; omega
  have hBlt := HDBd.out.hB
  refine wp_region_noPanic ?_
  have hS : (fun w' : World => w'.cell? ⟨B, 0, none⟩ = some (Value.slice A1 L'.length c1') ∧ w'.cell? ⟨Bs, 0, none⟩ = some (.int .i64 iN) ∧ w'.cell? ⟨Bs, 1, none⟩ = some (.int .i64 nN) ∧ w'.cell? ⟨Bs, 2, none⟩ = some (.bool false) ∧ w'.cell? ⟨Bs, 3, none⟩ = some (.bool true) ∧ w'.cell? ⟨w.heap.size + 1 + 1, 3, none⟩ = some (.int .i64 iN) ∧ w'.cell? ⟨w.heap.size + 1 + 1, 4, none⟩ = some (.int .i64 nN)) w7.drew := ⟨y0, s0, s1, s2, s3, e3, e4⟩
  refine Tl.begin (S := fun w' => w'.cell? ⟨B, 0, none⟩ = some (Value.slice A1 L'.length c1') ∧ w'.cell? ⟨Bs, 0, none⟩ = some (.int .i64 iN) ∧ w'.cell? ⟨Bs, 1, none⟩ = some (.int .i64 nN) ∧ w'.cell? ⟨Bs, 2, none⟩ = some (.bool false) ∧ w'.cell? ⟨Bs, 3, none⟩ = some (.bool true) ∧ w'.cell? ⟨w.heap.size + 1 + 1, 3, none⟩ = some (.int .i64 iN) ∧ w'.cell? ⟨w.heap.size + 1 + 1, 4, none⟩ = some (.int .i64 nN)) (m := 14) (by kernel_rfl) ?_
  refine Tl.take (i := 0) (oi := ⟨some 59, _, _, _, _, _⟩) (v := .pointer (some ⟨B, 0, none⟩)) rfl (by kernel_rfl) (by kernel_rfl) (by kernel_rfl) (by kernel_rfl) (fun _ _ _ h => h) (Or.inl ⟨by rfl, ?_⟩) hS ?_
  · intro w' hSw
    obtain ⟨j0, j1, j2, j3, j4, j5, j6⟩ := hSw
    go_simp
  simp only [Act.put, List.setIfInBounds_toArray, List.set_cons_zero, List.set_cons_succ]
  refine Tl.take (i := 1) (oi := ⟨some 60, _, _, _, _, _⟩) (v := Value.slice A1 L'.length c1') rfl (by kernel_rfl) (by kernel_rfl) (by kernel_rfl) (by kernel_rfl) (fun _ _ _ h => h) (Or.inl ⟨by rfl, ?_⟩) hS ?_
  · intro w' hSw
    obtain ⟨j0, j1, j2, j3, j4, j5, j6⟩ := hSw
    go_simp
  simp only [Act.put, List.setIfInBounds_toArray, List.set_cons_zero, List.set_cons_succ]
  refine Tl.take (i := 2) (oi := ⟨some 61, _, _, _, _, _⟩) (v := .int .i64 fresh) rfl (by kernel_rfl) (by kernel_rfl) (by kernel_rfl) (by kernel_rfl) (fun _ _ _ h => h) (Or.inl ⟨by rfl, ?_⟩) hS ?_
  · intro w' hSw
    obtain ⟨j0, j1, j2, j3, j4, j5, j6⟩ := hSw
    go_simp
  simp only [Act.put, List.setIfInBounds_toArray, List.set_cons_zero, List.set_cons_succ]
  refine Tl.take (i := 3) (oi := ⟨some 62, _, _, _, _, _⟩) (v := .agg #[.int .i64 iN, .int .i64 nN, .bool false, .bool true]) rfl (by kernel_rfl) (by kernel_rfl) (by kernel_rfl) (by kernel_rfl) (fun _ _ _ h => h) (Or.inl ⟨by rfl, ?_⟩) hS ?_
  · intro w' hSw
    obtain ⟨j0, j1, j2, j3, j4, j5, j6⟩ := hSw
    go_simp
  simp only [Act.put, List.setIfInBounds_toArray, List.set_cons_zero, List.set_cons_succ]
  refine Tl.take (i := 4) (oi := ⟨some 63, _, _, _, _, _⟩) (v := .pointer (some ⟨w.heap.size + 1 + 1, 3, none⟩)) rfl (by kernel_rfl) (by kernel_rfl) (by kernel_rfl) (by kernel_rfl) (fun _ _ _ h => h) (Or.inl ⟨by rfl, ?_⟩) hS ?_
  · intro w' hSw
    obtain ⟨j0, j1, j2, j3, j4, j5, j6⟩ := hSw
    go_simp
  simp only [Act.put, List.setIfInBounds_toArray, List.set_cons_zero, List.set_cons_succ]
  refine Tl.take (i := 5) (oi := ⟨some 64, _, _, _, _, _⟩) (v := .int .i64 iN) rfl (by kernel_rfl) (by kernel_rfl) (by kernel_rfl) (by kernel_rfl) (fun _ _ _ h => h) (Or.inl ⟨by rfl, ?_⟩) hS ?_
  · intro w' hSw
    obtain ⟨j0, j1, j2, j3, j4, j5, j6⟩ := hSw
    go_simp
  simp only [Act.put, List.setIfInBounds_toArray, List.set_cons_zero, List.set_cons_succ]
  refine Tl.take (i := 7) (oi := ⟨some 66, _, _, _, _, _⟩) (v := .pointer (some ⟨w.heap.size + 1 + 1, 4, none⟩)) rfl (by kernel_rfl) (by kernel_rfl) (by kernel_rfl) (by kernel_rfl) (fun _ _ _ h => h) (Or.inl ⟨by rfl, ?_⟩) hS ?_
  · intro w' hSw
    obtain ⟨j0, j1, j2, j3, j4, j5, j6⟩ := hSw
    go_simp
  simp only [Act.put, List.setIfInBounds_toArray, List.set_cons_zero, List.set_cons_succ]
  refine Tl.take (i := 8) (oi := ⟨some 67, _, _, _, _, _⟩) (v := .int .i64 nN) rfl (by kernel_rfl) (by kernel_rfl) (by kernel_rfl) (by kernel_rfl) (fun _ _ _ h => h) (Or.inl ⟨by rfl, ?_⟩) hS ?_
  · intro w' hSw
    obtain ⟨j0, j1, j2, j3, j4, j5, j6⟩ := hSw
    go_simp
  simp only [Act.put, List.setIfInBounds_toArray, List.set_cons_zero, List.set_cons_succ]
  refine Tl.two (i := 6) (j := 9) (o := ⟨some 65, _, _, _, _, _⟩) (p := ⟨some 68, _, _, _, _, _⟩) (by kernel_rfl) rfl rfl rfl rfl (fun K hK => ?_) (fun K hK => ?_)
  · refine mk39 (.tmp 64) rfl iN rfl (by omega) ?_
    intro wA hoA hgA
    have hSA := keep7 hS hgA
    refine hK.out _ _ (fun _ => hSA) ?_
    simp only [Act.put, List.setIfInBounds_toArray, List.set_cons_zero, List.set_cons_succ]
    refine Tl.one (i := 9) (o := ⟨some 68, _, _, _, _, _⟩) (by kernel_rfl) rfl rfl (fun K2 hK2 => ?_)
    refine mk39 (.tmp 67) rfl nN rfl (by omega) ?_
    intro wB hoB hgB
    have hSB := keep7 hSA hgB
    have hne : w7.drew.heap.size ≠ wA.heap.size := by have := own_lt (g := w7.drew.heap.size) hoA rfl; omega
    have hszA : w7.drew.heap.size ≤ wA.heap.size := hgA.size
    have hoA' := own_gb0 hoA hgB
    generalize hbA : w7.drew.heap.size = bA at *
    generalize hbB : wA.heap.size = bB at *
    have HbA := Lib.hid hbA
    have HbB := Lib.hid hbB
    clear hbA hbB
    refine hK2.out _ _ (fun _ => hSB) ?_
    simp only [Act.put, List.setIfInBounds_toArray, List.set_cons_zero, List.set_cons_succ]
    refine Tl.take (i := 10) (oi := ⟨some 69, _, _, _, _, _⟩) (v := .agg #[.int .i64 fresh, .int .i64 iN, .int .i64 nN, .bool false, .bool true, (Value.slice (some ⟨bA, 0, none⟩) iN iN), (Value.slice (some ⟨bB, 0, none⟩) nN nN), .bool false]) rfl (by kernel_rfl) (by kernel_rfl) (by kernel_rfl) (by kernel_rfl) (fun _ _ _ h => h) (Or.inl ⟨by rfl, ?_⟩) hSB ?_
    · intro w' hSw
      clear hSw
      go_simp
    simp only [Act.put, List.setIfInBounds_toArray, List.set_cons_zero, List.set_cons_succ]
    have hgW : w7.drew.grownBy (wB.alloc (.cells #[.int .i64 fresh, .int .i64 iN, .int .i64 nN, .bool false, .bool true, (Value.slice (some ⟨bA, 0, none⟩) iN iN), (Value.slice (some ⟨bB, 0, none⟩) nN nN), .bool false] 41)) none := grownBy_trans (grownBy_trans hgA hgB) (World.grownBy_alloc _ _ none)
    have hSW := keep7 hSB (World.grownBy_alloc wB (.cells #[.int .i64 fresh, .int .i64 iN, .int .i64 nN, .bool false, .bool true, (Value.slice (some ⟨bA, 0, none⟩) iN iN), (Value.slice (some ⟨bB, 0, none⟩) nN nN), .bool false] 41) none)
    refine Tl.one (i := 11) (o := ⟨some 70, _, _, _, _, _⟩) (by kernel_rfl) rfl rfl (fun K3 hK3 => ?_)
    go_simp
    refine hK3.out _ _ (fun _ => hSW) ?_
    have hbe : Blk (wB.alloc (.cells #[.int .i64 fresh, .int .i64 iN, .int .i64 nN, .bool false, .bool true, (Value.slice (some ⟨bA, 0, none⟩) iN iN), (Value.slice (some ⟨bB, 0, none⟩) nN nN), .bool false] 41)) wB.heap.size 41 (ov ⟨(⟨fresh, iN, nN, false, true, List.replicate iN 0, List.replicate nN 0, false⟩ : Ob), (Value.slice (some ⟨bA, 0, none⟩) iN iN), (Value.slice (some ⟨bB, 0, none⟩) nN nN)⟩).toArray := Blk.new wB 41 _
    have HP : Hid ((wB.alloc (.cells #[.int .i64 fresh, .int .i64 iN, .int .i64 nN, .bool false, .bool true, (Value.slice (some ⟨bA, 0, none⟩) iN iN), (Value.slice (some ⟨bB, 0, none⟩) nN nN), .bool false] 41)).ownsRow w7.drew.heap.size 3 1 (Value.slice (some ⟨bA, 0, none⟩) iN iN) (List.replicate iN (0 : Int)).length (ints (List.replicate iN 0))) := by
      unfold Hid; rw [List.length_replicate]; exact own_gb0 (own_base hoA' (by rw [HbA.out]; omega)) (World.grownBy_alloc _ _ none)
    have HN : Hid ((wB.alloc (.cells #[.int .i64 fresh, .int .i64 iN, .int .i64 nN, .bool false, .bool true, (Value.slice (some ⟨bA, 0, none⟩) iN iN), (Value.slice (some ⟨bB, 0, none⟩) nN nN), .bool false] 41)).ownsRow w7.drew.heap.size 3 1 (Value.slice (some ⟨bB, 0, none⟩) nN nN) (List.replicate nN (0 : Int)).length (ints (List.replicate nN 0))) := by
      unfold Hid; rw [List.length_replicate]; exact own_gb0 (own_base hoB (by rw [HbA.out]; omega)) (World.grownBy_alloc _ _ none)
    have HROW := Lib.hid (own_gb0 HDBd.out.om.row hgW)
    have HCE := Lib.hid (cells_of_blk hbe)
    have HGW := Lib.hid hgW
    have HSZW : Hid ((wB.alloc (.cells #[.int .i64 fresh, .int .i64 iN, .int .i64 nN, .bool false, .bool true, (Value.slice (some ⟨bA, 0, none⟩) iN iN), (Value.slice (some ⟨bB, 0, none⟩) nN nN), .bool false] 41)).heap.size = wB.heap.size + 1) := by unfold Hid; simp
    refine Tl.one (i := 12) (o := ⟨some 71, _, _, _, _, _⟩) (by kernel_rfl) rfl rfl (fun K4 hK4 => ?_)
    refine wp_append_lies (wB.alloc (.cells #[.int .i64 fresh, .int .i64 iN, .int .i64 nN, .bool false, .bool true, (Value.slice (some ⟨bA, 0, none⟩) iN iN), (Value.slice (some ⟨bB, 0, none⟩) nN nN), .bool false] 41)) (.tmp 60) (.tmp 70) 22 rfl 0 41 i0 (.agg #[.int .i64 0, .int .i64 0, .int .i64 0, .bool false, .bool false, .slice none 0 0, .slice none 0 0, .bool false]) 8 88 Try.underlying22 HI.out HZ0.out HZ1.out HZ2.out rfl (by decide) (Value.slice A1 L'.length c1') L'.length (ovs L') rfl HROW.out ⟨wB.heap.size, 0, none⟩ 1 1 (ov ⟨(⟨fresh, iN, nN, false, true, List.replicate iN 0, List.replicate nN 0, false⟩ : Ob), (Value.slice (some ⟨bA, 0, none⟩) iN iN), (Value.slice (some ⟨bB, 0, none⟩) nN nN)⟩) rfl rfl HCE.out one_ov (by omega) (by unfold maxLen; omega) (by omega) (by omega) (wB.heap.size + 1) HSZW.out ?_
    intro g cap w8 hown8 g8 hat8 hlt8
    have hZ8 : Zf (fun q => (Value.slice A1 L'.length c1').ownBlock = some q) (wB.alloc (.cells #[.int .i64 fresh, .int .i64 iN, .int .i64 nN, .bool false, .bool true, (Value.slice (some ⟨bA, 0, none⟩) iN iN), (Value.slice (some ⟨bB, 0, none⟩) nN nN), .bool false] 41)) w8 := Zf.of_gb g8 (fun q e => e)
    have hbx8 := (HDBd.out.gb HGW.out).bx.zf hZ8 (fun e => (HDBd.out.om.zo B e).2 rfl)
    have hS8 := keep7z hSW hZ8 (fun e => (HDBd.out.om.zo B e).2 rfl) (fun e => own_ne HROW.out (HBS.out.gb hgW (by simp)) (by decide) e) (fun e => by have := HDBd.out.om.zo _ e; unfold Z5 at this; omega)
    have HDB8 := Lib.hid (HDBd.out.app HGW.out HP.out HN.out (fun q e q2 => by
      have e1 : bA = q := by simpa [Value.ownBlock] using e
      have e2 : bB = q := by simpa [Value.ownBlock] using q2
      exact hne (e1.trans e2.symm)) hown8 g8 hat8 (by have := HGW.out.size; have := HSZW.out; omega))
    have c8 : w8.cell? ⟨B, 0, none⟩ = some (Value.slice A1 L'.length c1') := hbx8.cell 0
    have f8 := hbx8.free 0
    refine hK4.out _ _ (fun _ => hS8) ?_
    simp only [Act.put, List.setIfInBounds_toArray, List.set_cons_zero, List.set_cons_succ]
    refine Tl.take (i := 13) (oi := ⟨some 72, _, _, _, _, _⟩) (v := .pointer (some ⟨B, 0, none⟩)) rfl (by kernel_rfl) (by kernel_rfl) (by kernel_rfl) (by kernel_rfl) (fun _ _ _ h => h) (Or.inl ⟨by rfl, ?_⟩) hS8 ?_
    · intro w' hSw
      clear hSw
      go_simp
    simp only [Act.put, List.setIfInBounds_toArray, List.set_cons_zero, List.set_cons_succ]
    clear hSA hSB hSW hS8 hS hoA hoA' hoB hgA hgB hgW hbe hown8 g8 hat8 hlt8 hZ8 hbx8 y0 s0 s1 s2 s3 e3 e4
    refine Tl.one (i := 14) (o := ⟨none, _, _, _, _, _⟩) (by kernel_rfl) rfl rfl (fun K5 hK5 => ?_)
    go_simp
    refine hK5.out _ _ (fun h => absurd rfl h) ?_
    refine Tl.done (by kernel_rfl) ?_ _
    refine NoPanic.normal ?_
    have e1 : (w8.setCell ⟨B, 0, none⟩ (.slice (some ⟨g, 0, none⟩) (L'.length + 1) cap)).cell? ⟨w.heap.size + 1 + 1, 1, none⟩ = some (.int .i64 a) := HDB8.out.bd.cell 1
    have fa := HDB8.out.br.free a
    have ca : (w8.setCell ⟨B, 0, none⟩ (.slice (some ⟨g, 0, none⟩) (L'.length + 1) cap)).cell? ⟨w.heap.size + 1, a, none⟩ = some (.int .i64 (r a)) := by rw [HDB8.out.br.cell]; exact rcs_get r a ha
    have HDB9 := Lib.hid (HDB8.out.reg a ha fresh)
    rw [show obs L' ++ [(⟨fresh, iN, nN, false, true, List.replicate iN 0, List.replicate nN 0, false⟩ : Ob)] = obs (L' ++ [⟨(⟨fresh, iN, nN, false, true, List.replicate iN 0, List.replicate nN 0, false⟩ : Ob), (Value.slice (some ⟨bA, 0, none⟩) iN iN), (Value.slice (some ⟨bB, 0, none⟩) nN nN)⟩]) from by simp [obs]] at HPost
    go_wp2_with fail
    generalize (w8.setCell ⟨B, 0, none⟩ (.slice (some ⟨g, 0, none⟩) (L'.length + 1) cap)).setCell ⟨w.heap.size + 1, a, none⟩ (.int .i64 fresh) = w9 at *
    generalize upd r a fresh = r' at *
    have x0 : w9.cell? ⟨B, 0, none⟩ = some (Value.slice (some ⟨g, 0, none⟩) (L'.length + 1) cap) := HDB9.out.bx.cell 0
    have x1 : w9.cell? ⟨B, 1, none⟩ = some (Value.slice A2 Q.length c2') := HDB9.out.bx.cell 1
    have y0 : w9.cell? ⟨w.heap.size + 1, 0, none⟩ = some (.int .i64 (r' 0)) := HDB9.out.br.cell 0
    have y1 : w9.cell? ⟨w.heap.size + 1, 1, none⟩ = some (.int .i64 (r' 1)) := HDB9.out.br.cell 1
    have y2 : w9.cell? ⟨w.heap.size + 1, 2, none⟩ = some (.int .i64 (r' 2)) := HDB9.out.br.cell 2
    have y3 : w9.cell? ⟨w.heap.size + 1, 3, none⟩ = some (.int .i64 (r' 3)) := HDB9.out.br.cell 3
    have y4 : w9.cell? ⟨w.heap.size + 1, 4, none⟩ = some (.int .i64 (r' 4)) := HDB9.out.br.cell 4
    have y5 : w9.cell? ⟨w.heap.size + 1, 5, none⟩ = some (.int .i64 (r' 5)) := HDB9.out.br.cell 5
    have s0 : w9.cell? ⟨w.heap.size + 1 + 1 + 1, 0, none⟩ = some (.slice none 0 0) := HDB9.out.rm.cell 0
    have sf0 := HDB9.out.rm.free 0
    have s1 : w9.cell? ⟨w.heap.size + 1 + 1 + 1, 1, none⟩ = some (.slice none 0 0) := HDB9.out.rm.cell 1
    have sf1 := HDB9.out.rm.free 1
    have u0 : w9.cell? ⟨w.heap.size + 1 + 1 + 1 + 1, 0, none⟩ = some (.int .i64 0) := HDB9.out.rr.cell 0
    have uf0 := HDB9.out.rr.free 0
    have u1 : w9.cell? ⟨w.heap.size + 1 + 1 + 1 + 1, 1, none⟩ = some (.int .i64 0) := HDB9.out.rr.cell 1
    have uf1 := HDB9.out.rr.free 1
    have u2 : w9.cell? ⟨w.heap.size + 1 + 1 + 1 + 1, 2, none⟩ = some (.int .i64 0) := HDB9.out.rr.cell 2
    have uf2 := HDB9.out.rr.free 2
    have u3 : w9.cell? ⟨w.heap.size + 1 + 1 + 1 + 1, 3, none⟩ = some (.int .i64 0) := HDB9.out.rr.cell 3
    have uf3 := HDB9.out.rr.free 3
    have u4 : w9.cell? ⟨w.heap.size + 1 + 1 + 1 + 1, 4, none⟩ = some (.int .i64 0) := HDB9.out.rr.cell 4
    have uf4 := HDB9.out.rr.free 4
    have u5 : w9.cell? ⟨w.heap.size + 1 + 1 + 1 + 1, 5, none⟩ = some (.int .i64 0) := HDB9.out.rr.cell 5
    have uf5 := HDB9.out.rr.free 5
    go_region
    go_wp2_with fail
    rw [HPost.out]
    refine bodyPost_ret (v := .tuple #[.agg #[Value.slice (some ⟨g, 0, none⟩) (L'.length + 1) cap, Value.slice A2 Q.length c2'], .agg (rcs (r')), .int .i64 (fresh), .int .i64 (0)]) (by simp [results, Try.results12, go_sem, rcs, s0, s1, u0, u1, u2, u3, u4, u5]) rfl (HDB9.out.fin (fresh) (0) ?_)
    exact (((((((((Zf.refl _ _).set (.inl rfl)).set (.inl rfl)).set (.inr rfl)).set (.inr rfl)).set (.inr rfl)).set (.inr rfl)).set (.inr rfl)).set (.inr rfl)).later (gb_drew _ none)
  · refine mk39 (.tmp 67) rfl nN rfl (by omega) ?_
    intro wA hoA hgA
    have hSA := keep7 hS hgA
    refine hK.out _ _ (fun _ => hSA) ?_
    simp only [Act.put, List.setIfInBounds_toArray, List.set_cons_zero, List.set_cons_succ]
    refine Tl.one (i := 6) (o := ⟨some 65, _, _, _, _, _⟩) (by kernel_rfl) rfl rfl (fun K2 hK2 => ?_)
    refine mk39 (.tmp 64) rfl iN rfl (by omega) ?_
    intro wB hoB hgB
    have hSB := keep7 hSA hgB
    have hne : w7.drew.heap.size ≠ wA.heap.size := by have := own_lt (g := w7.drew.heap.size) hoA rfl; omega
    have hszA : w7.drew.heap.size ≤ wA.heap.size := hgA.size
    have hoA' := own_gb0 hoA hgB
    generalize hbA : w7.drew.heap.size = bA at *
    generalize hbB : wA.heap.size = bB at *
    have HbA := Lib.hid hbA
    have HbB := Lib.hid hbB
    clear hbA hbB
    refine hK2.out _ _ (fun _ => hSB) ?_
    simp only [Act.put, List.setIfInBounds_toArray, List.set_cons_zero, List.set_cons_succ]
    refine Tl.take (i := 10) (oi := ⟨some 69, _, _, _, _, _⟩) (v := .agg #[.int .i64 fresh, .int .i64 iN, .int .i64 nN, .bool false, .bool true, (Value.slice (some ⟨bB, 0, none⟩) iN iN), (Value.slice (some ⟨bA, 0, none⟩) nN nN), .bool false]) rfl (by kernel_rfl) (by kernel_rfl) (by kernel_rfl) (by kernel_rfl) (fun _ _ _ h => h) (Or.inl ⟨by rfl, ?_⟩) hSB ?_
    · intro w' hSw
      clear hSw
      go_simp
    simp only [Act.put, List.setIfInBounds_toArray, List.set_cons_zero, List.set_cons_succ]
    have hgW : w7.drew.grownBy (wB.alloc (.cells #[.int .i64 fresh, .int .i64 iN, .int .i64 nN, .bool false, .bool true, (Value.slice (some ⟨bB, 0, none⟩) iN iN), (Value.slice (some ⟨bA, 0, none⟩) nN nN), .bool false] 41)) none := grownBy_trans (grownBy_trans hgA hgB) (World.grownBy_alloc _ _ none)
    have hSW := keep7 hSB (World.grownBy_alloc wB (.cells #[.int .i64 fresh, .int .i64 iN, .int .i64 nN, .bool false, .bool true, (Value.slice (some ⟨bB, 0, none⟩) iN iN), (Value.slice (some ⟨bA, 0, none⟩) nN nN), .bool false] 41) none)
    refine Tl.one (i := 11) (o := ⟨some 70, _, _, _, _, _⟩) (by kernel_rfl) rfl rfl (fun K3 hK3 => ?_)
    go_simp
    refine hK3.out _ _ (fun _ => hSW) ?_
    have hbe : Blk (wB.alloc (.cells #[.int .i64 fresh, .int .i64 iN, .int .i64 nN, .bool false, .bool true, (Value.slice (some ⟨bB, 0, none⟩) iN iN), (Value.slice (some ⟨bA, 0, none⟩) nN nN), .bool false] 41)) wB.heap.size 41 (ov ⟨(⟨fresh, iN, nN, false, true, List.replicate iN 0, List.replicate nN 0, false⟩ : Ob), (Value.slice (some ⟨bB, 0, none⟩) iN iN), (Value.slice (some ⟨bA, 0, none⟩) nN nN)⟩).toArray := Blk.new wB 41 _
    have HP : Hid ((wB.alloc (.cells #[.int .i64 fresh, .int .i64 iN, .int .i64 nN, .bool false, .bool true, (Value.slice (some ⟨bB, 0, none⟩) iN iN), (Value.slice (some ⟨bA, 0, none⟩) nN nN), .bool false] 41)).ownsRow w7.drew.heap.size 3 1 (Value.slice (some ⟨bB, 0, none⟩) iN iN) (List.replicate iN (0 : Int)).length (ints (List.replicate iN 0))) := by
      unfold Hid; rw [List.length_replicate]; exact own_gb0 (own_base hoB (by rw [HbA.out]; omega)) (World.grownBy_alloc _ _ none)
    have HN : Hid ((wB.alloc (.cells #[.int .i64 fresh, .int .i64 iN, .int .i64 nN, .bool false, .bool true, (Value.slice (some ⟨bB, 0, none⟩) iN iN), (Value.slice (some ⟨bA, 0, none⟩) nN nN), .bool false] 41)).ownsRow w7.drew.heap.size 3 1 (Value.slice (some ⟨bA, 0, none⟩) nN nN) (List.replicate nN (0 : Int)).length (ints (List.replicate nN 0))) := by
      unfold Hid; rw [List.length_replicate]; exact own_gb0 (own_base hoA' (by rw [HbA.out]; omega)) (World.grownBy_alloc _ _ none)
    have HROW := Lib.hid (own_gb0 HDBd.out.om.row hgW)
    have HCE := Lib.hid (cells_of_blk hbe)
    have HGW := Lib.hid hgW
    have HSZW : Hid ((wB.alloc (.cells #[.int .i64 fresh, .int .i64 iN, .int .i64 nN, .bool false, .bool true, (Value.slice (some ⟨bB, 0, none⟩) iN iN), (Value.slice (some ⟨bA, 0, none⟩) nN nN), .bool false] 41)).heap.size = wB.heap.size + 1) := by unfold Hid; simp
    refine Tl.one (i := 12) (o := ⟨some 71, _, _, _, _, _⟩) (by kernel_rfl) rfl rfl (fun K4 hK4 => ?_)
    refine wp_append_lies (wB.alloc (.cells #[.int .i64 fresh, .int .i64 iN, .int .i64 nN, .bool false, .bool true, (Value.slice (some ⟨bB, 0, none⟩) iN iN), (Value.slice (some ⟨bA, 0, none⟩) nN nN), .bool false] 41)) (.tmp 60) (.tmp 70) 22 rfl 0 41 i0 (.agg #[.int .i64 0, .int .i64 0, .int .i64 0, .bool false, .bool false, .slice none 0 0, .slice none 0 0, .bool false]) 8 88 Try.underlying22 HI.out HZ0.out HZ1.out HZ2.out rfl (by decide) (Value.slice A1 L'.length c1') L'.length (ovs L') rfl HROW.out ⟨wB.heap.size, 0, none⟩ 1 1 (ov ⟨(⟨fresh, iN, nN, false, true, List.replicate iN 0, List.replicate nN 0, false⟩ : Ob), (Value.slice (some ⟨bB, 0, none⟩) iN iN), (Value.slice (some ⟨bA, 0, none⟩) nN nN)⟩) rfl rfl HCE.out one_ov (by omega) (by unfold maxLen; omega) (by omega) (by omega) (wB.heap.size + 1) HSZW.out ?_
    intro g cap w8 hown8 g8 hat8 hlt8
    have hZ8 : Zf (fun q => (Value.slice A1 L'.length c1').ownBlock = some q) (wB.alloc (.cells #[.int .i64 fresh, .int .i64 iN, .int .i64 nN, .bool false, .bool true, (Value.slice (some ⟨bB, 0, none⟩) iN iN), (Value.slice (some ⟨bA, 0, none⟩) nN nN), .bool false] 41)) w8 := Zf.of_gb g8 (fun q e => e)
    have hbx8 := (HDBd.out.gb HGW.out).bx.zf hZ8 (fun e => (HDBd.out.om.zo B e).2 rfl)
    have hS8 := keep7z hSW hZ8 (fun e => (HDBd.out.om.zo B e).2 rfl) (fun e => own_ne HROW.out (HBS.out.gb hgW (by simp)) (by decide) e) (fun e => by have := HDBd.out.om.zo _ e; unfold Z5 at this; omega)
    have HDB8 := Lib.hid (HDBd.out.app HGW.out HP.out HN.out (fun q e q2 => by
      have e1 : bB = q := by simpa [Value.ownBlock] using e
      have e2 : bA = q := by simpa [Value.ownBlock] using q2
      exact hne (e2.trans e1.symm)) hown8 g8 hat8 (by have := HGW.out.size; have := HSZW.out; omega))
    have c8 : w8.cell? ⟨B, 0, none⟩ = some (Value.slice A1 L'.length c1') := hbx8.cell 0
    have f8 := hbx8.free 0
    refine hK4.out _ _ (fun _ => hS8) ?_
    simp only [Act.put, List.setIfInBounds_toArray, List.set_cons_zero, List.set_cons_succ]
    refine Tl.take (i := 13) (oi := ⟨some 72, _, _, _, _, _⟩) (v := .pointer (some ⟨B, 0, none⟩)) rfl (by kernel_rfl) (by kernel_rfl) (by kernel_rfl) (by kernel_rfl) (fun _ _ _ h => h) (Or.inl ⟨by rfl, ?_⟩) hS8 ?_
    · intro w' hSw
      clear hSw
      go_simp
    simp only [Act.put, List.setIfInBounds_toArray, List.set_cons_zero, List.set_cons_succ]
    clear hSA hSB hSW hS8 hS hoA hoA' hoB hgA hgB hgW hbe hown8 g8 hat8 hlt8 hZ8 hbx8 y0 s0 s1 s2 s3 e3 e4
    refine Tl.one (i := 14) (o := ⟨none, _, _, _, _, _⟩) (by kernel_rfl) rfl rfl (fun K5 hK5 => ?_)
    go_simp
    refine hK5.out _ _ (fun h => absurd rfl h) ?_
    refine Tl.done (by kernel_rfl) ?_ _
    refine NoPanic.normal ?_
    have e1 : (w8.setCell ⟨B, 0, none⟩ (.slice (some ⟨g, 0, none⟩) (L'.length + 1) cap)).cell? ⟨w.heap.size + 1 + 1, 1, none⟩ = some (.int .i64 a) := HDB8.out.bd.cell 1
    have fa := HDB8.out.br.free a
    have ca : (w8.setCell ⟨B, 0, none⟩ (.slice (some ⟨g, 0, none⟩) (L'.length + 1) cap)).cell? ⟨w.heap.size + 1, a, none⟩ = some (.int .i64 (r a)) := by rw [HDB8.out.br.cell]; exact rcs_get r a ha
    have HDB9 := Lib.hid (HDB8.out.reg a ha fresh)
    rw [show obs L' ++ [(⟨fresh, iN, nN, false, true, List.replicate iN 0, List.replicate nN 0, false⟩ : Ob)] = obs (L' ++ [⟨(⟨fresh, iN, nN, false, true, List.replicate iN 0, List.replicate nN 0, false⟩ : Ob), (Value.slice (some ⟨bB, 0, none⟩) iN iN), (Value.slice (some ⟨bA, 0, none⟩) nN nN)⟩]) from by simp [obs]] at HPost
    go_wp2_with fail
    generalize (w8.setCell ⟨B, 0, none⟩ (.slice (some ⟨g, 0, none⟩) (L'.length + 1) cap)).setCell ⟨w.heap.size + 1, a, none⟩ (.int .i64 fresh) = w9 at *
    generalize upd r a fresh = r' at *
    have x0 : w9.cell? ⟨B, 0, none⟩ = some (Value.slice (some ⟨g, 0, none⟩) (L'.length + 1) cap) := HDB9.out.bx.cell 0
    have x1 : w9.cell? ⟨B, 1, none⟩ = some (Value.slice A2 Q.length c2') := HDB9.out.bx.cell 1
    have y0 : w9.cell? ⟨w.heap.size + 1, 0, none⟩ = some (.int .i64 (r' 0)) := HDB9.out.br.cell 0
    have y1 : w9.cell? ⟨w.heap.size + 1, 1, none⟩ = some (.int .i64 (r' 1)) := HDB9.out.br.cell 1
    have y2 : w9.cell? ⟨w.heap.size + 1, 2, none⟩ = some (.int .i64 (r' 2)) := HDB9.out.br.cell 2
    have y3 : w9.cell? ⟨w.heap.size + 1, 3, none⟩ = some (.int .i64 (r' 3)) := HDB9.out.br.cell 3
    have y4 : w9.cell? ⟨w.heap.size + 1, 4, none⟩ = some (.int .i64 (r' 4)) := HDB9.out.br.cell 4
    have y5 : w9.cell? ⟨w.heap.size + 1, 5, none⟩ = some (.int .i64 (r' 5)) := HDB9.out.br.cell 5
    have s0 : w9.cell? ⟨w.heap.size + 1 + 1 + 1, 0, none⟩ = some (.slice none 0 0) := HDB9.out.rm.cell 0
    have sf0 := HDB9.out.rm.free 0
    have s1 : w9.cell? ⟨w.heap.size + 1 + 1 + 1, 1, none⟩ = some (.slice none 0 0) := HDB9.out.rm.cell 1
    have sf1 := HDB9.out.rm.free 1
    have u0 : w9.cell? ⟨w.heap.size + 1 + 1 + 1 + 1, 0, none⟩ = some (.int .i64 0) := HDB9.out.rr.cell 0
    have uf0 := HDB9.out.rr.free 0
    have u1 : w9.cell? ⟨w.heap.size + 1 + 1 + 1 + 1, 1, none⟩ = some (.int .i64 0) := HDB9.out.rr.cell 1
    have uf1 := HDB9.out.rr.free 1
    have u2 : w9.cell? ⟨w.heap.size + 1 + 1 + 1 + 1, 2, none⟩ = some (.int .i64 0) := HDB9.out.rr.cell 2
    have uf2 := HDB9.out.rr.free 2
    have u3 : w9.cell? ⟨w.heap.size + 1 + 1 + 1 + 1, 3, none⟩ = some (.int .i64 0) := HDB9.out.rr.cell 3
    have uf3 := HDB9.out.rr.free 3
    have u4 : w9.cell? ⟨w.heap.size + 1 + 1 + 1 + 1, 4, none⟩ = some (.int .i64 0) := HDB9.out.rr.cell 4
    have uf4 := HDB9.out.rr.free 4
    have u5 : w9.cell? ⟨w.heap.size + 1 + 1 + 1 + 1, 5, none⟩ = some (.int .i64 0) := HDB9.out.rr.cell 5
    have uf5 := HDB9.out.rr.free 5
    go_region
    go_wp2_with fail
    rw [HPost.out]
    refine bodyPost_ret (v := .tuple #[.agg #[Value.slice (some ⟨g, 0, none⟩) (L'.length + 1) cap, Value.slice A2 Q.length c2'], .agg (rcs (r')), .int .i64 (fresh), .int .i64 (0)]) (by simp [results, Try.results12, go_sem, rcs, s0, s1, u0, u1, u2, u3, u4, u5]) rfl (HDB9.out.fin (fresh) (0) ?_)
    exact (((((((((Zf.refl _ _).set (.inl rfl)).set (.inl rfl)).set (.inr rfl)).set (.inr rfl)).set (.inr rfl)).set (.inr rfl)).set (.inr rfl)).set (.inr rfl)).later (gb_drew _ none)
end Go.Proofs.Yteieljkkcnpfmaa
