/-
  ModelOrder returns true, whatever the input; what it was handed reads as before. No condition.
-/
import Derived.Test.YteieljkkcnpfmaaOrd0
import Derived.BigRegion
import Derived.Deep.QuietTactic
import Derived.BigQuiet
namespace Go.Proofs.Yteieljkkcnpfmaa.modelOrder
open Go.ChangeShapes Go.WideShapes Go.ChangeAt Go.RowKit
set_option linter.unusedVariables false

theorem smo_dO {O : List Ob} {Q : List (Int × Int)} (h : Smo O Q) {r : Nat → Int} {k : Int} {a b : Nat} {i n : Int} (hk : k = 5 ∨ k = 7) : Smo (dO O r k a b i n 0) Q := by
  rcases dO57 (n := n) hk (O := O) (r := r) (a := a) (b := b) (i := i) with ⟨h1, _⟩ | ⟨p, _, hp, _, h4⟩
  · rw [h1]; exact h
  · rw [h4]
    refine ⟨by rw [List.length_set]; exact h.1, h.2.1, fun x hx => ?_⟩
    rcases mem_set_ne hp hx with rfl | ⟨q, hq, _, rfl⟩
    · obtain ⟨_, _, _, e4, e5⟩ := md_keeps k i.toNat (if k = 5 then r b else n) (O.getD p ob0)
      rw [e4, e5, getD_at hp]
      exact h.2.2 _ (List.getElem_mem _)
    · exact h.2.2 _ (List.getElem_mem _)
/-- What a write tells, but for registers and value. -/
def DoX (w : World) (O : List Ob) (Q : List (Int × Int)) (e : Int) (en : Ending) (w' : World) : Prop := ∃ r v, DoT w O Q r v e en w'
theorem do57 {w : World} {v : Value} {O : List Ob} {Q : List (Int × Int)} (h : RM w v O Q) (hs : Smo O Q) (r : Nat → Int) (k : Int) (a b : Nat) (i n : Int) (hk : k = 5 ∨ k = 7) (ha : a < 6) (hb : b < 6) (hi : 0 ≤ i) (hr : RightD (dd k a b i n) (parts k)) :
    Calls Try.prog 12 #[v, .agg #[.int .i64 (r 0), .int .i64 (r 1), .int .i64 (r 2), .int .i64 (r 3), .int .i64 (r 4), .int .i64 (r 5)], .agg #[.int .i64 k, .int .i64 a, .int .i64 b, .int .i64 i, .int .i64 n], .int .i64 0, .int .i64 0] w (DoX w (dO O r k a b i n 0) Q (flt O r k a b i 0)) := by
  have e : dQ O Q r k a b i 0 0 = Q := by
    unfold dQ nQ
    split
    · exact if_neg (by omega)
    · rfl
  refine (do_all h hs r k a b i n 0 0 (by omega) (by omega) ha hb hi hr).mono fun en w' x => ?_
  rw [e] at x
  exact ⟨_, _, x⟩
set_option maxRecDepth 100000 in
set_option maxHeartbeats 16000000 in
theorem walk (Ao : Option Addr) (co : Nat) (L : List Ov) (R : Nat → Int) (d0 d1 d2 d3 d4 e0 e1 e2 e3 e4 : Int) (w : World) (hL : RL w Ao L) (hlo : ∀ y ∈ L, Lo y.o ∧ Cp y) (hR : ∀ j, j < 6 → -9223372036854775808 ≤ R j) (h0 : -9223372036854775808 ≤ d0) (h1 : -9223372036854775808 ≤ d1) (h2 : -9223372036854775808 ≤ d2) (h3 : -9223372036854775808 ≤ d3) (h4 : -9223372036854775808 ≤ d4) (g0 : -9223372036854775808 ≤ e0) (g1 : -9223372036854775808 ≤ e1) (g2 : -9223372036854775808 ≤ e2) (g3 : -9223372036854775808 ≤ e3) (g4 : -9223372036854775808 ≤ e4) :
    Calls Try.prog 5 #[.slice Ao L.length co, .agg #[.int .i64 (R 0), .int .i64 (R 1), .int .i64 (R 2), .int .i64 (R 3), .int .i64 (R 4), .int .i64 (R 5)], .agg #[.int .i64 d0, .int .i64 d1, .int .i64 d2, .int .i64 d3, .int .i64 d4], .agg #[.int .i64 e0, .int .i64 e1, .int .i64 e2, .int .i64 e3, .int .i64 e4]] w fun e w' => e = .returned (.bool true) ∧ Below w.heap.size w w' := by
  obtain ⟨k1, a1, b1, i1, n1, -, hk11, hk12, ha16, hb16, hi10, hn10, hright1, hfit1⟩ := fit15_any d0 d1 d2 d3 d4 w h0 h1 h2 h3 h4
  obtain ⟨k2, a2, b2, i2, n2, -, hk21, hk22, ha26, hb26, hi20, hn20, hright2, hfit2⟩ := fit15_any e0 e1 e2 e3 e4 w g0 g1 g2 g3 g4
  obtain ⟨p, hp, hp2⟩ := pk_nat d0 2 (by omega)
  obtain ⟨q, hq, hq2⟩ := pk_nat e0 2 (by omega)
  obtain ⟨ka, hka⟩ : ∃ ka : Int, ka = if p = 0 then 7 else 5 := ⟨_, rfl⟩
  obtain ⟨kb, hkb⟩ : ∃ kb : Int, kb = if q = 0 then 7 else 5 := ⟨_, rfl⟩
  have hka5 : ka = 5 ∨ ka = 7 := by rw [hka]; split <;> simp
  have hkb5 : kb = 5 ∨ kb = 7 := by rw [hkb]; split <;> simp
  obtain ⟨k3, a3, b3, i3, n3, hk3, hk31, hk32, ha36, hb36, hi30, -, hright3, hfit3⟩ := fit15_any (ka - 1) a1 b1 i1 n1 w (by omega) (by omega) (by omega) (by omega) (by omega)
  obtain ⟨k4, a4, b4, i4, n4, hk4, hk41, hk42, ha46, hb46, hi40, -, hright4, hfit4⟩ := fit15_any (kb - 1) a2 b2 i2 n2 w (by omega) (by omega) (by omega) (by omega) (by omega)
  rw [pk_kind hka5] at hk3
  rw [pk_kind hkb5] at hk4
  have hk35 : k3 = 5 ∨ k3 = 7 := by omega
  have hk45 : k4 = 5 ∨ k4 = 7 := by omega
  have HK35 := Lib.hid hk35; have HK45 := Lib.hid hk45
  have hka1 : 5 ≤ ka := by omega
  have hka2 : ka ≤ 7 := by omega
  have hkb1 : 5 ≤ kb := by omega
  have hkb2 : kb ≤ 7 := by omega
  have HP := Lib.hid hp; have HQ := Lib.hid hq
  have HKA := Lib.hid hka; have HKB := Lib.hid hkb
  have HL := Lib.hid hL; have HLO := Lib.hid hlo; have HR := Lib.hid hR
  have HR3 := Lib.hid hright3; have HR4 := Lib.hid hright4
  have HF1 := Lib.hid hfit1; have HF2 := Lib.hid hfit2; have HF3 := Lib.hid hfit3; have HF4 := Lib.hid hfit4
  have hll := hL.1.le
  have HK0 := Lib.hid ((Kq.start w).al3 #[.int .i64 (R 0), .int .i64 (R 1), .int .i64 (R 2), .int .i64 (R 3), .int .i64 (R 4), .int .i64 (R 5)] #[.int .i64 d0, .int .i64 d1, .int .i64 d2, .int .i64 d3, .int .i64 d4] #[.int .i64 e0, .int .i64 e1, .int .i64 e2, .int .i64 e3, .int .i64 e4] 24 26 26)
  clear hL hlo hR hright1 hright2 hright3 hright4 hfit1 hfit2 hfit3 hfit4 hp hq hka hkb hk3 hk4 hk35 hk45 hka5 hkb5 h1 h2 h3 h4 g1 g2 g3 g4 hk11 hk12 hk21 hk22 hn10 hn20
  go_enter Try.func5, Try.ntmps5
  go_wp2_with fail
  generalize ((w.alloc (.cells #[.int .i64 (R 0), .int .i64 (R 1), .int .i64 (R 2), .int .i64 (R 3), .int .i64 (R 4), .int .i64 (R 5)] 24)).alloc (.cells #[.int .i64 d0, .int .i64 d1, .int .i64 d2, .int .i64 d3, .int .i64 d4] 26)).alloc (.cells #[.int .i64 e0, .int .i64 e1, .int .i64 e2, .int .i64 e3, .int .i64 e4] 26) = w0 at *
  generalize w.heap.size = N at *
  refine (awake_any w0).mono ?_
  rintro e w1 ⟨rfl, hg⟩
  have HK1 := Lib.hid (HK0.out.gb hg)
  clear hg HK0
  go_wp2_with fail
  refine (fit_nil Ao co L w1 (HL.out.gb HK1.out.gr) HLO.out).mono ?_
  rintro e w2 ⟨A1, n1', c1, B1, m1, e1', O, Q, rfl, hnm, hrm, hfo, hol, hq4, hg⟩
  have hn8 : n1' ≤ 8 := by omega
  have hsm := hfo.smo hol (by omega) hq4
  have HRM2 := Lib.hid (RMZ.start hrm)
  have HSM := Lib.hid hsm
  clear hrm hfo hsm hol hnm hll HL HLO
  have HK2 := Lib.hid (HK1.out.gb hg)
  clear hg HK1
  have xb := HK2.out.get 2 rfl
  have x0 : w2.cell? ⟨N, 0, none⟩ = some (.int .i64 (R 0)) := xb.cell 0
  have x1 : w2.cell? ⟨N, 1, none⟩ = some (.int .i64 (R 1)) := xb.cell 1
  have x2 : w2.cell? ⟨N, 2, none⟩ = some (.int .i64 (R 2)) := xb.cell 2
  have x3 : w2.cell? ⟨N, 3, none⟩ = some (.int .i64 (R 3)) := xb.cell 3
  have x4 : w2.cell? ⟨N, 4, none⟩ = some (.int .i64 (R 4)) := xb.cell 4
  have x5 : w2.cell? ⟨N, 5, none⟩ = some (.int .i64 (R 5)) := xb.cell 5
  have xl : N < w2.heap.size := xb.lt
  clear xb
  go_wp2_with fail
  have HK3 := Lib.hid (HK2.out.al1 #[.slice A1 n1' c1, .slice B1 m1 e1'] 29)
  have hgal : w2.grownBy (w2.alloc (.cells #[.slice A1 n1' c1, .slice B1 m1 e1'] 29)) none := World.grownBy_alloc _ _ none
  have HRM3 := Lib.hid (HRM2.out.gb hgal)
  clear hgal HK2 HRM2
  generalize hW : w2.alloc (.cells #[.slice A1 n1' c1, .slice B1 m1 e1'] 29) = w3 at *
  clear hW
  generalize w2.heap.size = B10 at *
  clear x0 x1 x2 x3 x4 x5 xl
  refine (regs_t A1 B1 n1' c1 m1 e1' R w3 (by omega) HR.out).mono ?_
  rintro e w4 ⟨rfl, hg⟩
  have HK4 := Lib.hid (HK3.out.gb hg)
  have HRM4 := Lib.hid (HRM3.out.gb hg)
  clear hg HK3 HRM3
  clear HR
  dsimp only
  generalize hr : (fun j => pk (R j) ((n1' : Int) + 1)) = r at *
  rw [show pk (R 0) ((n1' : Int) + 1) = r 0 from by rw [← hr], show pk (R 1) ((n1' : Int) + 1) = r 1 from by rw [← hr], show pk (R 2) ((n1' : Int) + 1) = r 2 from by rw [← hr], show pk (R 3) ((n1' : Int) + 1) = r 3 from by rw [← hr], show pk (R 4) ((n1' : Int) + 1) = r 4 from by rw [← hr], show pk (R 5) ((n1' : Int) + 1) = r 5 from by rw [← hr]]
  clear hr
  have xb := HK4.out.get 2 rfl
  have x0 : w4.cell? ⟨N + 1, 0, none⟩ = some (.int .i64 d0) := xb.cell 0
  have x1 : w4.cell? ⟨N + 1, 1, none⟩ = some (.int .i64 d1) := xb.cell 1
  have x2 : w4.cell? ⟨N + 1, 2, none⟩ = some (.int .i64 d2) := xb.cell 2
  have x3 : w4.cell? ⟨N + 1, 3, none⟩ = some (.int .i64 d3) := xb.cell 3
  have x4 : w4.cell? ⟨N + 1, 4, none⟩ = some (.int .i64 d4) := xb.cell 4
  have xl : N + 1 < w4.heap.size := xb.lt
  clear xb
  have xl2 : N < w4.heap.size := by omega
  go_wp2_with fail
  have HK5 := Lib.hid (HK4.out.al1 #[.int .i64 (r 0), .int .i64 (r 1), .int .i64 (r 2), .int .i64 (r 3), .int .i64 (r 4), .int .i64 (r 5)] 24)
  have hgal : w4.grownBy (w4.alloc (.cells #[.int .i64 (r 0), .int .i64 (r 1), .int .i64 (r 2), .int .i64 (r 3), .int .i64 (r 4), .int .i64 (r 5)] 24)) none := World.grownBy_alloc _ _ none
  have HRM5 := Lib.hid (HRM4.out.gb hgal)
  clear hgal HK4 HRM4
  generalize hW : w4.alloc (.cells #[.int .i64 (r 0), .int .i64 (r 1), .int .i64 (r 2), .int .i64 (r 3), .int .i64 (r 4), .int .i64 (r 5)] 24) = w5 at *
  clear hW
  generalize w4.heap.size = B11 at *
  clear x0 x1 x2 x3 x4 xl
  refine (HF1.out w5).mono ?_
  rintro e w6 ⟨rfl, hg⟩
  have HK6 := Lib.hid (HK5.out.gb hg)
  have HRM6 := Lib.hid (HRM5.out.gb hg)
  clear hg HK5 HRM5
  have xb := HK6.out.get 2 rfl
  have x0 : w6.cell? ⟨N + 1 + 1, 0, none⟩ = some (.int .i64 e0) := xb.cell 0
  have x1 : w6.cell? ⟨N + 1 + 1, 1, none⟩ = some (.int .i64 e1) := xb.cell 1
  have x2 : w6.cell? ⟨N + 1 + 1, 2, none⟩ = some (.int .i64 e2) := xb.cell 2
  have x3 : w6.cell? ⟨N + 1 + 1, 3, none⟩ = some (.int .i64 e3) := xb.cell 3
  have x4 : w6.cell? ⟨N + 1 + 1, 4, none⟩ = some (.int .i64 e4) := xb.cell 4
  have xl : N + 1 + 1 < w6.heap.size := xb.lt
  clear xb
  have xl2 : N + 1 < w6.heap.size := by omega
  have xl3 : N < w6.heap.size := by omega
  have HG12 := Lib.hid HRM6.out.geb
  go_wp2_with fail
  have HK7 := Lib.hid (HK6.out.al1 #[.int .i64 k1, .int .i64 a1, .int .i64 b1, .int .i64 i1, .int .i64 n1] 26)
  have hgal : w6.grownBy (w6.alloc (.cells #[.int .i64 k1, .int .i64 a1, .int .i64 b1, .int .i64 i1, .int .i64 n1] 26)) none := World.grownBy_alloc _ _ none
  have HRM7 := Lib.hid (HRM6.out.gb hgal)
  clear hgal HK6 HRM6
  generalize hW : w6.alloc (.cells #[.int .i64 k1, .int .i64 a1, .int .i64 b1, .int .i64 i1, .int .i64 n1] 26) = w7 at *
  clear hW
  generalize w6.heap.size = B12 at *
  clear x0 x1 x2 x3 x4 xl
  refine (HF2.out w7).mono ?_
  rintro e w8 ⟨rfl, hg⟩
  have HK8 := Lib.hid (HK7.out.gb hg)
  have HRM8 := Lib.hid (HRM7.out.gb hg)
  clear hg HK7 HRM7
  have HG13 := Lib.hid HRM8.out.geb
  have xb := HK8.out.get 4 rfl
  have x0 : w8.cell? ⟨N + 1, 0, none⟩ = some (.int .i64 d0) := xb.cell 0
  have xl : N + 1 < w8.heap.size := xb.lt
  clear xb
  have xl2 : N < w8.heap.size := by omega
  go_wp2_with fail
  have HK9 := Lib.hid (HK8.out.al2 #[.int .i64 k2, .int .i64 a2, .int .i64 b2, .int .i64 i2, .int .i64 n2] #[.int .i64 7, .int .i64 5] 26 3)
  have hgal : w8.grownBy ((w8.alloc (.cells #[.int .i64 k2, .int .i64 a2, .int .i64 b2, .int .i64 i2, .int .i64 n2] 26)).alloc (.cells #[.int .i64 7, .int .i64 5] 3)) none := grownBy_trans (World.grownBy_alloc _ _ none) (World.grownBy_alloc _ _ none)
  have HRM9 := Lib.hid (HRM8.out.gb hgal)
  clear hgal HK8 HRM8
  generalize hW : (w8.alloc (.cells #[.int .i64 k2, .int .i64 a2, .int .i64 b2, .int .i64 i2, .int .i64 n2] 26)).alloc (.cells #[.int .i64 7, .int .i64 5] 3) = w9 at *
  clear hW
  generalize w8.heap.size = B13 at *
  clear x0 xl
  refine (pick_any d0 2 w9 h0 (by omega)).mono ?_
  rintro e w10 ⟨rfl, rfl⟩
  rw [show pk d0 2 = (p : Int) from HP.out]
  have hp0 : (0 : Int) ≤ (p : Int) := by omega
  have hp1 : (p : Int) < 2 := by omega
  have hcp : w9.cell? ⟨B13 + 1, p, none⟩ = some (.int .i64 ka) := by
    have hb := HK9.out.get 0 rfl
    rw [hb.cell, HKA.out]
    rcases (by omega : p = 0 ∨ p = 1) with rfl | rfl <;> rfl
  have xb := HK9.out.get 2 rfl
  have x0 : w9.cell? ⟨B12, 0, none⟩ = some (.int .i64 k1) := xb.cell 0
  have xl : B12 < w9.heap.size := xb.lt
  clear xb
  have xf0 := (HK9.out.get 2 rfl).free 0
  have yb := HK9.out.get 5 rfl
  have y0 : w9.cell? ⟨N + 1 + 1, 0, none⟩ = some (.int .i64 e0) := yb.cell 0
  have yl : N + 1 + 1 < w9.heap.size := yb.lt
  clear yb
  have yl2 : N + 1 < w9.heap.size := by omega
  have yl3 : N < w9.heap.size := by omega
  have hne1 : ¬ N + 1 + 1 = B12 := by
    have h5 := List.pairwise_iff_getElem.1 HK9.out.ps 2 5 (by simp) (by simp) (by omega)
    simp at h5; omega
  go_wp2_with fail
  clear xf0
  clear x0 xl
  clear y0 yl
  clear yl2 yl3 hcp hp0 hp1
  have HK10 := Lib.hid (HK9.out.set 2 rfl 0 (.int .i64 ka))
  simp only [List.setIfInBounds_toArray, List.set_cons_zero, List.set_cons_succ] at HK10
  have HRM10 := Lib.hid (HRM9.out.set HG12.out 0 (.int .i64 ka))
  clear HK9 HRM9
  have hsz : (w9.setCell ⟨B12, 0, none⟩ (.int .i64 ka)).heap.size = w9.heap.size := by simp
  generalize hW : w9.setCell ⟨B12, 0, none⟩ (.int .i64 ka) = w10 at *
  clear hW
  have HK11 := Lib.hid (HK10.out.al1 #[.int .i64 7, .int .i64 5] 3)
  have hgal : w10.grownBy (w10.alloc (.cells #[.int .i64 7, .int .i64 5] 3)) none := World.grownBy_alloc _ _ none
  have HRM11 := Lib.hid (HRM10.out.gb hgal)
  clear hgal HK10 HRM10
  generalize hW : w10.alloc (.cells #[.int .i64 7, .int .i64 5] 3) = w11 at *
  clear hW
  rw [hsz] at HK11
  clear hsz
  generalize w9.heap.size = B14 at *
  refine (pick_any e0 2 w11 g0 (by omega)).mono ?_
  rintro e w12 ⟨rfl, rfl⟩
  rw [show pk e0 2 = (q : Int) from HQ.out]
  have hq0 : (0 : Int) ≤ (q : Int) := by omega
  have hq1 : (q : Int) < 2 := by omega
  have hcq : w11.cell? ⟨B14, q, none⟩ = some (.int .i64 kb) := by
    have hb := HK11.out.get 0 rfl
    rw [hb.cell, HKB.out]
    rcases (by omega : q = 0 ∨ q = 1) with rfl | rfl <;> rfl
  have xb := HK11.out.get 2 rfl
  have x0 : w11.cell? ⟨B13, 0, none⟩ = some (.int .i64 k2) := xb.cell 0
  have xl : B13 < w11.heap.size := xb.lt
  clear xb
  have xf0 := (HK11.out.get 2 rfl).free 0
  have yb := HK11.out.get 3 rfl
  have y0 : w11.cell? ⟨B12, 0, none⟩ = some (.int .i64 ka) := yb.cell 0
  have y1 : w11.cell? ⟨B12, 1, none⟩ = some (.int .i64 a1) := yb.cell 1
  have y2 : w11.cell? ⟨B12, 2, none⟩ = some (.int .i64 b1) := yb.cell 2
  have y3 : w11.cell? ⟨B12, 3, none⟩ = some (.int .i64 i1) := yb.cell 3
  have y4 : w11.cell? ⟨B12, 4, none⟩ = some (.int .i64 n1) := yb.cell 4
  have yl : B12 < w11.heap.size := yb.lt
  clear yb
  have hne1 : ¬ B12 = B13 := by
    have h5 := List.pairwise_iff_getElem.1 HK11.out.ps 2 3 (by simp) (by simp) (by omega)
    simp at h5; omega
  have hne2 : ¬ B13 = B12 := fun e => hne1 e.symm
  go_wp2_with fail
  clear xf0
  clear x0 xl
  clear y0 y1 y2 y3 y4 yl
  clear hcq hq0 hq1
  have HK12 := Lib.hid (HK11.out.set 2 rfl 0 (.int .i64 kb))
  simp only [List.setIfInBounds_toArray, List.set_cons_zero, List.set_cons_succ] at HK12
  have HRM12 := Lib.hid (HRM11.out.set HG13.out 0 (.int .i64 kb))
  clear HK11 HRM11
  have hsz : (w11.setCell ⟨B13, 0, none⟩ (.int .i64 kb)).heap.size = w11.heap.size := by simp
  generalize hW : w11.setCell ⟨B13, 0, none⟩ (.int .i64 kb) = w12 at *
  clear hW
  clear hsz
  refine (HF3.out w12).mono ?_
  rintro e w13 ⟨rfl, hg⟩
  have HK13 := Lib.hid (HK12.out.gb hg)
  have HRM13 := Lib.hid (HRM12.out.gb hg)
  clear hg HK12 HRM12
  have xb := HK13.out.get 3 rfl
  have x0 : w13.cell? ⟨B12, 0, none⟩ = some (.int .i64 ka) := xb.cell 0
  have x1 : w13.cell? ⟨B12, 1, none⟩ = some (.int .i64 a1) := xb.cell 1
  have x2 : w13.cell? ⟨B12, 2, none⟩ = some (.int .i64 b1) := xb.cell 2
  have x3 : w13.cell? ⟨B12, 3, none⟩ = some (.int .i64 i1) := xb.cell 3
  have x4 : w13.cell? ⟨B12, 4, none⟩ = some (.int .i64 n1) := xb.cell 4
  have xl : B12 < w13.heap.size := xb.lt
  clear xb
  have xf0 := (HK13.out.get 3 rfl).free 0
  have xf1 := (HK13.out.get 3 rfl).free 1
  have xf2 := (HK13.out.get 3 rfl).free 2
  have xf3 := (HK13.out.get 3 rfl).free 3
  have xf4 := (HK13.out.get 3 rfl).free 4
  have yb := HK13.out.get 2 rfl
  have y0 : w13.cell? ⟨B13, 0, none⟩ = some (.int .i64 kb) := yb.cell 0
  have y1 : w13.cell? ⟨B13, 1, none⟩ = some (.int .i64 a2) := yb.cell 1
  have y2 : w13.cell? ⟨B13, 2, none⟩ = some (.int .i64 b2) := yb.cell 2
  have y3 : w13.cell? ⟨B13, 3, none⟩ = some (.int .i64 i2) := yb.cell 3
  have y4 : w13.cell? ⟨B13, 4, none⟩ = some (.int .i64 n2) := yb.cell 4
  have yl : B13 < w13.heap.size := yb.lt
  clear yb
  go_wp2_with fail
  clear xf0 xf1 xf2 xf3 xf4
  clear x0 x1 x2 x3 x4 xl
  clear y0 y1 y2 y3 y4 yl
  have HK14 := Lib.hid (((((HK13.out.set 3 rfl 0 (.int .i64 k3)).set 3 rfl 1 (.int .i64 a3)).set 3 rfl 2 (.int .i64 b3)).set 3 rfl 3 (.int .i64 i3)).set 3 rfl 4 (.int .i64 n3))
  simp only [List.setIfInBounds_toArray, List.set_cons_zero, List.set_cons_succ] at HK14
  have HRM14 := Lib.hid (((((HRM13.out.set HG12.out 0 (.int .i64 k3)).set HG12.out 1 (.int .i64 a3)).set HG12.out 2 (.int .i64 b3)).set HG12.out 3 (.int .i64 i3)).set HG12.out 4 (.int .i64 n3))
  clear HK13 HRM13
  have hsz : (((((w13.setCell ⟨B12, 0, none⟩ (.int .i64 k3)).setCell ⟨B12, 1, none⟩ (.int .i64 a3)).setCell ⟨B12, 2, none⟩ (.int .i64 b3)).setCell ⟨B12, 3, none⟩ (.int .i64 i3)).setCell ⟨B12, 4, none⟩ (.int .i64 n3)).heap.size = w13.heap.size := by simp
  generalize hW : ((((w13.setCell ⟨B12, 0, none⟩ (.int .i64 k3)).setCell ⟨B12, 1, none⟩ (.int .i64 a3)).setCell ⟨B12, 2, none⟩ (.int .i64 b3)).setCell ⟨B12, 3, none⟩ (.int .i64 i3)).setCell ⟨B12, 4, none⟩ (.int .i64 n3) = w14 at *
  clear hW
  clear hsz
  refine (HF4.out w14).mono ?_
  rintro e w15 ⟨rfl, hg⟩
  have HK15 := Lib.hid (HK14.out.gb hg)
  have HRM15 := Lib.hid (HRM14.out.gb hg)
  clear hg HK14 HRM14
  have yb := HK15.out.get 2 rfl
  have y0 : w15.cell? ⟨B13, 0, none⟩ = some (.int .i64 kb) := yb.cell 0
  have y1 : w15.cell? ⟨B13, 1, none⟩ = some (.int .i64 a2) := yb.cell 1
  have y2 : w15.cell? ⟨B13, 2, none⟩ = some (.int .i64 b2) := yb.cell 2
  have y3 : w15.cell? ⟨B13, 3, none⟩ = some (.int .i64 i2) := yb.cell 3
  have y4 : w15.cell? ⟨B13, 4, none⟩ = some (.int .i64 n2) := yb.cell 4
  have yl : B13 < w15.heap.size := yb.lt
  clear yb
  have yf0 := (HK15.out.get 2 rfl).free 0
  have yf1 := (HK15.out.get 2 rfl).free 1
  have yf2 := (HK15.out.get 2 rfl).free 2
  have yf3 := (HK15.out.get 2 rfl).free 3
  have yf4 := (HK15.out.get 2 rfl).free 4
  go_wp2_with fail
  clear yf0 yf1 yf2 yf3 yf4
  clear y0 y1 y2 y3 y4 yl
  have HK16 := Lib.hid (((((HK15.out.set 2 rfl 0 (.int .i64 k4)).set 2 rfl 1 (.int .i64 a4)).set 2 rfl 2 (.int .i64 b4)).set 2 rfl 3 (.int .i64 i4)).set 2 rfl 4 (.int .i64 n4))
  simp only [List.setIfInBounds_toArray, List.set_cons_zero, List.set_cons_succ] at HK16
  have HRM16 := Lib.hid (((((HRM15.out.set HG13.out 0 (.int .i64 k4)).set HG13.out 1 (.int .i64 a4)).set HG13.out 2 (.int .i64 b4)).set HG13.out 3 (.int .i64 i4)).set HG13.out 4 (.int .i64 n4))
  clear HK15 HRM15
  have hsz : (((((w15.setCell ⟨B13, 0, none⟩ (.int .i64 k4)).setCell ⟨B13, 1, none⟩ (.int .i64 a4)).setCell ⟨B13, 2, none⟩ (.int .i64 b4)).setCell ⟨B13, 3, none⟩ (.int .i64 i4)).setCell ⟨B13, 4, none⟩ (.int .i64 n4)).heap.size = w15.heap.size := by simp
  generalize hW : ((((w15.setCell ⟨B13, 0, none⟩ (.int .i64 k4)).setCell ⟨B13, 1, none⟩ (.int .i64 a4)).setCell ⟨B13, 2, none⟩ (.int .i64 b4)).setCell ⟨B13, 3, none⟩ (.int .i64 i4)).setCell ⟨B13, 4, none⟩ (.int .i64 n4) = w16 at *
  clear hW
  clear hsz
  have HSX := Lib.hid (smo_dO HSM.out (r := r) (a := a3) (b := b3) (i := i3) (n := n3) HK35.out)
  have HSZ := Lib.hid (smo_dO HSM.out (r := r) (a := a4) (b := b4) (i := i4) (n := n4) HK45.out)
  have HD1 := Lib.hid (fun W v hm => do57 (w := W) (v := v) (O := O) (Q := Q) hm HSM.out r k3 a3 b3 i3 n3 HK35.out ha36 hb36 hi30 HR3.out)
  have HD2 := Lib.hid (fun W v hm => do57 (w := W) (v := v) (Q := Q) hm HSX.out r k4 a4 b4 i4 n4 HK45.out ha46 hb46 hi40 HR4.out)
  have HD3 := Lib.hid (fun W v hm => do57 (w := W) (v := v) (O := O) (Q := Q) hm HSM.out r k4 a4 b4 i4 n4 HK45.out ha46 hb46 hi40 HR4.out)
  have HD4 := Lib.hid (fun W v hm => do57 (w := W) (v := v) (Q := Q) hm HSZ.out r k3 a3 b3 i3 n3 HK35.out ha36 hb36 hi30 HR3.out)
  rw [show flt (dO O r k3 a3 b3 i3 n3 0) r k4 a4 b4 i4 0 = flt O r k4 a4 b4 i4 0 from flt_dO HK45.out HK35.out] at HD2
  rw [show flt (dO O r k4 a4 b4 i4 n4 0) r k3 a3 b3 i3 0 = flt O r k3 a3 b3 i3 0 from flt_dO HK35.out HK45.out] at HD4
  have a30 : (0 : Int) ≤ (a3 : Int) := by omega
  have a36 : (a3 : Int) < 6 := by omega
  have a40 : (0 : Int) ≤ (a4 : Int) := by omega
  have a46 : (a4 : Int) < 6 := by omega
  clear HSX HSZ HSM HR3 HR4
  by_cases hs : r a3 = r a4
  · by_cases hk : k3 = k4
    · by_cases hi : i3 = i4
      · have xb := HK16.out.get 3 rfl
        have x0 : w16.cell? ⟨B12, 0, none⟩ = some (.int .i64 k3) := xb.cell 0
        have x1 : w16.cell? ⟨B12, 1, none⟩ = some (.int .i64 a3) := xb.cell 1
        have x2 : w16.cell? ⟨B12, 2, none⟩ = some (.int .i64 b3) := xb.cell 2
        have x3 : w16.cell? ⟨B12, 3, none⟩ = some (.int .i64 i3) := xb.cell 3
        have x4 : w16.cell? ⟨B12, 4, none⟩ = some (.int .i64 n3) := xb.cell 4
        have xl : B12 < w16.heap.size := xb.lt
        clear xb
        have yb := HK16.out.get 2 rfl
        have y0 : w16.cell? ⟨B13, 0, none⟩ = some (.int .i64 k3) := by rw [hk]; exact yb.cell 0
        have y1 : w16.cell? ⟨B13, 1, none⟩ = some (.int .i64 a4) := yb.cell 1
        have y3 : w16.cell? ⟨B13, 3, none⟩ = some (.int .i64 i3) := by rw [hi]; exact yb.cell 3
        have zb := HK16.out.get 4 rfl
        have z3 : w16.cell? ⟨B11, a3, none⟩ = some (.int .i64 (r a3)) := by rw [zb.cell]; exact rcs_get r a3 ha36
        have z4 : w16.cell? ⟨B11, a4, none⟩ = some (.int .i64 (r a3)) := by rw [hs, zb.cell]; exact rcs_get r a4 ha46
        have zl := zb.lt
        clear yb zb
        have HK17 := Lib.hid (fun q => below_of (HK16.out.gb (gb_drewN w16 q none)).gr)
        clear hs hk hi HD1 HD2 HD3 HD4 HRM16 HK16
        go_wp2_with fail
        go_quiet (fail)
        go_wp2_with fail
        go_ret
        exact ⟨rfl, HK17.out _⟩
      · have HLAW := Lib.hid (order_law (O := O) (r := r) (a1 := a3) (a2 := a4) (n1 := n3) (n2 := n4) (b1 := b3) (b2 := b4) HK35.out HK45.out hi30 hi40 (fun h => hi h.2.2))
        have xb := HK16.out.get 3 rfl
        have x0 : w16.cell? ⟨B12, 0, none⟩ = some (.int .i64 k3) := xb.cell 0
        have x1 : w16.cell? ⟨B12, 1, none⟩ = some (.int .i64 a3) := xb.cell 1
        have x2 : w16.cell? ⟨B12, 2, none⟩ = some (.int .i64 b3) := xb.cell 2
        have x3 : w16.cell? ⟨B12, 3, none⟩ = some (.int .i64 i3) := xb.cell 3
        have x4 : w16.cell? ⟨B12, 4, none⟩ = some (.int .i64 n3) := xb.cell 4
        have xl : B12 < w16.heap.size := xb.lt
        clear xb
        have yb := HK16.out.get 2 rfl
        have y0 : w16.cell? ⟨B13, 0, none⟩ = some (.int .i64 k3) := by rw [hk]; exact yb.cell 0
        have y1 : w16.cell? ⟨B13, 1, none⟩ = some (.int .i64 a4) := yb.cell 1
        have y3 : w16.cell? ⟨B13, 3, none⟩ = some (.int .i64 i4) := yb.cell 3
        have zb := HK16.out.get 4 rfl
        have z3 : w16.cell? ⟨B11, a3, none⟩ = some (.int .i64 (r a3)) := by rw [zb.cell]; exact rcs_get r a3 ha36
        have z4 : w16.cell? ⟨B11, a4, none⟩ = some (.int .i64 (r a3)) := by rw [hs, zb.cell]; exact rcs_get r a4 ha46
        have zl := zb.lt
        clear yb zb
        have hb : (i3 == i4) = false := by rw [beq_eq_false_iff_ne]; exact hi
        clear hs hk hi
        go_wp2_with fail
        go_quiet (fail)
        clear hb
        clear x0 x1 x2 x3 x4 xl y0 y1 y3 z3 z4 zl a30 a36 a40 a46
        have HK17 := Lib.hid (HK16.out.gb (gb_drewN w16 nq none))
        have HRM17 := Lib.hid (HRM16.out.gb (gb_drewN w16 nq none))
        clear HK16 HRM16
        generalize w16.drewN nq = w17 at *
        have xb := HK17.out.get 4 rfl
        have x0 : w17.cell? ⟨B11, 0, none⟩ = some (.int .i64 (r 0)) := xb.cell 0
        have x1 : w17.cell? ⟨B11, 1, none⟩ = some (.int .i64 (r 1)) := xb.cell 1
        have x2 : w17.cell? ⟨B11, 2, none⟩ = some (.int .i64 (r 2)) := xb.cell 2
        have x3 : w17.cell? ⟨B11, 3, none⟩ = some (.int .i64 (r 3)) := xb.cell 3
        have x4 : w17.cell? ⟨B11, 4, none⟩ = some (.int .i64 (r 4)) := xb.cell 4
        have x5 : w17.cell? ⟨B11, 5, none⟩ = some (.int .i64 (r 5)) := xb.cell 5
        have xl : B11 < w17.heap.size := xb.lt
        clear xb
        have yb := HK17.out.get 3 rfl
        have y0 : w17.cell? ⟨B12, 0, none⟩ = some (.int .i64 k3) := yb.cell 0
        have y1 : w17.cell? ⟨B12, 1, none⟩ = some (.int .i64 a3) := yb.cell 1
        have y2 : w17.cell? ⟨B12, 2, none⟩ = some (.int .i64 b3) := yb.cell 2
        have y3 : w17.cell? ⟨B12, 3, none⟩ = some (.int .i64 i3) := yb.cell 3
        have y4 : w17.cell? ⟨B12, 4, none⟩ = some (.int .i64 n3) := yb.cell 4
        have yl : B12 < w17.heap.size := yb.lt
        clear yb
        have zb := HK17.out.get 5 rfl
        have z0 : w17.cell? ⟨B10, 0, none⟩ = some (.slice A1 n1' c1) := zb.cell 0
        have z1 : w17.cell? ⟨B10, 1, none⟩ = some (.slice B1 m1 e1') := zb.cell 1
        have zl : B10 < w17.heap.size := zb.lt
        clear zb
        go_wp2_with fail
        clear x0 x1 x2 x3 x4 x5 xl
        clear y0 y1 y2 y3 y4 yl
        clear z0 z1 zl
        refine (HD1.out _ _ HRM17.out.rm).mono ?_
        rintro e w18 ⟨rx, vx, Ax, nx, cx, Bx, mx, ex, rfl, hrm, hg⟩
        have HX18 := Lib.hid hrm
        clear hrm HD1
        have HK18 := Lib.hid (HK17.out.gb hg)
        have HRM18 := Lib.hid (HRM17.out.gb hg)
        clear hg HK17 HRM17
        have xb := HK18.out.get 4 rfl
        have x0 : w18.cell? ⟨B11, 0, none⟩ = some (.int .i64 (r 0)) := xb.cell 0
        have x1 : w18.cell? ⟨B11, 1, none⟩ = some (.int .i64 (r 1)) := xb.cell 1
        have x2 : w18.cell? ⟨B11, 2, none⟩ = some (.int .i64 (r 2)) := xb.cell 2
        have x3 : w18.cell? ⟨B11, 3, none⟩ = some (.int .i64 (r 3)) := xb.cell 3
        have x4 : w18.cell? ⟨B11, 4, none⟩ = some (.int .i64 (r 4)) := xb.cell 4
        have x5 : w18.cell? ⟨B11, 5, none⟩ = some (.int .i64 (r 5)) := xb.cell 5
        have xl : B11 < w18.heap.size := xb.lt
        clear xb
        have yb := HK18.out.get 2 rfl
        have y0 : w18.cell? ⟨B13, 0, none⟩ = some (.int .i64 k4) := yb.cell 0
        have y1 : w18.cell? ⟨B13, 1, none⟩ = some (.int .i64 a4) := yb.cell 1
        have y2 : w18.cell? ⟨B13, 2, none⟩ = some (.int .i64 b4) := yb.cell 2
        have y3 : w18.cell? ⟨B13, 3, none⟩ = some (.int .i64 i4) := yb.cell 3
        have y4 : w18.cell? ⟨B13, 4, none⟩ = some (.int .i64 n4) := yb.cell 4
        have yl : B13 < w18.heap.size := yb.lt
        clear yb
        go_wp2_with fail
        have HK19 := Lib.hid (HK18.out.al2 #[.slice Ax nx cx, .slice Bx mx ex] #[.int .i64 (rx 0), .int .i64 (rx 1), .int .i64 (rx 2), .int .i64 (rx 3), .int .i64 (rx 4), .int .i64 (rx 5)] 29 24)
        have hgal : w18.grownBy ((w18.alloc (.cells #[.slice Ax nx cx, .slice Bx mx ex] 29)).alloc (.cells #[.int .i64 (rx 0), .int .i64 (rx 1), .int .i64 (rx 2), .int .i64 (rx 3), .int .i64 (rx 4), .int .i64 (rx 5)] 24)) none := grownBy_trans (World.grownBy_alloc _ _ none) (World.grownBy_alloc _ _ none)
        have HRM19 := Lib.hid (HRM18.out.gb hgal)
        have HX19 := Lib.hid (HX18.out.gb hgal)
        clear hgal HK18 HRM18 HX18
        generalize hW : (w18.alloc (.cells #[.slice Ax nx cx, .slice Bx mx ex] 29)).alloc (.cells #[.int .i64 (rx 0), .int .i64 (rx 1), .int .i64 (rx 2), .int .i64 (rx 3), .int .i64 (rx 4), .int .i64 (rx 5)] 24) = w19 at *
        clear hW
        generalize w18.heap.size = B14x at *
        clear x0 x1 x2 x3 x4 x5 xl
        clear y0 y1 y2 y3 y4 yl
        refine (HD2.out _ _ HX19.out).mono ?_
        rintro e w20 ⟨ry, vy, Ay, ny, cy, By, my, ey, rfl, hrm, hg⟩
        have HY20 := Lib.hid hrm
        clear hrm HD2 HX19
        have HK20 := Lib.hid (HK19.out.gb hg)
        have HRM20 := Lib.hid (HRM19.out.gb hg)
        clear hg HK19 HRM19
        have xb := HK20.out.get 6 rfl
        have x0 : w20.cell? ⟨B11, 0, none⟩ = some (.int .i64 (r 0)) := xb.cell 0
        have x1 : w20.cell? ⟨B11, 1, none⟩ = some (.int .i64 (r 1)) := xb.cell 1
        have x2 : w20.cell? ⟨B11, 2, none⟩ = some (.int .i64 (r 2)) := xb.cell 2
        have x3 : w20.cell? ⟨B11, 3, none⟩ = some (.int .i64 (r 3)) := xb.cell 3
        have x4 : w20.cell? ⟨B11, 4, none⟩ = some (.int .i64 (r 4)) := xb.cell 4
        have x5 : w20.cell? ⟨B11, 5, none⟩ = some (.int .i64 (r 5)) := xb.cell 5
        have xl : B11 < w20.heap.size := xb.lt
        clear xb
        have yb := HK20.out.get 4 rfl
        have y0 : w20.cell? ⟨B13, 0, none⟩ = some (.int .i64 k4) := yb.cell 0
        have y1 : w20.cell? ⟨B13, 1, none⟩ = some (.int .i64 a4) := yb.cell 1
        have y2 : w20.cell? ⟨B13, 2, none⟩ = some (.int .i64 b4) := yb.cell 2
        have y3 : w20.cell? ⟨B13, 3, none⟩ = some (.int .i64 i4) := yb.cell 3
        have y4 : w20.cell? ⟨B13, 4, none⟩ = some (.int .i64 n4) := yb.cell 4
        have yl : B13 < w20.heap.size := yb.lt
        clear yb
        have zb := HK20.out.get 7 rfl
        have z0 : w20.cell? ⟨B10, 0, none⟩ = some (.slice A1 n1' c1) := zb.cell 0
        have z1 : w20.cell? ⟨B10, 1, none⟩ = some (.slice B1 m1 e1') := zb.cell 1
        have zl : B10 < w20.heap.size := zb.lt
        clear zb
        go_wp2_with fail
        have HK21 := Lib.hid (HK20.out.al2 #[.slice Ay ny cy, .slice By my ey] #[.int .i64 (ry 0), .int .i64 (ry 1), .int .i64 (ry 2), .int .i64 (ry 3), .int .i64 (ry 4), .int .i64 (ry 5)] 29 24)
        have hgal : w20.grownBy ((w20.alloc (.cells #[.slice Ay ny cy, .slice By my ey] 29)).alloc (.cells #[.int .i64 (ry 0), .int .i64 (ry 1), .int .i64 (ry 2), .int .i64 (ry 3), .int .i64 (ry 4), .int .i64 (ry 5)] 24)) none := grownBy_trans (World.grownBy_alloc _ _ none) (World.grownBy_alloc _ _ none)
        have HRM21 := Lib.hid (HRM20.out.gb hgal)
        have HY21 := Lib.hid (HY20.out.gb hgal)
        clear hgal HK20 HRM20 HY20
        generalize hW : (w20.alloc (.cells #[.slice Ay ny cy, .slice By my ey] 29)).alloc (.cells #[.int .i64 (ry 0), .int .i64 (ry 1), .int .i64 (ry 2), .int .i64 (ry 3), .int .i64 (ry 4), .int .i64 (ry 5)] 24) = w21 at *
        clear hW
        generalize w20.heap.size = B18 at *
        clear x0 x1 x2 x3 x4 x5 xl
        clear y0 y1 y2 y3 y4 yl
        clear z0 z1 zl
        refine (HD3.out _ _ HRM21.out.rm).mono ?_
        rintro e w22 ⟨rz, vz, Az, nz, cz, Bz, mz, ez, rfl, hrm, hg⟩
        have HZ22 := Lib.hid hrm
        clear hrm HD3 HRM21
        have HK22 := Lib.hid (HK21.out.gb hg)
        have HY22 := Lib.hid (HY21.out.gb hg)
        clear hg HK21 HY21
        have xb := HK22.out.get 8 rfl
        have x0 : w22.cell? ⟨B11, 0, none⟩ = some (.int .i64 (r 0)) := xb.cell 0
        have x1 : w22.cell? ⟨B11, 1, none⟩ = some (.int .i64 (r 1)) := xb.cell 1
        have x2 : w22.cell? ⟨B11, 2, none⟩ = some (.int .i64 (r 2)) := xb.cell 2
        have x3 : w22.cell? ⟨B11, 3, none⟩ = some (.int .i64 (r 3)) := xb.cell 3
        have x4 : w22.cell? ⟨B11, 4, none⟩ = some (.int .i64 (r 4)) := xb.cell 4
        have x5 : w22.cell? ⟨B11, 5, none⟩ = some (.int .i64 (r 5)) := xb.cell 5
        have xl : B11 < w22.heap.size := xb.lt
        clear xb
        have yb := HK22.out.get 7 rfl
        have y0 : w22.cell? ⟨B12, 0, none⟩ = some (.int .i64 k3) := yb.cell 0
        have y1 : w22.cell? ⟨B12, 1, none⟩ = some (.int .i64 a3) := yb.cell 1
        have y2 : w22.cell? ⟨B12, 2, none⟩ = some (.int .i64 b3) := yb.cell 2
        have y3 : w22.cell? ⟨B12, 3, none⟩ = some (.int .i64 i3) := yb.cell 3
        have y4 : w22.cell? ⟨B12, 4, none⟩ = some (.int .i64 n3) := yb.cell 4
        have yl : B12 < w22.heap.size := yb.lt
        clear yb
        go_wp2_with fail
        have HK23 := Lib.hid (HK22.out.al2 #[.slice Az nz cz, .slice Bz mz ez] #[.int .i64 (rz 0), .int .i64 (rz 1), .int .i64 (rz 2), .int .i64 (rz 3), .int .i64 (rz 4), .int .i64 (rz 5)] 29 24)
        have hgal : w22.grownBy ((w22.alloc (.cells #[.slice Az nz cz, .slice Bz mz ez] 29)).alloc (.cells #[.int .i64 (rz 0), .int .i64 (rz 1), .int .i64 (rz 2), .int .i64 (rz 3), .int .i64 (rz 4), .int .i64 (rz 5)] 24)) none := grownBy_trans (World.grownBy_alloc _ _ none) (World.grownBy_alloc _ _ none)
        have HY23 := Lib.hid (HY22.out.gb hgal)
        have HZ23 := Lib.hid (HZ22.out.gb hgal)
        clear hgal HK22 HY22 HZ22
        generalize hW : (w22.alloc (.cells #[.slice Az nz cz, .slice Bz mz ez] 29)).alloc (.cells #[.int .i64 (rz 0), .int .i64 (rz 1), .int .i64 (rz 2), .int .i64 (rz 3), .int .i64 (rz 4), .int .i64 (rz 5)] 24) = w23 at *
        clear hW
        generalize w22.heap.size = B22 at *
        clear x0 x1 x2 x3 x4 x5 xl
        clear y0 y1 y2 y3 y4 yl
        refine (HD4.out _ _ HZ23.out).mono ?_
        rintro e w24 ⟨rw_, vw, Aw, nw, cw, Bw, mw, ew, rfl, hrm, hg⟩
        have HW24 := Lib.hid hrm
        clear hrm HD4 HZ23
        have HK24 := Lib.hid (HK23.out.gb hg)
        have HY24 := Lib.hid (HY23.out.gb hg)
        clear hg HK23 HY23
        have zb := HK24.out.get 3 rfl
        have z0 : w24.cell? ⟨B18, 0, none⟩ = some (.slice Ay ny cy) := zb.cell 0
        have z1 : w24.cell? ⟨B18, 1, none⟩ = some (.slice By my ey) := zb.cell 1
        have zl : B18 < w24.heap.size := zb.lt
        clear zb
        go_wp2_with fail
        have HK25 := Lib.hid (HK24.out.al2 #[.slice Aw nw cw, .slice Bw mw ew] #[.int .i64 (rw_ 0), .int .i64 (rw_ 1), .int .i64 (rw_ 2), .int .i64 (rw_ 3), .int .i64 (rw_ 4), .int .i64 (rw_ 5)] 29 24)
        have hgal : w24.grownBy ((w24.alloc (.cells #[.slice Aw nw cw, .slice Bw mw ew] 29)).alloc (.cells #[.int .i64 (rw_ 0), .int .i64 (rw_ 1), .int .i64 (rw_ 2), .int .i64 (rw_ 3), .int .i64 (rw_ 4), .int .i64 (rw_ 5)] 24)) none := grownBy_trans (World.grownBy_alloc _ _ none) (World.grownBy_alloc _ _ none)
        have HY25 := Lib.hid (HY24.out.gb hgal)
        have HW25 := Lib.hid (HW24.out.gb hgal)
        clear hgal HK24 HY24 HW24
        generalize hW : (w24.alloc (.cells #[.slice Aw nw cw, .slice Bw mw ew] 29)).alloc (.cells #[.int .i64 (rw_ 0), .int .i64 (rw_ 1), .int .i64 (rw_ 2), .int .i64 (rw_ 3), .int .i64 (rw_ 4), .int .i64 (rw_ 5)] 24) = w25 at *
        clear hW
        generalize w24.heap.size = B26 at *
        clear z0 z1 zl
        refine (same_rm HY25.out HW25.out).mono ?_
        rintro e w26 ⟨rfl, hg⟩
        rw [HLAW.out, show decide (dO (dO O r k4 a4 b4 i4 n4 0) r k3 a3 b3 i3 n3 0 = dO (dO O r k4 a4 b4 i4 n4 0) r k3 a3 b3 i3 n3 0 ∧ Q = Q) = true from by simp]
        have HG := Lib.hid (below_of (grownBy_trans HK25.out.gr hg))
        clear hg
        go_wp2_with fail
        go_ret
        exact ⟨rfl, HG.out⟩
    · have HLAW := Lib.hid (order_law (O := O) (r := r) (a1 := a3) (a2 := a4) (n1 := n3) (n2 := n4) (b1 := b3) (b2 := b4) HK35.out HK45.out hi30 hi40 (fun h => hk h.2.1))
      have xb := HK16.out.get 3 rfl
      have x0 : w16.cell? ⟨B12, 0, none⟩ = some (.int .i64 k3) := xb.cell 0
      have x1 : w16.cell? ⟨B12, 1, none⟩ = some (.int .i64 a3) := xb.cell 1
      have x2 : w16.cell? ⟨B12, 2, none⟩ = some (.int .i64 b3) := xb.cell 2
      have x3 : w16.cell? ⟨B12, 3, none⟩ = some (.int .i64 i3) := xb.cell 3
      have x4 : w16.cell? ⟨B12, 4, none⟩ = some (.int .i64 n3) := xb.cell 4
      have xl : B12 < w16.heap.size := xb.lt
      clear xb
      have yb := HK16.out.get 2 rfl
      have y0 : w16.cell? ⟨B13, 0, none⟩ = some (.int .i64 k4) := yb.cell 0
      have y1 : w16.cell? ⟨B13, 1, none⟩ = some (.int .i64 a4) := yb.cell 1
      have y3 : w16.cell? ⟨B13, 3, none⟩ = some (.int .i64 i4) := yb.cell 3
      have zb := HK16.out.get 4 rfl
      have z3 : w16.cell? ⟨B11, a3, none⟩ = some (.int .i64 (r a3)) := by rw [zb.cell]; exact rcs_get r a3 ha36
      have z4 : w16.cell? ⟨B11, a4, none⟩ = some (.int .i64 (r a3)) := by rw [hs, zb.cell]; exact rcs_get r a4 ha46
      have zl := zb.lt
      clear yb zb
      have hb : (k3 == k4) = false := by rw [beq_eq_false_iff_ne]; exact hk
      clear hs hk
      go_wp2_with fail
      go_quiet (fail)
      clear hb
      clear x0 x1 x2 x3 x4 xl y0 y1 y3 z3 z4 zl a30 a36 a40 a46
      have HK17 := Lib.hid (HK16.out.gb (gb_drewN w16 nq none))
      have HRM17 := Lib.hid (HRM16.out.gb (gb_drewN w16 nq none))
      clear HK16 HRM16
      generalize w16.drewN nq = w17 at *
      have xb := HK17.out.get 4 rfl
      have x0 : w17.cell? ⟨B11, 0, none⟩ = some (.int .i64 (r 0)) := xb.cell 0
      have x1 : w17.cell? ⟨B11, 1, none⟩ = some (.int .i64 (r 1)) := xb.cell 1
      have x2 : w17.cell? ⟨B11, 2, none⟩ = some (.int .i64 (r 2)) := xb.cell 2
      have x3 : w17.cell? ⟨B11, 3, none⟩ = some (.int .i64 (r 3)) := xb.cell 3
      have x4 : w17.cell? ⟨B11, 4, none⟩ = some (.int .i64 (r 4)) := xb.cell 4
      have x5 : w17.cell? ⟨B11, 5, none⟩ = some (.int .i64 (r 5)) := xb.cell 5
      have xl : B11 < w17.heap.size := xb.lt
      clear xb
      have yb := HK17.out.get 3 rfl
      have y0 : w17.cell? ⟨B12, 0, none⟩ = some (.int .i64 k3) := yb.cell 0
      have y1 : w17.cell? ⟨B12, 1, none⟩ = some (.int .i64 a3) := yb.cell 1
      have y2 : w17.cell? ⟨B12, 2, none⟩ = some (.int .i64 b3) := yb.cell 2
      have y3 : w17.cell? ⟨B12, 3, none⟩ = some (.int .i64 i3) := yb.cell 3
      have y4 : w17.cell? ⟨B12, 4, none⟩ = some (.int .i64 n3) := yb.cell 4
      have yl : B12 < w17.heap.size := yb.lt
      clear yb
      have zb := HK17.out.get 5 rfl
      have z0 : w17.cell? ⟨B10, 0, none⟩ = some (.slice A1 n1' c1) := zb.cell 0
      have z1 : w17.cell? ⟨B10, 1, none⟩ = some (.slice B1 m1 e1') := zb.cell 1
      have zl : B10 < w17.heap.size := zb.lt
      clear zb
      go_wp2_with fail
      clear x0 x1 x2 x3 x4 x5 xl
      clear y0 y1 y2 y3 y4 yl
      clear z0 z1 zl
      refine (HD1.out _ _ HRM17.out.rm).mono ?_
      rintro e w18 ⟨rx, vx, Ax, nx, cx, Bx, mx, ex, rfl, hrm, hg⟩
      have HX18 := Lib.hid hrm
      clear hrm HD1
      have HK18 := Lib.hid (HK17.out.gb hg)
      have HRM18 := Lib.hid (HRM17.out.gb hg)
      clear hg HK17 HRM17
      have xb := HK18.out.get 4 rfl
      have x0 : w18.cell? ⟨B11, 0, none⟩ = some (.int .i64 (r 0)) := xb.cell 0
      have x1 : w18.cell? ⟨B11, 1, none⟩ = some (.int .i64 (r 1)) := xb.cell 1
      have x2 : w18.cell? ⟨B11, 2, none⟩ = some (.int .i64 (r 2)) := xb.cell 2
      have x3 : w18.cell? ⟨B11, 3, none⟩ = some (.int .i64 (r 3)) := xb.cell 3
      have x4 : w18.cell? ⟨B11, 4, none⟩ = some (.int .i64 (r 4)) := xb.cell 4
      have x5 : w18.cell? ⟨B11, 5, none⟩ = some (.int .i64 (r 5)) := xb.cell 5
      have xl : B11 < w18.heap.size := xb.lt
      clear xb
      have yb := HK18.out.get 2 rfl
      have y0 : w18.cell? ⟨B13, 0, none⟩ = some (.int .i64 k4) := yb.cell 0
      have y1 : w18.cell? ⟨B13, 1, none⟩ = some (.int .i64 a4) := yb.cell 1
      have y2 : w18.cell? ⟨B13, 2, none⟩ = some (.int .i64 b4) := yb.cell 2
      have y3 : w18.cell? ⟨B13, 3, none⟩ = some (.int .i64 i4) := yb.cell 3
      have y4 : w18.cell? ⟨B13, 4, none⟩ = some (.int .i64 n4) := yb.cell 4
      have yl : B13 < w18.heap.size := yb.lt
      clear yb
      go_wp2_with fail
      have HK19 := Lib.hid (HK18.out.al2 #[.slice Ax nx cx, .slice Bx mx ex] #[.int .i64 (rx 0), .int .i64 (rx 1), .int .i64 (rx 2), .int .i64 (rx 3), .int .i64 (rx 4), .int .i64 (rx 5)] 29 24)
      have hgal : w18.grownBy ((w18.alloc (.cells #[.slice Ax nx cx, .slice Bx mx ex] 29)).alloc (.cells #[.int .i64 (rx 0), .int .i64 (rx 1), .int .i64 (rx 2), .int .i64 (rx 3), .int .i64 (rx 4), .int .i64 (rx 5)] 24)) none := grownBy_trans (World.grownBy_alloc _ _ none) (World.grownBy_alloc _ _ none)
      have HRM19 := Lib.hid (HRM18.out.gb hgal)
      have HX19 := Lib.hid (HX18.out.gb hgal)
      clear hgal HK18 HRM18 HX18
      generalize hW : (w18.alloc (.cells #[.slice Ax nx cx, .slice Bx mx ex] 29)).alloc (.cells #[.int .i64 (rx 0), .int .i64 (rx 1), .int .i64 (rx 2), .int .i64 (rx 3), .int .i64 (rx 4), .int .i64 (rx 5)] 24) = w19 at *
      clear hW
      generalize w18.heap.size = B14x at *
      clear x0 x1 x2 x3 x4 x5 xl
      clear y0 y1 y2 y3 y4 yl
      refine (HD2.out _ _ HX19.out).mono ?_
      rintro e w20 ⟨ry, vy, Ay, ny, cy, By, my, ey, rfl, hrm, hg⟩
      have HY20 := Lib.hid hrm
      clear hrm HD2 HX19
      have HK20 := Lib.hid (HK19.out.gb hg)
      have HRM20 := Lib.hid (HRM19.out.gb hg)
      clear hg HK19 HRM19
      have xb := HK20.out.get 6 rfl
      have x0 : w20.cell? ⟨B11, 0, none⟩ = some (.int .i64 (r 0)) := xb.cell 0
      have x1 : w20.cell? ⟨B11, 1, none⟩ = some (.int .i64 (r 1)) := xb.cell 1
      have x2 : w20.cell? ⟨B11, 2, none⟩ = some (.int .i64 (r 2)) := xb.cell 2
      have x3 : w20.cell? ⟨B11, 3, none⟩ = some (.int .i64 (r 3)) := xb.cell 3
      have x4 : w20.cell? ⟨B11, 4, none⟩ = some (.int .i64 (r 4)) := xb.cell 4
      have x5 : w20.cell? ⟨B11, 5, none⟩ = some (.int .i64 (r 5)) := xb.cell 5
      have xl : B11 < w20.heap.size := xb.lt
      clear xb
      have yb := HK20.out.get 4 rfl
      have y0 : w20.cell? ⟨B13, 0, none⟩ = some (.int .i64 k4) := yb.cell 0
      have y1 : w20.cell? ⟨B13, 1, none⟩ = some (.int .i64 a4) := yb.cell 1
      have y2 : w20.cell? ⟨B13, 2, none⟩ = some (.int .i64 b4) := yb.cell 2
      have y3 : w20.cell? ⟨B13, 3, none⟩ = some (.int .i64 i4) := yb.cell 3
      have y4 : w20.cell? ⟨B13, 4, none⟩ = some (.int .i64 n4) := yb.cell 4
      have yl : B13 < w20.heap.size := yb.lt
      clear yb
      have zb := HK20.out.get 7 rfl
      have z0 : w20.cell? ⟨B10, 0, none⟩ = some (.slice A1 n1' c1) := zb.cell 0
      have z1 : w20.cell? ⟨B10, 1, none⟩ = some (.slice B1 m1 e1') := zb.cell 1
      have zl : B10 < w20.heap.size := zb.lt
      clear zb
      go_wp2_with fail
      have HK21 := Lib.hid (HK20.out.al2 #[.slice Ay ny cy, .slice By my ey] #[.int .i64 (ry 0), .int .i64 (ry 1), .int .i64 (ry 2), .int .i64 (ry 3), .int .i64 (ry 4), .int .i64 (ry 5)] 29 24)
      have hgal : w20.grownBy ((w20.alloc (.cells #[.slice Ay ny cy, .slice By my ey] 29)).alloc (.cells #[.int .i64 (ry 0), .int .i64 (ry 1), .int .i64 (ry 2), .int .i64 (ry 3), .int .i64 (ry 4), .int .i64 (ry 5)] 24)) none := grownBy_trans (World.grownBy_alloc _ _ none) (World.grownBy_alloc _ _ none)
      have HRM21 := Lib.hid (HRM20.out.gb hgal)
      have HY21 := Lib.hid (HY20.out.gb hgal)
      clear hgal HK20 HRM20 HY20
      generalize hW : (w20.alloc (.cells #[.slice Ay ny cy, .slice By my ey] 29)).alloc (.cells #[.int .i64 (ry 0), .int .i64 (ry 1), .int .i64 (ry 2), .int .i64 (ry 3), .int .i64 (ry 4), .int .i64 (ry 5)] 24) = w21 at *
      clear hW
      generalize w20.heap.size = B18 at *
      clear x0 x1 x2 x3 x4 x5 xl
      clear y0 y1 y2 y3 y4 yl
      clear z0 z1 zl
      refine (HD3.out _ _ HRM21.out.rm).mono ?_
      rintro e w22 ⟨rz, vz, Az, nz, cz, Bz, mz, ez, rfl, hrm, hg⟩
      have HZ22 := Lib.hid hrm
      clear hrm HD3 HRM21
      have HK22 := Lib.hid (HK21.out.gb hg)
      have HY22 := Lib.hid (HY21.out.gb hg)
      clear hg HK21 HY21
      have xb := HK22.out.get 8 rfl
      have x0 : w22.cell? ⟨B11, 0, none⟩ = some (.int .i64 (r 0)) := xb.cell 0
      have x1 : w22.cell? ⟨B11, 1, none⟩ = some (.int .i64 (r 1)) := xb.cell 1
      have x2 : w22.cell? ⟨B11, 2, none⟩ = some (.int .i64 (r 2)) := xb.cell 2
      have x3 : w22.cell? ⟨B11, 3, none⟩ = some (.int .i64 (r 3)) := xb.cell 3
      have x4 : w22.cell? ⟨B11, 4, none⟩ = some (.int .i64 (r 4)) := xb.cell 4
      have x5 : w22.cell? ⟨B11, 5, none⟩ = some (.int .i64 (r 5)) := xb.cell 5
      have xl : B11 < w22.heap.size := xb.lt
      clear xb
      have yb := HK22.out.get 7 rfl
      have y0 : w22.cell? ⟨B12, 0, none⟩ = some (.int .i64 k3) := yb.cell 0
      have y1 : w22.cell? ⟨B12, 1, none⟩ = some (.int .i64 a3) := yb.cell 1
      have y2 : w22.cell? ⟨B12, 2, none⟩ = some (.int .i64 b3) := yb.cell 2
      have y3 : w22.cell? ⟨B12, 3, none⟩ = some (.int .i64 i3) := yb.cell 3
      have y4 : w22.cell? ⟨B12, 4, none⟩ = some (.int .i64 n3) := yb.cell 4
      have yl : B12 < w22.heap.size := yb.lt
      clear yb
      go_wp2_with fail
      have HK23 := Lib.hid (HK22.out.al2 #[.slice Az nz cz, .slice Bz mz ez] #[.int .i64 (rz 0), .int .i64 (rz 1), .int .i64 (rz 2), .int .i64 (rz 3), .int .i64 (rz 4), .int .i64 (rz 5)] 29 24)
      have hgal : w22.grownBy ((w22.alloc (.cells #[.slice Az nz cz, .slice Bz mz ez] 29)).alloc (.cells #[.int .i64 (rz 0), .int .i64 (rz 1), .int .i64 (rz 2), .int .i64 (rz 3), .int .i64 (rz 4), .int .i64 (rz 5)] 24)) none := grownBy_trans (World.grownBy_alloc _ _ none) (World.grownBy_alloc _ _ none)
      have HY23 := Lib.hid (HY22.out.gb hgal)
      have HZ23 := Lib.hid (HZ22.out.gb hgal)
      clear hgal HK22 HY22 HZ22
      generalize hW : (w22.alloc (.cells #[.slice Az nz cz, .slice Bz mz ez] 29)).alloc (.cells #[.int .i64 (rz 0), .int .i64 (rz 1), .int .i64 (rz 2), .int .i64 (rz 3), .int .i64 (rz 4), .int .i64 (rz 5)] 24) = w23 at *
      clear hW
      generalize w22.heap.size = B22 at *
      clear x0 x1 x2 x3 x4 x5 xl
      clear y0 y1 y2 y3 y4 yl
      refine (HD4.out _ _ HZ23.out).mono ?_
      rintro e w24 ⟨rw_, vw, Aw, nw, cw, Bw, mw, ew, rfl, hrm, hg⟩
      have HW24 := Lib.hid hrm
      clear hrm HD4 HZ23
      have HK24 := Lib.hid (HK23.out.gb hg)
      have HY24 := Lib.hid (HY23.out.gb hg)
      clear hg HK23 HY23
      have zb := HK24.out.get 3 rfl
      have z0 : w24.cell? ⟨B18, 0, none⟩ = some (.slice Ay ny cy) := zb.cell 0
      have z1 : w24.cell? ⟨B18, 1, none⟩ = some (.slice By my ey) := zb.cell 1
      have zl : B18 < w24.heap.size := zb.lt
      clear zb
      go_wp2_with fail
      have HK25 := Lib.hid (HK24.out.al2 #[.slice Aw nw cw, .slice Bw mw ew] #[.int .i64 (rw_ 0), .int .i64 (rw_ 1), .int .i64 (rw_ 2), .int .i64 (rw_ 3), .int .i64 (rw_ 4), .int .i64 (rw_ 5)] 29 24)
      have hgal : w24.grownBy ((w24.alloc (.cells #[.slice Aw nw cw, .slice Bw mw ew] 29)).alloc (.cells #[.int .i64 (rw_ 0), .int .i64 (rw_ 1), .int .i64 (rw_ 2), .int .i64 (rw_ 3), .int .i64 (rw_ 4), .int .i64 (rw_ 5)] 24)) none := grownBy_trans (World.grownBy_alloc _ _ none) (World.grownBy_alloc _ _ none)
      have HY25 := Lib.hid (HY24.out.gb hgal)
      have HW25 := Lib.hid (HW24.out.gb hgal)
      clear hgal HK24 HY24 HW24
      generalize hW : (w24.alloc (.cells #[.slice Aw nw cw, .slice Bw mw ew] 29)).alloc (.cells #[.int .i64 (rw_ 0), .int .i64 (rw_ 1), .int .i64 (rw_ 2), .int .i64 (rw_ 3), .int .i64 (rw_ 4), .int .i64 (rw_ 5)] 24) = w25 at *
      clear hW
      generalize w24.heap.size = B26 at *
      clear z0 z1 zl
      refine (same_rm HY25.out HW25.out).mono ?_
      rintro e w26 ⟨rfl, hg⟩
      rw [HLAW.out, show decide (dO (dO O r k4 a4 b4 i4 n4 0) r k3 a3 b3 i3 n3 0 = dO (dO O r k4 a4 b4 i4 n4 0) r k3 a3 b3 i3 n3 0 ∧ Q = Q) = true from by simp]
      have HG := Lib.hid (below_of (grownBy_trans HK25.out.gr hg))
      clear hg
      go_wp2_with fail
      go_ret
      exact ⟨rfl, HG.out⟩
  · have HLAW := Lib.hid (order_law (O := O) (r := r) (a1 := a3) (a2 := a4) (n1 := n3) (n2 := n4) (b1 := b3) (b2 := b4) HK35.out HK45.out hi30 hi40 (fun h => hs h.1))
    have xb := HK16.out.get 3 rfl
    have x0 : w16.cell? ⟨B12, 0, none⟩ = some (.int .i64 k3) := xb.cell 0
    have x1 : w16.cell? ⟨B12, 1, none⟩ = some (.int .i64 a3) := xb.cell 1
    have x2 : w16.cell? ⟨B12, 2, none⟩ = some (.int .i64 b3) := xb.cell 2
    have x3 : w16.cell? ⟨B12, 3, none⟩ = some (.int .i64 i3) := xb.cell 3
    have x4 : w16.cell? ⟨B12, 4, none⟩ = some (.int .i64 n3) := xb.cell 4
    have xl : B12 < w16.heap.size := xb.lt
    clear xb
    have yb := HK16.out.get 2 rfl
    have y0 : w16.cell? ⟨B13, 0, none⟩ = some (.int .i64 k4) := yb.cell 0
    have y1 : w16.cell? ⟨B13, 1, none⟩ = some (.int .i64 a4) := yb.cell 1
    have y3 : w16.cell? ⟨B13, 3, none⟩ = some (.int .i64 i4) := yb.cell 3
    have zb := HK16.out.get 4 rfl
    have z3 : w16.cell? ⟨B11, a3, none⟩ = some (.int .i64 (r a3)) := by rw [zb.cell]; exact rcs_get r a3 ha36
    have z4 : w16.cell? ⟨B11, a4, none⟩ = some (.int .i64 (r a4)) := by rw [zb.cell]; exact rcs_get r a4 ha46
    have zl := zb.lt
    clear yb zb
    have hb : (r a3 == r a4) = false := by rw [beq_eq_false_iff_ne]; exact hs
    clear hs
    go_wp2_with fail
    go_quiet (fail)
    clear hb
    clear x0 x1 x2 x3 x4 xl y0 y1 y3 z3 z4 zl a30 a36 a40 a46
    have HK17 := Lib.hid (HK16.out.gb (gb_drewN w16 nq none))
    have HRM17 := Lib.hid (HRM16.out.gb (gb_drewN w16 nq none))
    clear HK16 HRM16
    generalize w16.drewN nq = w17 at *
    have xb := HK17.out.get 4 rfl
    have x0 : w17.cell? ⟨B11, 0, none⟩ = some (.int .i64 (r 0)) := xb.cell 0
    have x1 : w17.cell? ⟨B11, 1, none⟩ = some (.int .i64 (r 1)) := xb.cell 1
    have x2 : w17.cell? ⟨B11, 2, none⟩ = some (.int .i64 (r 2)) := xb.cell 2
    have x3 : w17.cell? ⟨B11, 3, none⟩ = some (.int .i64 (r 3)) := xb.cell 3
    have x4 : w17.cell? ⟨B11, 4, none⟩ = some (.int .i64 (r 4)) := xb.cell 4
    have x5 : w17.cell? ⟨B11, 5, none⟩ = some (.int .i64 (r 5)) := xb.cell 5
    have xl : B11 < w17.heap.size := xb.lt
    clear xb
    have yb := HK17.out.get 3 rfl
    have y0 : w17.cell? ⟨B12, 0, none⟩ = some (.int .i64 k3) := yb.cell 0
    have y1 : w17.cell? ⟨B12, 1, none⟩ = some (.int .i64 a3) := yb.cell 1
    have y2 : w17.cell? ⟨B12, 2, none⟩ = some (.int .i64 b3) := yb.cell 2
    have y3 : w17.cell? ⟨B12, 3, none⟩ = some (.int .i64 i3) := yb.cell 3
    have y4 : w17.cell? ⟨B12, 4, none⟩ = some (.int .i64 n3) := yb.cell 4
    have yl : B12 < w17.heap.size := yb.lt
    clear yb
    have zb := HK17.out.get 5 rfl
    have z0 : w17.cell? ⟨B10, 0, none⟩ = some (.slice A1 n1' c1) := zb.cell 0
    have z1 : w17.cell? ⟨B10, 1, none⟩ = some (.slice B1 m1 e1') := zb.cell 1
    have zl : B10 < w17.heap.size := zb.lt
    clear zb
    go_wp2_with fail
    clear x0 x1 x2 x3 x4 x5 xl
    clear y0 y1 y2 y3 y4 yl
    clear z0 z1 zl
    refine (HD1.out _ _ HRM17.out.rm).mono ?_
    rintro e w18 ⟨rx, vx, Ax, nx, cx, Bx, mx, ex, rfl, hrm, hg⟩
    have HX18 := Lib.hid hrm
    clear hrm HD1
    have HK18 := Lib.hid (HK17.out.gb hg)
    have HRM18 := Lib.hid (HRM17.out.gb hg)
    clear hg HK17 HRM17
    have xb := HK18.out.get 4 rfl
    have x0 : w18.cell? ⟨B11, 0, none⟩ = some (.int .i64 (r 0)) := xb.cell 0
    have x1 : w18.cell? ⟨B11, 1, none⟩ = some (.int .i64 (r 1)) := xb.cell 1
    have x2 : w18.cell? ⟨B11, 2, none⟩ = some (.int .i64 (r 2)) := xb.cell 2
    have x3 : w18.cell? ⟨B11, 3, none⟩ = some (.int .i64 (r 3)) := xb.cell 3
    have x4 : w18.cell? ⟨B11, 4, none⟩ = some (.int .i64 (r 4)) := xb.cell 4
    have x5 : w18.cell? ⟨B11, 5, none⟩ = some (.int .i64 (r 5)) := xb.cell 5
    have xl : B11 < w18.heap.size := xb.lt
    clear xb
    have yb := HK18.out.get 2 rfl
    have y0 : w18.cell? ⟨B13, 0, none⟩ = some (.int .i64 k4) := yb.cell 0
    have y1 : w18.cell? ⟨B13, 1, none⟩ = some (.int .i64 a4) := yb.cell 1
    have y2 : w18.cell? ⟨B13, 2, none⟩ = some (.int .i64 b4) := yb.cell 2
    have y3 : w18.cell? ⟨B13, 3, none⟩ = some (.int .i64 i4) := yb.cell 3
    have y4 : w18.cell? ⟨B13, 4, none⟩ = some (.int .i64 n4) := yb.cell 4
    have yl : B13 < w18.heap.size := yb.lt
    clear yb
    go_wp2_with fail
    have HK19 := Lib.hid (HK18.out.al2 #[.slice Ax nx cx, .slice Bx mx ex] #[.int .i64 (rx 0), .int .i64 (rx 1), .int .i64 (rx 2), .int .i64 (rx 3), .int .i64 (rx 4), .int .i64 (rx 5)] 29 24)
    have hgal : w18.grownBy ((w18.alloc (.cells #[.slice Ax nx cx, .slice Bx mx ex] 29)).alloc (.cells #[.int .i64 (rx 0), .int .i64 (rx 1), .int .i64 (rx 2), .int .i64 (rx 3), .int .i64 (rx 4), .int .i64 (rx 5)] 24)) none := grownBy_trans (World.grownBy_alloc _ _ none) (World.grownBy_alloc _ _ none)
    have HRM19 := Lib.hid (HRM18.out.gb hgal)
    have HX19 := Lib.hid (HX18.out.gb hgal)
    clear hgal HK18 HRM18 HX18
    generalize hW : (w18.alloc (.cells #[.slice Ax nx cx, .slice Bx mx ex] 29)).alloc (.cells #[.int .i64 (rx 0), .int .i64 (rx 1), .int .i64 (rx 2), .int .i64 (rx 3), .int .i64 (rx 4), .int .i64 (rx 5)] 24) = w19 at *
    clear hW
    generalize w18.heap.size = B14x at *
    clear x0 x1 x2 x3 x4 x5 xl
    clear y0 y1 y2 y3 y4 yl
    refine (HD2.out _ _ HX19.out).mono ?_
    rintro e w20 ⟨ry, vy, Ay, ny, cy, By, my, ey, rfl, hrm, hg⟩
    have HY20 := Lib.hid hrm
    clear hrm HD2 HX19
    have HK20 := Lib.hid (HK19.out.gb hg)
    have HRM20 := Lib.hid (HRM19.out.gb hg)
    clear hg HK19 HRM19
    have xb := HK20.out.get 6 rfl
    have x0 : w20.cell? ⟨B11, 0, none⟩ = some (.int .i64 (r 0)) := xb.cell 0
    have x1 : w20.cell? ⟨B11, 1, none⟩ = some (.int .i64 (r 1)) := xb.cell 1
    have x2 : w20.cell? ⟨B11, 2, none⟩ = some (.int .i64 (r 2)) := xb.cell 2
    have x3 : w20.cell? ⟨B11, 3, none⟩ = some (.int .i64 (r 3)) := xb.cell 3
    have x4 : w20.cell? ⟨B11, 4, none⟩ = some (.int .i64 (r 4)) := xb.cell 4
    have x5 : w20.cell? ⟨B11, 5, none⟩ = some (.int .i64 (r 5)) := xb.cell 5
    have xl : B11 < w20.heap.size := xb.lt
    clear xb
    have yb := HK20.out.get 4 rfl
    have y0 : w20.cell? ⟨B13, 0, none⟩ = some (.int .i64 k4) := yb.cell 0
    have y1 : w20.cell? ⟨B13, 1, none⟩ = some (.int .i64 a4) := yb.cell 1
    have y2 : w20.cell? ⟨B13, 2, none⟩ = some (.int .i64 b4) := yb.cell 2
    have y3 : w20.cell? ⟨B13, 3, none⟩ = some (.int .i64 i4) := yb.cell 3
    have y4 : w20.cell? ⟨B13, 4, none⟩ = some (.int .i64 n4) := yb.cell 4
    have yl : B13 < w20.heap.size := yb.lt
    clear yb
    have zb := HK20.out.get 7 rfl
    have z0 : w20.cell? ⟨B10, 0, none⟩ = some (.slice A1 n1' c1) := zb.cell 0
    have z1 : w20.cell? ⟨B10, 1, none⟩ = some (.slice B1 m1 e1') := zb.cell 1
    have zl : B10 < w20.heap.size := zb.lt
    clear zb
    go_wp2_with fail
    have HK21 := Lib.hid (HK20.out.al2 #[.slice Ay ny cy, .slice By my ey] #[.int .i64 (ry 0), .int .i64 (ry 1), .int .i64 (ry 2), .int .i64 (ry 3), .int .i64 (ry 4), .int .i64 (ry 5)] 29 24)
    have hgal : w20.grownBy ((w20.alloc (.cells #[.slice Ay ny cy, .slice By my ey] 29)).alloc (.cells #[.int .i64 (ry 0), .int .i64 (ry 1), .int .i64 (ry 2), .int .i64 (ry 3), .int .i64 (ry 4), .int .i64 (ry 5)] 24)) none := grownBy_trans (World.grownBy_alloc _ _ none) (World.grownBy_alloc _ _ none)
    have HRM21 := Lib.hid (HRM20.out.gb hgal)
    have HY21 := Lib.hid (HY20.out.gb hgal)
    clear hgal HK20 HRM20 HY20
    generalize hW : (w20.alloc (.cells #[.slice Ay ny cy, .slice By my ey] 29)).alloc (.cells #[.int .i64 (ry 0), .int .i64 (ry 1), .int .i64 (ry 2), .int .i64 (ry 3), .int .i64 (ry 4), .int .i64 (ry 5)] 24) = w21 at *
    clear hW
    generalize w20.heap.size = B18 at *
    clear x0 x1 x2 x3 x4 x5 xl
    clear y0 y1 y2 y3 y4 yl
    clear z0 z1 zl
    refine (HD3.out _ _ HRM21.out.rm).mono ?_
    rintro e w22 ⟨rz, vz, Az, nz, cz, Bz, mz, ez, rfl, hrm, hg⟩
    have HZ22 := Lib.hid hrm
    clear hrm HD3 HRM21
    have HK22 := Lib.hid (HK21.out.gb hg)
    have HY22 := Lib.hid (HY21.out.gb hg)
    clear hg HK21 HY21
    have xb := HK22.out.get 8 rfl
    have x0 : w22.cell? ⟨B11, 0, none⟩ = some (.int .i64 (r 0)) := xb.cell 0
    have x1 : w22.cell? ⟨B11, 1, none⟩ = some (.int .i64 (r 1)) := xb.cell 1
    have x2 : w22.cell? ⟨B11, 2, none⟩ = some (.int .i64 (r 2)) := xb.cell 2
    have x3 : w22.cell? ⟨B11, 3, none⟩ = some (.int .i64 (r 3)) := xb.cell 3
    have x4 : w22.cell? ⟨B11, 4, none⟩ = some (.int .i64 (r 4)) := xb.cell 4
    have x5 : w22.cell? ⟨B11, 5, none⟩ = some (.int .i64 (r 5)) := xb.cell 5
    have xl : B11 < w22.heap.size := xb.lt
    clear xb
    have yb := HK22.out.get 7 rfl
    have y0 : w22.cell? ⟨B12, 0, none⟩ = some (.int .i64 k3) := yb.cell 0
    have y1 : w22.cell? ⟨B12, 1, none⟩ = some (.int .i64 a3) := yb.cell 1
    have y2 : w22.cell? ⟨B12, 2, none⟩ = some (.int .i64 b3) := yb.cell 2
    have y3 : w22.cell? ⟨B12, 3, none⟩ = some (.int .i64 i3) := yb.cell 3
    have y4 : w22.cell? ⟨B12, 4, none⟩ = some (.int .i64 n3) := yb.cell 4
    have yl : B12 < w22.heap.size := yb.lt
    clear yb
    go_wp2_with fail
    have HK23 := Lib.hid (HK22.out.al2 #[.slice Az nz cz, .slice Bz mz ez] #[.int .i64 (rz 0), .int .i64 (rz 1), .int .i64 (rz 2), .int .i64 (rz 3), .int .i64 (rz 4), .int .i64 (rz 5)] 29 24)
    have hgal : w22.grownBy ((w22.alloc (.cells #[.slice Az nz cz, .slice Bz mz ez] 29)).alloc (.cells #[.int .i64 (rz 0), .int .i64 (rz 1), .int .i64 (rz 2), .int .i64 (rz 3), .int .i64 (rz 4), .int .i64 (rz 5)] 24)) none := grownBy_trans (World.grownBy_alloc _ _ none) (World.grownBy_alloc _ _ none)
    have HY23 := Lib.hid (HY22.out.gb hgal)
    have HZ23 := Lib.hid (HZ22.out.gb hgal)
    clear hgal HK22 HY22 HZ22
    generalize hW : (w22.alloc (.cells #[.slice Az nz cz, .slice Bz mz ez] 29)).alloc (.cells #[.int .i64 (rz 0), .int .i64 (rz 1), .int .i64 (rz 2), .int .i64 (rz 3), .int .i64 (rz 4), .int .i64 (rz 5)] 24) = w23 at *
    clear hW
    generalize w22.heap.size = B22 at *
    clear x0 x1 x2 x3 x4 x5 xl
    clear y0 y1 y2 y3 y4 yl
    refine (HD4.out _ _ HZ23.out).mono ?_
    rintro e w24 ⟨rw_, vw, Aw, nw, cw, Bw, mw, ew, rfl, hrm, hg⟩
    have HW24 := Lib.hid hrm
    clear hrm HD4 HZ23
    have HK24 := Lib.hid (HK23.out.gb hg)
    have HY24 := Lib.hid (HY23.out.gb hg)
    clear hg HK23 HY23
    have zb := HK24.out.get 3 rfl
    have z0 : w24.cell? ⟨B18, 0, none⟩ = some (.slice Ay ny cy) := zb.cell 0
    have z1 : w24.cell? ⟨B18, 1, none⟩ = some (.slice By my ey) := zb.cell 1
    have zl : B18 < w24.heap.size := zb.lt
    clear zb
    go_wp2_with fail
    have HK25 := Lib.hid (HK24.out.al2 #[.slice Aw nw cw, .slice Bw mw ew] #[.int .i64 (rw_ 0), .int .i64 (rw_ 1), .int .i64 (rw_ 2), .int .i64 (rw_ 3), .int .i64 (rw_ 4), .int .i64 (rw_ 5)] 29 24)
    have hgal : w24.grownBy ((w24.alloc (.cells #[.slice Aw nw cw, .slice Bw mw ew] 29)).alloc (.cells #[.int .i64 (rw_ 0), .int .i64 (rw_ 1), .int .i64 (rw_ 2), .int .i64 (rw_ 3), .int .i64 (rw_ 4), .int .i64 (rw_ 5)] 24)) none := grownBy_trans (World.grownBy_alloc _ _ none) (World.grownBy_alloc _ _ none)
    have HY25 := Lib.hid (HY24.out.gb hgal)
    have HW25 := Lib.hid (HW24.out.gb hgal)
    clear hgal HK24 HY24 HW24
    generalize hW : (w24.alloc (.cells #[.slice Aw nw cw, .slice Bw mw ew] 29)).alloc (.cells #[.int .i64 (rw_ 0), .int .i64 (rw_ 1), .int .i64 (rw_ 2), .int .i64 (rw_ 3), .int .i64 (rw_ 4), .int .i64 (rw_ 5)] 24) = w25 at *
    clear hW
    generalize w24.heap.size = B26 at *
    clear z0 z1 zl
    refine (same_rm HY25.out HW25.out).mono ?_
    rintro e w26 ⟨rfl, hg⟩
    rw [HLAW.out, show decide (dO (dO O r k4 a4 b4 i4 n4 0) r k3 a3 b3 i3 n3 0 = dO (dO O r k4 a4 b4 i4 n4 0) r k3 a3 b3 i3 n3 0 ∧ Q = Q) = true from by simp]
    have HG := Lib.hid (below_of (grownBy_trans HK25.out.gr hg))
    clear hg
    go_wp2_with fail
    go_ret
    exact ⟨rfl, HG.out⟩

theorem own : ownKnob Try.prog.godebug = none := by kernel_rfl
theorem laidOut : laidOutB Try.prog = true := by kernel_rfl

set_option maxRecDepth 100000 in
theorem lifted (os : _root_.Go.Os) (started : os.Started) (H : Type) (enc : TypeId × Value → H) :
    ReturnsInHanded {} Try.checked os 5 .any (Rows.modelOrderSpec.pre6 enc Try.prog Try.f5 Rows.modelOrderRow.domain false) (Rows.modelOrderSpec.post enc Try.prog Try.f5 false true false false) := by
  refine returnsInHanded_of_change (C := Try.checked) own started (by kernel_rfl) Try.func5
    (ChangeSpec.witness6 (enc := enc) (C := Try.checked) false ⟨#[], #[.slice none 0 0, .agg #[.int .i64 0, .int .i64 0, .int .i64 0, .int .i64 0, .int .i64 0, .int .i64 0], .agg #[.int .i64 0, .int .i64 0, .int .i64 0, .int .i64 0, .int .i64 0], .agg #[.int .i64 0, .int .i64 0, .int .i64 0, .int .i64 0, .int .i64 0]], []⟩ 8 (by kernel_rfl) (by kernel_rfl) (by kernel_rfl) (by kernel_rfl)) ?_
  intro W base args ds gs before hval0 hW hcnd _
  have hval : ∀ (j : Nat) t v, Try.f5.params[j]? = some t → args[j]? = some v → Value.okWide Try.prog W .any base t v := hval0
  have hW' := hW
  obtain ⟨p, q, hA0, hV, rfl, hfz, hnd⟩ := hW
  have hA : DataW.TrodAll enc Try.prog W 0 (fun _ => true) true Try.f5.params.toList args.toList ds p := hA0
  rw [Try.params5] at hA hval
  obtain ⟨v0, vs0, d0, ds0, p0, q0, hargs, rfl, rfl, h0, r0⟩ := trodAll_cons hA
  obtain ⟨v1, vs1, d1, ds1, p1, q1, rfl, rfl, rfl, h1, r1⟩ := trodAll_cons r0
  obtain ⟨v2, vs2, d2, ds2, p2, q2, rfl, rfl, rfl, h2, r2⟩ := trodAll_cons r1
  obtain ⟨v3, vs3, d3, ds3, p3, q3, rfl, rfl, rfl, h3, r3⟩ := trodAll_cons r2
  obtain ⟨rfl, rfl, rfl⟩ := trodAll_nil r3
  obtain rfl : args = #[v0, v1, v2, v3] := by cases args; simp_all
  obtain ⟨rfl, rfl⟩ := trodVars_none hV
  have k0 := h0
  have lt0 : ∀ x ∈ p0, x.block < W.heap.size := by obtain ⟨m, hm⟩ := k0; exact DataW.trod_lt m _ _ _ hm
  have k1 := h1
  have lt1 : ∀ x ∈ p1, x.block < W.heap.size := by obtain ⟨m, hm⟩ := k1; exact DataW.trod_lt m _ _ _ hm
  have k2 := h2
  have lt2 : ∀ x ∈ p2, x.block < W.heap.size := by obtain ⟨m, hm⟩ := k2; exact DataW.trod_lt m _ _ _ hm
  have k3 := h3
  have lt3 : ∀ x ∈ p3, x.block < W.heap.size := by obtain ⟨m, hm⟩ := k3; exact DataW.trod_lt m _ _ _ hm
  obtain ⟨a0, len0, cap0, rfl⟩ := okWide_slice Try.underlying22 (hval 0 22 v0 rfl rfl)
  obtain ⟨L0, hl0, hr0, hx0⟩ : ∃ L : List Ov, L.length = len0 ∧ RL W a0 L ∧ ∀ y ∈ L, Lo y.o ∧ Cp y := by
    obtain ⟨fuel, hf⟩ := h0
    exact open_objs hf
  subst hl0
  obtain ⟨R1, rfl, hR1⟩ := open_regs (hval 1 24 v1 rfl rfl) h1
  obtain ⟨D2, rfl, hD2⟩ := open_deed (hval 2 26 v2 rfl rfl) h2
  obtain ⟨D3, rfl, hD3⟩ := open_deed (hval 3 26 v3 rfl rfl) h3
  clear hA0 hval0
  refine (walk a0 cap0 L0 R1 (D2 0) (D2 1) (D2 2) (D2 3) (D2 4) (D3 0) (D3 1) (D3 2) (D3 3) (D3 4) W hr0 hx0 hR1 (hD2 0 (by omega)) (hD2 1 (by omega)) (hD2 2 (by omega)) (hD2 3 (by omega)) (hD2 4 (by omega)) (hD3 0 (by omega)) (hD3 1 (by omega)) (hD3 2 (by omega)) (hD3 3 (by omega)) (hD3 4 (by omega))).mono fun e W' ⟨he, bel⟩ => ?_
  subst he
  exact ⟨_, rfl, _, _, _, [], _, [], hW', trodAll_mk1 (shut_bool Try.underlying4 _), (trodAll_cons_mk (Below.trod laidOut (by kernel_rfl) (of_decide_eq_true (by kernel_rfl)) k0 bel lt0) (trodAll_cons_mk (Below.trod laidOut (by kernel_rfl) (of_decide_eq_true (by kernel_rfl)) k1 bel lt1) (trodAll_cons_mk (Below.trod laidOut (by kernel_rfl) (of_decide_eq_true (by kernel_rfl)) k2 bel lt2) (trodAll_cons_mk (Below.trod laidOut (by kernel_rfl) (of_decide_eq_true (by kernel_rfl)) k3 bel lt3) trodAll_mk0)))), rfl, bel.frame _, fun h => by cases h⟩

theorem over : Rows.modelOrderRow.holds Try.pinned (OpenSpec.ofChange Rows.modelOrderSpec) :=
  OpenClaim.holds_of_wide 5 Try.f5 rfl rfl rfl rfl rfl rfl rfl ⟨rfl, rfl, rfl, rfl, rfl⟩ rfl rfl rfl rfl rfl (by kernel_rfl) Try.func5 (by kernel_rfl)
    (of_decide_eq_true (by kernel_rfl)) (by unfold Func.isWrapper; first | (rw [if_pos (by decide +kernel)]; kernel_rfl) | (rw [if_neg (by decide +kernel)]; exact ⟨rfl, rfl⟩))
    (fun os started H enc _ => lifted os started H enc)

theorem proved : Rows.ModelOrderSaid := over
end Go.Proofs.Yteieljkkcnpfmaa.modelOrder

namespace Go.Proofs.Yteieljkkcnpfmaa
theorem ModelOrder_holds : Rows.ModelOrderSaid := modelOrder.proved
#print axioms ModelOrder_holds
end Go.Proofs.Yteieljkkcnpfmaa

