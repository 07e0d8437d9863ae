/-
  ModelKeeps returns true, whatever the input; what it was handed reads as before. No condition.
-/
import Derived.Test.YteieljkkcnpfmaaKee1
import Derived.BigRegion
import Derived.Deep.QuietTactic
import Derived.BigQuiet
import Derived.Deep.CutRange
namespace Go.Proofs.Yteieljkkcnpfmaa.modelKeeps
open Go.ChangeShapes Go.WideShapes Go.ChangeAt Go.RowKit
set_option linter.unusedVariables false

set_option maxRecDepth 100000 in
set_option maxHeartbeats 16000000 in
theorem walk (Ao Aq : Option Addr) (co cq : Nat) (L : List Ov) (QI : List (Int × Int)) (R : Nat → Int) (d0 d1 d2 d3 d4 seen : Int) (w : World) (hL : RL w Ao L) (hlo : ∀ y ∈ L, Lo y.o ∧ Cp y) (hQI : Rc w Aq QI.length 2 (its QI)) (hQB : ∀ x ∈ QI, -9223372036854775808 ≤ x.1) (hR : ∀ j, j < 6 → -9223372036854775808 ≤ R j) (h0 : -9223372036854775808 ≤ d0) (h1 : -9223372036854775808 ≤ d1) (h2 : -9223372036854775808 ≤ d2) (h3 : -9223372036854775808 ≤ d3) (h4 : -9223372036854775808 ≤ d4) :
    Calls Try.prog 3 #[.slice Ao L.length co, .slice Aq QI.length cq, .agg #[.int .i64 (R 0), .int .i64 (R 1), .int .i64 (R 2), .int .i64 (R 3), .int .i64 (R 4), .int .i64 (R 5)], .agg #[.int .i64 d0, .int .i64 d1, .int .i64 d2, .int .i64 d3, .int .i64 d4], .int .i64 seen] w fun e w' => e = .returned (.bool true) ∧ Below w.heap.size w w' := by
  obtain ⟨k, a, b, i, n, -, hk1, hk14, ha6, hb6, hi0, -, hright, hfit⟩ := fit15_any d0 d1 d2 d3 d4 w h0 h1 h2 h3 h4
  have HL := Lib.hid hL; have HLO := Lib.hid hlo; have HR := Lib.hid hR; have HRT := Lib.hid hright; have HF15 := Lib.hid hfit
  have HQI := Lib.hid hQI; have HQB := Lib.hid hQB
  have hll := hL.1.le
  have hlq := hQI.le
  have HK0 := Lib.hid ((Kq.start w).al2 #[.int .i64 (R 0), .int .i64 (R 1), .int .i64 (R 2), .int .i64 (R 3), .int .i64 (R 4), .int .i64 (R 5)] #[.int .i64 d0, .int .i64 d1, .int .i64 d2, .int .i64 d3, .int .i64 d4] 24 26)
  clear hL hlo hR hright hfit hQI hQB h0 h1 h2 h3 h4
  go_enter Try.func3, Try.ntmps3
  go_wp2_with fail
  generalize (w.alloc (.cells #[.int .i64 (R 0), .int .i64 (R 1), .int .i64 (R 2), .int .i64 (R 3), .int .i64 (R 4), .int .i64 (R 5)] 24)).alloc (.cells #[.int .i64 d0, .int .i64 d1, .int .i64 d2, .int .i64 d3, .int .i64 d4] 26) = w0 at *
  generalize w.heap.size = N at *
  refine (awake_any w0).mono ?_
  rintro e w1 ⟨rfl, hg⟩
  have HK1 := Lib.hid (HK0.out.gb hg)
  clear hg HK0
  go_wp2_with fail
  refine (fit_its Ao Aq co cq L QI w1 (HL.out.gb HK1.out.gr) HLO.out (HQI.out.gb HK1.out.gr) HQB.out).mono ?_
  rintro e w2 ⟨A1, n1, c1, B1, m1, e1, O, Q, rfl, hnm, hrm, hfo, hol, hq4, hg⟩
  have hn8 : n1 ≤ 8 := by omega
  have hsm := hfo.smo hol (by omega) hq4
  obtain ⟨ho1, hq1⟩ := hrm.lens
  have HRM2 := Lib.hid hrm
  have HSM := Lib.hid hsm
  have HOL := Lib.hid ho1; have HQL := Lib.hid hq1
  have hm4 : m1 ≤ 4 := by omega
  clear hrm hfo hsm hol hnm hll hlq HL HLO HQI HQB ho1 hq1 hq4
  have HK2 := Lib.hid (HK1.out.gb hg)
  clear hg HK1
  have xb := HK2.out.get 1 rfl
  have x0 : w2.cell? ⟨N, 0, none⟩ = some (.int .i64 (R 0)) := xb.cell 0
  have x1 : w2.cell? ⟨N, 1, none⟩ = some (.int .i64 (R 1)) := xb.cell 1
  have x2 : w2.cell? ⟨N, 2, none⟩ = some (.int .i64 (R 2)) := xb.cell 2
  have x3 : w2.cell? ⟨N, 3, none⟩ = some (.int .i64 (R 3)) := xb.cell 3
  have x4 : w2.cell? ⟨N, 4, none⟩ = some (.int .i64 (R 4)) := xb.cell 4
  have x5 : w2.cell? ⟨N, 5, none⟩ = some (.int .i64 (R 5)) := xb.cell 5
  have xl : N < w2.heap.size := xb.lt
  clear xb
  go_wp2_with fail
  have HK3 := Lib.hid (HK2.out.al1 #[.slice A1 n1 c1, .slice B1 m1 e1] 29)
  have hgal : w2.grownBy (w2.alloc (.cells #[.slice A1 n1 c1, .slice B1 m1 e1] 29)) none := World.grownBy_alloc _ _ none
  have HRM3 := Lib.hid (HRM2.out.gb hgal)
  clear hgal HK2 HRM2
  generalize hW : w2.alloc (.cells #[.slice A1 n1 c1, .slice B1 m1 e1] 29) = w3 at *
  clear hW
  generalize w2.heap.size = B12 at *
  clear x0 x1 x2 x3 x4 x5 xl
  refine (regs_t A1 B1 n1 c1 m1 e1 R w3 (by omega) HR.out).mono ?_
  rintro e w4 ⟨rfl, hg⟩
  have HK4 := Lib.hid (HK3.out.gb hg)
  have HRM4 := Lib.hid (HRM3.out.gb hg)
  clear hg HK3 HRM3
  clear HR
  dsimp only
  generalize hr : (fun j => pk (R j) ((n1 : Int) + 1)) = r at *
  rw [show pk (R 0) ((n1 : Int) + 1) = r 0 from by rw [← hr], show pk (R 1) ((n1 : Int) + 1) = r 1 from by rw [← hr], show pk (R 2) ((n1 : Int) + 1) = r 2 from by rw [← hr], show pk (R 3) ((n1 : Int) + 1) = r 3 from by rw [← hr], show pk (R 4) ((n1 : Int) + 1) = r 4 from by rw [← hr], show pk (R 5) ((n1 : Int) + 1) = r 5 from by rw [← hr]]
  clear hr
  have xb := HK4.out.get 1 rfl
  have x0 : w4.cell? ⟨N + 1, 0, none⟩ = some (.int .i64 d0) := xb.cell 0
  have x1 : w4.cell? ⟨N + 1, 1, none⟩ = some (.int .i64 d1) := xb.cell 1
  have x2 : w4.cell? ⟨N + 1, 2, none⟩ = some (.int .i64 d2) := xb.cell 2
  have x3 : w4.cell? ⟨N + 1, 3, none⟩ = some (.int .i64 d3) := xb.cell 3
  have x4 : w4.cell? ⟨N + 1, 4, none⟩ = some (.int .i64 d4) := xb.cell 4
  have xl : N + 1 < w4.heap.size := xb.lt
  clear xb
  have xl2 : N < w4.heap.size := by omega
  go_wp2_with fail
  have HK5 := Lib.hid (HK4.out.al1 #[.int .i64 (r 0), .int .i64 (r 1), .int .i64 (r 2), .int .i64 (r 3), .int .i64 (r 4), .int .i64 (r 5)] 24)
  have hgal : w4.grownBy (w4.alloc (.cells #[.int .i64 (r 0), .int .i64 (r 1), .int .i64 (r 2), .int .i64 (r 3), .int .i64 (r 4), .int .i64 (r 5)] 24)) none := World.grownBy_alloc _ _ none
  have HRM5 := Lib.hid (HRM4.out.gb hgal)
  clear hgal HK4 HRM4
  generalize hW : w4.alloc (.cells #[.int .i64 (r 0), .int .i64 (r 1), .int .i64 (r 2), .int .i64 (r 3), .int .i64 (r 4), .int .i64 (r 5)] 24) = w5 at *
  clear hW
  generalize w4.heap.size = B13 at *
  clear x0 x1 x2 x3 x4 xl xl2
  refine (HF15.out w5).mono ?_
  rintro e w6 ⟨rfl, hg⟩
  have HK6 := Lib.hid (HK5.out.gb hg)
  have HRM6 := Lib.hid (HRM5.out.gb hg)
  clear hg HK5 HRM5
  clear HF15
  have xb := HK6.out.get 0 rfl
  have x0 : w6.cell? ⟨B13, 0, none⟩ = some (.int .i64 (r 0)) := xb.cell 0
  have x1 : w6.cell? ⟨B13, 1, none⟩ = some (.int .i64 (r 1)) := xb.cell 1
  have x2 : w6.cell? ⟨B13, 2, none⟩ = some (.int .i64 (r 2)) := xb.cell 2
  have x3 : w6.cell? ⟨B13, 3, none⟩ = some (.int .i64 (r 3)) := xb.cell 3
  have x4 : w6.cell? ⟨B13, 4, none⟩ = some (.int .i64 (r 4)) := xb.cell 4
  have x5 : w6.cell? ⟨B13, 5, none⟩ = some (.int .i64 (r 5)) := xb.cell 5
  have xl : B13 < w6.heap.size := xb.lt
  clear xb
  have zb := HK6.out.get 1 rfl
  have z0 : w6.cell? ⟨B12, 0, none⟩ = some (.slice A1 n1 c1) := zb.cell 0
  have z1 : w6.cell? ⟨B12, 1, none⟩ = some (.slice B1 m1 e1) := zb.cell 1
  have zl : B12 < w6.heap.size := zb.lt
  clear zb
  go_wp2_with fail
  have HK7 := Lib.hid (HK6.out.al1 #[.int .i64 k, .int .i64 a, .int .i64 b, .int .i64 i, .int .i64 n] 26)
  have hgal : w6.grownBy (w6.alloc (.cells #[.int .i64 k, .int .i64 a, .int .i64 b, .int .i64 i, .int .i64 n] 26)) none := World.grownBy_alloc _ _ none
  have HRM7 := Lib.hid (HRM6.out.gb hgal)
  clear hgal HK6 HRM6
  generalize hW : w6.alloc (.cells #[.int .i64 k, .int .i64 a, .int .i64 b, .int .i64 i, .int .i64 n] 26) = w7 at *
  clear hW
  generalize w6.heap.size = B14 at *
  clear x0 x1 x2 x3 x4 x5 xl
  clear z0 z1 zl
  have HDO := Lib.hid (do_all HRM7.out HSM.out r k a b i n ((n1 : Int) + 1) seen hk1 hk14 ha6 hb6 hi0 HRT.out)
  obtain ⟨e, he⟩ : ∃ e, flt O r k a b i ((n1 : Int) + 1) = e := ⟨_, rfl⟩
  have HE := Lib.hid he
  clear he
  by_cases he0 : e = 0
  · subst he0
    obtain ⟨q1, q2, q3, q4⟩ := d_ok (Q := Q) (n := n) (seen := seen) HE.out
    rw [q1, q2, q3, q4, HE.out] at HDO
    clear q1 q2 q3 q4
    have hkps : Kps O (nO O r k a b i n ((n1 : Int) + 1)) (moreN k) := kps_nO hk1 hk14
    have hlast : k = 1 ∨ k = 2 ∨ k = 3 → ((nO O r k a b i n ((n1 : Int) + 1)).getD n1 ob0).s = (n1 : Int) + 1 := fun h => by
      have := nO_last (O := O) (r := r) (a := a) (b := b) (i := i) (n := n) (fresh := (n1 : Int) + 1) h
      rw [← HOL.out] at this; exact this
    have hr2 : ∀ j, j ≠ a → nR O Q r k a b i n ((n1 : Int) + 1) seen j = r j := fun j hj => nR_else j hj
    have hqq := nQ_law (O := O) (Q := Q) (r := r) (k := k) (a := a) (b := b) (i := i) (n := n) (fresh := (n1 : Int) + 1) (seen := seen)
    have htk : k = 10 → nO O r k a b i n ((n1 : Int) + 1) = O := fun h => by rw [h]; rfl
    generalize nO O r k a b i n ((n1 : Int) + 1) = O2 at *
    generalize nR O Q r k a b i n ((n1 : Int) + 1) seen = r2 at *
    generalize nV O Q r k a b i n ((n1 : Int) + 1) seen = v2 at *
    generalize nQ Q k seen = Q2 at *
    have HKPS := Lib.hid hkps; have HLAST := Lib.hid hlast; have HR2 := Lib.hid hr2; have HQQ := Lib.hid hqq; have HTK := Lib.hid htk
    clear hkps hlast hr2 hqq htk
    refine HDO.out.mono ?_
    rintro e' w8 ⟨A2, n2, c2, B2, m2, e2, rfl, hrm, hg⟩
    obtain ⟨hl2, hm2⟩ := hrm.lens
    have HRN8 := Lib.hid hrm
    have HL2 := Lib.hid hl2; have HM2 := Lib.hid hm2
    clear hrm HDO hl2 hm2
    have HK8 := Lib.hid (HK7.out.gb hg)
    have HRM8 := Lib.hid (HRM7.out.gb hg)
    clear hg HK7 HRM7
    have xb := HK8.out.get 0 rfl
    have x0 : w8.cell? ⟨B14, 0, none⟩ = some (.int .i64 k) := xb.cell 0
    have xl : B14 < w8.heap.size := xb.lt
    clear xb
    go_upto_region 8 with (fail)
    have HK9 := Lib.hid (HK8.out.al2 #[.slice A2 n2 c2, .slice B2 m2 e2] #[.int .i64 (r2 0), .int .i64 (r2 1), .int .i64 (r2 2), .int .i64 (r2 3), .int .i64 (r2 4), .int .i64 (r2 5)] 29 24)
    have hgal : w8.grownBy ((w8.alloc (.cells #[.slice A2 n2 c2, .slice B2 m2 e2] 29)).alloc (.cells #[.int .i64 (r2 0), .int .i64 (r2 1), .int .i64 (r2 2), .int .i64 (r2 3), .int .i64 (r2 4), .int .i64 (r2 5)] 24)) none := grownBy_trans (World.grownBy_alloc _ _ none) (World.grownBy_alloc _ _ none)
    have HRM9 := Lib.hid (HRM8.out.gb hgal)
    have HRN9 := Lib.hid (HRN8.out.gb hgal)
    clear hgal HK8 HRM8 HRN8
    generalize hW : (w8.alloc (.cells #[.slice A2 n2 c2, .slice B2 m2 e2] 29)).alloc (.cells #[.int .i64 (r2 0), .int .i64 (r2 1), .int .i64 (r2 2), .int .i64 (r2 3), .int .i64 (r2 4), .int .i64 (r2 5)] 24) = w9 at *
    clear hW
    generalize w8.heap.size = B15 at *
    clear x0 xl
    have x0 : w9.cell? ⟨B14, 0, none⟩ = some (.int .i64 k) := (HK9.out.get 2 rfl).cell 0
    obtain ⟨lb, hlb⟩ : ∃ lb, lb = decide (k = 1 ∨ k = 2 ∨ k = 3) := ⟨_, rfl⟩
    have HLB := Lib.hid hlb
    clear hlb
    go_cut [19] from 28 (fun s wx => s = .bool lb ∧ wx = w9)
    case first =>
      rcases (by omega : k = 1 ∨ k = 2 ∨ k = 3 ∨ (k ≠ 1 ∧ k ≠ 2 ∧ k ≠ 3)) with rfl | rfl | rfl | ⟨hk1, hk2, hk3⟩
      · have := HLB.out
        simp at this
        subst this
        go_wp2_with fail
        go_meet
        case rel => exact ⟨rfl, rfl⟩
      · have := HLB.out
        simp at this
        subst this
        go_wp2_with fail
        go_meet
        case rel => exact ⟨rfl, rfl⟩
      · have := HLB.out
        simp at this
        subst this
        go_wp2_with fail
        go_meet
        case rel => exact ⟨rfl, rfl⟩
      · have hl0 : lb = false := by rw [HLB.out]; simp [hk1, hk2, hk3]
        subst hl0
        have b1 : (k == 1) = false := by rw [beq_eq_false_iff_ne]; exact hk1
        have b2 : (k == 2) = false := by rw [beq_eq_false_iff_ne]; exact hk2
        have b3 : (k == 3) = false := by rw [beq_eq_false_iff_ne]; exact hk3
        clear hk1 hk2 hk3
        go_wp2_with fail
        go_meet
        case rel => exact ⟨rfl, rfl⟩
    case rest =>
      obtain ⟨rfl, rfl⟩ := hcut
      clear x0
      cases lb
      · have hkl : ¬ (k = 1 ∨ k = 2 ∨ k = 3) := by have := HLB.out; simpa using this
        have hmk : moreN k = 0 := if_neg hkl
        obtain rfl : n1 = n2 := by have h5 := HKPS.out.len; rw [← HL2.out, ← HOL.out, hmk] at h5; exact h5.symm
        have xb := HK9.out.get 1 rfl
        have x0 : wc.cell? ⟨B15, 0, none⟩ = some (.slice A2 n1 c2) := xb.cell 0
        have x1 : wc.cell? ⟨B15, 1, none⟩ = some (.slice B2 m2 e2) := xb.cell 1
        have xl : B15 < wc.heap.size := xb.lt
        clear xb
        have zb := HK9.out.get 4 rfl
        have z0 : wc.cell? ⟨B12, 0, none⟩ = some (.slice A1 n1 c1) := zb.cell 0
        have z1 : wc.cell? ⟨B12, 1, none⟩ = some (.slice B1 m1 e1) := zb.cell 1
        have zl : B12 < wc.heap.size := zb.lt
        clear zb
        have hn0 : (0 : Int) ≤ (n1 : Int) := by omega
        have hn9 : (n1 : Int) ≤ 8 := by omega
        have hw1 : IntKind.i64.wrap ((n1 : Int) + 1) = (n1 : Int) + 1 := IntWalk.i64_in _ (by omega)
        have hw0 : IntKind.i64.wrap (n1 : Int) = (n1 : Int) := IntWalk.i64_in _ (by omega)
        clear hkl hmk
        go_wp2_with fail
        go_quiet (fail)
        clear hw1 hw0
        go_wp2_with fail
        clear x0 x1 xl z0 z1 zl
        have HK10 := Lib.hid (HK9.out.gb (gb_drewN wc nq none))
        have HRM10 := Lib.hid (HRM9.out.gb (gb_drewN wc nq none))
        have HRN10 := Lib.hid (HRN9.out.gb (gb_drewN wc nq none))
        clear HK9 HRM9 HRN9
        generalize wc.drewN nq = wd at *
        go_loopw [21, 22] (fun s t wr => ∃ ii : Nat, t = .int .i64 ii ∧ ii ≤ n1 ∧ s = .int .i64 (cnt O O2 ii : Nat) ∧ Hid (Kq w wr [(B15 + 1, 24, #[.int .i64 (r2 0), .int .i64 (r2 1), .int .i64 (r2 2), .int .i64 (r2 3), .int .i64 (r2 4), .int .i64 (r2 5)]), (B15, 29, #[.slice A2 n1 c2, .slice B2 m2 e2]), (B14, 26, #[.int .i64 k, .int .i64 a, .int .i64 b, .int .i64 i, .int .i64 n]), (B13, 24, #[.int .i64 (r 0), .int .i64 (r 1), .int .i64 (r 2), .int .i64 (r 3), .int .i64 (r 4), .int .i64 (r 5)]), (B12, 29, #[.slice A1 n1 c1, .slice B1 m1 e1]), (N + 1, 26, #[.int .i64 d0, .int .i64 d1, .int .i64 d2, .int .i64 d3, .int .i64 d4]), (N, 24, #[.int .i64 (R 0), .int .i64 (R 1), .int .i64 (R 2), .int .i64 (R 3), .int .i64 (R 4), .int .i64 (R 5)])]) ∧ Hid (RM wr (.agg #[.slice A1 n1 c1, .slice B1 m1 e1]) O Q) ∧ Hid (RM wr (.agg #[.slice A2 n1 c2, .slice B2 m2 e2]) O2 Q2)) (fun _ t _ => n1 - (intOf t).toNat)
        case atStart => exact ⟨0, rfl, Nat.zero_le _, rfl, HK10, HRM10, HRN10⟩
        case round =>
          obtain ⟨ii, rfl, hii, rfl, HKr, HMr, HNr⟩ := hrel
          clear HK10 HRM10 HRN10
          have xb := HKr.out.get 1 rfl
          have x0 : wr.cell? ⟨B15, 0, none⟩ = some (.slice A2 n1 c2) := xb.cell 0
          have x1 : wr.cell? ⟨B15, 1, none⟩ = some (.slice B2 m2 e2) := xb.cell 1
          have xl : B15 < wr.heap.size := xb.lt
          clear xb
          have zb := HKr.out.get 4 rfl
          have z0 : wr.cell? ⟨B12, 0, none⟩ = some (.slice A1 n1 c1) := zb.cell 0
          have z1 : wr.cell? ⟨B12, 1, none⟩ = some (.slice B1 m1 e1) := zb.cell 1
          have zl : B12 < wr.heap.size := zb.lt
          clear zb
          by_cases hin : ii < n1
          · obtain ⟨b1, o1, vp1, vn1, hc1⟩ := HMr.out.cel ii (by rw [← HOL.out]; exact hin)
            obtain ⟨b2, o2, vp2, vn2, hc2⟩ := HNr.out.cel ii (by rw [← HL2.out]; omega)
            have hkept := HKPS.out.kept ii (by rw [← HOL.out]; exact hin) (by rw [← HL2.out]; omega)
            have hcs := cnt_succ O O2 ii
            rw [getD_at (by rw [← HOL.out]; exact hin), getD_at (by rw [← HL2.out]; omega)] at hcs
            generalize O[ii]'(by rw [← HOL.out]; exact hin) = p1 at *
            generalize O2[ii]'(by rw [← HL2.out]; omega) = p2 at *
            obtain ⟨t0, t1, t2, t3, t4, tf⟩ := hkept
            have hA1 := hc1.at_
            have hA2 := hc2.at_
            subst hA1 hA2
            have k0 := hc1.c0; have k1 := hc1.c1; have k2 := hc1.c2; have k3 := hc1.c3; have k4 := hc1.c4; have k5 := hc1.c5; have k6 := hc1.c6; have k7 := hc1.c7
            have j0 := hc2.c0; have j1 := hc2.c1; have j2 := hc2.c2; have j3 := hc2.c3; have j4 := hc2.c4; have j5 := hc2.c5; have j6 := hc2.c6; have j7 := hc2.c7
            have lt1 := hc1.lt; have lt2 := hc2.lt
            rw [t0] at j0; rw [t1] at j1; rw [t2] at j2; rw [t3] at j3; rw [t4] at j4
            have HRO1 := Lib.hid hc1.ro; have HRO2 := Lib.hid hc2.ro
            have hf1 := hc1.ro; have hf2 := hc2.ro
            obtain ⟨Ap1, cp1, An1, cn1, rfl, rfl, -, -⟩ := hf1
            obtain ⟨Ap2, cp2, An2, cn2, rfl, rfl, -, -⟩ := hf2
            have HT := Lib.hid (And.intro t0 (And.intro t1 (And.intro t2 (And.intro t3 t4))))
            have HCS := Lib.hid hcs
            have ii0 : (0 : Int) ≤ (ii : Int) := by omega
            have ii1 : (ii : Int) < (n1 : Int) := by omega
            obtain ⟨f1, hf1⟩ : ∃ f1, p1.fr = f1 := ⟨_, rfl⟩
            obtain ⟨f2, hf2⟩ : ∃ f2, p2.fr = f2 := ⟨_, rfl⟩
            rw [hf1] at k7 tf
            rw [hf2] at j7 tf
            have HT1 := Lib.hid (And.intro hf1 hf2)
            clear hc1 hc2 t0 t1 t2 t3 t4 hcs hf1 hf2
            cases f1
            · clear tf
              go_wp2_with fail
              obtain ⟨g4, bk1, bk2⟩ := al4 wr #[.int .i64 p1.s, .int .i64 p1.sp, .int .i64 p1.sd, .bool p1.sw, .bool p1.sf, .slice Ap1 p1.ps.length cp1, .slice An1 p1.ns.length cn1, .bool false] #[.int .i64 p1.s, .int .i64 p1.sp, .int .i64 p1.sd, .bool p1.sw, .bool p1.sf, .slice Ap2 p2.ps.length cp2, .slice An2 p2.ns.length cn2, .bool f2] #[.int .i64 p1.s, .int .i64 p1.sp, .int .i64 p1.sd, .bool p1.sw, .bool p1.sf, .slice Ap1 p1.ps.length cp1, .slice An1 p1.ns.length cn1, .bool false] #[.int .i64 p1.s, .int .i64 p1.sp, .int .i64 p1.sd, .bool p1.sw, .bool p1.sf, .slice Ap2 p2.ps.length cp2, .slice An2 p2.ns.length cn2, .bool f2] 41
              have HG4 := Lib.hid g4
              refine (same_rm (RM.one2 ⟨rfl, rfl, rfl, rfl, rfl, HT1.out.1⟩ bk1 (HRO1.out.gb g4)) (RM.one2 ⟨HT.out.1, HT.out.2.1, HT.out.2.2.1, HT.out.2.2.2.1, HT.out.2.2.2.2, HT1.out.2⟩ bk2 (HRO2.out.gb g4))).mono ?_
              rintro e' w30 ⟨rfl, hg⟩
              have hgr := grownBy_trans HG4.out hg
              have HK31 := Lib.hid (HKr.out.gb hgr); have HM31 := Lib.hid (HMr.out.gb hgr); have HN31 := Lib.hid (HNr.out.gb hgr)
              clear g4 bk1 bk2 HG4 hgr hg HKr HMr HNr HRO1 HRO2 HT HT1 k0 k1 k2 k3 k4 k5 k6 k7 j0 j1 j2 j3 j4 j5 j6 j7 x0 x1 xl z0 z1 zl lt1 lt2
              have hcl := cnt_le HKPS.out ii (by rw [← HOL.out]; omega)
              by_cases hpe : p1 = p2
              · rw [show decide ([p1] = [p2] ∧ ([] : List (Int × Int)) = []) = true from by simp [hpe]]
                have hcc : (cnt O O2 (ii + 1) : Nat) = cnt O O2 ii := by rw [HCS.out, if_pos hpe]; rfl
                have HCC := Lib.hid hcc
                clear hpe hcc HCS
                generalize hcv : cnt O O2 ii = cv at *
                have HCV := Lib.hid hcv
                clear hcv
                go_wp2_with fail
                go_roundw
                case rel => exact ⟨ii + 1, by go_num, by omega, by rw [HCC.out], HK31, HM31, HN31⟩
                case measure => simp [intOf]; omega
              · rw [show decide ([p1] = [p2] ∧ ([] : List (Int × Int)) = []) = false from by simp [hpe]]
                have hcc : (cnt O O2 (ii + 1) : Nat) = cnt O O2 ii + 1 := by rw [HCS.out, if_neg hpe]
                have HCC := Lib.hid hcc
                clear hpe hcc HCS
                generalize hcv : cnt O O2 ii = cv at *
                have HCV := Lib.hid hcv
                clear hcv
                go_wp2_with fail
                go_roundw
                case rel => exact ⟨ii + 1, by go_num, by omega, by rw [HCC.out]; go_num, HK31, HM31, HN31⟩
                case measure => simp [intOf]; omega
            · obtain rfl := tf rfl
              clear tf
              go_wp2_with fail
              obtain ⟨g4, bk1, bk2⟩ := al4 wr #[.int .i64 p1.s, .int .i64 p1.sp, .int .i64 p1.sd, .bool p1.sw, .bool p1.sf, .slice Ap1 p1.ps.length cp1, .slice An1 p1.ns.length cn1, .bool true] #[.int .i64 p1.s, .int .i64 p1.sp, .int .i64 p1.sd, .bool p1.sw, .bool p1.sf, .slice Ap2 p2.ps.length cp2, .slice An2 p2.ns.length cn2, .bool true] #[.int .i64 p1.s, .int .i64 p1.sp, .int .i64 p1.sd, .bool p1.sw, .bool p1.sf, .slice Ap1 p1.ps.length cp1, .slice An1 p1.ns.length cn1, .bool true] #[.int .i64 p1.s, .int .i64 p1.sp, .int .i64 p1.sd, .bool p1.sw, .bool p1.sf, .slice Ap2 p2.ps.length cp2, .slice An2 p2.ns.length cn2, .bool true] 41
              have HG4 := Lib.hid g4
              refine (same_rm (RM.one2 ⟨rfl, rfl, rfl, rfl, rfl, HT1.out.1⟩ bk1 (HRO1.out.gb g4)) (RM.one2 ⟨HT.out.1, HT.out.2.1, HT.out.2.2.1, HT.out.2.2.2.1, HT.out.2.2.2.2, HT1.out.2⟩ bk2 (HRO2.out.gb g4))).mono ?_
              rintro e' w30 ⟨rfl, hg⟩
              have hgr := grownBy_trans HG4.out hg
              have HK31 := Lib.hid (HKr.out.gb hgr); have HM31 := Lib.hid (HMr.out.gb hgr); have HN31 := Lib.hid (HNr.out.gb hgr)
              clear g4 bk1 bk2 HG4 hgr hg HKr HMr HNr HRO1 HRO2 HT HT1 k0 k1 k2 k3 k4 k5 k6 k7 j0 j1 j2 j3 j4 j5 j6 j7 x0 x1 xl z0 z1 zl lt1 lt2
              have hcl := cnt_le HKPS.out ii (by rw [← HOL.out]; omega)
              by_cases hpe : p1 = p2
              · rw [show decide ([p1] = [p2] ∧ ([] : List (Int × Int)) = []) = true from by simp [hpe]]
                have hcc : (cnt O O2 (ii + 1) : Nat) = cnt O O2 ii := by rw [HCS.out, if_pos hpe]; rfl
                have HCC := Lib.hid hcc
                clear hpe hcc HCS
                generalize hcv : cnt O O2 ii = cv at *
                have HCV := Lib.hid hcv
                clear hcv
                go_wp2_with fail
                go_roundw
                case rel => exact ⟨ii + 1, by go_num, by omega, by rw [HCC.out], HK31, HM31, HN31⟩
                case measure => simp [intOf]; omega
              · rw [show decide ([p1] = [p2] ∧ ([] : List (Int × Int)) = []) = false from by simp [hpe]]
                have hcc : (cnt O O2 (ii + 1) : Nat) = cnt O O2 ii + 1 := by rw [HCS.out, if_neg hpe]
                have HCC := Lib.hid hcc
                clear hpe hcc HCS
                generalize hcv : cnt O O2 ii = cv at *
                have HCV := Lib.hid hcv
                clear hcv
                go_wp2_with fail
                go_roundw
                case rel => exact ⟨ii + 1, by go_num, by omega, by rw [HCC.out]; go_num, HK31, HM31, HN31⟩
                case measure => simp [intOf]; omega
          · obtain rfl : ii = n1 := by omega
            have hcl := cnt_le HKPS.out ii (by rw [← HOL.out]; omega)
            have hcs : k = 10 → cnt O O2 ii = 0 := fun h => by rw [HTK.out h]; exact cnt_same O ii
            have HCS := Lib.hid hcs
            clear hcs
            generalize cnt O O2 ii = cv at *
            go_wp2_with fail
            clear x0 x1 xl z0 z1 zl hin hii
            rename World => wo
            go_loopw [25, 26] (fun s t wv => ∃ jj : Nat, t = .int .i64 jj ∧ jj ≤ 6 ∧ s = .int .i64 0 ∧ Hid (Kq w wv [(B15 + 1, 24, #[.int .i64 (r2 0), .int .i64 (r2 1), .int .i64 (r2 2), .int .i64 (r2 3), .int .i64 (r2 4), .int .i64 (r2 5)]), (B15, 29, #[.slice A2 ii c2, .slice B2 m2 e2]), (B14, 26, #[.int .i64 k, .int .i64 a, .int .i64 b, .int .i64 i, .int .i64 n]), (B13, 24, #[.int .i64 (r 0), .int .i64 (r 1), .int .i64 (r 2), .int .i64 (r 3), .int .i64 (r 4), .int .i64 (r 5)]), (B12, 29, #[.slice A1 ii c1, .slice B1 m1 e1]), (N + 1, 26, #[.int .i64 d0, .int .i64 d1, .int .i64 d2, .int .i64 d3, .int .i64 d4]), (N, 24, #[.int .i64 (R 0), .int .i64 (R 1), .int .i64 (R 2), .int .i64 (R 3), .int .i64 (R 4), .int .i64 (R 5)])]) ∧ Hid (RM wv (.agg #[.slice A1 ii c1, .slice B1 m1 e1]) O Q)) (fun _ t _ => 6 - (intOf t).toNat)
            case atStart => exact ⟨0, rfl, by omega, rfl, HKr, HMr⟩
            case round =>
              obtain ⟨jj, rfl, hjj, rfl, HKv, HMv⟩ := hrel
              clear HKr HMr HNr
              by_cases hj6 : jj < 6
              · have hx : wr.cell? ⟨B15 + 1, jj, none⟩ = some (.int .i64 (r2 jj)) := by rw [(HKv.out.get 0 rfl).cell]; exact rcs_get r2 jj hj6
                have hy : wr.cell? ⟨B13, jj, none⟩ = some (.int .i64 (r jj)) := by rw [(HKv.out.get 3 rfl).cell]; exact rcs_get r jj hj6
                have hz : wr.cell? ⟨B14, 1, none⟩ = some (.int .i64 a) := (HKv.out.get 2 rfl).cell 1
                have hj0 : (0 : Int) ≤ (jj : Int) := by omega
                have hj1 : (jj : Int) < 6 := by omega
                have HG := Lib.hid (fun q => gb_drewN wr q none)
                by_cases hrr : r2 jj = r jj
                · rw [hrr] at hx
                  clear hrr
                  generalize r jj = x at *
                  go_wp2_with fail
                  go_quiet (fail)
                  go_wp2_with fail
                  go_roundw
                  case rel => exact ⟨jj + 1, by go_num, by omega, rfl, Lib.hid (HKv.out.gb (HG.out _)), Lib.hid (HMv.out.gb (HG.out _))⟩
                  case measure => simp [intOf]; omega
                · obtain rfl : jj = a := Decidable.byContradiction fun h => hrr (HR2.out jj h)
                  have hb1 : (r2 jj == r jj) = false := by rw [beq_eq_false_iff_ne]; exact hrr
                  have hb2 : (r2 jj != r jj) = true := by rw [bne_iff_ne]; exact hrr
                  clear hrr
                  generalize r jj = x at *
                  generalize r2 jj = y at *
                  go_wp2_with fail
                  go_quiet (fail)
                  go_wp2_with fail
                  go_roundw
                  case rel => exact ⟨jj + 1, by go_num, by omega, rfl, Lib.hid (HKv.out.gb (HG.out _)), Lib.hid (HMv.out.gb (HG.out _))⟩
                  case measure => simp [intOf]; omega
              · have HG := Lib.hid (below_of HKv.out.gr)
                have hcv : (cv : Int) ≤ 1 := by omega
                have hm10 : (0 : Int) ≤ (m1 : Int) := by omega
                have hm14 : (m1 : Int) ≤ 4 := by omega
                have xb := HKv.out.get 1 rfl
                have x0 : wr.cell? ⟨B15, 0, none⟩ = some (.slice A2 ii c2) := xb.cell 0
                have x1 : wr.cell? ⟨B15, 1, none⟩ = some (.slice B2 m2 e2) := xb.cell 1
                have xl : B15 < wr.heap.size := xb.lt
                clear xb
                have zb := HKv.out.get 4 rfl
                have z0 : wr.cell? ⟨B12, 0, none⟩ = some (.slice A1 ii c1) := zb.cell 0
                have z1 : wr.cell? ⟨B12, 1, none⟩ = some (.slice B1 m1 e1) := zb.cell 1
                have zl : B12 < wr.heap.size := zb.lt
                clear zb
                have yb := HKv.out.get 2 rfl
                have y0 : wr.cell? ⟨B14, 0, none⟩ = some (.int .i64 k) := yb.cell 0
                have yl : B14 < wr.heap.size := yb.lt
                clear yb
                rcases HQQ.out with hq | ⟨hk, hq0, hq1, hq2⟩
                · have hmm : m2 = m1 := by rw [HM2.out, HQL.out, hq]
                  subst hmm
                  clear hq
                  go_wp2_with fail
                  go_ret
                  exact ⟨rfl, HG.out⟩
                · subst hk
                  have hc0 := HCS.out rfl
                  subst hc0
                  obtain ⟨bq, offq, hB, hbq, hcq⟩ := HMv.out.item hq0
                  subst hB
                  rw [← hq2] at hcq
                  have hm1 : m1 = m2 + 1 := by rw [HM2.out, HQL.out, hq1]
                  have hm15 : (0 : Int) < (m1 : Int) := by omega
                  have hsub : (m1 : Int) - (m2 : Int) = 1 := by omega
                  clear hm1 hq1 hq2
                  go_wp2_with fail
                  go_ret
                  exact ⟨rfl, HG.out⟩
      · have hkl : k = 1 ∨ k = 2 ∨ k = 3 := by have := HLB.out; simpa using this
        have hmk : moreN k = 1 := if_pos hkl
        obtain rfl : n2 = n1 + 1 := by have h5 := HKPS.out.len; rw [← HL2.out, ← HOL.out, hmk] at h5; exact h5
        have xb := HK9.out.get 1 rfl
        have x0 : wc.cell? ⟨B15, 0, none⟩ = some (.slice A2 (n1 + 1) c2) := xb.cell 0
        have x1 : wc.cell? ⟨B15, 1, none⟩ = some (.slice B2 m2 e2) := xb.cell 1
        have xl : B15 < wc.heap.size := xb.lt
        clear xb
        have zb := HK9.out.get 4 rfl
        have z0 : wc.cell? ⟨B12, 0, none⟩ = some (.slice A1 n1 c1) := zb.cell 0
        have z1 : wc.cell? ⟨B12, 1, none⟩ = some (.slice B1 m1 e1) := zb.cell 1
        have zl : B12 < wc.heap.size := zb.lt
        clear zb
        have hn0 : (0 : Int) ≤ (n1 : Int) := by omega
        have hn9 : (n1 : Int) ≤ 8 := by omega
        have hw1 : IntKind.i64.wrap ((n1 : Int) + 1) = (n1 : Int) + 1 := IntWalk.i64_in _ (by omega)
        have hw0 : IntKind.i64.wrap (n1 : Int) = (n1 : Int) := IntWalk.i64_in _ (by omega)
        obtain ⟨bl, offl, vpl, vnl, hcel⟩ := HRN9.out.cel n1 (by rw [← HL2.out]; omega)
        have hsl := HLAST.out hkl
        rw [getD_at (by rw [← HL2.out]; omega)] at hsl
        have hAl := hcel.at_
        subst hAl
        have hc0 := hcel.c0
        rw [hsl] at hc0
        clear hcel hsl
        have hn1 : (n1 : Int) < (n1 : Int) + 1 := by omega
        clear hkl hmk
        go_wp2_with fail
        go_quiet (fail)
        clear hw1 hw0
        go_wp2_with fail
        clear x0 x1 xl z0 z1 zl hc0 hn1
        have HK10 := Lib.hid (HK9.out.gb (gb_drewN wc nq none))
        have HRM10 := Lib.hid (HRM9.out.gb (gb_drewN wc nq none))
        have HRN10 := Lib.hid (HRN9.out.gb (gb_drewN wc nq none))
        clear HK9 HRM9 HRN9
        generalize wc.drewN nq = wd at *
        generalize hA2 : (some (⟨bl, offl, none⟩ : Addr)) = A2 at *
        clear hA2
        go_loopw [21, 22] (fun s t wr => ∃ ii : Nat, t = .int .i64 ii ∧ ii ≤ n1 ∧ s = .int .i64 (cnt O O2 ii : Nat) ∧ Hid (Kq w wr [(B15 + 1, 24, #[.int .i64 (r2 0), .int .i64 (r2 1), .int .i64 (r2 2), .int .i64 (r2 3), .int .i64 (r2 4), .int .i64 (r2 5)]), (B15, 29, #[.slice A2 (n1 + 1) c2, .slice B2 m2 e2]), (B14, 26, #[.int .i64 k, .int .i64 a, .int .i64 b, .int .i64 i, .int .i64 n]), (B13, 24, #[.int .i64 (r 0), .int .i64 (r 1), .int .i64 (r 2), .int .i64 (r 3), .int .i64 (r 4), .int .i64 (r 5)]), (B12, 29, #[.slice A1 n1 c1, .slice B1 m1 e1]), (N + 1, 26, #[.int .i64 d0, .int .i64 d1, .int .i64 d2, .int .i64 d3, .int .i64 d4]), (N, 24, #[.int .i64 (R 0), .int .i64 (R 1), .int .i64 (R 2), .int .i64 (R 3), .int .i64 (R 4), .int .i64 (R 5)])]) ∧ Hid (RM wr (.agg #[.slice A1 n1 c1, .slice B1 m1 e1]) O Q) ∧ Hid (RM wr (.agg #[.slice A2 (n1 + 1) c2, .slice B2 m2 e2]) O2 Q2)) (fun _ t _ => n1 - (intOf t).toNat)
        case atStart => exact ⟨0, rfl, Nat.zero_le _, rfl, HK10, HRM10, HRN10⟩
        case round =>
          obtain ⟨ii, rfl, hii, rfl, HKr, HMr, HNr⟩ := hrel
          clear HK10 HRM10 HRN10
          have xb := HKr.out.get 1 rfl
          have x0 : wr.cell? ⟨B15, 0, none⟩ = some (.slice A2 (n1 + 1) c2) := xb.cell 0
          have x1 : wr.cell? ⟨B15, 1, none⟩ = some (.slice B2 m2 e2) := xb.cell 1
          have xl : B15 < wr.heap.size := xb.lt
          clear xb
          have zb := HKr.out.get 4 rfl
          have z0 : wr.cell? ⟨B12, 0, none⟩ = some (.slice A1 n1 c1) := zb.cell 0
          have z1 : wr.cell? ⟨B12, 1, none⟩ = some (.slice B1 m1 e1) := zb.cell 1
          have zl : B12 < wr.heap.size := zb.lt
          clear zb
          by_cases hin : ii < n1
          · obtain ⟨b1, o1, vp1, vn1, hc1⟩ := HMr.out.cel ii (by rw [← HOL.out]; exact hin)
            obtain ⟨b2, o2, vp2, vn2, hc2⟩ := HNr.out.cel ii (by rw [← HL2.out]; omega)
            have hkept := HKPS.out.kept ii (by rw [← HOL.out]; exact hin) (by rw [← HL2.out]; omega)
            have hcs := cnt_succ O O2 ii
            rw [getD_at (by rw [← HOL.out]; exact hin), getD_at (by rw [← HL2.out]; omega)] at hcs
            generalize O[ii]'(by rw [← HOL.out]; exact hin) = p1 at *
            generalize O2[ii]'(by rw [← HL2.out]; omega) = p2 at *
            obtain ⟨t0, t1, t2, t3, t4, tf⟩ := hkept
            have hA1 := hc1.at_
            have hA2 := hc2.at_
            subst hA1 hA2
            have k0 := hc1.c0; have k1 := hc1.c1; have k2 := hc1.c2; have k3 := hc1.c3; have k4 := hc1.c4; have k5 := hc1.c5; have k6 := hc1.c6; have k7 := hc1.c7
            have j0 := hc2.c0; have j1 := hc2.c1; have j2 := hc2.c2; have j3 := hc2.c3; have j4 := hc2.c4; have j5 := hc2.c5; have j6 := hc2.c6; have j7 := hc2.c7
            have lt1 := hc1.lt; have lt2 := hc2.lt
            rw [t0] at j0; rw [t1] at j1; rw [t2] at j2; rw [t3] at j3; rw [t4] at j4
            have HRO1 := Lib.hid hc1.ro; have HRO2 := Lib.hid hc2.ro
            have hf1 := hc1.ro; have hf2 := hc2.ro
            obtain ⟨Ap1, cp1, An1, cn1, rfl, rfl, -, -⟩ := hf1
            obtain ⟨Ap2, cp2, An2, cn2, rfl, rfl, -, -⟩ := hf2
            have HT := Lib.hid (And.intro t0 (And.intro t1 (And.intro t2 (And.intro t3 t4))))
            have HCS := Lib.hid hcs
            have ii0 : (0 : Int) ≤ (ii : Int) := by omega
            have ii1 : (ii : Int) < (n1 : Int) := by omega
            obtain ⟨f1, hf1⟩ : ∃ f1, p1.fr = f1 := ⟨_, rfl⟩
            obtain ⟨f2, hf2⟩ : ∃ f2, p2.fr = f2 := ⟨_, rfl⟩
            rw [hf1] at k7 tf
            rw [hf2] at j7 tf
            have HT1 := Lib.hid (And.intro hf1 hf2)
            clear hc1 hc2 t0 t1 t2 t3 t4 hcs hf1 hf2
            cases f1
            · clear tf
              go_wp2_with fail
              obtain ⟨g4, bk1, bk2⟩ := al4 wr #[.int .i64 p1.s, .int .i64 p1.sp, .int .i64 p1.sd, .bool p1.sw, .bool p1.sf, .slice Ap1 p1.ps.length cp1, .slice An1 p1.ns.length cn1, .bool false] #[.int .i64 p1.s, .int .i64 p1.sp, .int .i64 p1.sd, .bool p1.sw, .bool p1.sf, .slice Ap2 p2.ps.length cp2, .slice An2 p2.ns.length cn2, .bool f2] #[.int .i64 p1.s, .int .i64 p1.sp, .int .i64 p1.sd, .bool p1.sw, .bool p1.sf, .slice Ap1 p1.ps.length cp1, .slice An1 p1.ns.length cn1, .bool false] #[.int .i64 p1.s, .int .i64 p1.sp, .int .i64 p1.sd, .bool p1.sw, .bool p1.sf, .slice Ap2 p2.ps.length cp2, .slice An2 p2.ns.length cn2, .bool f2] 41
              have HG4 := Lib.hid g4
              refine (same_rm (RM.one2 ⟨rfl, rfl, rfl, rfl, rfl, HT1.out.1⟩ bk1 (HRO1.out.gb g4)) (RM.one2 ⟨HT.out.1, HT.out.2.1, HT.out.2.2.1, HT.out.2.2.2.1, HT.out.2.2.2.2, HT1.out.2⟩ bk2 (HRO2.out.gb g4))).mono ?_
              rintro e' w30 ⟨rfl, hg⟩
              have hgr := grownBy_trans HG4.out hg
              have HK31 := Lib.hid (HKr.out.gb hgr); have HM31 := Lib.hid (HMr.out.gb hgr); have HN31 := Lib.hid (HNr.out.gb hgr)
              clear g4 bk1 bk2 HG4 hgr hg HKr HMr HNr HRO1 HRO2 HT HT1 k0 k1 k2 k3 k4 k5 k6 k7 j0 j1 j2 j3 j4 j5 j6 j7 x0 x1 xl z0 z1 zl lt1 lt2
              have hcl := cnt_le HKPS.out ii (by rw [← HOL.out]; omega)
              by_cases hpe : p1 = p2
              · rw [show decide ([p1] = [p2] ∧ ([] : List (Int × Int)) = []) = true from by simp [hpe]]
                have hcc : (cnt O O2 (ii + 1) : Nat) = cnt O O2 ii := by rw [HCS.out, if_pos hpe]; rfl
                have HCC := Lib.hid hcc
                clear hpe hcc HCS
                generalize hcv : cnt O O2 ii = cv at *
                have HCV := Lib.hid hcv
                clear hcv
                go_wp2_with fail
                go_roundw
                case rel => exact ⟨ii + 1, by go_num, by omega, by rw [HCC.out], HK31, HM31, HN31⟩
                case measure => simp [intOf]; omega
              · rw [show decide ([p1] = [p2] ∧ ([] : List (Int × Int)) = []) = false from by simp [hpe]]
                have hcc : (cnt O O2 (ii + 1) : Nat) = cnt O O2 ii + 1 := by rw [HCS.out, if_neg hpe]
                have HCC := Lib.hid hcc
                clear hpe hcc HCS
                generalize hcv : cnt O O2 ii = cv at *
                have HCV := Lib.hid hcv
                clear hcv
                go_wp2_with fail
                go_roundw
                case rel => exact ⟨ii + 1, by go_num, by omega, by rw [HCC.out]; go_num, HK31, HM31, HN31⟩
                case measure => simp [intOf]; omega
            · obtain rfl := tf rfl
              clear tf
              go_wp2_with fail
              obtain ⟨g4, bk1, bk2⟩ := al4 wr #[.int .i64 p1.s, .int .i64 p1.sp, .int .i64 p1.sd, .bool p1.sw, .bool p1.sf, .slice Ap1 p1.ps.length cp1, .slice An1 p1.ns.length cn1, .bool true] #[.int .i64 p1.s, .int .i64 p1.sp, .int .i64 p1.sd, .bool p1.sw, .bool p1.sf, .slice Ap2 p2.ps.length cp2, .slice An2 p2.ns.length cn2, .bool true] #[.int .i64 p1.s, .int .i64 p1.sp, .int .i64 p1.sd, .bool p1.sw, .bool p1.sf, .slice Ap1 p1.ps.length cp1, .slice An1 p1.ns.length cn1, .bool true] #[.int .i64 p1.s, .int .i64 p1.sp, .int .i64 p1.sd, .bool p1.sw, .bool p1.sf, .slice Ap2 p2.ps.length cp2, .slice An2 p2.ns.length cn2, .bool true] 41
              have HG4 := Lib.hid g4
              refine (same_rm (RM.one2 ⟨rfl, rfl, rfl, rfl, rfl, HT1.out.1⟩ bk1 (HRO1.out.gb g4)) (RM.one2 ⟨HT.out.1, HT.out.2.1, HT.out.2.2.1, HT.out.2.2.2.1, HT.out.2.2.2.2, HT1.out.2⟩ bk2 (HRO2.out.gb g4))).mono ?_
              rintro e' w30 ⟨rfl, hg⟩
              have hgr := grownBy_trans HG4.out hg
              have HK31 := Lib.hid (HKr.out.gb hgr); have HM31 := Lib.hid (HMr.out.gb hgr); have HN31 := Lib.hid (HNr.out.gb hgr)
              clear g4 bk1 bk2 HG4 hgr hg HKr HMr HNr HRO1 HRO2 HT HT1 k0 k1 k2 k3 k4 k5 k6 k7 j0 j1 j2 j3 j4 j5 j6 j7 x0 x1 xl z0 z1 zl lt1 lt2
              have hcl := cnt_le HKPS.out ii (by rw [← HOL.out]; omega)
              by_cases hpe : p1 = p2
              · rw [show decide ([p1] = [p2] ∧ ([] : List (Int × Int)) = []) = true from by simp [hpe]]
                have hcc : (cnt O O2 (ii + 1) : Nat) = cnt O O2 ii := by rw [HCS.out, if_pos hpe]; rfl
                have HCC := Lib.hid hcc
                clear hpe hcc HCS
                generalize hcv : cnt O O2 ii = cv at *
                have HCV := Lib.hid hcv
                clear hcv
                go_wp2_with fail
                go_roundw
                case rel => exact ⟨ii + 1, by go_num, by omega, by rw [HCC.out], HK31, HM31, HN31⟩
                case measure => simp [intOf]; omega
              · rw [show decide ([p1] = [p2] ∧ ([] : List (Int × Int)) = []) = false from by simp [hpe]]
                have hcc : (cnt O O2 (ii + 1) : Nat) = cnt O O2 ii + 1 := by rw [HCS.out, if_neg hpe]
                have HCC := Lib.hid hcc
                clear hpe hcc HCS
                generalize hcv : cnt O O2 ii = cv at *
                have HCV := Lib.hid hcv
                clear hcv
                go_wp2_with fail
                go_roundw
                case rel => exact ⟨ii + 1, by go_num, by omega, by rw [HCC.out]; go_num, HK31, HM31, HN31⟩
                case measure => simp [intOf]; omega
          · obtain rfl : ii = n1 := by omega
            have hcl := cnt_le HKPS.out ii (by rw [← HOL.out]; omega)
            have hcs : k = 10 → cnt O O2 ii = 0 := fun h => by rw [HTK.out h]; exact cnt_same O ii
            have HCS := Lib.hid hcs
            clear hcs
            generalize cnt O O2 ii = cv at *
            go_wp2_with fail
            clear x0 x1 xl z0 z1 zl hin hii
            rename World => wo
            go_loopw [25, 26] (fun s t wv => ∃ jj : Nat, t = .int .i64 jj ∧ jj ≤ 6 ∧ s = .int .i64 0 ∧ Hid (Kq w wv [(B15 + 1, 24, #[.int .i64 (r2 0), .int .i64 (r2 1), .int .i64 (r2 2), .int .i64 (r2 3), .int .i64 (r2 4), .int .i64 (r2 5)]), (B15, 29, #[.slice A2 (ii + 1) c2, .slice B2 m2 e2]), (B14, 26, #[.int .i64 k, .int .i64 a, .int .i64 b, .int .i64 i, .int .i64 n]), (B13, 24, #[.int .i64 (r 0), .int .i64 (r 1), .int .i64 (r 2), .int .i64 (r 3), .int .i64 (r 4), .int .i64 (r 5)]), (B12, 29, #[.slice A1 ii c1, .slice B1 m1 e1]), (N + 1, 26, #[.int .i64 d0, .int .i64 d1, .int .i64 d2, .int .i64 d3, .int .i64 d4]), (N, 24, #[.int .i64 (R 0), .int .i64 (R 1), .int .i64 (R 2), .int .i64 (R 3), .int .i64 (R 4), .int .i64 (R 5)])]) ∧ Hid (RM wv (.agg #[.slice A1 ii c1, .slice B1 m1 e1]) O Q)) (fun _ t _ => 6 - (intOf t).toNat)
            case atStart => exact ⟨0, rfl, by omega, rfl, HKr, HMr⟩
            case round =>
              obtain ⟨jj, rfl, hjj, rfl, HKv, HMv⟩ := hrel
              clear HKr HMr HNr
              by_cases hj6 : jj < 6
              · have hx : wr.cell? ⟨B15 + 1, jj, none⟩ = some (.int .i64 (r2 jj)) := by rw [(HKv.out.get 0 rfl).cell]; exact rcs_get r2 jj hj6
                have hy : wr.cell? ⟨B13, jj, none⟩ = some (.int .i64 (r jj)) := by rw [(HKv.out.get 3 rfl).cell]; exact rcs_get r jj hj6
                have hz : wr.cell? ⟨B14, 1, none⟩ = some (.int .i64 a) := (HKv.out.get 2 rfl).cell 1
                have hj0 : (0 : Int) ≤ (jj : Int) := by omega
                have hj1 : (jj : Int) < 6 := by omega
                have HG := Lib.hid (fun q => gb_drewN wr q none)
                by_cases hrr : r2 jj = r jj
                · rw [hrr] at hx
                  clear hrr
                  generalize r jj = x at *
                  go_wp2_with fail
                  go_quiet (fail)
                  go_wp2_with fail
                  go_roundw
                  case rel => exact ⟨jj + 1, by go_num, by omega, rfl, Lib.hid (HKv.out.gb (HG.out _)), Lib.hid (HMv.out.gb (HG.out _))⟩
                  case measure => simp [intOf]; omega
                · obtain rfl : jj = a := Decidable.byContradiction fun h => hrr (HR2.out jj h)
                  have hb1 : (r2 jj == r jj) = false := by rw [beq_eq_false_iff_ne]; exact hrr
                  have hb2 : (r2 jj != r jj) = true := by rw [bne_iff_ne]; exact hrr
                  clear hrr
                  generalize r jj = x at *
                  generalize r2 jj = y at *
                  go_wp2_with fail
                  go_quiet (fail)
                  go_wp2_with fail
                  go_roundw
                  case rel => exact ⟨jj + 1, by go_num, by omega, rfl, Lib.hid (HKv.out.gb (HG.out _)), Lib.hid (HMv.out.gb (HG.out _))⟩
                  case measure => simp [intOf]; omega
              · have HG := Lib.hid (below_of HKv.out.gr)
                have hcv : (cv : Int) ≤ 1 := by omega
                have hm10 : (0 : Int) ≤ (m1 : Int) := by omega
                have hm14 : (m1 : Int) ≤ 4 := by omega
                have xb := HKv.out.get 1 rfl
                have x0 : wr.cell? ⟨B15, 0, none⟩ = some (.slice A2 (ii + 1) c2) := xb.cell 0
                have x1 : wr.cell? ⟨B15, 1, none⟩ = some (.slice B2 m2 e2) := xb.cell 1
                have xl : B15 < wr.heap.size := xb.lt
                clear xb
                have zb := HKv.out.get 4 rfl
                have z0 : wr.cell? ⟨B12, 0, none⟩ = some (.slice A1 ii c1) := zb.cell 0
                have z1 : wr.cell? ⟨B12, 1, none⟩ = some (.slice B1 m1 e1) := zb.cell 1
                have zl : B12 < wr.heap.size := zb.lt
                clear zb
                have yb := HKv.out.get 2 rfl
                have y0 : wr.cell? ⟨B14, 0, none⟩ = some (.int .i64 k) := yb.cell 0
                have yl : B14 < wr.heap.size := yb.lt
                clear yb
                rcases HQQ.out with hq | ⟨hk, hq0, hq1, hq2⟩
                · have hmm : m2 = m1 := by rw [HM2.out, HQL.out, hq]
                  subst hmm
                  clear hq
                  go_wp2_with fail
                  go_ret
                  exact ⟨rfl, HG.out⟩
                · exfalso
                  have := HLB.out
                  rw [hk] at this
                  simp at this
  · obtain ⟨q1, q2, q3, q4⟩ := d_err (Q := Q) (n := n) (seen := seen) (by rw [HE.out]; exact he0 : flt O r k a b i ((n1 : Int) + 1) ≠ 0)
    rw [q1, q2, q3, q4, HE.out] at HDO
    clear q1 q2 q3 q4
    refine HDO.out.mono ?_
    rintro e' w8 ⟨A2, n2, c2, B2, m2, e2, rfl, hrm, hg⟩
    have HRN8 := Lib.hid hrm
    clear hrm HDO
    have HK8 := Lib.hid (HK7.out.gb hg)
    have HRM8 := Lib.hid (HRM7.out.gb hg)
    clear hg HK7 HRM7
    have xb := HK8.out.get 1 rfl
    have x0 : w8.cell? ⟨B13, 0, none⟩ = some (.int .i64 (r 0)) := xb.cell 0
    have x1 : w8.cell? ⟨B13, 1, none⟩ = some (.int .i64 (r 1)) := xb.cell 1
    have x2 : w8.cell? ⟨B13, 2, none⟩ = some (.int .i64 (r 2)) := xb.cell 2
    have x3 : w8.cell? ⟨B13, 3, none⟩ = some (.int .i64 (r 3)) := xb.cell 3
    have x4 : w8.cell? ⟨B13, 4, none⟩ = some (.int .i64 (r 4)) := xb.cell 4
    have x5 : w8.cell? ⟨B13, 5, none⟩ = some (.int .i64 (r 5)) := xb.cell 5
    have xl : B13 < w8.heap.size := xb.lt
    clear xb
    have zb := HK8.out.get 2 rfl
    have z0 : w8.cell? ⟨B12, 0, none⟩ = some (.slice A1 n1 c1) := zb.cell 0
    have z1 : w8.cell? ⟨B12, 1, none⟩ = some (.slice B1 m1 e1) := zb.cell 1
    have zl : B12 < w8.heap.size := zb.lt
    clear zb
    go_wp2_with fail
    have HK9 := Lib.hid (HK8.out.al2 #[.slice A2 n2 c2, .slice B2 m2 e2] #[.int .i64 (r 0), .int .i64 (r 1), .int .i64 (r 2), .int .i64 (r 3), .int .i64 (r 4), .int .i64 (r 5)] 29 24)
    have hgal : w8.grownBy ((w8.alloc (.cells #[.slice A2 n2 c2, .slice B2 m2 e2] 29)).alloc (.cells #[.int .i64 (r 0), .int .i64 (r 1), .int .i64 (r 2), .int .i64 (r 3), .int .i64 (r 4), .int .i64 (r 5)] 24)) none := grownBy_trans (World.grownBy_alloc _ _ none) (World.grownBy_alloc _ _ none)
    have HRM9 := Lib.hid (HRM8.out.gb hgal)
    have HRN9 := Lib.hid (HRN8.out.gb hgal)
    clear hgal HK8 HRM8 HRN8
    generalize hW : (w8.alloc (.cells #[.slice A2 n2 c2, .slice B2 m2 e2] 29)).alloc (.cells #[.int .i64 (r 0), .int .i64 (r 1), .int .i64 (r 2), .int .i64 (r 3), .int .i64 (r 4), .int .i64 (r 5)] 24) = w9 at *
    clear hW
    generalize w8.heap.size = B15 at *
    clear x0 x1 x2 x3 x4 x5 xl
    clear z0 z1 zl
    refine (same_rm HRM9.out HRN9.out).mono ?_
    rintro e' w10 ⟨rfl, hg⟩
    rw [show decide (O = O ∧ Q = Q) = true from by simp]
    have HK10 := Lib.hid (HK9.out.gb hg)
    clear hg HK9
    have xb := HK10.out.get 3 rfl
    have x0 : w10.cell? ⟨B13, 0, none⟩ = some (.int .i64 (r 0)) := xb.cell 0
    have x1 : w10.cell? ⟨B13, 1, none⟩ = some (.int .i64 (r 1)) := xb.cell 1
    have x2 : w10.cell? ⟨B13, 2, none⟩ = some (.int .i64 (r 2)) := xb.cell 2
    have x3 : w10.cell? ⟨B13, 3, none⟩ = some (.int .i64 (r 3)) := xb.cell 3
    have x4 : w10.cell? ⟨B13, 4, none⟩ = some (.int .i64 (r 4)) := xb.cell 4
    have x5 : w10.cell? ⟨B13, 5, none⟩ = some (.int .i64 (r 5)) := xb.cell 5
    have xl : B13 < w10.heap.size := xb.lt
    clear xb
    have yb := HK10.out.get 0 rfl
    have y0 : w10.cell? ⟨B15 + 1, 0, none⟩ = some (.int .i64 (r 0)) := yb.cell 0
    have y1 : w10.cell? ⟨B15 + 1, 1, none⟩ = some (.int .i64 (r 1)) := yb.cell 1
    have y2 : w10.cell? ⟨B15 + 1, 2, none⟩ = some (.int .i64 (r 2)) := yb.cell 2
    have y3 : w10.cell? ⟨B15 + 1, 3, none⟩ = some (.int .i64 (r 3)) := yb.cell 3
    have y4 : w10.cell? ⟨B15 + 1, 4, none⟩ = some (.int .i64 (r 4)) := yb.cell 4
    have y5 : w10.cell? ⟨B15 + 1, 5, none⟩ = some (.int .i64 (r 5)) := yb.cell 5
    have yl : B15 + 1 < w10.heap.size := yb.lt
    clear yb
    have yl2 : B15 < w10.heap.size := by omega
    have heq := fun W => eq24_same r W
    simp only [rcs] at heq
    have HG := Lib.hid (below_of HK10.out.gr)
    go_wp2_with fail
    go_ret
    exact ⟨rfl, HG.out⟩

theorem own : ownKnob Try.prog.godebug = none := by kernel_rfl
theorem laidOut : laidOutB Try.prog = true := by kernel_rfl

set_option maxRecDepth 100000 in
theorem lifted (os : _root_.Go.Os) (started : os.Started) (H : Type) (enc : TypeId × Value → H) :
    ReturnsInHanded {} Try.checked os 3 .any (Rows.modelKeepsSpec.pre6 enc Try.prog Try.f3 Rows.modelKeepsRow.domain false) (Rows.modelKeepsSpec.post enc Try.prog Try.f3 false true false false) := by
  refine returnsInHanded_of_change (C := Try.checked) own started (by kernel_rfl) Try.func3
    (ChangeSpec.witness6 (enc := enc) (C := Try.checked) false ⟨#[], #[.slice none 0 0, .slice none 0 0, .agg #[.int .i64 0, .int .i64 0, .int .i64 0, .int .i64 0, .int .i64 0, .int .i64 0], .agg #[.int .i64 0, .int .i64 0, .int .i64 0, .int .i64 0, .int .i64 0], .int .i64 0], []⟩ 8 (by kernel_rfl) (by kernel_rfl) (by kernel_rfl) (by kernel_rfl)) ?_
  intro W base args ds gs before hval0 hW hcnd _
  have hval : ∀ (j : Nat) t v, Try.f3.params[j]? = some t → args[j]? = some v → Value.okWide Try.prog W .any base t v := hval0
  have hW' := hW
  obtain ⟨p, q, hA0, hV, rfl, hfz, hnd⟩ := hW
  have hA : DataW.TrodAll enc Try.prog W 0 (fun _ => true) true Try.f3.params.toList args.toList ds p := hA0
  rw [Try.params3] at hA hval
  obtain ⟨v0, vs0, d0, ds0, p0, q0, hargs, rfl, rfl, h0, r0⟩ := trodAll_cons hA
  obtain ⟨v1, vs1, d1, ds1, p1, q1, rfl, rfl, rfl, h1, r1⟩ := trodAll_cons r0
  obtain ⟨v2, vs2, d2, ds2, p2, q2, rfl, rfl, rfl, h2, r2⟩ := trodAll_cons r1
  obtain ⟨v3, vs3, d3, ds3, p3, q3, rfl, rfl, rfl, h3, r3⟩ := trodAll_cons r2
  obtain ⟨v4, vs4, d4, ds4, p4, q4, rfl, rfl, rfl, h4, r4⟩ := trodAll_cons r3
  obtain ⟨rfl, rfl, rfl⟩ := trodAll_nil r4
  obtain rfl : args = #[v0, v1, v2, v3, v4] := by cases args; simp_all
  obtain ⟨rfl, rfl⟩ := trodVars_none hV
  have k0 := h0
  have lt0 : ∀ x ∈ p0, x.block < W.heap.size := by obtain ⟨m, hm⟩ := k0; exact DataW.trod_lt m _ _ _ hm
  have k1 := h1
  have lt1 : ∀ x ∈ p1, x.block < W.heap.size := by obtain ⟨m, hm⟩ := k1; exact DataW.trod_lt m _ _ _ hm
  have k2 := h2
  have lt2 : ∀ x ∈ p2, x.block < W.heap.size := by obtain ⟨m, hm⟩ := k2; exact DataW.trod_lt m _ _ _ hm
  have k3 := h3
  have lt3 : ∀ x ∈ p3, x.block < W.heap.size := by obtain ⟨m, hm⟩ := k3; exact DataW.trod_lt m _ _ _ hm
  have k4 := h4
  have lt4 : ∀ x ∈ p4, x.block < W.heap.size := by obtain ⟨m, hm⟩ := k4; exact DataW.trod_lt m _ _ _ hm
  obtain ⟨a0, len0, cap0, rfl⟩ := okWide_slice Try.underlying22 (hval 0 22 v0 rfl rfl)
  obtain ⟨L0, hl0, hr0, hx0⟩ : ∃ L : List Ov, L.length = len0 ∧ RL W a0 L ∧ ∀ y ∈ L, Lo y.o ∧ Cp y := by
    obtain ⟨fuel, hf⟩ := h0
    exact open_objs hf
  subst hl0
  obtain ⟨a1, len1, cap1, rfl⟩ := okWide_slice Try.underlying23 (hval 1 23 v1 rfl rfl)
  obtain ⟨Q1, hl1, hr1, hx1⟩ : ∃ Q : List (Int × Int), Q.length = len1 ∧ Rc W a1 Q.length 2 (its Q) ∧ ∀ y ∈ Q, -9223372036854775808 ≤ y.1 := by
    obtain ⟨fuel, hf⟩ := h1
    exact open_items hf
  subst hl1
  obtain ⟨R2, rfl, hR2⟩ := open_regs (hval 2 24 v2 rfl rfl) h2
  obtain ⟨D3, rfl, hD3⟩ := open_deed (hval 3 26 v3 rfl rfl) h3
  obtain ⟨a4, rfl, rfl, rfl, w4⟩ := open_int Try.underlying3 (hval 4 3 v4 rfl rfl) h4
  clear hA0 hval0
  refine (walk a0 a1 cap0 cap1 L0 Q1 R2 (D3 0) (D3 1) (D3 2) (D3 3) (D3 4) a4 W hr0 hx0 hr1 hx1 hR2 (hD3 0 (by omega)) (hD3 1 (by omega)) (hD3 2 (by omega)) (hD3 3 (by omega)) (hD3 4 (by omega))).mono fun e W' ⟨he, bel⟩ => ?_
  subst he
  exact ⟨_, rfl, _, _, _, [], _, [], hW', trodAll_mk1 (shut_bool Try.underlying4 _), (trodAll_cons_mk (Below.trod laidOut (by kernel_rfl) (of_decide_eq_true (by kernel_rfl)) k0 bel lt0) (trodAll_cons_mk (Below.trod laidOut (by kernel_rfl) (of_decide_eq_true (by kernel_rfl)) k1 bel lt1) (trodAll_cons_mk (Below.trod laidOut (by kernel_rfl) (of_decide_eq_true (by kernel_rfl)) k2 bel lt2) (trodAll_cons_mk (Below.trod laidOut (by kernel_rfl) (of_decide_eq_true (by kernel_rfl)) k3 bel lt3) (trodAll_cons_mk (Below.trod laidOut (by kernel_rfl) (of_decide_eq_true (by kernel_rfl)) k4 bel lt4) trodAll_mk0))))), rfl, bel.frame _, fun h => by cases h⟩

theorem over : Rows.modelKeepsRow.holds Try.pinned (OpenSpec.ofChange Rows.modelKeepsSpec) :=
  OpenClaim.holds_of_wide 3 Try.f3 rfl rfl rfl rfl rfl rfl rfl ⟨rfl, rfl, rfl, rfl, rfl⟩ rfl rfl rfl rfl rfl (by kernel_rfl) Try.func3 (by kernel_rfl)
    (of_decide_eq_true (by kernel_rfl)) (by unfold Func.isWrapper; first | (rw [if_pos (by decide +kernel)]; kernel_rfl) | (rw [if_neg (by decide +kernel)]; exact ⟨rfl, rfl⟩))
    (fun os started H enc _ => lifted os started H enc)

theorem proved : Rows.ModelKeepsSaid := over
end Go.Proofs.Yteieljkkcnpfmaa.modelKeeps

namespace Go.Proofs.Yteieljkkcnpfmaa
theorem ModelKeeps_holds : Rows.ModelKeepsSaid := modelKeeps.proved
#print axioms ModelKeeps_holds
end Go.Proofs.Yteieljkkcnpfmaa

