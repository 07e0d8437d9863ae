/-
  ModelWrites returns true, whatever the input; what it was handed reads as before. No condition.
-/
import Derived.Test.YteieljkkcnpfmaaWri0
import Derived.BigRegion
import Derived.Deep.QuietTactic
import Derived.BigQuiet
namespace Go.Proofs.Yteieljkkcnpfmaa.modelWrites
open Go.ChangeShapes Go.WideShapes Go.ChangeAt Go.RowKit
set_option linter.unusedVariables false

set_option maxRecDepth 100000 in
set_option maxHeartbeats 16000000 in
theorem walk (Ao : Option Addr) (co : Nat) (L : List Ov) (R : Nat → Int) (i n : Int) (w : World) (hL : RL w Ao L) (hlo : ∀ y ∈ L, Lo y.o ∧ Cp y) (hR : ∀ j, j < 6 → -9223372036854775808 ≤ R j) (hi : -9223372036854775808 ≤ i) (hn : -9223372036854775808 ≤ n) :
    Calls Try.prog 4 #[.slice Ao L.length co, .agg #[.int .i64 (R 0), .int .i64 (R 1), .int .i64 (R 2), .int .i64 (R 3), .int .i64 (R 4), .int .i64 (R 5)], .int .i64 i, .int .i64 n] w fun e w' => e = .returned (.bool true) ∧ Below w.heap.size w w' := by
  obtain ⟨K, hK, hK4⟩ := pk_nat i 4 (by omega)
  obtain ⟨P0, P1⟩ := pk_range n 2000001 (by omega)
  have HKK := Lib.hid hK
  have HL := Lib.hid hL; have HLO := Lib.hid hlo; have HR := Lib.hid hR
  have hll := hL.1.le
  have HK0 := Lib.hid ((Kq.start w).al1 #[.int .i64 (R 0), .int .i64 (R 1), .int .i64 (R 2), .int .i64 (R 3), .int .i64 (R 4), .int .i64 (R 5)] 24)
  clear hL hlo hR hK
  go_enter Try.func4, Try.ntmps4
  go_wp2_with fail
  generalize w.alloc (.cells #[.int .i64 (R 0), .int .i64 (R 1), .int .i64 (R 2), .int .i64 (R 3), .int .i64 (R 4), .int .i64 (R 5)] 24) = w0 at *
  generalize w.heap.size = N at *
  refine (awake_any w0).mono ?_
  rintro e w1 ⟨rfl, hg⟩
  have HK1 := Lib.hid (HK0.out.gb hg)
  clear hg HK0
  go_wp2_with fail
  refine (fit_nil Ao co L w1 (HL.out.gb HK1.out.gr) HLO.out).mono ?_
  rintro e w2 ⟨A1, n1, c1, B1, m1, e1, O, Q, rfl, hnm, hrm, hfo, hol, hq4, hg⟩
  have hn8 : n1 ≤ 8 := by omega
  have hsm := hfo.smo hol (by omega) hq4
  have HRM2 := Lib.hid hrm
  have HSM := Lib.hid hsm
  have HFO := Lib.hid hfo
  clear hrm hfo hsm hol hnm hll HL HLO
  have HK2 := Lib.hid (HK1.out.gb hg)
  clear hg HK1
  have xb := HK2.out.get 0 rfl
  have x0 : w2.cell? ⟨N, 0, none⟩ = some (.int .i64 (R 0)) := xb.cell 0
  have x1 : w2.cell? ⟨N, 1, none⟩ = some (.int .i64 (R 1)) := xb.cell 1
  have x2 : w2.cell? ⟨N, 2, none⟩ = some (.int .i64 (R 2)) := xb.cell 2
  have x3 : w2.cell? ⟨N, 3, none⟩ = some (.int .i64 (R 3)) := xb.cell 3
  have x4 : w2.cell? ⟨N, 4, none⟩ = some (.int .i64 (R 4)) := xb.cell 4
  have x5 : w2.cell? ⟨N, 5, none⟩ = some (.int .i64 (R 5)) := xb.cell 5
  have xl : N < w2.heap.size := xb.lt
  clear xb
  go_wp2_with fail
  have HK3 := Lib.hid (HK2.out.al1 #[.slice A1 n1 c1, .slice B1 m1 e1] 29)
  have hgal : w2.grownBy (w2.alloc (.cells #[.slice A1 n1 c1, .slice B1 m1 e1] 29)) none := World.grownBy_alloc _ _ none
  have HRM3 := Lib.hid (HRM2.out.gb hgal)
  clear hgal HK2 HRM2
  generalize hW : w2.alloc (.cells #[.slice A1 n1 c1, .slice B1 m1 e1] 29) = w3 at *
  clear hW
  generalize w2.heap.size = B10 at *
  clear x0 x1 x2 x3 x4 x5 xl
  refine (regs_t A1 B1 n1 c1 m1 e1 R w3 (by omega) HR.out).mono ?_
  rintro e w4 ⟨rfl, hg⟩
  have HK4 := Lib.hid (HK3.out.gb hg)
  have HRM4 := Lib.hid (HRM3.out.gb hg)
  clear hg HK3 HRM3
  clear HR
  dsimp only
  generalize hr : (fun j => pk (R j) ((n1 : Int) + 1)) = r at *
  rw [show pk (R 0) ((n1 : Int) + 1) = r 0 from by rw [← hr], show pk (R 1) ((n1 : Int) + 1) = r 1 from by rw [← hr], show pk (R 2) ((n1 : Int) + 1) = r 2 from by rw [← hr], show pk (R 3) ((n1 : Int) + 1) = r 3 from by rw [← hr], show pk (R 4) ((n1 : Int) + 1) = r 4 from by rw [← hr], show pk (R 5) ((n1 : Int) + 1) = r 5 from by rw [← hr]]
  clear hr
  go_wp2_with fail
  have HK5 := Lib.hid (HK4.out.al1 #[.int .i64 (r 0), .int .i64 (r 1), .int .i64 (r 2), .int .i64 (r 3), .int .i64 (r 4), .int .i64 (r 5)] 24)
  have hgal : w4.grownBy (w4.alloc (.cells #[.int .i64 (r 0), .int .i64 (r 1), .int .i64 (r 2), .int .i64 (r 3), .int .i64 (r 4), .int .i64 (r 5)] 24)) none := World.grownBy_alloc _ _ none
  have HRM5 := Lib.hid (HRM4.out.gb hgal)
  clear hgal HK4 HRM4
  generalize hW : w4.alloc (.cells #[.int .i64 (r 0), .int .i64 (r 1), .int .i64 (r 2), .int .i64 (r 3), .int .i64 (r 4), .int .i64 (r 5)] 24) = w5 at *
  clear hW
  generalize w4.heap.size = B11 at *
  refine (pick_any i 4 w5 hi (by omega)).mono ?_
  rintro e w6 ⟨rfl, rfl⟩
  rw [show pk i 4 = (K : Int) from HKK.out]
  go_wp2_with fail
  refine (pick_any n 2000001 w5 hn (by omega)).mono ?_
  rintro e w6 ⟨rfl, rfl⟩
  generalize pk n 2000001 = PP at *
  have xb := HK5.out.get 0 rfl
  have x0 : w5.cell? ⟨B11, 0, none⟩ = some (.int .i64 (r 0)) := xb.cell 0
  have x1 : w5.cell? ⟨B11, 1, none⟩ = some (.int .i64 (r 1)) := xb.cell 1
  have x2 : w5.cell? ⟨B11, 2, none⟩ = some (.int .i64 (r 2)) := xb.cell 2
  have x3 : w5.cell? ⟨B11, 3, none⟩ = some (.int .i64 (r 3)) := xb.cell 3
  have x4 : w5.cell? ⟨B11, 4, none⟩ = some (.int .i64 (r 4)) := xb.cell 4
  have x5 : w5.cell? ⟨B11, 5, none⟩ = some (.int .i64 (r 5)) := xb.cell 5
  have xl : B11 < w5.heap.size := xb.lt
  clear xb
  have zb := HK5.out.get 1 rfl
  have z0 : w5.cell? ⟨B10, 0, none⟩ = some (.slice A1 n1 c1) := zb.cell 0
  have z1 : w5.cell? ⟨B10, 1, none⟩ = some (.slice B1 m1 e1) := zb.cell 1
  have zl : B10 < w5.heap.size := zb.lt
  clear zb
  go_wp2_with fail
  clear x0 x1 x2 x3 x4 x5 xl
  clear z0 z1 zl
  have HD1 := Lib.hid (fun W hm => do_all (w := W) (v := .agg #[.slice A1 n1 c1, .slice B1 m1 e1]) (O := O) (Q := Q) hm HSM.out r 7 0 0 K (PP - 1000000) 0 0 (by omega) (by omega) (by omega) (by omega) (by omega) (right_7 0 K (PP - 1000000) (by omega) (by omega) (by omega) (by omega) (by omega)))
  have HD2 := Lib.hid (fun W hm => do_all (w := W) (v := .agg #[.slice A1 n1 c1, .slice B1 m1 e1]) (O := O) (Q := Q) hm HSM.out r 5 0 1 K 0 0 0 (by omega) (by omega) (by omega) (by omega) (by omega) (right_5 0 1 K (by omega) (by omega) (by omega) (by omega)))
  generalize hv : PP - 1000000 = v at *
  clear hv
  rcases HFO.out.at_ (r 0) with ⟨ht, hp⟩ | ⟨p, hpl, ht, hp, -⟩
  · obtain ⟨q1, q2⟩ := wr_none (K := K) ht
    have HE := Lib.hid q1; have HF := Lib.hid q2
    clear q1 q2
    refine (find_rm_none HRM5.out (r 0) hp).mono ?_
    rintro e w6 ⟨rfl, hg⟩
    have HK6 := Lib.hid (HK5.out.gb hg)
    have HRM6 := Lib.hid (HRM5.out.gb hg)
    clear hg HK5 HRM5
    have xb := HK6.out.get 0 rfl
    have x0 : w6.cell? ⟨B11, 0, none⟩ = some (.int .i64 (r 0)) := xb.cell 0
    have x1 : w6.cell? ⟨B11, 1, none⟩ = some (.int .i64 (r 1)) := xb.cell 1
    have x2 : w6.cell? ⟨B11, 2, none⟩ = some (.int .i64 (r 2)) := xb.cell 2
    have x3 : w6.cell? ⟨B11, 3, none⟩ = some (.int .i64 (r 3)) := xb.cell 3
    have x4 : w6.cell? ⟨B11, 4, none⟩ = some (.int .i64 (r 4)) := xb.cell 4
    have x5 : w6.cell? ⟨B11, 5, none⟩ = some (.int .i64 (r 5)) := xb.cell 5
    have xl : B11 < w6.heap.size := xb.lt
    clear xb
    have zb := HK6.out.get 1 rfl
    have z0 : w6.cell? ⟨B10, 0, none⟩ = some (.slice A1 n1 c1) := zb.cell 0
    have z1 : w6.cell? ⟨B10, 1, none⟩ = some (.slice B1 m1 e1) := zb.cell 1
    have zl : B10 < w6.heap.size := zb.lt
    clear zb
    go_wp2_with fail
    have HK7 := Lib.hid (HK6.out.al1 #[.int .i64 0, .int .i64 0, .int .i64 0, .bool false, .bool false, .slice none 0 0, .slice none 0 0, .bool false] 41)
    have hgal : w6.grownBy (w6.alloc (.cells #[.int .i64 0, .int .i64 0, .int .i64 0, .bool false, .bool false, .slice none 0 0, .slice none 0 0, .bool false] 41)) none := World.grownBy_alloc _ _ none
    have HRM7 := Lib.hid (HRM6.out.gb hgal)
    clear hgal HK6 HRM6
    generalize hW : w6.alloc (.cells #[.int .i64 0, .int .i64 0, .int .i64 0, .bool false, .bool false, .slice none 0 0, .slice none 0 0, .bool false] 41) = w7 at *
    clear hW
    generalize w6.heap.size = B14 at *
    clear x0 x1 x2 x3 x4 x5 xl
    clear z0 z1 zl
    refine (HD1.out _ HRM7.out).mono ?_
    rintro e w8 ⟨Aa, na, ca, Ba, ma, ea, rfl, hrm, hg⟩
    have HA8 := Lib.hid hrm
    clear hrm HD1
    generalize dR O Q r 7 0 0 K v 0 0 = ra at *
    generalize dV O Q r 7 0 0 K v 0 0 = va at *
    have HK8 := Lib.hid (HK7.out.gb hg)
    have HRM8 := Lib.hid (HRM7.out.gb hg)
    clear hg HK7 HRM7
    rw [HE.out]
    have xb := HK8.out.get 1 rfl
    have x0 : w8.cell? ⟨B11, 0, none⟩ = some (.int .i64 (r 0)) := xb.cell 0
    have x1 : w8.cell? ⟨B11, 1, none⟩ = some (.int .i64 (r 1)) := xb.cell 1
    have x2 : w8.cell? ⟨B11, 2, none⟩ = some (.int .i64 (r 2)) := xb.cell 2
    have x3 : w8.cell? ⟨B11, 3, none⟩ = some (.int .i64 (r 3)) := xb.cell 3
    have x4 : w8.cell? ⟨B11, 4, none⟩ = some (.int .i64 (r 4)) := xb.cell 4
    have x5 : w8.cell? ⟨B11, 5, none⟩ = some (.int .i64 (r 5)) := xb.cell 5
    have xl : B11 < w8.heap.size := xb.lt
    clear xb
    have zb := HK8.out.get 2 rfl
    have z0 : w8.cell? ⟨B10, 0, none⟩ = some (.slice A1 n1 c1) := zb.cell 0
    have z1 : w8.cell? ⟨B10, 1, none⟩ = some (.slice B1 m1 e1) := zb.cell 1
    have zl : B10 < w8.heap.size := zb.lt
    clear zb
    go_wp2_with fail
    have HK9 := Lib.hid (HK8.out.al2 #[.slice Aa na ca, .slice Ba ma ea] #[.int .i64 (ra 0), .int .i64 (ra 1), .int .i64 (ra 2), .int .i64 (ra 3), .int .i64 (ra 4), .int .i64 (ra 5)] 29 24)
    have hgal : w8.grownBy ((w8.alloc (.cells #[.slice Aa na ca, .slice Ba ma ea] 29)).alloc (.cells #[.int .i64 (ra 0), .int .i64 (ra 1), .int .i64 (ra 2), .int .i64 (ra 3), .int .i64 (ra 4), .int .i64 (ra 5)] 24)) none := grownBy_trans (World.grownBy_alloc _ _ none) (World.grownBy_alloc _ _ none)
    have HRM9 := Lib.hid (HRM8.out.gb hgal)
    have HA9 := Lib.hid (HA8.out.gb hgal)
    clear hgal HK8 HRM8 HA8
    generalize hW : (w8.alloc (.cells #[.slice Aa na ca, .slice Ba ma ea] 29)).alloc (.cells #[.int .i64 (ra 0), .int .i64 (ra 1), .int .i64 (ra 2), .int .i64 (ra 3), .int .i64 (ra 4), .int .i64 (ra 5)] 24) = w9 at *
    clear hW
    generalize w8.heap.size = B16 at *
    clear x0 x1 x2 x3 x4 x5 xl
    clear z0 z1 zl
    refine (HD2.out _ HRM9.out).mono ?_
    rintro e w10 ⟨Ab, nb, cb, Bb, mb, eb, rfl, hrm, hg⟩
    have HB10 := Lib.hid hrm
    clear hrm HD2 HRM9
    generalize dR O Q r 5 0 1 K 0 0 0 = rb at *
    generalize dV O Q r 5 0 1 K 0 0 0 = vb at *
    have HK10 := Lib.hid (HK9.out.gb hg)
    have HA10 := Lib.hid (HA9.out.gb hg)
    clear hg HK9 HA9
    rw [HF.out]
    have xb := HK10.out.get 2 rfl
    have x0 : w10.cell? ⟨B14, 0, none⟩ = some (.int .i64 0) := xb.cell 0
    have x1 : w10.cell? ⟨B14, 1, none⟩ = some (.int .i64 0) := xb.cell 1
    have x2 : w10.cell? ⟨B14, 2, none⟩ = some (.int .i64 0) := xb.cell 2
    have x3 : w10.cell? ⟨B14, 3, none⟩ = some (.bool false) := xb.cell 3
    have x4 : w10.cell? ⟨B14, 4, none⟩ = some (.bool false) := xb.cell 4
    have x5 : w10.cell? ⟨B14, 5, none⟩ = some (.slice none 0 0) := xb.cell 5
    have x6 : w10.cell? ⟨B14, 6, none⟩ = some (.slice none 0 0) := xb.cell 6
    have x7 : w10.cell? ⟨B14, 7, none⟩ = some (.bool false) := xb.cell 7
    have xl : B14 < w10.heap.size := xb.lt
    clear xb
    go_wp2_with fail
    go_ret
    exact ⟨rfl, below_of (grownBy_trans HK10.out.gr (grownBy_trans (World.grownBy_alloc _ _ none) (World.grownBy_alloc _ _ none)))⟩
  · obtain ⟨np, hnp⟩ : ∃ np, O[p].ps.length = np := ⟨_, rfl⟩
    obtain ⟨ns, hns⟩ : ∃ ns, O[p].ns = ns := ⟨_, rfl⟩
    have HNP := Lib.hid hnp; have HNS := Lib.hid hns
    clear hnp hns
    cases hfr : O[p].fr
    · have HFR := Lib.hid hfr
      clear hfr
      cases hsw : O[p].sw
      · have HSW := Lib.hid hsw
        clear hsw
        by_cases hkn : K < ns.length
        · by_cases hkp : K < np
          · have q1 := wr_n (K := K) ht hpl HFR.out HSW.out
            have q2 := wr_p (K := K) ht hpl HFR.out HSW.out
            rw [HNS.out, if_neg (by omega)] at q1
            rw [HNP.out, if_neg (by omega)] at q2
            have HE := Lib.hid q1; have HF := Lib.hid q2
            clear q1 q2
            refine (find_fit HRM5.out HSM.out HFO.out (r 0) p hpl hp np ns false false HNP.out HNS.out HSW.out HFR.out).mono ?_
            rintro e w6 ⟨s14, sf, Ap, cp, An, cn, rfl, hrn, hg⟩
            have HRN6 := Lib.hid hrn
            clear hrn
            have HK6 := Lib.hid (HK5.out.gb hg)
            have HRM6 := Lib.hid (HRM5.out.gb hg)
            clear hg HK5 HRM5
            have xb := HK6.out.get 0 rfl
            have x0 : w6.cell? ⟨B11, 0, none⟩ = some (.int .i64 (r 0)) := xb.cell 0
            have x1 : w6.cell? ⟨B11, 1, none⟩ = some (.int .i64 (r 1)) := xb.cell 1
            have x2 : w6.cell? ⟨B11, 2, none⟩ = some (.int .i64 (r 2)) := xb.cell 2
            have x3 : w6.cell? ⟨B11, 3, none⟩ = some (.int .i64 (r 3)) := xb.cell 3
            have x4 : w6.cell? ⟨B11, 4, none⟩ = some (.int .i64 (r 4)) := xb.cell 4
            have x5 : w6.cell? ⟨B11, 5, none⟩ = some (.int .i64 (r 5)) := xb.cell 5
            have xl : B11 < w6.heap.size := xb.lt
            clear xb
            have zb := HK6.out.get 1 rfl
            have z0 : w6.cell? ⟨B10, 0, none⟩ = some (.slice A1 n1 c1) := zb.cell 0
            have z1 : w6.cell? ⟨B10, 1, none⟩ = some (.slice B1 m1 e1) := zb.cell 1
            have zl : B10 < w6.heap.size := zb.lt
            clear zb
            go_wp2_with fail
            have HK7 := Lib.hid (HK6.out.al1 #[.int .i64 s14, .int .i64 np, .int .i64 ns.length, .bool false, .bool sf, .slice Ap np cp, .slice An ns.length cn, .bool false] 41)
            have hgal : w6.grownBy (w6.alloc (.cells #[.int .i64 s14, .int .i64 np, .int .i64 ns.length, .bool false, .bool sf, .slice Ap np cp, .slice An ns.length cn, .bool false] 41)) none := World.grownBy_alloc _ _ none
            have HRM7 := Lib.hid (HRM6.out.gb hgal)
            have HRN7 := Lib.hid (HRN6.out.gb hgal)
            clear hgal HK6 HRM6 HRN6
            generalize hW : w6.alloc (.cells #[.int .i64 s14, .int .i64 np, .int .i64 ns.length, .bool false, .bool sf, .slice Ap np cp, .slice An ns.length cn, .bool false] 41) = w7 at *
            clear hW
            generalize w6.heap.size = B14 at *
            clear x0 x1 x2 x3 x4 x5 xl
            clear z0 z1 zl
            refine (HD1.out _ HRM7.out).mono ?_
            rintro e w8 ⟨Aa, na, ca, Ba, ma, ea, rfl, hrm, hg⟩
            have HA8 := Lib.hid hrm
            clear hrm HD1
            generalize dR O Q r 7 0 0 K v 0 0 = ra at *
            generalize dV O Q r 7 0 0 K v 0 0 = va at *
            have HK8 := Lib.hid (HK7.out.gb hg)
            have HRM8 := Lib.hid (HRM7.out.gb hg)
            have HRN8 := Lib.hid (HRN7.out.gb hg)
            clear hg HK7 HRM7 HRN7
            rw [HE.out]
            have xb := HK8.out.get 1 rfl
            have x0 : w8.cell? ⟨B11, 0, none⟩ = some (.int .i64 (r 0)) := xb.cell 0
            have x1 : w8.cell? ⟨B11, 1, none⟩ = some (.int .i64 (r 1)) := xb.cell 1
            have x2 : w8.cell? ⟨B11, 2, none⟩ = some (.int .i64 (r 2)) := xb.cell 2
            have x3 : w8.cell? ⟨B11, 3, none⟩ = some (.int .i64 (r 3)) := xb.cell 3
            have x4 : w8.cell? ⟨B11, 4, none⟩ = some (.int .i64 (r 4)) := xb.cell 4
            have x5 : w8.cell? ⟨B11, 5, none⟩ = some (.int .i64 (r 5)) := xb.cell 5
            have xl : B11 < w8.heap.size := xb.lt
            clear xb
            have zb := HK8.out.get 2 rfl
            have z0 : w8.cell? ⟨B10, 0, none⟩ = some (.slice A1 n1 c1) := zb.cell 0
            have z1 : w8.cell? ⟨B10, 1, none⟩ = some (.slice B1 m1 e1) := zb.cell 1
            have zl : B10 < w8.heap.size := zb.lt
            clear zb
            go_wp2_with fail
            have HK9 := Lib.hid (HK8.out.al2 #[.slice Aa na ca, .slice Ba ma ea] #[.int .i64 (ra 0), .int .i64 (ra 1), .int .i64 (ra 2), .int .i64 (ra 3), .int .i64 (ra 4), .int .i64 (ra 5)] 29 24)
            have hgal : w8.grownBy ((w8.alloc (.cells #[.slice Aa na ca, .slice Ba ma ea] 29)).alloc (.cells #[.int .i64 (ra 0), .int .i64 (ra 1), .int .i64 (ra 2), .int .i64 (ra 3), .int .i64 (ra 4), .int .i64 (ra 5)] 24)) none := grownBy_trans (World.grownBy_alloc _ _ none) (World.grownBy_alloc _ _ none)
            have HRM9 := Lib.hid (HRM8.out.gb hgal)
            have HA9 := Lib.hid (HA8.out.gb hgal)
            have HRN9 := Lib.hid (HRN8.out.gb hgal)
            clear hgal HK8 HRM8 HA8 HRN8
            generalize hW : (w8.alloc (.cells #[.slice Aa na ca, .slice Ba ma ea] 29)).alloc (.cells #[.int .i64 (ra 0), .int .i64 (ra 1), .int .i64 (ra 2), .int .i64 (ra 3), .int .i64 (ra 4), .int .i64 (ra 5)] 24) = w9 at *
            clear hW
            generalize w8.heap.size = B16 at *
            clear x0 x1 x2 x3 x4 x5 xl
            clear z0 z1 zl
            refine (HD2.out _ HRM9.out).mono ?_
            rintro e w10 ⟨Ab, nb, cb, Bb, mb, eb, rfl, hrm, hg⟩
            have HB10 := Lib.hid hrm
            clear hrm HD2 HRM9
            generalize dR O Q r 5 0 1 K 0 0 0 = rb at *
            generalize dV O Q r 5 0 1 K 0 0 0 = vb at *
            have HK10 := Lib.hid (HK9.out.gb hg)
            have HA10 := Lib.hid (HA9.out.gb hg)
            have HRN10 := Lib.hid (HRN9.out.gb hg)
            clear hg HK9 HA9 HRN9
            rw [HF.out]
            have xb := HK10.out.get 2 rfl
            have x0 : w10.cell? ⟨B14, 0, none⟩ = some (.int .i64 s14) := xb.cell 0
            have x1 : w10.cell? ⟨B14, 1, none⟩ = some (.int .i64 np) := xb.cell 1
            have x2 : w10.cell? ⟨B14, 2, none⟩ = some (.int .i64 ns.length) := xb.cell 2
            have x3 : w10.cell? ⟨B14, 3, none⟩ = some (.bool false) := xb.cell 3
            have x4 : w10.cell? ⟨B14, 4, none⟩ = some (.bool sf) := xb.cell 4
            have x5 : w10.cell? ⟨B14, 5, none⟩ = some (.slice Ap np cp) := xb.cell 5
            have x6 : w10.cell? ⟨B14, 6, none⟩ = some (.slice An ns.length cn) := xb.cell 6
            have x7 : w10.cell? ⟨B14, 7, none⟩ = some (.bool false) := xb.cell 7
            have xl : B14 < w10.heap.size := xb.lt
            clear xb
            have yb := HK10.out.get 3 rfl
            have y0 : w10.cell? ⟨B11, 0, none⟩ = some (.int .i64 (r 0)) := yb.cell 0
            have y1 : w10.cell? ⟨B11, 1, none⟩ = some (.int .i64 (r 1)) := yb.cell 1
            have y2 : w10.cell? ⟨B11, 2, none⟩ = some (.int .i64 (r 2)) := yb.cell 2
            have y3 : w10.cell? ⟨B11, 3, none⟩ = some (.int .i64 (r 3)) := yb.cell 3
            have y4 : w10.cell? ⟨B11, 4, none⟩ = some (.int .i64 (r 4)) := yb.cell 4
            have y5 : w10.cell? ⟨B11, 5, none⟩ = some (.int .i64 (r 5)) := yb.cell 5
            have yl : B11 < w10.heap.size := yb.lt
            clear yb
            go_wp2_with fail
            have HK11 := Lib.hid (HK10.out.al2 #[.slice Ab nb cb, .slice Bb mb eb] #[.int .i64 (rb 0), .int .i64 (rb 1), .int .i64 (rb 2), .int .i64 (rb 3), .int .i64 (rb 4), .int .i64 (rb 5)] 29 24)
            have hgal : w10.grownBy ((w10.alloc (.cells #[.slice Ab nb cb, .slice Bb mb eb] 29)).alloc (.cells #[.int .i64 (rb 0), .int .i64 (rb 1), .int .i64 (rb 2), .int .i64 (rb 3), .int .i64 (rb 4), .int .i64 (rb 5)] 24)) none := grownBy_trans (World.grownBy_alloc _ _ none) (World.grownBy_alloc _ _ none)
            have HA11 := Lib.hid (HA10.out.gb hgal)
            have HRN11 := Lib.hid (HRN10.out.gb hgal)
            have HB11 := Lib.hid (HB10.out.gb hgal)
            clear hgal HK10 HA10 HRN10 HB10
            generalize hW : (w10.alloc (.cells #[.slice Ab nb cb, .slice Bb mb eb] 29)).alloc (.cells #[.int .i64 (rb 0), .int .i64 (rb 1), .int .i64 (rb 2), .int .i64 (rb 3), .int .i64 (rb 4), .int .i64 (rb 5)] 24) = w11 at *
            clear hW
            generalize w10.heap.size = B20 at *
            clear x0 x1 x2 x3 x4 x5 x6 x7 xl
            clear y0 y1 y2 y3 y4 y5 yl
            rw [dO_p ht HF.out, dQ57 (.inl rfl)] at HB11
            rw [dO_w ht HE.out, dQ57 (.inr rfl)] at HA11
            have hns4 : ns.length ≤ 4 := by have := (HFO.out p hpl).2.2.2.2; rw [HNS.out] at this; exact this
            go_loopw [25] (fun s wr => ∃ j : Nat, s = .int .i64 j ∧ j ≤ ns.length ∧ Hid (Kq w wr [(B20 + 1, 24, #[.int .i64 (rb 0), .int .i64 (rb 1), .int .i64 (rb 2), .int .i64 (rb 3), .int .i64 (rb 4), .int .i64 (rb 5)]), (B20, 29, #[.slice Ab nb cb, .slice Bb mb eb]), (B16 + 1, 24, #[.int .i64 (ra 0), .int .i64 (ra 1), .int .i64 (ra 2), .int .i64 (ra 3), .int .i64 (ra 4), .int .i64 (ra 5)]), (B16, 29, #[.slice Aa na ca, .slice Ba ma ea]), (B14, 41, #[.int .i64 s14, .int .i64 np, .int .i64 ns.length, .bool false, .bool sf, .slice Ap np cp, .slice An ns.length cn, .bool false]), (B11, 24, #[.int .i64 (r 0), .int .i64 (r 1), .int .i64 (r 2), .int .i64 (r 3), .int .i64 (r 4), .int .i64 (r 5)]), (B10, 29, #[.slice A1 n1 c1, .slice B1 m1 e1]), (N, 24, #[.int .i64 (R 0), .int .i64 (R 1), .int .i64 (R 2), .int .i64 (R 3), .int .i64 (R 4), .int .i64 (R 5)])]) ∧ Hid (RM wr (.agg #[.slice Aa na ca, .slice Ba ma ea]) (O.set p (md 7 K v (O.getD p ob0))) Q) ∧ Hid (Rd wr An ns.length ns) ∧ Hid (RM wr (.agg #[.slice Ab nb cb, .slice Bb mb eb]) (O.set p (md 5 K (r 1) (O.getD p ob0))) Q)) (fun s _ => ns.length - (intOf s).toNat)
            case atStart => exact ⟨0, rfl, Nat.zero_le _, HK11, HA11, HRN11, HB11⟩
            case round =>
              obtain ⟨j, rfl, hj, HKr, HAr, HNr, HBr⟩ := hrel
              clear HK11 HA11 HRN11 HB11
              have xb := HKr.out.get 4 rfl
              have x0 : wr.cell? ⟨B14, 0, none⟩ = some (.int .i64 s14) := xb.cell 0
              have x1 : wr.cell? ⟨B14, 1, none⟩ = some (.int .i64 np) := xb.cell 1
              have x2 : wr.cell? ⟨B14, 2, none⟩ = some (.int .i64 ns.length) := xb.cell 2
              have x3 : wr.cell? ⟨B14, 3, none⟩ = some (.bool false) := xb.cell 3
              have x4 : wr.cell? ⟨B14, 4, none⟩ = some (.bool sf) := xb.cell 4
              have x5 : wr.cell? ⟨B14, 5, none⟩ = some (.slice Ap np cp) := xb.cell 5
              have x6 : wr.cell? ⟨B14, 6, none⟩ = some (.slice An ns.length cn) := xb.cell 6
              have x7 : wr.cell? ⟨B14, 7, none⟩ = some (.bool false) := xb.cell 7
              have xl : B14 < wr.heap.size := xb.lt
              clear xb
              have yb := HKr.out.get 5 rfl
              have y0 : wr.cell? ⟨B11, 0, none⟩ = some (.int .i64 (r 0)) := yb.cell 0
              have y1 : wr.cell? ⟨B11, 1, none⟩ = some (.int .i64 (r 1)) := yb.cell 1
              have y2 : wr.cell? ⟨B11, 2, none⟩ = some (.int .i64 (r 2)) := yb.cell 2
              have y3 : wr.cell? ⟨B11, 3, none⟩ = some (.int .i64 (r 3)) := yb.cell 3
              have y4 : wr.cell? ⟨B11, 4, none⟩ = some (.int .i64 (r 4)) := yb.cell 4
              have y5 : wr.cell? ⟨B11, 5, none⟩ = some (.int .i64 (r 5)) := yb.cell 5
              have yl : B11 < wr.heap.size := yb.lt
              clear yb
              have zb := HKr.out.get 3 rfl
              have z0 : wr.cell? ⟨B16, 0, none⟩ = some (.slice Aa na ca) := zb.cell 0
              have z1 : wr.cell? ⟨B16, 1, none⟩ = some (.slice Ba ma ea) := zb.cell 1
              have zl : B16 < wr.heap.size := zb.lt
              clear zb
              by_cases hjn : j < ns.length
              · obtain ⟨bn, offn, rfl, hbn, hcn⟩ := Rd.at1 HNr.out j hjn
                have hl := rd_law (Q := Q) (K := K) (v := v) ht hpl HFR.out HSW.out j (by rw [HNS.out]; exact hjn)
                rw [HNS.out, set_getD ns K j v hjn] at hl
                have HL1 := Lib.hid hl
                clear hl
                have HDR := Lib.hid (do_all HAr.out (smo_md HSM.out hpl K v) r 6 0 0 j 0 0 0 (by omega) (by omega) (by omega) (by omega) (by omega) (right_6 0 j (by omega) (by omega) (by omega)))
                rw [HL1.out.1, HL1.out.2] at HDR
                clear HL1
                have hj0 : (0 : Int) ≤ (j : Int) := by omega
                have hj1 : (j : Int) < (ns.length : Int) := by omega
                go_wp2_with fail
                refine HDR.out.mono ?_
                rintro e w12 ⟨Ag, ng, cg, Bg, mg, eg, rfl, _, hg⟩
                have hc12 := cellk hcn hg
                have HK12 := Lib.hid (HKr.out.gb hg)
                have HA12 := Lib.hid (HAr.out.gb hg)
                have HN12 := Lib.hid (HNr.out.gb hg)
                have HB12 := Lib.hid (HBr.out.gb hg)
                clear HKr HAr HNr HBr HDR hg hcn x0 x1 x2 x3 x4 x5 x6 x7 xl y0 y1 y2 y3 y4 y5 yl z0 z1 zl
                generalize dR (O.set p (md 7 K v (O.getD p ob0))) Q r 6 0 0 j 0 0 0 = rg at *
                generalize ns.getD j 0 = x at *
                have ub := HK12.out.get 4 rfl
                have u0 : w12.cell? ⟨B14, 0, none⟩ = some (.int .i64 s14) := ub.cell 0
                have u1 : w12.cell? ⟨B14, 1, none⟩ = some (.int .i64 np) := ub.cell 1
                have u2 : w12.cell? ⟨B14, 2, none⟩ = some (.int .i64 ns.length) := ub.cell 2
                have u3 : w12.cell? ⟨B14, 3, none⟩ = some (.bool false) := ub.cell 3
                have u4 : w12.cell? ⟨B14, 4, none⟩ = some (.bool sf) := ub.cell 4
                have u5 : w12.cell? ⟨B14, 5, none⟩ = some (.slice Ap np cp) := ub.cell 5
                have u6 : w12.cell? ⟨B14, 6, none⟩ = some (.slice (some ⟨bn, offn, none⟩) ns.length cn) := ub.cell 6
                have u7 : w12.cell? ⟨B14, 7, none⟩ = some (.bool false) := ub.cell 7
                have ul : B14 < w12.heap.size := ub.lt
                clear ub
                have hbl := World.block_lt_of_cell? w12 _ hc12
                have gal : ∀ a b, w12.grownBy ((w12.alloc a).alloc b) none := fun a b => grownBy_trans (World.grownBy_alloc _ _ none) (World.grownBy_alloc _ _ none)
                have HGAL := Lib.hid gal
                clear gal
                by_cases hjk : j = K
                · rw [if_pos hjk]
                  subst hjk
                  go_wp2_with fail
                  go_roundw
                  case rel => exact ⟨j + 1, by go_num, by omega, Lib.hid (HK12.out.gb (HGAL.out _ _)), Lib.hid (HA12.out.gb (HGAL.out _ _)), Lib.hid (HN12.out.gb (HGAL.out _ _)), Lib.hid (HB12.out.gb (HGAL.out _ _))⟩
                  case measure => simp [intOf]; omega
                · rw [if_neg hjk]
                  go_wp2_with fail
                  go_roundw
                  case rel => exact ⟨j + 1, by go_num, by omega, Lib.hid (HK12.out.gb (HGAL.out _ _)), Lib.hid (HA12.out.gb (HGAL.out _ _)), Lib.hid (HN12.out.gb (HGAL.out _ _)), Lib.hid (HB12.out.gb (HGAL.out _ _))⟩
                  case measure => simp [intOf]; omega
              · have qb := HKr.out.get 1 rfl
                have q0 : wr.cell? ⟨B20, 0, none⟩ = some (.slice Ab nb cb) := qb.cell 0
                have q1 : wr.cell? ⟨B20, 1, none⟩ = some (.slice Bb mb eb) := qb.cell 1
                have ql : B20 < wr.heap.size := qb.lt
                clear qb
                have hje : j = ns.length := by omega
                clear hj
                go_wp2_with fail
                have g1 := get_law (Q := Q) ht hpl HFR.out HSW.out (by rw [HNP.out]; exact hkp)
                have HG1 := Lib.hid g1
                clear g1
                have HD3 := Lib.hid (do_all HBr.out (smo_md HSM.out hpl K (r 1)) r 4 5 0 K 0 0 0 (by omega) (by omega) (by omega) (by omega) (by omega) (right_4 5 0 K (by omega) (by omega) (by omega) (by omega)))
                rw [HG1.out.1, HG1.out.2.1, HG1.out.2.2] at HD3
                refine HD3.out.mono ?_
                rintro e w20 ⟨Ag, ng, cg, Bg, mg, eg, rfl, _, hg⟩
                clear HD3 HG1
                have HK20 := Lib.hid (HKr.out.gb hg)
                clear hg HKr
                have yb := HK20.out.get 5 rfl
                have y0 : w20.cell? ⟨B11, 0, none⟩ = some (.int .i64 (r 0)) := yb.cell 0
                have y1 : w20.cell? ⟨B11, 1, none⟩ = some (.int .i64 (r 1)) := yb.cell 1
                have y2 : w20.cell? ⟨B11, 2, none⟩ = some (.int .i64 (r 2)) := yb.cell 2
                have y3 : w20.cell? ⟨B11, 3, none⟩ = some (.int .i64 (r 3)) := yb.cell 3
                have y4 : w20.cell? ⟨B11, 4, none⟩ = some (.int .i64 (r 4)) := yb.cell 4
                have y5 : w20.cell? ⟨B11, 5, none⟩ = some (.int .i64 (r 5)) := yb.cell 5
                have yl : B11 < w20.heap.size := yb.lt
                clear yb
                rw [show upd r 5 (r 1) 0 = r 0 from rfl, show upd r 5 (r 1) 1 = r 1 from rfl, show upd r 5 (r 1) 2 = r 2 from rfl, show upd r 5 (r 1) 3 = r 3 from rfl, show upd r 5 (r 1) 4 = r 4 from rfl, show upd r 5 (r 1) 5 = r 1 from rfl]
                go_wp2_with fail
                go_ret
                exact ⟨rfl, below_of (grownBy_trans HK20.out.gr (grownBy_trans (World.grownBy_alloc _ _ none) (World.grownBy_alloc _ _ none)))⟩
          · have q1 := wr_n (K := K) ht hpl HFR.out HSW.out
            have q2 := wr_p (K := K) ht hpl HFR.out HSW.out
            rw [HNS.out, if_neg (by omega)] at q1
            rw [HNP.out, if_pos (by omega)] at q2
            have HE := Lib.hid q1; have HF := Lib.hid q2
            clear q1 q2
            refine (find_fit HRM5.out HSM.out HFO.out (r 0) p hpl hp np ns false false HNP.out HNS.out HSW.out HFR.out).mono ?_
            rintro e w6 ⟨s14, sf, Ap, cp, An, cn, rfl, hrn, hg⟩
            have HRN6 := Lib.hid hrn
            clear hrn
            have HK6 := Lib.hid (HK5.out.gb hg)
            have HRM6 := Lib.hid (HRM5.out.gb hg)
            clear hg HK5 HRM5
            have xb := HK6.out.get 0 rfl
            have x0 : w6.cell? ⟨B11, 0, none⟩ = some (.int .i64 (r 0)) := xb.cell 0
            have x1 : w6.cell? ⟨B11, 1, none⟩ = some (.int .i64 (r 1)) := xb.cell 1
            have x2 : w6.cell? ⟨B11, 2, none⟩ = some (.int .i64 (r 2)) := xb.cell 2
            have x3 : w6.cell? ⟨B11, 3, none⟩ = some (.int .i64 (r 3)) := xb.cell 3
            have x4 : w6.cell? ⟨B11, 4, none⟩ = some (.int .i64 (r 4)) := xb.cell 4
            have x5 : w6.cell? ⟨B11, 5, none⟩ = some (.int .i64 (r 5)) := xb.cell 5
            have xl : B11 < w6.heap.size := xb.lt
            clear xb
            have zb := HK6.out.get 1 rfl
            have z0 : w6.cell? ⟨B10, 0, none⟩ = some (.slice A1 n1 c1) := zb.cell 0
            have z1 : w6.cell? ⟨B10, 1, none⟩ = some (.slice B1 m1 e1) := zb.cell 1
            have zl : B10 < w6.heap.size := zb.lt
            clear zb
            go_wp2_with fail
            have HK7 := Lib.hid (HK6.out.al1 #[.int .i64 s14, .int .i64 np, .int .i64 ns.length, .bool false, .bool sf, .slice Ap np cp, .slice An ns.length cn, .bool false] 41)
            have hgal : w6.grownBy (w6.alloc (.cells #[.int .i64 s14, .int .i64 np, .int .i64 ns.length, .bool false, .bool sf, .slice Ap np cp, .slice An ns.length cn, .bool false] 41)) none := World.grownBy_alloc _ _ none
            have HRM7 := Lib.hid (HRM6.out.gb hgal)
            have HRN7 := Lib.hid (HRN6.out.gb hgal)
            clear hgal HK6 HRM6 HRN6
            generalize hW : w6.alloc (.cells #[.int .i64 s14, .int .i64 np, .int .i64 ns.length, .bool false, .bool sf, .slice Ap np cp, .slice An ns.length cn, .bool false] 41) = w7 at *
            clear hW
            generalize w6.heap.size = B14 at *
            clear x0 x1 x2 x3 x4 x5 xl
            clear z0 z1 zl
            refine (HD1.out _ HRM7.out).mono ?_
            rintro e w8 ⟨Aa, na, ca, Ba, ma, ea, rfl, hrm, hg⟩
            have HA8 := Lib.hid hrm
            clear hrm HD1
            generalize dR O Q r 7 0 0 K v 0 0 = ra at *
            generalize dV O Q r 7 0 0 K v 0 0 = va at *
            have HK8 := Lib.hid (HK7.out.gb hg)
            have HRM8 := Lib.hid (HRM7.out.gb hg)
            have HRN8 := Lib.hid (HRN7.out.gb hg)
            clear hg HK7 HRM7 HRN7
            rw [HE.out]
            have xb := HK8.out.get 1 rfl
            have x0 : w8.cell? ⟨B11, 0, none⟩ = some (.int .i64 (r 0)) := xb.cell 0
            have x1 : w8.cell? ⟨B11, 1, none⟩ = some (.int .i64 (r 1)) := xb.cell 1
            have x2 : w8.cell? ⟨B11, 2, none⟩ = some (.int .i64 (r 2)) := xb.cell 2
            have x3 : w8.cell? ⟨B11, 3, none⟩ = some (.int .i64 (r 3)) := xb.cell 3
            have x4 : w8.cell? ⟨B11, 4, none⟩ = some (.int .i64 (r 4)) := xb.cell 4
            have x5 : w8.cell? ⟨B11, 5, none⟩ = some (.int .i64 (r 5)) := xb.cell 5
            have xl : B11 < w8.heap.size := xb.lt
            clear xb
            have zb := HK8.out.get 2 rfl
            have z0 : w8.cell? ⟨B10, 0, none⟩ = some (.slice A1 n1 c1) := zb.cell 0
            have z1 : w8.cell? ⟨B10, 1, none⟩ = some (.slice B1 m1 e1) := zb.cell 1
            have zl : B10 < w8.heap.size := zb.lt
            clear zb
            go_wp2_with fail
            have HK9 := Lib.hid (HK8.out.al2 #[.slice Aa na ca, .slice Ba ma ea] #[.int .i64 (ra 0), .int .i64 (ra 1), .int .i64 (ra 2), .int .i64 (ra 3), .int .i64 (ra 4), .int .i64 (ra 5)] 29 24)
            have hgal : w8.grownBy ((w8.alloc (.cells #[.slice Aa na ca, .slice Ba ma ea] 29)).alloc (.cells #[.int .i64 (ra 0), .int .i64 (ra 1), .int .i64 (ra 2), .int .i64 (ra 3), .int .i64 (ra 4), .int .i64 (ra 5)] 24)) none := grownBy_trans (World.grownBy_alloc _ _ none) (World.grownBy_alloc _ _ none)
            have HRM9 := Lib.hid (HRM8.out.gb hgal)
            have HA9 := Lib.hid (HA8.out.gb hgal)
            have HRN9 := Lib.hid (HRN8.out.gb hgal)
            clear hgal HK8 HRM8 HA8 HRN8
            generalize hW : (w8.alloc (.cells #[.slice Aa na ca, .slice Ba ma ea] 29)).alloc (.cells #[.int .i64 (ra 0), .int .i64 (ra 1), .int .i64 (ra 2), .int .i64 (ra 3), .int .i64 (ra 4), .int .i64 (ra 5)] 24) = w9 at *
            clear hW
            generalize w8.heap.size = B16 at *
            clear x0 x1 x2 x3 x4 x5 xl
            clear z0 z1 zl
            refine (HD2.out _ HRM9.out).mono ?_
            rintro e w10 ⟨Ab, nb, cb, Bb, mb, eb, rfl, hrm, hg⟩
            have HB10 := Lib.hid hrm
            clear hrm HD2 HRM9
            generalize dR O Q r 5 0 1 K 0 0 0 = rb at *
            generalize dV O Q r 5 0 1 K 0 0 0 = vb at *
            have HK10 := Lib.hid (HK9.out.gb hg)
            have HA10 := Lib.hid (HA9.out.gb hg)
            have HRN10 := Lib.hid (HRN9.out.gb hg)
            clear hg HK9 HA9 HRN9
            rw [HF.out]
            have xb := HK10.out.get 2 rfl
            have x0 : w10.cell? ⟨B14, 0, none⟩ = some (.int .i64 s14) := xb.cell 0
            have x1 : w10.cell? ⟨B14, 1, none⟩ = some (.int .i64 np) := xb.cell 1
            have x2 : w10.cell? ⟨B14, 2, none⟩ = some (.int .i64 ns.length) := xb.cell 2
            have x3 : w10.cell? ⟨B14, 3, none⟩ = some (.bool false) := xb.cell 3
            have x4 : w10.cell? ⟨B14, 4, none⟩ = some (.bool sf) := xb.cell 4
            have x5 : w10.cell? ⟨B14, 5, none⟩ = some (.slice Ap np cp) := xb.cell 5
            have x6 : w10.cell? ⟨B14, 6, none⟩ = some (.slice An ns.length cn) := xb.cell 6
            have x7 : w10.cell? ⟨B14, 7, none⟩ = some (.bool false) := xb.cell 7
            have xl : B14 < w10.heap.size := xb.lt
            clear xb
            go_wp2_with fail
            have HK11 := Lib.hid (HK10.out.al2 #[.slice Ab nb cb, .slice Bb mb eb] #[.int .i64 (rb 0), .int .i64 (rb 1), .int .i64 (rb 2), .int .i64 (rb 3), .int .i64 (rb 4), .int .i64 (rb 5)] 29 24)
            have hgal : w10.grownBy ((w10.alloc (.cells #[.slice Ab nb cb, .slice Bb mb eb] 29)).alloc (.cells #[.int .i64 (rb 0), .int .i64 (rb 1), .int .i64 (rb 2), .int .i64 (rb 3), .int .i64 (rb 4), .int .i64 (rb 5)] 24)) none := grownBy_trans (World.grownBy_alloc _ _ none) (World.grownBy_alloc _ _ none)
            have HA11 := Lib.hid (HA10.out.gb hgal)
            have HRN11 := Lib.hid (HRN10.out.gb hgal)
            clear hgal HK10 HA10 HRN10
            generalize hW : (w10.alloc (.cells #[.slice Ab nb cb, .slice Bb mb eb] 29)).alloc (.cells #[.int .i64 (rb 0), .int .i64 (rb 1), .int .i64 (rb 2), .int .i64 (rb 3), .int .i64 (rb 4), .int .i64 (rb 5)] 24) = w11 at *
            clear hW
            generalize w10.heap.size = B20 at *
            clear x0 x1 x2 x3 x4 x5 x6 x7 xl
            rw [dO_w ht HE.out, dQ57 (.inr rfl)] at HA11
            have hns4 : ns.length ≤ 4 := by have := (HFO.out p hpl).2.2.2.2; rw [HNS.out] at this; exact this
            go_loopw [25] (fun s wr => ∃ j : Nat, s = .int .i64 j ∧ j ≤ ns.length ∧ Hid (Kq w wr [(B20 + 1, 24, #[.int .i64 (rb 0), .int .i64 (rb 1), .int .i64 (rb 2), .int .i64 (rb 3), .int .i64 (rb 4), .int .i64 (rb 5)]), (B20, 29, #[.slice Ab nb cb, .slice Bb mb eb]), (B16 + 1, 24, #[.int .i64 (ra 0), .int .i64 (ra 1), .int .i64 (ra 2), .int .i64 (ra 3), .int .i64 (ra 4), .int .i64 (ra 5)]), (B16, 29, #[.slice Aa na ca, .slice Ba ma ea]), (B14, 41, #[.int .i64 s14, .int .i64 np, .int .i64 ns.length, .bool false, .bool sf, .slice Ap np cp, .slice An ns.length cn, .bool false]), (B11, 24, #[.int .i64 (r 0), .int .i64 (r 1), .int .i64 (r 2), .int .i64 (r 3), .int .i64 (r 4), .int .i64 (r 5)]), (B10, 29, #[.slice A1 n1 c1, .slice B1 m1 e1]), (N, 24, #[.int .i64 (R 0), .int .i64 (R 1), .int .i64 (R 2), .int .i64 (R 3), .int .i64 (R 4), .int .i64 (R 5)])]) ∧ Hid (RM wr (.agg #[.slice Aa na ca, .slice Ba ma ea]) (O.set p (md 7 K v (O.getD p ob0))) Q) ∧ Hid (Rd wr An ns.length ns) ∧ True) (fun s _ => ns.length - (intOf s).toNat)
            case atStart => exact ⟨0, rfl, Nat.zero_le _, HK11, HA11, HRN11, trivial⟩
            case round =>
              obtain ⟨j, rfl, hj, HKr, HAr, HNr, HBr⟩ := hrel
              clear HK11 HA11 HRN11 
              have xb := HKr.out.get 4 rfl
              have x0 : wr.cell? ⟨B14, 0, none⟩ = some (.int .i64 s14) := xb.cell 0
              have x1 : wr.cell? ⟨B14, 1, none⟩ = some (.int .i64 np) := xb.cell 1
              have x2 : wr.cell? ⟨B14, 2, none⟩ = some (.int .i64 ns.length) := xb.cell 2
              have x3 : wr.cell? ⟨B14, 3, none⟩ = some (.bool false) := xb.cell 3
              have x4 : wr.cell? ⟨B14, 4, none⟩ = some (.bool sf) := xb.cell 4
              have x5 : wr.cell? ⟨B14, 5, none⟩ = some (.slice Ap np cp) := xb.cell 5
              have x6 : wr.cell? ⟨B14, 6, none⟩ = some (.slice An ns.length cn) := xb.cell 6
              have x7 : wr.cell? ⟨B14, 7, none⟩ = some (.bool false) := xb.cell 7
              have xl : B14 < wr.heap.size := xb.lt
              clear xb
              have yb := HKr.out.get 5 rfl
              have y0 : wr.cell? ⟨B11, 0, none⟩ = some (.int .i64 (r 0)) := yb.cell 0
              have y1 : wr.cell? ⟨B11, 1, none⟩ = some (.int .i64 (r 1)) := yb.cell 1
              have y2 : wr.cell? ⟨B11, 2, none⟩ = some (.int .i64 (r 2)) := yb.cell 2
              have y3 : wr.cell? ⟨B11, 3, none⟩ = some (.int .i64 (r 3)) := yb.cell 3
              have y4 : wr.cell? ⟨B11, 4, none⟩ = some (.int .i64 (r 4)) := yb.cell 4
              have y5 : wr.cell? ⟨B11, 5, none⟩ = some (.int .i64 (r 5)) := yb.cell 5
              have yl : B11 < wr.heap.size := yb.lt
              clear yb
              have zb := HKr.out.get 3 rfl
              have z0 : wr.cell? ⟨B16, 0, none⟩ = some (.slice Aa na ca) := zb.cell 0
              have z1 : wr.cell? ⟨B16, 1, none⟩ = some (.slice Ba ma ea) := zb.cell 1
              have zl : B16 < wr.heap.size := zb.lt
              clear zb
              by_cases hjn : j < ns.length
              · obtain ⟨bn, offn, rfl, hbn, hcn⟩ := Rd.at1 HNr.out j hjn
                have hl := rd_law (Q := Q) (K := K) (v := v) ht hpl HFR.out HSW.out j (by rw [HNS.out]; exact hjn)
                rw [HNS.out, set_getD ns K j v hjn] at hl
                have HL1 := Lib.hid hl
                clear hl
                have HDR := Lib.hid (do_all HAr.out (smo_md HSM.out hpl K v) r 6 0 0 j 0 0 0 (by omega) (by omega) (by omega) (by omega) (by omega) (right_6 0 j (by omega) (by omega) (by omega)))
                rw [HL1.out.1, HL1.out.2] at HDR
                clear HL1
                have hj0 : (0 : Int) ≤ (j : Int) := by omega
                have hj1 : (j : Int) < (ns.length : Int) := by omega
                go_wp2_with fail
                refine HDR.out.mono ?_
                rintro e w12 ⟨Ag, ng, cg, Bg, mg, eg, rfl, _, hg⟩
                have hc12 := cellk hcn hg
                have HK12 := Lib.hid (HKr.out.gb hg)
                have HA12 := Lib.hid (HAr.out.gb hg)
                have HN12 := Lib.hid (HNr.out.gb hg)
                clear HKr HAr HNr HBr HDR hg hcn x0 x1 x2 x3 x4 x5 x6 x7 xl y0 y1 y2 y3 y4 y5 yl z0 z1 zl
                generalize dR (O.set p (md 7 K v (O.getD p ob0))) Q r 6 0 0 j 0 0 0 = rg at *
                generalize ns.getD j 0 = x at *
                have ub := HK12.out.get 4 rfl
                have u0 : w12.cell? ⟨B14, 0, none⟩ = some (.int .i64 s14) := ub.cell 0
                have u1 : w12.cell? ⟨B14, 1, none⟩ = some (.int .i64 np) := ub.cell 1
                have u2 : w12.cell? ⟨B14, 2, none⟩ = some (.int .i64 ns.length) := ub.cell 2
                have u3 : w12.cell? ⟨B14, 3, none⟩ = some (.bool false) := ub.cell 3
                have u4 : w12.cell? ⟨B14, 4, none⟩ = some (.bool sf) := ub.cell 4
                have u5 : w12.cell? ⟨B14, 5, none⟩ = some (.slice Ap np cp) := ub.cell 5
                have u6 : w12.cell? ⟨B14, 6, none⟩ = some (.slice (some ⟨bn, offn, none⟩) ns.length cn) := ub.cell 6
                have u7 : w12.cell? ⟨B14, 7, none⟩ = some (.bool false) := ub.cell 7
                have ul : B14 < w12.heap.size := ub.lt
                clear ub
                have hbl := World.block_lt_of_cell? w12 _ hc12
                have gal : ∀ a b, w12.grownBy ((w12.alloc a).alloc b) none := fun a b => grownBy_trans (World.grownBy_alloc _ _ none) (World.grownBy_alloc _ _ none)
                have HGAL := Lib.hid gal
                clear gal
                by_cases hjk : j = K
                · rw [if_pos hjk]
                  subst hjk
                  go_wp2_with fail
                  go_roundw
                  case rel => exact ⟨j + 1, by go_num, by omega, Lib.hid (HK12.out.gb (HGAL.out _ _)), Lib.hid (HA12.out.gb (HGAL.out _ _)), Lib.hid (HN12.out.gb (HGAL.out _ _)), trivial⟩
                  case measure => simp [intOf]; omega
                · rw [if_neg hjk]
                  go_wp2_with fail
                  go_roundw
                  case rel => exact ⟨j + 1, by go_num, by omega, Lib.hid (HK12.out.gb (HGAL.out _ _)), Lib.hid (HA12.out.gb (HGAL.out _ _)), Lib.hid (HN12.out.gb (HGAL.out _ _)), trivial⟩
                  case measure => simp [intOf]; omega
              · have HG := Lib.hid (below_of HKr.out.gr)
                go_wp2_with fail
                go_ret
                exact ⟨rfl, HG.out⟩
        · by_cases hkp : K < np
          · have q1 := wr_n (K := K) ht hpl HFR.out HSW.out
            have q2 := wr_p (K := K) ht hpl HFR.out HSW.out
            rw [HNS.out, if_pos (by omega)] at q1
            rw [HNP.out, if_neg (by omega)] at q2
            have HE := Lib.hid q1; have HF := Lib.hid q2
            clear q1 q2
            refine (find_fit HRM5.out HSM.out HFO.out (r 0) p hpl hp np ns false false HNP.out HNS.out HSW.out HFR.out).mono ?_
            rintro e w6 ⟨s14, sf, Ap, cp, An, cn, rfl, hrn, hg⟩
            have HRN6 := Lib.hid hrn
            clear hrn
            have HK6 := Lib.hid (HK5.out.gb hg)
            have HRM6 := Lib.hid (HRM5.out.gb hg)
            clear hg HK5 HRM5
            have xb := HK6.out.get 0 rfl
            have x0 : w6.cell? ⟨B11, 0, none⟩ = some (.int .i64 (r 0)) := xb.cell 0
            have x1 : w6.cell? ⟨B11, 1, none⟩ = some (.int .i64 (r 1)) := xb.cell 1
            have x2 : w6.cell? ⟨B11, 2, none⟩ = some (.int .i64 (r 2)) := xb.cell 2
            have x3 : w6.cell? ⟨B11, 3, none⟩ = some (.int .i64 (r 3)) := xb.cell 3
            have x4 : w6.cell? ⟨B11, 4, none⟩ = some (.int .i64 (r 4)) := xb.cell 4
            have x5 : w6.cell? ⟨B11, 5, none⟩ = some (.int .i64 (r 5)) := xb.cell 5
            have xl : B11 < w6.heap.size := xb.lt
            clear xb
            have zb := HK6.out.get 1 rfl
            have z0 : w6.cell? ⟨B10, 0, none⟩ = some (.slice A1 n1 c1) := zb.cell 0
            have z1 : w6.cell? ⟨B10, 1, none⟩ = some (.slice B1 m1 e1) := zb.cell 1
            have zl : B10 < w6.heap.size := zb.lt
            clear zb
            go_wp2_with fail
            have HK7 := Lib.hid (HK6.out.al1 #[.int .i64 s14, .int .i64 np, .int .i64 ns.length, .bool false, .bool sf, .slice Ap np cp, .slice An ns.length cn, .bool false] 41)
            have hgal : w6.grownBy (w6.alloc (.cells #[.int .i64 s14, .int .i64 np, .int .i64 ns.length, .bool false, .bool sf, .slice Ap np cp, .slice An ns.length cn, .bool false] 41)) none := World.grownBy_alloc _ _ none
            have HRM7 := Lib.hid (HRM6.out.gb hgal)
            clear hgal HK6 HRM6
            generalize hW : w6.alloc (.cells #[.int .i64 s14, .int .i64 np, .int .i64 ns.length, .bool false, .bool sf, .slice Ap np cp, .slice An ns.length cn, .bool false] 41) = w7 at *
            clear hW
            generalize w6.heap.size = B14 at *
            clear x0 x1 x2 x3 x4 x5 xl
            clear z0 z1 zl
            refine (HD1.out _ HRM7.out).mono ?_
            rintro e w8 ⟨Aa, na, ca, Ba, ma, ea, rfl, hrm, hg⟩
            have HA8 := Lib.hid hrm
            clear hrm HD1
            generalize dR O Q r 7 0 0 K v 0 0 = ra at *
            generalize dV O Q r 7 0 0 K v 0 0 = va at *
            have HK8 := Lib.hid (HK7.out.gb hg)
            have HRM8 := Lib.hid (HRM7.out.gb hg)
            clear hg HK7 HRM7
            rw [HE.out]
            have xb := HK8.out.get 1 rfl
            have x0 : w8.cell? ⟨B11, 0, none⟩ = some (.int .i64 (r 0)) := xb.cell 0
            have x1 : w8.cell? ⟨B11, 1, none⟩ = some (.int .i64 (r 1)) := xb.cell 1
            have x2 : w8.cell? ⟨B11, 2, none⟩ = some (.int .i64 (r 2)) := xb.cell 2
            have x3 : w8.cell? ⟨B11, 3, none⟩ = some (.int .i64 (r 3)) := xb.cell 3
            have x4 : w8.cell? ⟨B11, 4, none⟩ = some (.int .i64 (r 4)) := xb.cell 4
            have x5 : w8.cell? ⟨B11, 5, none⟩ = some (.int .i64 (r 5)) := xb.cell 5
            have xl : B11 < w8.heap.size := xb.lt
            clear xb
            have zb := HK8.out.get 2 rfl
            have z0 : w8.cell? ⟨B10, 0, none⟩ = some (.slice A1 n1 c1) := zb.cell 0
            have z1 : w8.cell? ⟨B10, 1, none⟩ = some (.slice B1 m1 e1) := zb.cell 1
            have zl : B10 < w8.heap.size := zb.lt
            clear zb
            go_wp2_with fail
            have HK9 := Lib.hid (HK8.out.al2 #[.slice Aa na ca, .slice Ba ma ea] #[.int .i64 (ra 0), .int .i64 (ra 1), .int .i64 (ra 2), .int .i64 (ra 3), .int .i64 (ra 4), .int .i64 (ra 5)] 29 24)
            have hgal : w8.grownBy ((w8.alloc (.cells #[.slice Aa na ca, .slice Ba ma ea] 29)).alloc (.cells #[.int .i64 (ra 0), .int .i64 (ra 1), .int .i64 (ra 2), .int .i64 (ra 3), .int .i64 (ra 4), .int .i64 (ra 5)] 24)) none := grownBy_trans (World.grownBy_alloc _ _ none) (World.grownBy_alloc _ _ none)
            have HRM9 := Lib.hid (HRM8.out.gb hgal)
            have HA9 := Lib.hid (HA8.out.gb hgal)
            clear hgal HK8 HRM8 HA8
            generalize hW : (w8.alloc (.cells #[.slice Aa na ca, .slice Ba ma ea] 29)).alloc (.cells #[.int .i64 (ra 0), .int .i64 (ra 1), .int .i64 (ra 2), .int .i64 (ra 3), .int .i64 (ra 4), .int .i64 (ra 5)] 24) = w9 at *
            clear hW
            generalize w8.heap.size = B16 at *
            clear x0 x1 x2 x3 x4 x5 xl
            clear z0 z1 zl
            refine (HD2.out _ HRM9.out).mono ?_
            rintro e w10 ⟨Ab, nb, cb, Bb, mb, eb, rfl, hrm, hg⟩
            have HB10 := Lib.hid hrm
            clear hrm HD2 HRM9
            generalize dR O Q r 5 0 1 K 0 0 0 = rb at *
            generalize dV O Q r 5 0 1 K 0 0 0 = vb at *
            have HK10 := Lib.hid (HK9.out.gb hg)
            have HA10 := Lib.hid (HA9.out.gb hg)
            clear hg HK9 HA9
            rw [HF.out]
            have xb := HK10.out.get 2 rfl
            have x0 : w10.cell? ⟨B14, 0, none⟩ = some (.int .i64 s14) := xb.cell 0
            have x1 : w10.cell? ⟨B14, 1, none⟩ = some (.int .i64 np) := xb.cell 1
            have x2 : w10.cell? ⟨B14, 2, none⟩ = some (.int .i64 ns.length) := xb.cell 2
            have x3 : w10.cell? ⟨B14, 3, none⟩ = some (.bool false) := xb.cell 3
            have x4 : w10.cell? ⟨B14, 4, none⟩ = some (.bool sf) := xb.cell 4
            have x5 : w10.cell? ⟨B14, 5, none⟩ = some (.slice Ap np cp) := xb.cell 5
            have x6 : w10.cell? ⟨B14, 6, none⟩ = some (.slice An ns.length cn) := xb.cell 6
            have x7 : w10.cell? ⟨B14, 7, none⟩ = some (.bool false) := xb.cell 7
            have xl : B14 < w10.heap.size := xb.lt
            clear xb
            have yb := HK10.out.get 3 rfl
            have y0 : w10.cell? ⟨B11, 0, none⟩ = some (.int .i64 (r 0)) := yb.cell 0
            have y1 : w10.cell? ⟨B11, 1, none⟩ = some (.int .i64 (r 1)) := yb.cell 1
            have y2 : w10.cell? ⟨B11, 2, none⟩ = some (.int .i64 (r 2)) := yb.cell 2
            have y3 : w10.cell? ⟨B11, 3, none⟩ = some (.int .i64 (r 3)) := yb.cell 3
            have y4 : w10.cell? ⟨B11, 4, none⟩ = some (.int .i64 (r 4)) := yb.cell 4
            have y5 : w10.cell? ⟨B11, 5, none⟩ = some (.int .i64 (r 5)) := yb.cell 5
            have yl : B11 < w10.heap.size := yb.lt
            clear yb
            go_wp2_with fail
            have HK11 := Lib.hid (HK10.out.al2 #[.slice Ab nb cb, .slice Bb mb eb] #[.int .i64 (rb 0), .int .i64 (rb 1), .int .i64 (rb 2), .int .i64 (rb 3), .int .i64 (rb 4), .int .i64 (rb 5)] 29 24)
            have hgal : w10.grownBy ((w10.alloc (.cells #[.slice Ab nb cb, .slice Bb mb eb] 29)).alloc (.cells #[.int .i64 (rb 0), .int .i64 (rb 1), .int .i64 (rb 2), .int .i64 (rb 3), .int .i64 (rb 4), .int .i64 (rb 5)] 24)) none := grownBy_trans (World.grownBy_alloc _ _ none) (World.grownBy_alloc _ _ none)
            have HB11 := Lib.hid (HB10.out.gb hgal)
            clear hgal HK10 HB10
            generalize hW : (w10.alloc (.cells #[.slice Ab nb cb, .slice Bb mb eb] 29)).alloc (.cells #[.int .i64 (rb 0), .int .i64 (rb 1), .int .i64 (rb 2), .int .i64 (rb 3), .int .i64 (rb 4), .int .i64 (rb 5)] 24) = w11 at *
            clear hW
            generalize w10.heap.size = B20 at *
            clear x0 x1 x2 x3 x4 x5 x6 x7 xl
            clear y0 y1 y2 y3 y4 y5 yl
            rw [dO_p ht HF.out, dQ57 (.inl rfl)] at HB11
            have g1 := get_law (Q := Q) ht hpl HFR.out HSW.out (by rw [HNP.out]; exact hkp)
            have HG1 := Lib.hid g1
            clear g1
            have HD3 := Lib.hid (do_all HB11.out (smo_md HSM.out hpl K (r 1)) r 4 5 0 K 0 0 0 (by omega) (by omega) (by omega) (by omega) (by omega) (right_4 5 0 K (by omega) (by omega) (by omega) (by omega)))
            rw [HG1.out.1, HG1.out.2.1, HG1.out.2.2] at HD3
            refine HD3.out.mono ?_
            rintro e w20 ⟨Ag, ng, cg, Bg, mg, eg, rfl, _, hg⟩
            clear HD3 HG1
            have HK20 := Lib.hid (HK11.out.gb hg)
            clear hg HK11
            have yb := HK20.out.get 5 rfl
            have y0 : w20.cell? ⟨B11, 0, none⟩ = some (.int .i64 (r 0)) := yb.cell 0
            have y1 : w20.cell? ⟨B11, 1, none⟩ = some (.int .i64 (r 1)) := yb.cell 1
            have y2 : w20.cell? ⟨B11, 2, none⟩ = some (.int .i64 (r 2)) := yb.cell 2
            have y3 : w20.cell? ⟨B11, 3, none⟩ = some (.int .i64 (r 3)) := yb.cell 3
            have y4 : w20.cell? ⟨B11, 4, none⟩ = some (.int .i64 (r 4)) := yb.cell 4
            have y5 : w20.cell? ⟨B11, 5, none⟩ = some (.int .i64 (r 5)) := yb.cell 5
            have yl : B11 < w20.heap.size := yb.lt
            clear yb
            rw [show upd r 5 (r 1) 0 = r 0 from rfl, show upd r 5 (r 1) 1 = r 1 from rfl, show upd r 5 (r 1) 2 = r 2 from rfl, show upd r 5 (r 1) 3 = r 3 from rfl, show upd r 5 (r 1) 4 = r 4 from rfl, show upd r 5 (r 1) 5 = r 1 from rfl]
            go_wp2_with fail
            go_ret
            exact ⟨rfl, below_of (grownBy_trans HK20.out.gr (grownBy_trans (World.grownBy_alloc _ _ none) (World.grownBy_alloc _ _ none)))⟩
          · have q1 := wr_n (K := K) ht hpl HFR.out HSW.out
            have q2 := wr_p (K := K) ht hpl HFR.out HSW.out
            rw [HNS.out, if_pos (by omega)] at q1
            rw [HNP.out, if_pos (by omega)] at q2
            have HE := Lib.hid q1; have HF := Lib.hid q2
            clear q1 q2
            refine (find_fit HRM5.out HSM.out HFO.out (r 0) p hpl hp np ns false false HNP.out HNS.out HSW.out HFR.out).mono ?_
            rintro e w6 ⟨s14, sf, Ap, cp, An, cn, rfl, hrn, hg⟩
            have HRN6 := Lib.hid hrn
            clear hrn
            have HK6 := Lib.hid (HK5.out.gb hg)
            have HRM6 := Lib.hid (HRM5.out.gb hg)
            clear hg HK5 HRM5
            have xb := HK6.out.get 0 rfl
            have x0 : w6.cell? ⟨B11, 0, none⟩ = some (.int .i64 (r 0)) := xb.cell 0
            have x1 : w6.cell? ⟨B11, 1, none⟩ = some (.int .i64 (r 1)) := xb.cell 1
            have x2 : w6.cell? ⟨B11, 2, none⟩ = some (.int .i64 (r 2)) := xb.cell 2
            have x3 : w6.cell? ⟨B11, 3, none⟩ = some (.int .i64 (r 3)) := xb.cell 3
            have x4 : w6.cell? ⟨B11, 4, none⟩ = some (.int .i64 (r 4)) := xb.cell 4
            have x5 : w6.cell? ⟨B11, 5, none⟩ = some (.int .i64 (r 5)) := xb.cell 5
            have xl : B11 < w6.heap.size := xb.lt
            clear xb
            have zb := HK6.out.get 1 rfl
            have z0 : w6.cell? ⟨B10, 0, none⟩ = some (.slice A1 n1 c1) := zb.cell 0
            have z1 : w6.cell? ⟨B10, 1, none⟩ = some (.slice B1 m1 e1) := zb.cell 1
            have zl : B10 < w6.heap.size := zb.lt
            clear zb
            go_wp2_with fail
            have HK7 := Lib.hid (HK6.out.al1 #[.int .i64 s14, .int .i64 np, .int .i64 ns.length, .bool false, .bool sf, .slice Ap np cp, .slice An ns.length cn, .bool false] 41)
            have hgal : w6.grownBy (w6.alloc (.cells #[.int .i64 s14, .int .i64 np, .int .i64 ns.length, .bool false, .bool sf, .slice Ap np cp, .slice An ns.length cn, .bool false] 41)) none := World.grownBy_alloc _ _ none
            have HRM7 := Lib.hid (HRM6.out.gb hgal)
            clear hgal HK6 HRM6
            generalize hW : w6.alloc (.cells #[.int .i64 s14, .int .i64 np, .int .i64 ns.length, .bool false, .bool sf, .slice Ap np cp, .slice An ns.length cn, .bool false] 41) = w7 at *
            clear hW
            generalize w6.heap.size = B14 at *
            clear x0 x1 x2 x3 x4 x5 xl
            clear z0 z1 zl
            refine (HD1.out _ HRM7.out).mono ?_
            rintro e w8 ⟨Aa, na, ca, Ba, ma, ea, rfl, hrm, hg⟩
            have HA8 := Lib.hid hrm
            clear hrm HD1
            generalize dR O Q r 7 0 0 K v 0 0 = ra at *
            generalize dV O Q r 7 0 0 K v 0 0 = va at *
            have HK8 := Lib.hid (HK7.out.gb hg)
            have HRM8 := Lib.hid (HRM7.out.gb hg)
            clear hg HK7 HRM7
            rw [HE.out]
            have xb := HK8.out.get 1 rfl
            have x0 : w8.cell? ⟨B11, 0, none⟩ = some (.int .i64 (r 0)) := xb.cell 0
            have x1 : w8.cell? ⟨B11, 1, none⟩ = some (.int .i64 (r 1)) := xb.cell 1
            have x2 : w8.cell? ⟨B11, 2, none⟩ = some (.int .i64 (r 2)) := xb.cell 2
            have x3 : w8.cell? ⟨B11, 3, none⟩ = some (.int .i64 (r 3)) := xb.cell 3
            have x4 : w8.cell? ⟨B11, 4, none⟩ = some (.int .i64 (r 4)) := xb.cell 4
            have x5 : w8.cell? ⟨B11, 5, none⟩ = some (.int .i64 (r 5)) := xb.cell 5
            have xl : B11 < w8.heap.size := xb.lt
            clear xb
            have zb := HK8.out.get 2 rfl
            have z0 : w8.cell? ⟨B10, 0, none⟩ = some (.slice A1 n1 c1) := zb.cell 0
            have z1 : w8.cell? ⟨B10, 1, none⟩ = some (.slice B1 m1 e1) := zb.cell 1
            have zl : B10 < w8.heap.size := zb.lt
            clear zb
            go_wp2_with fail
            have HK9 := Lib.hid (HK8.out.al2 #[.slice Aa na ca, .slice Ba ma ea] #[.int .i64 (ra 0), .int .i64 (ra 1), .int .i64 (ra 2), .int .i64 (ra 3), .int .i64 (ra 4), .int .i64 (ra 5)] 29 24)
            have hgal : w8.grownBy ((w8.alloc (.cells #[.slice Aa na ca, .slice Ba ma ea] 29)).alloc (.cells #[.int .i64 (ra 0), .int .i64 (ra 1), .int .i64 (ra 2), .int .i64 (ra 3), .int .i64 (ra 4), .int .i64 (ra 5)] 24)) none := grownBy_trans (World.grownBy_alloc _ _ none) (World.grownBy_alloc _ _ none)
            have HRM9 := Lib.hid (HRM8.out.gb hgal)
            have HA9 := Lib.hid (HA8.out.gb hgal)
            clear hgal HK8 HRM8 HA8
            generalize hW : (w8.alloc (.cells #[.slice Aa na ca, .slice Ba ma ea] 29)).alloc (.cells #[.int .i64 (ra 0), .int .i64 (ra 1), .int .i64 (ra 2), .int .i64 (ra 3), .int .i64 (ra 4), .int .i64 (ra 5)] 24) = w9 at *
            clear hW
            generalize w8.heap.size = B16 at *
            clear x0 x1 x2 x3 x4 x5 xl
            clear z0 z1 zl
            refine (HD2.out _ HRM9.out).mono ?_
            rintro e w10 ⟨Ab, nb, cb, Bb, mb, eb, rfl, hrm, hg⟩
            have HB10 := Lib.hid hrm
            clear hrm HD2 HRM9
            generalize dR O Q r 5 0 1 K 0 0 0 = rb at *
            generalize dV O Q r 5 0 1 K 0 0 0 = vb at *
            have HK10 := Lib.hid (HK9.out.gb hg)
            have HA10 := Lib.hid (HA9.out.gb hg)
            clear hg HK9 HA9
            rw [HF.out]
            have xb := HK10.out.get 2 rfl
            have x0 : w10.cell? ⟨B14, 0, none⟩ = some (.int .i64 s14) := xb.cell 0
            have x1 : w10.cell? ⟨B14, 1, none⟩ = some (.int .i64 np) := xb.cell 1
            have x2 : w10.cell? ⟨B14, 2, none⟩ = some (.int .i64 ns.length) := xb.cell 2
            have x3 : w10.cell? ⟨B14, 3, none⟩ = some (.bool false) := xb.cell 3
            have x4 : w10.cell? ⟨B14, 4, none⟩ = some (.bool sf) := xb.cell 4
            have x5 : w10.cell? ⟨B14, 5, none⟩ = some (.slice Ap np cp) := xb.cell 5
            have x6 : w10.cell? ⟨B14, 6, none⟩ = some (.slice An ns.length cn) := xb.cell 6
            have x7 : w10.cell? ⟨B14, 7, none⟩ = some (.bool false) := xb.cell 7
            have xl : B14 < w10.heap.size := xb.lt
            clear xb
            go_wp2_with fail
            go_ret
            exact ⟨rfl, below_of (grownBy_trans HK10.out.gr (grownBy_trans (World.grownBy_alloc _ _ none) (World.grownBy_alloc _ _ none)))⟩
      · have HSW := Lib.hid hsw
        clear hsw
        obtain ⟨q1, q2⟩ := wr_sw (K := K) ht hpl HFR.out HSW.out
        have HE := Lib.hid q1; have HF := Lib.hid q2
        clear q1 q2
        refine (find_fit HRM5.out HSM.out HFO.out (r 0) p hpl hp np ns true false HNP.out HNS.out HSW.out HFR.out).mono ?_
        rintro e w6 ⟨s14, sf, Ap, cp, An, cn, rfl, hrn, hg⟩
        have HRN6 := Lib.hid hrn
        clear hrn
        have HK6 := Lib.hid (HK5.out.gb hg)
        have HRM6 := Lib.hid (HRM5.out.gb hg)
        clear hg HK5 HRM5
        have xb := HK6.out.get 0 rfl
        have x0 : w6.cell? ⟨B11, 0, none⟩ = some (.int .i64 (r 0)) := xb.cell 0
        have x1 : w6.cell? ⟨B11, 1, none⟩ = some (.int .i64 (r 1)) := xb.cell 1
        have x2 : w6.cell? ⟨B11, 2, none⟩ = some (.int .i64 (r 2)) := xb.cell 2
        have x3 : w6.cell? ⟨B11, 3, none⟩ = some (.int .i64 (r 3)) := xb.cell 3
        have x4 : w6.cell? ⟨B11, 4, none⟩ = some (.int .i64 (r 4)) := xb.cell 4
        have x5 : w6.cell? ⟨B11, 5, none⟩ = some (.int .i64 (r 5)) := xb.cell 5
        have xl : B11 < w6.heap.size := xb.lt
        clear xb
        have zb := HK6.out.get 1 rfl
        have z0 : w6.cell? ⟨B10, 0, none⟩ = some (.slice A1 n1 c1) := zb.cell 0
        have z1 : w6.cell? ⟨B10, 1, none⟩ = some (.slice B1 m1 e1) := zb.cell 1
        have zl : B10 < w6.heap.size := zb.lt
        clear zb
        go_wp2_with fail
        have HK7 := Lib.hid (HK6.out.al1 #[.int .i64 s14, .int .i64 np, .int .i64 ns.length, .bool true, .bool sf, .slice Ap np cp, .slice An ns.length cn, .bool false] 41)
        have hgal : w6.grownBy (w6.alloc (.cells #[.int .i64 s14, .int .i64 np, .int .i64 ns.length, .bool true, .bool sf, .slice Ap np cp, .slice An ns.length cn, .bool false] 41)) none := World.grownBy_alloc _ _ none
        have HRM7 := Lib.hid (HRM6.out.gb hgal)
        clear hgal HK6 HRM6
        generalize hW : w6.alloc (.cells #[.int .i64 s14, .int .i64 np, .int .i64 ns.length, .bool true, .bool sf, .slice Ap np cp, .slice An ns.length cn, .bool false] 41) = w7 at *
        clear hW
        generalize w6.heap.size = B14 at *
        clear x0 x1 x2 x3 x4 x5 xl
        clear z0 z1 zl
        refine (HD1.out _ HRM7.out).mono ?_
        rintro e w8 ⟨Aa, na, ca, Ba, ma, ea, rfl, hrm, hg⟩
        have HA8 := Lib.hid hrm
        clear hrm HD1
        generalize dR O Q r 7 0 0 K v 0 0 = ra at *
        generalize dV O Q r 7 0 0 K v 0 0 = va at *
        have HK8 := Lib.hid (HK7.out.gb hg)
        have HRM8 := Lib.hid (HRM7.out.gb hg)
        clear hg HK7 HRM7
        rw [HE.out]
        have xb := HK8.out.get 1 rfl
        have x0 : w8.cell? ⟨B11, 0, none⟩ = some (.int .i64 (r 0)) := xb.cell 0
        have x1 : w8.cell? ⟨B11, 1, none⟩ = some (.int .i64 (r 1)) := xb.cell 1
        have x2 : w8.cell? ⟨B11, 2, none⟩ = some (.int .i64 (r 2)) := xb.cell 2
        have x3 : w8.cell? ⟨B11, 3, none⟩ = some (.int .i64 (r 3)) := xb.cell 3
        have x4 : w8.cell? ⟨B11, 4, none⟩ = some (.int .i64 (r 4)) := xb.cell 4
        have x5 : w8.cell? ⟨B11, 5, none⟩ = some (.int .i64 (r 5)) := xb.cell 5
        have xl : B11 < w8.heap.size := xb.lt
        clear xb
        have zb := HK8.out.get 2 rfl
        have z0 : w8.cell? ⟨B10, 0, none⟩ = some (.slice A1 n1 c1) := zb.cell 0
        have z1 : w8.cell? ⟨B10, 1, none⟩ = some (.slice B1 m1 e1) := zb.cell 1
        have zl : B10 < w8.heap.size := zb.lt
        clear zb
        go_wp2_with fail
        have HK9 := Lib.hid (HK8.out.al2 #[.slice Aa na ca, .slice Ba ma ea] #[.int .i64 (ra 0), .int .i64 (ra 1), .int .i64 (ra 2), .int .i64 (ra 3), .int .i64 (ra 4), .int .i64 (ra 5)] 29 24)
        have hgal : w8.grownBy ((w8.alloc (.cells #[.slice Aa na ca, .slice Ba ma ea] 29)).alloc (.cells #[.int .i64 (ra 0), .int .i64 (ra 1), .int .i64 (ra 2), .int .i64 (ra 3), .int .i64 (ra 4), .int .i64 (ra 5)] 24)) none := grownBy_trans (World.grownBy_alloc _ _ none) (World.grownBy_alloc _ _ none)
        have HRM9 := Lib.hid (HRM8.out.gb hgal)
        have HA9 := Lib.hid (HA8.out.gb hgal)
        clear hgal HK8 HRM8 HA8
        generalize hW : (w8.alloc (.cells #[.slice Aa na ca, .slice Ba ma ea] 29)).alloc (.cells #[.int .i64 (ra 0), .int .i64 (ra 1), .int .i64 (ra 2), .int .i64 (ra 3), .int .i64 (ra 4), .int .i64 (ra 5)] 24) = w9 at *
        clear hW
        generalize w8.heap.size = B16 at *
        clear x0 x1 x2 x3 x4 x5 xl
        clear z0 z1 zl
        refine (HD2.out _ HRM9.out).mono ?_
        rintro e w10 ⟨Ab, nb, cb, Bb, mb, eb, rfl, hrm, hg⟩
        have HB10 := Lib.hid hrm
        clear hrm HD2 HRM9
        generalize dR O Q r 5 0 1 K 0 0 0 = rb at *
        generalize dV O Q r 5 0 1 K 0 0 0 = vb at *
        have HK10 := Lib.hid (HK9.out.gb hg)
        have HA10 := Lib.hid (HA9.out.gb hg)
        clear hg HK9 HA9
        rw [HF.out]
        have xb := HK10.out.get 2 rfl
        have x0 : w10.cell? ⟨B14, 0, none⟩ = some (.int .i64 s14) := xb.cell 0
        have x1 : w10.cell? ⟨B14, 1, none⟩ = some (.int .i64 np) := xb.cell 1
        have x2 : w10.cell? ⟨B14, 2, none⟩ = some (.int .i64 ns.length) := xb.cell 2
        have x3 : w10.cell? ⟨B14, 3, none⟩ = some (.bool true) := xb.cell 3
        have x4 : w10.cell? ⟨B14, 4, none⟩ = some (.bool sf) := xb.cell 4
        have x5 : w10.cell? ⟨B14, 5, none⟩ = some (.slice Ap np cp) := xb.cell 5
        have x6 : w10.cell? ⟨B14, 6, none⟩ = some (.slice An ns.length cn) := xb.cell 6
        have x7 : w10.cell? ⟨B14, 7, none⟩ = some (.bool false) := xb.cell 7
        have xl : B14 < w10.heap.size := xb.lt
        clear xb
        go_wp2_with fail
        go_ret
        exact ⟨rfl, below_of (grownBy_trans HK10.out.gr (grownBy_trans (World.grownBy_alloc _ _ none) (World.grownBy_alloc _ _ none)))⟩
    · have HFR := Lib.hid hfr
      clear hfr
      obtain ⟨sw, hsw⟩ : ∃ sw, O[p].sw = sw := ⟨_, rfl⟩
      have HSW := Lib.hid hsw
      clear hsw
      obtain ⟨q1, q2⟩ := wr_fr (K := K) ht hpl HFR.out
      have HE := Lib.hid q1; have HF := Lib.hid q2
      clear q1 q2
      refine (find_fit HRM5.out HSM.out HFO.out (r 0) p hpl hp np ns sw true HNP.out HNS.out HSW.out HFR.out).mono ?_
      rintro e w6 ⟨s14, sf, Ap, cp, An, cn, rfl, hrn, hg⟩
      have HRN6 := Lib.hid hrn
      clear hrn
      have HK6 := Lib.hid (HK5.out.gb hg)
      have HRM6 := Lib.hid (HRM5.out.gb hg)
      clear hg HK5 HRM5
      have xb := HK6.out.get 0 rfl
      have x0 : w6.cell? ⟨B11, 0, none⟩ = some (.int .i64 (r 0)) := xb.cell 0
      have x1 : w6.cell? ⟨B11, 1, none⟩ = some (.int .i64 (r 1)) := xb.cell 1
      have x2 : w6.cell? ⟨B11, 2, none⟩ = some (.int .i64 (r 2)) := xb.cell 2
      have x3 : w6.cell? ⟨B11, 3, none⟩ = some (.int .i64 (r 3)) := xb.cell 3
      have x4 : w6.cell? ⟨B11, 4, none⟩ = some (.int .i64 (r 4)) := xb.cell 4
      have x5 : w6.cell? ⟨B11, 5, none⟩ = some (.int .i64 (r 5)) := xb.cell 5
      have xl : B11 < w6.heap.size := xb.lt
      clear xb
      have zb := HK6.out.get 1 rfl
      have z0 : w6.cell? ⟨B10, 0, none⟩ = some (.slice A1 n1 c1) := zb.cell 0
      have z1 : w6.cell? ⟨B10, 1, none⟩ = some (.slice B1 m1 e1) := zb.cell 1
      have zl : B10 < w6.heap.size := zb.lt
      clear zb
      go_wp2_with fail
      have HK7 := Lib.hid (HK6.out.al1 #[.int .i64 s14, .int .i64 np, .int .i64 ns.length, .bool sw, .bool sf, .slice Ap np cp, .slice An ns.length cn, .bool true] 41)
      have hgal : w6.grownBy (w6.alloc (.cells #[.int .i64 s14, .int .i64 np, .int .i64 ns.length, .bool sw, .bool sf, .slice Ap np cp, .slice An ns.length cn, .bool true] 41)) none := World.grownBy_alloc _ _ none
      have HRM7 := Lib.hid (HRM6.out.gb hgal)
      clear hgal HK6 HRM6
      generalize hW : w6.alloc (.cells #[.int .i64 s14, .int .i64 np, .int .i64 ns.length, .bool sw, .bool sf, .slice Ap np cp, .slice An ns.length cn, .bool true] 41) = w7 at *
      clear hW
      generalize w6.heap.size = B14 at *
      clear x0 x1 x2 x3 x4 x5 xl
      clear z0 z1 zl
      refine (HD1.out _ HRM7.out).mono ?_
      rintro e w8 ⟨Aa, na, ca, Ba, ma, ea, rfl, hrm, hg⟩
      have HA8 := Lib.hid hrm
      clear hrm HD1
      generalize dR O Q r 7 0 0 K v 0 0 = ra at *
      generalize dV O Q r 7 0 0 K v 0 0 = va at *
      have HK8 := Lib.hid (HK7.out.gb hg)
      have HRM8 := Lib.hid (HRM7.out.gb hg)
      clear hg HK7 HRM7
      rw [HE.out]
      have xb := HK8.out.get 1 rfl
      have x0 : w8.cell? ⟨B11, 0, none⟩ = some (.int .i64 (r 0)) := xb.cell 0
      have x1 : w8.cell? ⟨B11, 1, none⟩ = some (.int .i64 (r 1)) := xb.cell 1
      have x2 : w8.cell? ⟨B11, 2, none⟩ = some (.int .i64 (r 2)) := xb.cell 2
      have x3 : w8.cell? ⟨B11, 3, none⟩ = some (.int .i64 (r 3)) := xb.cell 3
      have x4 : w8.cell? ⟨B11, 4, none⟩ = some (.int .i64 (r 4)) := xb.cell 4
      have x5 : w8.cell? ⟨B11, 5, none⟩ = some (.int .i64 (r 5)) := xb.cell 5
      have xl : B11 < w8.heap.size := xb.lt
      clear xb
      have zb := HK8.out.get 2 rfl
      have z0 : w8.cell? ⟨B10, 0, none⟩ = some (.slice A1 n1 c1) := zb.cell 0
      have z1 : w8.cell? ⟨B10, 1, none⟩ = some (.slice B1 m1 e1) := zb.cell 1
      have zl : B10 < w8.heap.size := zb.lt
      clear zb
      go_wp2_with fail
      have HK9 := Lib.hid (HK8.out.al2 #[.slice Aa na ca, .slice Ba ma ea] #[.int .i64 (ra 0), .int .i64 (ra 1), .int .i64 (ra 2), .int .i64 (ra 3), .int .i64 (ra 4), .int .i64 (ra 5)] 29 24)
      have hgal : w8.grownBy ((w8.alloc (.cells #[.slice Aa na ca, .slice Ba ma ea] 29)).alloc (.cells #[.int .i64 (ra 0), .int .i64 (ra 1), .int .i64 (ra 2), .int .i64 (ra 3), .int .i64 (ra 4), .int .i64 (ra 5)] 24)) none := grownBy_trans (World.grownBy_alloc _ _ none) (World.grownBy_alloc _ _ none)
      have HRM9 := Lib.hid (HRM8.out.gb hgal)
      have HA9 := Lib.hid (HA8.out.gb hgal)
      clear hgal HK8 HRM8 HA8
      generalize hW : (w8.alloc (.cells #[.slice Aa na ca, .slice Ba ma ea] 29)).alloc (.cells #[.int .i64 (ra 0), .int .i64 (ra 1), .int .i64 (ra 2), .int .i64 (ra 3), .int .i64 (ra 4), .int .i64 (ra 5)] 24) = w9 at *
      clear hW
      generalize w8.heap.size = B16 at *
      clear x0 x1 x2 x3 x4 x5 xl
      clear z0 z1 zl
      refine (HD2.out _ HRM9.out).mono ?_
      rintro e w10 ⟨Ab, nb, cb, Bb, mb, eb, rfl, hrm, hg⟩
      have HB10 := Lib.hid hrm
      clear hrm HD2 HRM9
      generalize dR O Q r 5 0 1 K 0 0 0 = rb at *
      generalize dV O Q r 5 0 1 K 0 0 0 = vb at *
      have HK10 := Lib.hid (HK9.out.gb hg)
      have HA10 := Lib.hid (HA9.out.gb hg)
      clear hg HK9 HA9
      rw [HF.out]
      have xb := HK10.out.get 2 rfl
      have x0 : w10.cell? ⟨B14, 0, none⟩ = some (.int .i64 s14) := xb.cell 0
      have x1 : w10.cell? ⟨B14, 1, none⟩ = some (.int .i64 np) := xb.cell 1
      have x2 : w10.cell? ⟨B14, 2, none⟩ = some (.int .i64 ns.length) := xb.cell 2
      have x3 : w10.cell? ⟨B14, 3, none⟩ = some (.bool sw) := xb.cell 3
      have x4 : w10.cell? ⟨B14, 4, none⟩ = some (.bool sf) := xb.cell 4
      have x5 : w10.cell? ⟨B14, 5, none⟩ = some (.slice Ap np cp) := xb.cell 5
      have x6 : w10.cell? ⟨B14, 6, none⟩ = some (.slice An ns.length cn) := xb.cell 6
      have x7 : w10.cell? ⟨B14, 7, none⟩ = some (.bool true) := xb.cell 7
      have xl : B14 < w10.heap.size := xb.lt
      clear xb
      go_wp2_with fail
      go_ret
      exact ⟨rfl, below_of (grownBy_trans HK10.out.gr (grownBy_trans (World.grownBy_alloc _ _ none) (World.grownBy_alloc _ _ none)))⟩

theorem own : ownKnob Try.prog.godebug = none := by kernel_rfl
theorem laidOut : laidOutB Try.prog = true := by kernel_rfl

set_option maxRecDepth 100000 in
theorem lifted (os : _root_.Go.Os) (started : os.Started) (H : Type) (enc : TypeId × Value → H) :
    ReturnsInHanded {} Try.checked os 4 .any (Rows.modelWritesSpec.pre6 enc Try.prog Try.f4 Rows.modelWritesRow.domain false) (Rows.modelWritesSpec.post enc Try.prog Try.f4 false true false false) := by
  refine returnsInHanded_of_change (C := Try.checked) own started (by kernel_rfl) Try.func4
    (ChangeSpec.witness6 (enc := enc) (C := Try.checked) false ⟨#[], #[.slice none 0 0, .agg #[.int .i64 0, .int .i64 0, .int .i64 0, .int .i64 0, .int .i64 0, .int .i64 0], .int .i64 0, .int .i64 0], []⟩ 8 (by kernel_rfl) (by kernel_rfl) (by kernel_rfl) (by kernel_rfl)) ?_
  intro W base args ds gs before hval0 hW hcnd _
  have hval : ∀ (j : Nat) t v, Try.f4.params[j]? = some t → args[j]? = some v → Value.okWide Try.prog W .any base t v := hval0
  have hW' := hW
  obtain ⟨p, q, hA0, hV, rfl, hfz, hnd⟩ := hW
  have hA : DataW.TrodAll enc Try.prog W 0 (fun _ => true) true Try.f4.params.toList args.toList ds p := hA0
  rw [Try.params4] at hA hval
  obtain ⟨v0, vs0, d0, ds0, p0, q0, hargs, rfl, rfl, h0, r0⟩ := trodAll_cons hA
  obtain ⟨v1, vs1, d1, ds1, p1, q1, rfl, rfl, rfl, h1, r1⟩ := trodAll_cons r0
  obtain ⟨v2, vs2, d2, ds2, p2, q2, rfl, rfl, rfl, h2, r2⟩ := trodAll_cons r1
  obtain ⟨v3, vs3, d3, ds3, p3, q3, rfl, rfl, rfl, h3, r3⟩ := trodAll_cons r2
  obtain ⟨rfl, rfl, rfl⟩ := trodAll_nil r3
  obtain rfl : args = #[v0, v1, v2, v3] := by cases args; simp_all
  obtain ⟨rfl, rfl⟩ := trodVars_none hV
  have k0 := h0
  have lt0 : ∀ x ∈ p0, x.block < W.heap.size := by obtain ⟨m, hm⟩ := k0; exact DataW.trod_lt m _ _ _ hm
  have k1 := h1
  have lt1 : ∀ x ∈ p1, x.block < W.heap.size := by obtain ⟨m, hm⟩ := k1; exact DataW.trod_lt m _ _ _ hm
  have k2 := h2
  have lt2 : ∀ x ∈ p2, x.block < W.heap.size := by obtain ⟨m, hm⟩ := k2; exact DataW.trod_lt m _ _ _ hm
  have k3 := h3
  have lt3 : ∀ x ∈ p3, x.block < W.heap.size := by obtain ⟨m, hm⟩ := k3; exact DataW.trod_lt m _ _ _ hm
  obtain ⟨a0, len0, cap0, rfl⟩ := okWide_slice Try.underlying22 (hval 0 22 v0 rfl rfl)
  obtain ⟨L0, hl0, hr0, hx0⟩ : ∃ L : List Ov, L.length = len0 ∧ RL W a0 L ∧ ∀ y ∈ L, Lo y.o ∧ Cp y := by
    obtain ⟨fuel, hf⟩ := h0
    exact open_objs hf
  subst hl0
  obtain ⟨R1, rfl, hR1⟩ := open_regs (hval 1 24 v1 rfl rfl) h1
  obtain ⟨a2, rfl, rfl, rfl, w2⟩ := open_int Try.underlying3 (hval 2 3 v2 rfl rfl) h2
  obtain ⟨a3, rfl, rfl, rfl, w3⟩ := open_int Try.underlying3 (hval 3 3 v3 rfl rfl) h3
  clear hA0 hval0
  refine (walk a0 cap0 L0 R1 a2 a3 W hr0 hx0 hR1 (i64_lo w2) (i64_lo w3)).mono fun e W' ⟨he, bel⟩ => ?_
  subst he
  exact ⟨_, rfl, _, _, _, [], _, [], hW', trodAll_mk1 (shut_bool Try.underlying4 _), (trodAll_cons_mk (Below.trod laidOut (by kernel_rfl) (of_decide_eq_true (by kernel_rfl)) k0 bel lt0) (trodAll_cons_mk (Below.trod laidOut (by kernel_rfl) (of_decide_eq_true (by kernel_rfl)) k1 bel lt1) (trodAll_cons_mk (Below.trod laidOut (by kernel_rfl) (of_decide_eq_true (by kernel_rfl)) k2 bel lt2) (trodAll_cons_mk (Below.trod laidOut (by kernel_rfl) (of_decide_eq_true (by kernel_rfl)) k3 bel lt3) trodAll_mk0)))), rfl, bel.frame _, fun h => by cases h⟩

theorem over : Rows.modelWritesRow.holds Try.pinned (OpenSpec.ofChange Rows.modelWritesSpec) :=
  OpenClaim.holds_of_wide 4 Try.f4 rfl rfl rfl rfl rfl rfl rfl ⟨rfl, rfl, rfl, rfl, rfl⟩ rfl rfl rfl rfl rfl (by kernel_rfl) Try.func4 (by kernel_rfl)
    (of_decide_eq_true (by kernel_rfl)) (by unfold Func.isWrapper; first | (rw [if_pos (by decide +kernel)]; kernel_rfl) | (rw [if_neg (by decide +kernel)]; exact ⟨rfl, rfl⟩))
    (fun os started H enc _ => lifted os started H enc)

theorem proved : Rows.ModelWritesSaid := over
end Go.Proofs.Yteieljkkcnpfmaa.modelWrites

namespace Go.Proofs.Yteieljkkcnpfmaa
theorem ModelWrites_holds : Rows.ModelWritesSaid := modelWrites.proved
#print axioms ModelWrites_holds
end Go.Proofs.Yteieljkkcnpfmaa

