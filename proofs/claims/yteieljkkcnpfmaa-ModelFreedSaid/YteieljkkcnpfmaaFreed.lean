/-
  ModelFreed returns true, whatever the input; what it was handed reads as before. No condition.
-/
import Derived.Test.YteieljkkcnpfmaaLaw0
import Derived.BigRegion
import Derived.Deep.QuietTactic
import Derived.BigQuiet
namespace Go.Proofs.Yteieljkkcnpfmaa.modelFreed
open Go.ChangeShapes Go.WideShapes Go.ChangeAt Go.RowKit
set_option linter.unusedVariables false

/-- The register that a deed looks at. -/
def tg (k : Int) (a b : Nat) : Nat := if k = 4 ∨ k = 9 then b else a
theorem tg_s (k : Int) (r : Nat → Int) (a b : Nat) (h4 : 4 ≤ k) : (if k = 3 ∨ k = 4 ∨ k = 9 then r b else r a) = r (tg k a b) := by
  unfold tg
  by_cases h : k = 4 ∨ k = 9
  · rw [if_pos h, if_pos (.inr h)]
  · rw [if_neg h, if_neg (by omega)]
theorem smo_set {O : List Ob} {Q : List (Int × Int)} {p : Nat} (h : Smo O Q) (hp : p < O.length) (o : Ob) (ho : o.ps.length ≤ 100 ∧ o.ns.length ≤ 100) : Smo (O.set p o) Q := by
  refine ⟨by rw [List.length_set]; exact h.1, h.2.1, fun x hx => ?_⟩
  rcases mem_set_ne hp hx with rfl | ⟨q, hq, _, rfl⟩
  · exact ho
  · exact h.2.2 _ (List.getElem_mem _)
theorem law_same {O : List Ob} {Q : List (Int × Int)} {r : Nat → Int} {p : Nat} {k : Int} {a b : Nat} {i n : Int} (h4 : 4 ≤ k) (h9 : k ≤ 9) (hp : p < O.length) (ht : tgt O (r 0) = some p) (hs : r (tg k a b) = r 0) :
    flt (O.set p { O.getD p ob0 with fr := true }) r k a b i 0 = 142 ∧ dV (O.set p { O.getD p ob0 with fr := true }) Q r k a b i n 0 9 = 0 := by
  have ht2 : tgt (O.set p { O.getD p ob0 with fr := true }) (r (tg k a b)) = some p := by rw [tgt_set O p _ hp (by rw [getD_at hp]), hs, ht]
  have e : flt (O.set p { O.getD p ob0 with fr := true }) r k a b i 0 = 142 := by
    rw [flt_obj h4 h9 (tg_s k r a b h4) ht2, getD_set_eq hp]
    exact fltO_fr rfl
  exact ⟨e, (d_err (by rw [e]; omega)).2.2.2⟩
theorem law_else {O : List Ob} {Q : List (Int × Int)} {r : Nat → Int} {p : Nat} {k : Int} {a b : Nat} {i n : Int} (h4 : 4 ≤ k) (h9 : k ≤ 9) (hp : p < O.length) (ht : tgt O (r 0) = some p) (hs : r (tg k a b) ≠ r 0) :
    flt (O.set p { O.getD p ob0 with fr := true }) r k a b i 0 = flt O r k a b i 0 ∧ dV (O.set p { O.getD p ob0 with fr := true }) Q r k a b i n 0 9 = dV O Q r k a b i n 0 9 := by
  have ht2 : tgt (O.set p { O.getD p ob0 with fr := true }) (r (tg k a b)) = tgt O (r (tg k a b)) := tgt_set O p _ hp (by rw [getD_at hp]) _
  cases hq : tgt O (r (tg k a b)) with
  | none =>
    rw [hq] at ht2
    have e1 := flt_none (i := i) (fresh := 0) (by omega) h9 (tg_s k r a b h4) hq
    have e2 := flt_none (i := i) (fresh := 0) (by omega) h9 (tg_s k r a b h4) ht2
    refine ⟨e2.trans e1.symm, ?_⟩
    have n1 : flt O r k a b i 0 ≠ 0 := by rw [e1]; omega
    have n2 : flt (O.set p { O.getD p ob0 with fr := true }) r k a b i 0 ≠ 0 := by rw [e2]; omega
    exact (d_err (Q := Q) (n := n) (seen := 9) n2).2.2.2.trans (d_err (Q := Q) (n := n) (seen := 9) n1).2.2.2.symm
  | some q =>
    rw [hq] at ht2
    have hne : q ≠ p := FitO.ne hq ht hs
    have e : flt (O.set p { O.getD p ob0 with fr := true }) r k a b i 0 = flt O r k a b i 0 := by
      rw [flt_obj h4 h9 (tg_s k r a b h4) ht2, flt_obj h4 h9 (tg_s k r a b h4) hq, getD_set_ne hne]
    refine ⟨e, ?_⟩
    have hf : fnd (O.set p { O.getD p ob0 with fr := true }) (r (tg k a b)) = fnd O (r (tg k a b)) := by rw [fnd_some ht2, fnd_some hq, getD_set_ne hne]
    unfold dV
    rw [e]
    have hn : nV (O.set p { O.getD p ob0 with fr := true }) Q r k a b i n 0 9 = nV O Q r k a b i n 0 9 := by
      rcases (by omega : k = 4 ∨ k = 5 ∨ k = 6 ∨ k = 7 ∨ k = 8 ∨ k = 9) with rfl | rfl | rfl | rfl | rfl | rfl
      · exact congrArg (fun o : Ob => o.ps.getD i.toNat 0) hf
      · rfl
      · exact congrArg (fun o : Ob => o.ns.getD i.toNat 0) hf
      · rfl
      · rfl
      · exact congrArg (fun o : Ob => o.ps.getD i.toNat 0) hf
    rw [hn]
set_option maxRecDepth 100000 in
set_option maxHeartbeats 8000000 in
theorem walk (Ao : Option Addr) (co : Nat) (L : List Ov) (R : Nat → Int) (d0 d1 d2 d3 d4 : Int) (w : World) (hL : RL w Ao L) (hlo : ∀ y ∈ L, Lo y.o ∧ Cp y) (hR : ∀ j, j < 6 → -9223372036854775808 ≤ R j) (h0 : -9223372036854775808 ≤ d0) (h1 : -9223372036854775808 ≤ d1) (h2 : -9223372036854775808 ≤ d2) (h3 : -9223372036854775808 ≤ d3) (h4 : -9223372036854775808 ≤ d4) :
    Calls Try.prog 6 #[.slice Ao L.length co, .agg #[.int .i64 (R 0), .int .i64 (R 1), .int .i64 (R 2), .int .i64 (R 3), .int .i64 (R 4), .int .i64 (R 5)], .agg #[.int .i64 d0, .int .i64 d1, .int .i64 d2, .int .i64 d3, .int .i64 d4]] w fun e w' => e = .returned (.bool true) ∧ Below w.heap.size w w' := by
  obtain ⟨k, a, b, i, n, -, hk1, hk14, ha6, hb6, hi0, -, hright, hfit⟩ := fit15_any d0 d1 d2 d3 d4 w h0 h1 h2 h3 h4
  have HL := Lib.hid hL
  have HLO := Lib.hid hlo
  have HR := Lib.hid hR
  have HRT := Lib.hid hright
  have HF15 := Lib.hid hfit
  have hll := hL.1.le
  have HK0 := Lib.hid ((Kp.start w).al2 #[.int .i64 (R 0), .int .i64 (R 1), .int .i64 (R 2), .int .i64 (R 3), .int .i64 (R 4), .int .i64 (R 5)] #[.int .i64 d0, .int .i64 d1, .int .i64 d2, .int .i64 d3, .int .i64 d4] 24 26)
  clear hL hlo hR h0 h1 h2 h3 h4 hright hfit
  go_enter Try.func6, Try.ntmps6
  go_wp2_with fail
  generalize (w.alloc (.cells #[.int .i64 (R 0), .int .i64 (R 1), .int .i64 (R 2), .int .i64 (R 3), .int .i64 (R 4), .int .i64 (R 5)] 24)).alloc (.cells #[.int .i64 d0, .int .i64 d1, .int .i64 d2, .int .i64 d3, .int .i64 d4] 26) = w0 at *
  generalize w.heap.size = N at *
  refine (awake_any w0).mono ?_
  rintro e w1 ⟨rfl, hg⟩
  have HK1 := Lib.hid (HK0.out.gb hg)
  clear HK0 hg
  go_wp2_with fail
  refine (fit_nil Ao co L w1 (HL.out.gb HK1.out.1) HLO.out).mono ?_
  rintro e w2 ⟨Am, nm, cm, Bm, mm, em, O, Q, rfl, hnm, hrm, hfo, hol, hq4, hg⟩
  have hn8 : nm ≤ 8 := by omega
  have hsm := hfo.smo hol (by omega) hq4
  rw [← hnm] at hol
  have HK2 := Lib.hid (HK1.out.gb hg)
  have HRM := Lib.hid hrm
  have HFO := Lib.hid hfo
  have HSM := Lib.hid hsm
  have HOL := Lib.hid hol
  clear HK1 hg hrm hfo hsm hol hnm hll
  have xb := HK2.out.get 1 rfl
  have x0 : w2.cell? ⟨N, 0, none⟩ = some (.int .i64 (R 0)) := xb.cell 0
  have x1 : w2.cell? ⟨N, 1, none⟩ = some (.int .i64 (R 1)) := xb.cell 1
  have x2 : w2.cell? ⟨N, 2, none⟩ = some (.int .i64 (R 2)) := xb.cell 2
  have x3 : w2.cell? ⟨N, 3, none⟩ = some (.int .i64 (R 3)) := xb.cell 3
  have x4 : w2.cell? ⟨N, 4, none⟩ = some (.int .i64 (R 4)) := xb.cell 4
  have x5 : w2.cell? ⟨N, 5, none⟩ = some (.int .i64 (R 5)) := xb.cell 5
  have xl := xb.lt
  clear xb
  go_wp2_with fail
  have HK3 := Lib.hid (HK2.out.al1 #[.slice Am nm cm, .slice Bm mm em] 29)
  have HRM3 := Lib.hid (HRM.out.gb (al1 w2 #[.slice Am nm cm, .slice Bm mm em] 29).1)
  clear HK2 HRM x0 x1 x2 x3 x4 x5 xl
  generalize hw3 : w2.alloc (.cells #[.slice Am nm cm, .slice Bm mm em] 29) = w3 at *
  clear hw3
  generalize w2.heap.size = B8 at *
  refine (regs_t Am Bm nm cm mm em R w3 (by omega) HR.out).mono ?_
  rintro e w4 ⟨rfl, hg⟩
  have HK4 := Lib.hid (HK3.out.gb hg)
  have HRM4 := Lib.hid (HRM3.out.gb hg)
  clear HK3 HRM3 hg HR
  dsimp only
  generalize hr : (fun j => pk (R j) ((nm : Int) + 1)) = r at *
  rw [show pk (R 0) ((nm : Int) + 1) = r 0 from by rw [← hr], show pk (R 1) ((nm : Int) + 1) = r 1 from by rw [← hr], show pk (R 2) ((nm : Int) + 1) = r 2 from by rw [← hr], show pk (R 3) ((nm : Int) + 1) = r 3 from by rw [← hr], show pk (R 4) ((nm : Int) + 1) = r 4 from by rw [← hr], show pk (R 5) ((nm : Int) + 1) = r 5 from by rw [← hr]]
  clear hr
  have xb := HK4.out.get 1 rfl
  have x0 : w4.cell? ⟨N + 1, 0, none⟩ = some (.int .i64 d0) := xb.cell 0
  have x1 : w4.cell? ⟨N + 1, 1, none⟩ = some (.int .i64 d1) := xb.cell 1
  have x2 : w4.cell? ⟨N + 1, 2, none⟩ = some (.int .i64 d2) := xb.cell 2
  have x3 : w4.cell? ⟨N + 1, 3, none⟩ = some (.int .i64 d3) := xb.cell 3
  have x4 : w4.cell? ⟨N + 1, 4, none⟩ = some (.int .i64 d4) := xb.cell 4
  have xl := xb.lt
  clear xb
  go_wp2_with fail
  have HK5 := Lib.hid (HK4.out.al1 #[.int .i64 (r 0), .int .i64 (r 1), .int .i64 (r 2), .int .i64 (r 3), .int .i64 (r 4), .int .i64 (r 5)] 24)
  have HRM5 := Lib.hid (HRM4.out.gb (al1 w4 #[.int .i64 (r 0), .int .i64 (r 1), .int .i64 (r 2), .int .i64 (r 3), .int .i64 (r 4), .int .i64 (r 5)] 24).1)
  clear HK4 HRM4
  generalize hW : w4.alloc (.cells #[.int .i64 (r 0), .int .i64 (r 1), .int .i64 (r 2), .int .i64 (r 3), .int .i64 (r 4), .int .i64 (r 5)] 24) = w5 at *
  clear hW
  generalize w4.heap.size = B9 at *
  clear x0 x1 x2 x3 x4 xl
  refine (HF15.out w5).mono ?_
  rintro e w6 ⟨rfl, hg⟩
  have HK6 := Lib.hid (HK5.out.gb hg)
  have HRM6 := Lib.hid (HRM5.out.gb hg)
  clear HK5 HRM5 hg HF15
  have xb := HK6.out.get 1 rfl
  have x0 : w6.cell? ⟨B8, 0, none⟩ = some (.slice Am nm cm) := xb.cell 0
  have x1 : w6.cell? ⟨B8, 1, none⟩ = some (.slice Bm mm em) := xb.cell 1
  have xl := xb.lt
  clear xb
  have yb := HK6.out.get 0 rfl
  have y0 : w6.cell? ⟨B9, 0, none⟩ = some (.int .i64 (r 0)) := yb.cell 0
  have y1 : w6.cell? ⟨B9, 1, none⟩ = some (.int .i64 (r 1)) := yb.cell 1
  have y2 : w6.cell? ⟨B9, 2, none⟩ = some (.int .i64 (r 2)) := yb.cell 2
  have y3 : w6.cell? ⟨B9, 3, none⟩ = some (.int .i64 (r 3)) := yb.cell 3
  have y4 : w6.cell? ⟨B9, 4, none⟩ = some (.int .i64 (r 4)) := yb.cell 4
  have y5 : w6.cell? ⟨B9, 5, none⟩ = some (.int .i64 (r 5)) := yb.cell 5
  have yl := yb.lt
  clear yb
  go_wp2_with fail
  have HK7 := Lib.hid (HK6.out.al1 #[.int .i64 k, .int .i64 a, .int .i64 b, .int .i64 i, .int .i64 n] 26)
  have HRM7 := Lib.hid (HRM6.out.gb (al1 w6 #[.int .i64 k, .int .i64 a, .int .i64 b, .int .i64 i, .int .i64 n] 26).1)
  clear HK6 HRM6
  generalize hW : w6.alloc (.cells #[.int .i64 k, .int .i64 a, .int .i64 b, .int .i64 i, .int .i64 n] 26) = w7 at *
  clear hW
  generalize w6.heap.size = B10 at *
  clear x0 x1 xl
  clear y0 y1 y2 y3 y4 y5 yl
  have HDO := Lib.hid (do_all HRM7.out HSM.out r 8 0 0 0 0 0 0 (by omega) (by omega) (by omega) (by omega) (by omega) (right_8 0 (by omega)))
  rcases HFO.out.at_ (r 0) with ⟨ht, hp⟩ | ⟨p, hpl, ht, hp, hps⟩
  · obtain ⟨e1, e2, e3, e4, e5⟩ := free_none (Q := Q) ht
    rw [e1, e2, e3, e4, e5] at HDO
    clear e1 e2 e3 e4 e5
    refine HDO.out.mono ?_
    rintro e w8 ⟨An, nn, cn, Bn, mn, en, rfl, hrm, hg⟩
    have HRN8 := Lib.hid hrm
    have HK8 := Lib.hid (HK7.out.gb hg)
    have HRM8 := Lib.hid (HRM7.out.gb hg)
    clear HK7 HRM7 hg hrm HDO
    have xb := HK8.out.get 2 rfl
    have x0 : w8.cell? ⟨B8, 0, none⟩ = some (.slice Am nm cm) := xb.cell 0
    have x1 : w8.cell? ⟨B8, 1, none⟩ = some (.slice Bm mm em) := xb.cell 1
    have xl := xb.lt
    clear xb
    have yb := HK8.out.get 1 rfl
    have y0 : w8.cell? ⟨B9, 0, none⟩ = some (.int .i64 (r 0)) := yb.cell 0
    have y1 : w8.cell? ⟨B9, 1, none⟩ = some (.int .i64 (r 1)) := yb.cell 1
    have y2 : w8.cell? ⟨B9, 2, none⟩ = some (.int .i64 (r 2)) := yb.cell 2
    have y3 : w8.cell? ⟨B9, 3, none⟩ = some (.int .i64 (r 3)) := yb.cell 3
    have y4 : w8.cell? ⟨B9, 4, none⟩ = some (.int .i64 (r 4)) := yb.cell 4
    have y5 : w8.cell? ⟨B9, 5, none⟩ = some (.int .i64 (r 5)) := yb.cell 5
    have yl := yb.lt
    clear yb
    go_wp2_with fail
    have HK9 := Lib.hid (HK8.out.al2 #[.slice An nn cn, .slice Bn mn en] #[.int .i64 (r 0), .int .i64 (r 1), .int .i64 (r 2), .int .i64 (r 3), .int .i64 (r 4), .int .i64 (r 5)] 29 24)
    have HRM9 := Lib.hid (HRM8.out.gb (al2 w8 #[.slice An nn cn, .slice Bn mn en] #[.int .i64 (r 0), .int .i64 (r 1), .int .i64 (r 2), .int .i64 (r 3), .int .i64 (r 4), .int .i64 (r 5)] 29 24).1)
    have HRN9 := Lib.hid (HRN8.out.gb (al2 w8 #[.slice An nn cn, .slice Bn mn en] #[.int .i64 (r 0), .int .i64 (r 1), .int .i64 (r 2), .int .i64 (r 3), .int .i64 (r 4), .int .i64 (r 5)] 29 24).1)
    clear HK8 HRM8 HRN8
    generalize hW : (w8.alloc (.cells #[.slice An nn cn, .slice Bn mn en] 29)).alloc (.cells #[.int .i64 (r 0), .int .i64 (r 1), .int .i64 (r 2), .int .i64 (r 3), .int .i64 (r 4), .int .i64 (r 5)] 24) = w9 at *
    clear hW
    generalize w8.heap.size = B11 at *
    generalize B11 + 1 = B12 at *
    clear x0 x1 xl
    clear y0 y1 y2 y3 y4 y5 yl
    refine (find_rm_none HRM9.out (r 0) hp).mono ?_
    rintro e w10 ⟨rfl, hg⟩
    have HK10 := Lib.hid (HK9.out.gb hg)
    have HRM10 := Lib.hid (HRM9.out.gb hg)
    have HRN10 := Lib.hid (HRN9.out.gb hg)
    clear HK9 HRM9 HRN9 hg
    have xb := HK10.out.get 3 rfl
    have x0 : w10.cell? ⟨B9, 0, none⟩ = some (.int .i64 (r 0)) := xb.cell 0
    have x1 : w10.cell? ⟨B9, 1, none⟩ = some (.int .i64 (r 1)) := xb.cell 1
    have x2 : w10.cell? ⟨B9, 2, none⟩ = some (.int .i64 (r 2)) := xb.cell 2
    have x3 : w10.cell? ⟨B9, 3, none⟩ = some (.int .i64 (r 3)) := xb.cell 3
    have x4 : w10.cell? ⟨B9, 4, none⟩ = some (.int .i64 (r 4)) := xb.cell 4
    have x5 : w10.cell? ⟨B9, 5, none⟩ = some (.int .i64 (r 5)) := xb.cell 5
    have xl := xb.lt
    clear xb
    have yb := HK10.out.get 0 rfl
    have y0 : w10.cell? ⟨B12, 0, none⟩ = some (.int .i64 (r 0)) := yb.cell 0
    have y1 : w10.cell? ⟨B12, 1, none⟩ = some (.int .i64 (r 1)) := yb.cell 1
    have y2 : w10.cell? ⟨B12, 2, none⟩ = some (.int .i64 (r 2)) := yb.cell 2
    have y3 : w10.cell? ⟨B12, 3, none⟩ = some (.int .i64 (r 3)) := yb.cell 3
    have y4 : w10.cell? ⟨B12, 4, none⟩ = some (.int .i64 (r 4)) := yb.cell 4
    have y5 : w10.cell? ⟨B12, 5, none⟩ = some (.int .i64 (r 5)) := yb.cell 5
    have yl := yb.lt
    clear yb
    have zb := HK10.out.get 4 rfl
    have z0 : w10.cell? ⟨B8, 0, none⟩ = some (.slice Am nm cm) := zb.cell 0
    have z1 : w10.cell? ⟨B8, 1, none⟩ = some (.slice Bm mm em) := zb.cell 1
    have zl := zb.lt
    clear zb
    have ub := HK10.out.get 1 rfl
    have u0 : w10.cell? ⟨B11, 0, none⟩ = some (.slice An nn cn) := ub.cell 0
    have u1 : w10.cell? ⟨B11, 1, none⟩ = some (.slice Bn mn en) := ub.cell 1
    have ul := ub.lt
    clear ub
    have vb := HK10.out.get 2 rfl
    have v0 : w10.cell? ⟨B10, 0, none⟩ = some (.int .i64 k) := vb.cell 0
    have vl := vb.lt
    clear vb
    have heq := fun W => eq24_same r W
    simp only [rcs] at heq
    go_wp2_with fail
    have HK11 := Lib.hid (HK10.out.al1 #[.int .i64 0, .int .i64 0, .int .i64 0, .bool false, .bool false, .slice none 0 0, .slice none 0 0, .bool false] 41)
    have HRM11 := Lib.hid (HRM10.out.gb (al1 w10 #[.int .i64 0, .int .i64 0, .int .i64 0, .bool false, .bool false, .slice none 0 0, .slice none 0 0, .bool false] 41).1)
    have HRN11 := Lib.hid (HRN10.out.gb (al1 w10 #[.int .i64 0, .int .i64 0, .int .i64 0, .bool false, .bool false, .slice none 0 0, .slice none 0 0, .bool false] 41).1)
    clear HK10 HRM10 HRN10
    generalize hW : w10.alloc (.cells #[.int .i64 0, .int .i64 0, .int .i64 0, .bool false, .bool false, .slice none 0 0, .slice none 0 0, .bool false] 41) = w11 at *
    clear hW
    generalize w10.heap.size = B15 at *
    clear x0 x1 x2 x3 x4 x5 xl
    clear y0 y1 y2 y3 y4 y5 yl
    clear z0 z1 zl
    clear u0 u1 ul
    clear v0 vl
    refine (same_rm HRM11.out HRN11.out).mono ?_
    rintro e w12 ⟨rfl, hg⟩
    rw [show decide (O = O ∧ Q = Q) = true from by simp]
    have HG := Lib.hid (below_of (grownBy_trans HK11.out.1 hg))
    clear hg heq
    go_wp2_with fail
    go_ret
    exact ⟨rfl, HG.out⟩
  · by_cases hfr : O[p].fr = true
    · obtain ⟨e1, e2, e3, e4, e5⟩ := free_fr (Q := Q) ht (by rw [getD_at hpl]; exact hfr)
      rw [e1, e2, e3, e4, e5] at HDO
      clear e1 e2 e3 e4 e5
      have HFR := Lib.hid hfr
      clear hfr hps
      refine HDO.out.mono ?_
      rintro e w8 ⟨An, nn, cn, Bn, mn, en, rfl, hrm, hg⟩
      have HRN8 := Lib.hid hrm
      have HK8 := Lib.hid (HK7.out.gb hg)
      have HRM8 := Lib.hid (HRM7.out.gb hg)
      clear HK7 HRM7 hg hrm HDO
      have xb := HK8.out.get 2 rfl
      have x0 : w8.cell? ⟨B8, 0, none⟩ = some (.slice Am nm cm) := xb.cell 0
      have x1 : w8.cell? ⟨B8, 1, none⟩ = some (.slice Bm mm em) := xb.cell 1
      have xl := xb.lt
      clear xb
      have yb := HK8.out.get 1 rfl
      have y0 : w8.cell? ⟨B9, 0, none⟩ = some (.int .i64 (r 0)) := yb.cell 0
      have y1 : w8.cell? ⟨B9, 1, none⟩ = some (.int .i64 (r 1)) := yb.cell 1
      have y2 : w8.cell? ⟨B9, 2, none⟩ = some (.int .i64 (r 2)) := yb.cell 2
      have y3 : w8.cell? ⟨B9, 3, none⟩ = some (.int .i64 (r 3)) := yb.cell 3
      have y4 : w8.cell? ⟨B9, 4, none⟩ = some (.int .i64 (r 4)) := yb.cell 4
      have y5 : w8.cell? ⟨B9, 5, none⟩ = some (.int .i64 (r 5)) := yb.cell 5
      have yl := yb.lt
      clear yb
      go_wp2_with fail
      have HK9 := Lib.hid (HK8.out.al2 #[.slice An nn cn, .slice Bn mn en] #[.int .i64 (r 0), .int .i64 (r 1), .int .i64 (r 2), .int .i64 (r 3), .int .i64 (r 4), .int .i64 (r 5)] 29 24)
      have HRM9 := Lib.hid (HRM8.out.gb (al2 w8 #[.slice An nn cn, .slice Bn mn en] #[.int .i64 (r 0), .int .i64 (r 1), .int .i64 (r 2), .int .i64 (r 3), .int .i64 (r 4), .int .i64 (r 5)] 29 24).1)
      have HRN9 := Lib.hid (HRN8.out.gb (al2 w8 #[.slice An nn cn, .slice Bn mn en] #[.int .i64 (r 0), .int .i64 (r 1), .int .i64 (r 2), .int .i64 (r 3), .int .i64 (r 4), .int .i64 (r 5)] 29 24).1)
      clear HK8 HRM8 HRN8
      generalize hW : (w8.alloc (.cells #[.slice An nn cn, .slice Bn mn en] 29)).alloc (.cells #[.int .i64 (r 0), .int .i64 (r 1), .int .i64 (r 2), .int .i64 (r 3), .int .i64 (r 4), .int .i64 (r 5)] 24) = w9 at *
      clear hW
      generalize w8.heap.size = B11 at *
      generalize B11 + 1 = B12 at *
      clear x0 x1 xl
      clear y0 y1 y2 y3 y4 y5 yl
      refine (find_rm_some HRM9.out HSM.out (r 0) p hpl hp).mono ?_
      rintro e w10 ⟨Af, cf, Bf, df, rfl, _, _, hg⟩
      have HK10 := Lib.hid (HK9.out.gb hg)
      have HRM10 := Lib.hid (HRM9.out.gb hg)
      have HRN10 := Lib.hid (HRN9.out.gb hg)
      clear HK9 HRM9 HRN9 hg
      rw [HFR.out]
      have xb := HK10.out.get 3 rfl
      have x0 : w10.cell? ⟨B9, 0, none⟩ = some (.int .i64 (r 0)) := xb.cell 0
      have x1 : w10.cell? ⟨B9, 1, none⟩ = some (.int .i64 (r 1)) := xb.cell 1
      have x2 : w10.cell? ⟨B9, 2, none⟩ = some (.int .i64 (r 2)) := xb.cell 2
      have x3 : w10.cell? ⟨B9, 3, none⟩ = some (.int .i64 (r 3)) := xb.cell 3
      have x4 : w10.cell? ⟨B9, 4, none⟩ = some (.int .i64 (r 4)) := xb.cell 4
      have x5 : w10.cell? ⟨B9, 5, none⟩ = some (.int .i64 (r 5)) := xb.cell 5
      have xl := xb.lt
      clear xb
      have yb := HK10.out.get 0 rfl
      have y0 : w10.cell? ⟨B12, 0, none⟩ = some (.int .i64 (r 0)) := yb.cell 0
      have y1 : w10.cell? ⟨B12, 1, none⟩ = some (.int .i64 (r 1)) := yb.cell 1
      have y2 : w10.cell? ⟨B12, 2, none⟩ = some (.int .i64 (r 2)) := yb.cell 2
      have y3 : w10.cell? ⟨B12, 3, none⟩ = some (.int .i64 (r 3)) := yb.cell 3
      have y4 : w10.cell? ⟨B12, 4, none⟩ = some (.int .i64 (r 4)) := yb.cell 4
      have y5 : w10.cell? ⟨B12, 5, none⟩ = some (.int .i64 (r 5)) := yb.cell 5
      have yl := yb.lt
      clear yb
      have zb := HK10.out.get 4 rfl
      have z0 : w10.cell? ⟨B8, 0, none⟩ = some (.slice Am nm cm) := zb.cell 0
      have z1 : w10.cell? ⟨B8, 1, none⟩ = some (.slice Bm mm em) := zb.cell 1
      have zl := zb.lt
      clear zb
      have ub := HK10.out.get 1 rfl
      have u0 : w10.cell? ⟨B11, 0, none⟩ = some (.slice An nn cn) := ub.cell 0
      have u1 : w10.cell? ⟨B11, 1, none⟩ = some (.slice Bn mn en) := ub.cell 1
      have ul := ub.lt
      clear ub
      have vb := HK10.out.get 2 rfl
      have v0 : w10.cell? ⟨B10, 0, none⟩ = some (.int .i64 k) := vb.cell 0
      have vl := vb.lt
      clear vb
      have heq := fun W => eq24_same r W
      simp only [rcs] at heq
      go_wp2_with fail
      have HK11 := Lib.hid (HK10.out.al1 #[.int .i64 O[p].s, .int .i64 O[p].sp, .int .i64 O[p].sd, .bool O[p].sw, .bool O[p].sf, .slice Af O[p].ps.length cf, .slice Bf O[p].ns.length df, .bool true] 41)
      have HRM11 := Lib.hid (HRM10.out.gb (al1 w10 #[.int .i64 O[p].s, .int .i64 O[p].sp, .int .i64 O[p].sd, .bool O[p].sw, .bool O[p].sf, .slice Af O[p].ps.length cf, .slice Bf O[p].ns.length df, .bool true] 41).1)
      have HRN11 := Lib.hid (HRN10.out.gb (al1 w10 #[.int .i64 O[p].s, .int .i64 O[p].sp, .int .i64 O[p].sd, .bool O[p].sw, .bool O[p].sf, .slice Af O[p].ps.length cf, .slice Bf O[p].ns.length df, .bool true] 41).1)
      clear HK10 HRM10 HRN10
      generalize hW : w10.alloc (.cells #[.int .i64 O[p].s, .int .i64 O[p].sp, .int .i64 O[p].sd, .bool O[p].sw, .bool O[p].sf, .slice Af O[p].ps.length cf, .slice Bf O[p].ns.length df, .bool true] 41) = w11 at *
      clear hW
      generalize w10.heap.size = B15 at *
      clear x0 x1 x2 x3 x4 x5 xl
      clear y0 y1 y2 y3 y4 y5 yl
      clear z0 z1 zl
      clear u0 u1 ul
      clear v0 vl
      refine (same_rm HRM11.out HRN11.out).mono ?_
      rintro e w12 ⟨rfl, hg⟩
      rw [show decide (O = O ∧ Q = Q) = true from by simp]
      have HG := Lib.hid (below_of (grownBy_trans HK11.out.1 hg))
      clear hg heq
      go_wp2_with fail
      go_ret
      exact ⟨rfl, HG.out⟩
    · have hfr' : O[p].fr = false := by simpa using hfr
      obtain ⟨e1, e2, e3, e4, e5⟩ := free_ok (Q := Q) ht (by rw [getD_at hpl]; exact hfr)
      rw [e1, e2, e3, e4, e5] at HDO
      clear e1 e2 e3 e4 e5
      have HFR := Lib.hid hfr'
      have HSM2 := Lib.hid (smo_set HSM.out hpl { O.getD p ob0 with fr := true } (by have := HSM.out.2.2 O[p] (List.getElem_mem _); rw [getD_at hpl]; exact this))
      clear hfr hfr' hps
      rcases (by omega : k = 1 ∨ k = 2 ∨ k = 3 ∨ k = 4 ∨ k = 5 ∨ k = 6 ∨ k = 7 ∨ k = 8 ∨ k = 9 ∨ k = 10 ∨ k = 11 ∨ k = 12 ∨ k = 13 ∨ k = 14) with rfl | rfl | rfl | rfl | rfl | rfl | rfl | rfl | rfl | rfl | rfl | rfl | rfl | rfl
      · refine HDO.out.mono ?_
        rintro e w8 ⟨An, nn, cn, Bn, mn, en, rfl, hrm, hg⟩
        have HRN8 := Lib.hid hrm
        have HK8 := Lib.hid (HK7.out.gb hg)
        have HRM8 := Lib.hid (HRM7.out.gb hg)
        clear HK7 HRM7 hg hrm HDO
        have xb := HK8.out.get 2 rfl
        have x0 : w8.cell? ⟨B8, 0, none⟩ = some (.slice Am nm cm) := xb.cell 0
        have x1 : w8.cell? ⟨B8, 1, none⟩ = some (.slice Bm mm em) := xb.cell 1
        have xl := xb.lt
        clear xb
        have yb := HK8.out.get 1 rfl
        have y0 : w8.cell? ⟨B9, 0, none⟩ = some (.int .i64 (r 0)) := yb.cell 0
        have y1 : w8.cell? ⟨B9, 1, none⟩ = some (.int .i64 (r 1)) := yb.cell 1
        have y2 : w8.cell? ⟨B9, 2, none⟩ = some (.int .i64 (r 2)) := yb.cell 2
        have y3 : w8.cell? ⟨B9, 3, none⟩ = some (.int .i64 (r 3)) := yb.cell 3
        have y4 : w8.cell? ⟨B9, 4, none⟩ = some (.int .i64 (r 4)) := yb.cell 4
        have y5 : w8.cell? ⟨B9, 5, none⟩ = some (.int .i64 (r 5)) := yb.cell 5
        have yl := yb.lt
        clear yb
        go_wp2_with fail
        have HK9 := Lib.hid (HK8.out.al2 #[.slice An nn cn, .slice Bn mn en] #[.int .i64 (r 0), .int .i64 (r 1), .int .i64 (r 2), .int .i64 (r 3), .int .i64 (r 4), .int .i64 (r 5)] 29 24)
        have HRM9 := Lib.hid (HRM8.out.gb (al2 w8 #[.slice An nn cn, .slice Bn mn en] #[.int .i64 (r 0), .int .i64 (r 1), .int .i64 (r 2), .int .i64 (r 3), .int .i64 (r 4), .int .i64 (r 5)] 29 24).1)
        have HRN9 := Lib.hid (HRN8.out.gb (al2 w8 #[.slice An nn cn, .slice Bn mn en] #[.int .i64 (r 0), .int .i64 (r 1), .int .i64 (r 2), .int .i64 (r 3), .int .i64 (r 4), .int .i64 (r 5)] 29 24).1)
        clear HK8 HRM8 HRN8
        generalize hW : (w8.alloc (.cells #[.slice An nn cn, .slice Bn mn en] 29)).alloc (.cells #[.int .i64 (r 0), .int .i64 (r 1), .int .i64 (r 2), .int .i64 (r 3), .int .i64 (r 4), .int .i64 (r 5)] 24) = w9 at *
        clear hW
        generalize w8.heap.size = B11 at *
        generalize B11 + 1 = B12 at *
        clear x0 x1 xl
        clear y0 y1 y2 y3 y4 y5 yl
        refine (find_rm_some HRM9.out HSM.out (r 0) p hpl hp).mono ?_
        rintro e w10 ⟨Af, cf, Bf, df, rfl, _, _, hg⟩
        have HK10 := Lib.hid (HK9.out.gb hg)
        have HRM10 := Lib.hid (HRM9.out.gb hg)
        have HRN10 := Lib.hid (HRN9.out.gb hg)
        clear HK9 HRM9 HRN9 hg
        rw [HFR.out]
        have xb := HK10.out.get 3 rfl
        have x0 : w10.cell? ⟨B9, 0, none⟩ = some (.int .i64 (r 0)) := xb.cell 0
        have x1 : w10.cell? ⟨B9, 1, none⟩ = some (.int .i64 (r 1)) := xb.cell 1
        have x2 : w10.cell? ⟨B9, 2, none⟩ = some (.int .i64 (r 2)) := xb.cell 2
        have x3 : w10.cell? ⟨B9, 3, none⟩ = some (.int .i64 (r 3)) := xb.cell 3
        have x4 : w10.cell? ⟨B9, 4, none⟩ = some (.int .i64 (r 4)) := xb.cell 4
        have x5 : w10.cell? ⟨B9, 5, none⟩ = some (.int .i64 (r 5)) := xb.cell 5
        have xl := xb.lt
        clear xb
        have yb := HK10.out.get 0 rfl
        have y0 : w10.cell? ⟨B12, 0, none⟩ = some (.int .i64 (r 0)) := yb.cell 0
        have y1 : w10.cell? ⟨B12, 1, none⟩ = some (.int .i64 (r 1)) := yb.cell 1
        have y2 : w10.cell? ⟨B12, 2, none⟩ = some (.int .i64 (r 2)) := yb.cell 2
        have y3 : w10.cell? ⟨B12, 3, none⟩ = some (.int .i64 (r 3)) := yb.cell 3
        have y4 : w10.cell? ⟨B12, 4, none⟩ = some (.int .i64 (r 4)) := yb.cell 4
        have y5 : w10.cell? ⟨B12, 5, none⟩ = some (.int .i64 (r 5)) := yb.cell 5
        have yl := yb.lt
        clear yb
        have zb := HK10.out.get 4 rfl
        have z0 : w10.cell? ⟨B8, 0, none⟩ = some (.slice Am nm cm) := zb.cell 0
        have z1 : w10.cell? ⟨B8, 1, none⟩ = some (.slice Bm mm em) := zb.cell 1
        have zl := zb.lt
        clear zb
        have ub := HK10.out.get 1 rfl
        have u0 : w10.cell? ⟨B11, 0, none⟩ = some (.slice An nn cn) := ub.cell 0
        have u1 : w10.cell? ⟨B11, 1, none⟩ = some (.slice Bn mn en) := ub.cell 1
        have ul := ub.lt
        clear ub
        have vb := HK10.out.get 2 rfl
        have v0 : w10.cell? ⟨B10, 0, none⟩ = some (.int .i64 1) := vb.cell 0
        have v1 : w10.cell? ⟨B10, 1, none⟩ = some (.int .i64 a) := vb.cell 1
        have v2 : w10.cell? ⟨B10, 2, none⟩ = some (.int .i64 b) := vb.cell 2
        have v3 : w10.cell? ⟨B10, 3, none⟩ = some (.int .i64 i) := vb.cell 3
        have v4 : w10.cell? ⟨B10, 4, none⟩ = some (.int .i64 n) := vb.cell 4
        have vl := vb.lt
        clear vb
        have heq := fun W => eq24_same r W
        simp only [rcs] at heq
        go_wp2_with fail
        go_ret
        exact ⟨rfl, below_of (grownBy_trans HK10.out.1 (World.grownBy_alloc _ _ none))⟩
      · refine HDO.out.mono ?_
        rintro e w8 ⟨An, nn, cn, Bn, mn, en, rfl, hrm, hg⟩
        have HRN8 := Lib.hid hrm
        have HK8 := Lib.hid (HK7.out.gb hg)
        have HRM8 := Lib.hid (HRM7.out.gb hg)
        clear HK7 HRM7 hg hrm HDO
        have xb := HK8.out.get 2 rfl
        have x0 : w8.cell? ⟨B8, 0, none⟩ = some (.slice Am nm cm) := xb.cell 0
        have x1 : w8.cell? ⟨B8, 1, none⟩ = some (.slice Bm mm em) := xb.cell 1
        have xl := xb.lt
        clear xb
        have yb := HK8.out.get 1 rfl
        have y0 : w8.cell? ⟨B9, 0, none⟩ = some (.int .i64 (r 0)) := yb.cell 0
        have y1 : w8.cell? ⟨B9, 1, none⟩ = some (.int .i64 (r 1)) := yb.cell 1
        have y2 : w8.cell? ⟨B9, 2, none⟩ = some (.int .i64 (r 2)) := yb.cell 2
        have y3 : w8.cell? ⟨B9, 3, none⟩ = some (.int .i64 (r 3)) := yb.cell 3
        have y4 : w8.cell? ⟨B9, 4, none⟩ = some (.int .i64 (r 4)) := yb.cell 4
        have y5 : w8.cell? ⟨B9, 5, none⟩ = some (.int .i64 (r 5)) := yb.cell 5
        have yl := yb.lt
        clear yb
        go_wp2_with fail
        have HK9 := Lib.hid (HK8.out.al2 #[.slice An nn cn, .slice Bn mn en] #[.int .i64 (r 0), .int .i64 (r 1), .int .i64 (r 2), .int .i64 (r 3), .int .i64 (r 4), .int .i64 (r 5)] 29 24)
        have HRM9 := Lib.hid (HRM8.out.gb (al2 w8 #[.slice An nn cn, .slice Bn mn en] #[.int .i64 (r 0), .int .i64 (r 1), .int .i64 (r 2), .int .i64 (r 3), .int .i64 (r 4), .int .i64 (r 5)] 29 24).1)
        have HRN9 := Lib.hid (HRN8.out.gb (al2 w8 #[.slice An nn cn, .slice Bn mn en] #[.int .i64 (r 0), .int .i64 (r 1), .int .i64 (r 2), .int .i64 (r 3), .int .i64 (r 4), .int .i64 (r 5)] 29 24).1)
        clear HK8 HRM8 HRN8
        generalize hW : (w8.alloc (.cells #[.slice An nn cn, .slice Bn mn en] 29)).alloc (.cells #[.int .i64 (r 0), .int .i64 (r 1), .int .i64 (r 2), .int .i64 (r 3), .int .i64 (r 4), .int .i64 (r 5)] 24) = w9 at *
        clear hW
        generalize w8.heap.size = B11 at *
        generalize B11 + 1 = B12 at *
        clear x0 x1 xl
        clear y0 y1 y2 y3 y4 y5 yl
        refine (find_rm_some HRM9.out HSM.out (r 0) p hpl hp).mono ?_
        rintro e w10 ⟨Af, cf, Bf, df, rfl, _, _, hg⟩
        have HK10 := Lib.hid (HK9.out.gb hg)
        have HRM10 := Lib.hid (HRM9.out.gb hg)
        have HRN10 := Lib.hid (HRN9.out.gb hg)
        clear HK9 HRM9 HRN9 hg
        rw [HFR.out]
        have xb := HK10.out.get 3 rfl
        have x0 : w10.cell? ⟨B9, 0, none⟩ = some (.int .i64 (r 0)) := xb.cell 0
        have x1 : w10.cell? ⟨B9, 1, none⟩ = some (.int .i64 (r 1)) := xb.cell 1
        have x2 : w10.cell? ⟨B9, 2, none⟩ = some (.int .i64 (r 2)) := xb.cell 2
        have x3 : w10.cell? ⟨B9, 3, none⟩ = some (.int .i64 (r 3)) := xb.cell 3
        have x4 : w10.cell? ⟨B9, 4, none⟩ = some (.int .i64 (r 4)) := xb.cell 4
        have x5 : w10.cell? ⟨B9, 5, none⟩ = some (.int .i64 (r 5)) := xb.cell 5
        have xl := xb.lt
        clear xb
        have yb := HK10.out.get 0 rfl
        have y0 : w10.cell? ⟨B12, 0, none⟩ = some (.int .i64 (r 0)) := yb.cell 0
        have y1 : w10.cell? ⟨B12, 1, none⟩ = some (.int .i64 (r 1)) := yb.cell 1
        have y2 : w10.cell? ⟨B12, 2, none⟩ = some (.int .i64 (r 2)) := yb.cell 2
        have y3 : w10.cell? ⟨B12, 3, none⟩ = some (.int .i64 (r 3)) := yb.cell 3
        have y4 : w10.cell? ⟨B12, 4, none⟩ = some (.int .i64 (r 4)) := yb.cell 4
        have y5 : w10.cell? ⟨B12, 5, none⟩ = some (.int .i64 (r 5)) := yb.cell 5
        have yl := yb.lt
        clear yb
        have zb := HK10.out.get 4 rfl
        have z0 : w10.cell? ⟨B8, 0, none⟩ = some (.slice Am nm cm) := zb.cell 0
        have z1 : w10.cell? ⟨B8, 1, none⟩ = some (.slice Bm mm em) := zb.cell 1
        have zl := zb.lt
        clear zb
        have ub := HK10.out.get 1 rfl
        have u0 : w10.cell? ⟨B11, 0, none⟩ = some (.slice An nn cn) := ub.cell 0
        have u1 : w10.cell? ⟨B11, 1, none⟩ = some (.slice Bn mn en) := ub.cell 1
        have ul := ub.lt
        clear ub
        have vb := HK10.out.get 2 rfl
        have v0 : w10.cell? ⟨B10, 0, none⟩ = some (.int .i64 2) := vb.cell 0
        have v1 : w10.cell? ⟨B10, 1, none⟩ = some (.int .i64 a) := vb.cell 1
        have v2 : w10.cell? ⟨B10, 2, none⟩ = some (.int .i64 b) := vb.cell 2
        have v3 : w10.cell? ⟨B10, 3, none⟩ = some (.int .i64 i) := vb.cell 3
        have v4 : w10.cell? ⟨B10, 4, none⟩ = some (.int .i64 n) := vb.cell 4
        have vl := vb.lt
        clear vb
        have heq := fun W => eq24_same r W
        simp only [rcs] at heq
        go_wp2_with fail
        go_ret
        exact ⟨rfl, below_of (grownBy_trans HK10.out.1 (World.grownBy_alloc _ _ none))⟩
      · refine HDO.out.mono ?_
        rintro e w8 ⟨An, nn, cn, Bn, mn, en, rfl, hrm, hg⟩
        have HRN8 := Lib.hid hrm
        have HK8 := Lib.hid (HK7.out.gb hg)
        have HRM8 := Lib.hid (HRM7.out.gb hg)
        clear HK7 HRM7 hg hrm HDO
        have xb := HK8.out.get 2 rfl
        have x0 : w8.cell? ⟨B8, 0, none⟩ = some (.slice Am nm cm) := xb.cell 0
        have x1 : w8.cell? ⟨B8, 1, none⟩ = some (.slice Bm mm em) := xb.cell 1
        have xl := xb.lt
        clear xb
        have yb := HK8.out.get 1 rfl
        have y0 : w8.cell? ⟨B9, 0, none⟩ = some (.int .i64 (r 0)) := yb.cell 0
        have y1 : w8.cell? ⟨B9, 1, none⟩ = some (.int .i64 (r 1)) := yb.cell 1
        have y2 : w8.cell? ⟨B9, 2, none⟩ = some (.int .i64 (r 2)) := yb.cell 2
        have y3 : w8.cell? ⟨B9, 3, none⟩ = some (.int .i64 (r 3)) := yb.cell 3
        have y4 : w8.cell? ⟨B9, 4, none⟩ = some (.int .i64 (r 4)) := yb.cell 4
        have y5 : w8.cell? ⟨B9, 5, none⟩ = some (.int .i64 (r 5)) := yb.cell 5
        have yl := yb.lt
        clear yb
        go_wp2_with fail
        have HK9 := Lib.hid (HK8.out.al2 #[.slice An nn cn, .slice Bn mn en] #[.int .i64 (r 0), .int .i64 (r 1), .int .i64 (r 2), .int .i64 (r 3), .int .i64 (r 4), .int .i64 (r 5)] 29 24)
        have HRM9 := Lib.hid (HRM8.out.gb (al2 w8 #[.slice An nn cn, .slice Bn mn en] #[.int .i64 (r 0), .int .i64 (r 1), .int .i64 (r 2), .int .i64 (r 3), .int .i64 (r 4), .int .i64 (r 5)] 29 24).1)
        have HRN9 := Lib.hid (HRN8.out.gb (al2 w8 #[.slice An nn cn, .slice Bn mn en] #[.int .i64 (r 0), .int .i64 (r 1), .int .i64 (r 2), .int .i64 (r 3), .int .i64 (r 4), .int .i64 (r 5)] 29 24).1)
        clear HK8 HRM8 HRN8
        generalize hW : (w8.alloc (.cells #[.slice An nn cn, .slice Bn mn en] 29)).alloc (.cells #[.int .i64 (r 0), .int .i64 (r 1), .int .i64 (r 2), .int .i64 (r 3), .int .i64 (r 4), .int .i64 (r 5)] 24) = w9 at *
        clear hW
        generalize w8.heap.size = B11 at *
        generalize B11 + 1 = B12 at *
        clear x0 x1 xl
        clear y0 y1 y2 y3 y4 y5 yl
        refine (find_rm_some HRM9.out HSM.out (r 0) p hpl hp).mono ?_
        rintro e w10 ⟨Af, cf, Bf, df, rfl, _, _, hg⟩
        have HK10 := Lib.hid (HK9.out.gb hg)
        have HRM10 := Lib.hid (HRM9.out.gb hg)
        have HRN10 := Lib.hid (HRN9.out.gb hg)
        clear HK9 HRM9 HRN9 hg
        rw [HFR.out]
        have xb := HK10.out.get 3 rfl
        have x0 : w10.cell? ⟨B9, 0, none⟩ = some (.int .i64 (r 0)) := xb.cell 0
        have x1 : w10.cell? ⟨B9, 1, none⟩ = some (.int .i64 (r 1)) := xb.cell 1
        have x2 : w10.cell? ⟨B9, 2, none⟩ = some (.int .i64 (r 2)) := xb.cell 2
        have x3 : w10.cell? ⟨B9, 3, none⟩ = some (.int .i64 (r 3)) := xb.cell 3
        have x4 : w10.cell? ⟨B9, 4, none⟩ = some (.int .i64 (r 4)) := xb.cell 4
        have x5 : w10.cell? ⟨B9, 5, none⟩ = some (.int .i64 (r 5)) := xb.cell 5
        have xl := xb.lt
        clear xb
        have yb := HK10.out.get 0 rfl
        have y0 : w10.cell? ⟨B12, 0, none⟩ = some (.int .i64 (r 0)) := yb.cell 0
        have y1 : w10.cell? ⟨B12, 1, none⟩ = some (.int .i64 (r 1)) := yb.cell 1
        have y2 : w10.cell? ⟨B12, 2, none⟩ = some (.int .i64 (r 2)) := yb.cell 2
        have y3 : w10.cell? ⟨B12, 3, none⟩ = some (.int .i64 (r 3)) := yb.cell 3
        have y4 : w10.cell? ⟨B12, 4, none⟩ = some (.int .i64 (r 4)) := yb.cell 4
        have y5 : w10.cell? ⟨B12, 5, none⟩ = some (.int .i64 (r 5)) := yb.cell 5
        have yl := yb.lt
        clear yb
        have zb := HK10.out.get 4 rfl
        have z0 : w10.cell? ⟨B8, 0, none⟩ = some (.slice Am nm cm) := zb.cell 0
        have z1 : w10.cell? ⟨B8, 1, none⟩ = some (.slice Bm mm em) := zb.cell 1
        have zl := zb.lt
        clear zb
        have ub := HK10.out.get 1 rfl
        have u0 : w10.cell? ⟨B11, 0, none⟩ = some (.slice An nn cn) := ub.cell 0
        have u1 : w10.cell? ⟨B11, 1, none⟩ = some (.slice Bn mn en) := ub.cell 1
        have ul := ub.lt
        clear ub
        have vb := HK10.out.get 2 rfl
        have v0 : w10.cell? ⟨B10, 0, none⟩ = some (.int .i64 3) := vb.cell 0
        have v1 : w10.cell? ⟨B10, 1, none⟩ = some (.int .i64 a) := vb.cell 1
        have v2 : w10.cell? ⟨B10, 2, none⟩ = some (.int .i64 b) := vb.cell 2
        have v3 : w10.cell? ⟨B10, 3, none⟩ = some (.int .i64 i) := vb.cell 3
        have v4 : w10.cell? ⟨B10, 4, none⟩ = some (.int .i64 n) := vb.cell 4
        have vl := vb.lt
        clear vb
        have heq := fun W => eq24_same r W
        simp only [rcs] at heq
        go_wp2_with fail
        go_ret
        exact ⟨rfl, below_of (grownBy_trans HK10.out.1 (World.grownBy_alloc _ _ none))⟩
      · refine HDO.out.mono ?_
        rintro e w8 ⟨An, nn, cn, Bn, mn, en, rfl, hrm, hg⟩
        have HRN8 := Lib.hid hrm
        have HK8 := Lib.hid (HK7.out.gb hg)
        have HRM8 := Lib.hid (HRM7.out.gb hg)
        clear HK7 HRM7 hg hrm HDO
        have xb := HK8.out.get 2 rfl
        have x0 : w8.cell? ⟨B8, 0, none⟩ = some (.slice Am nm cm) := xb.cell 0
        have x1 : w8.cell? ⟨B8, 1, none⟩ = some (.slice Bm mm em) := xb.cell 1
        have xl := xb.lt
        clear xb
        have yb := HK8.out.get 1 rfl
        have y0 : w8.cell? ⟨B9, 0, none⟩ = some (.int .i64 (r 0)) := yb.cell 0
        have y1 : w8.cell? ⟨B9, 1, none⟩ = some (.int .i64 (r 1)) := yb.cell 1
        have y2 : w8.cell? ⟨B9, 2, none⟩ = some (.int .i64 (r 2)) := yb.cell 2
        have y3 : w8.cell? ⟨B9, 3, none⟩ = some (.int .i64 (r 3)) := yb.cell 3
        have y4 : w8.cell? ⟨B9, 4, none⟩ = some (.int .i64 (r 4)) := yb.cell 4
        have y5 : w8.cell? ⟨B9, 5, none⟩ = some (.int .i64 (r 5)) := yb.cell 5
        have yl := yb.lt
        clear yb
        go_wp2_with fail
        have HK9 := Lib.hid (HK8.out.al2 #[.slice An nn cn, .slice Bn mn en] #[.int .i64 (r 0), .int .i64 (r 1), .int .i64 (r 2), .int .i64 (r 3), .int .i64 (r 4), .int .i64 (r 5)] 29 24)
        have HRM9 := Lib.hid (HRM8.out.gb (al2 w8 #[.slice An nn cn, .slice Bn mn en] #[.int .i64 (r 0), .int .i64 (r 1), .int .i64 (r 2), .int .i64 (r 3), .int .i64 (r 4), .int .i64 (r 5)] 29 24).1)
        have HRN9 := Lib.hid (HRN8.out.gb (al2 w8 #[.slice An nn cn, .slice Bn mn en] #[.int .i64 (r 0), .int .i64 (r 1), .int .i64 (r 2), .int .i64 (r 3), .int .i64 (r 4), .int .i64 (r 5)] 29 24).1)
        clear HK8 HRM8 HRN8
        generalize hW : (w8.alloc (.cells #[.slice An nn cn, .slice Bn mn en] 29)).alloc (.cells #[.int .i64 (r 0), .int .i64 (r 1), .int .i64 (r 2), .int .i64 (r 3), .int .i64 (r 4), .int .i64 (r 5)] 24) = w9 at *
        clear hW
        generalize w8.heap.size = B11 at *
        generalize B11 + 1 = B12 at *
        clear x0 x1 xl
        clear y0 y1 y2 y3 y4 y5 yl
        refine (find_rm_some HRM9.out HSM.out (r 0) p hpl hp).mono ?_
        rintro e w10 ⟨Af, cf, Bf, df, rfl, _, _, hg⟩
        have HK10 := Lib.hid (HK9.out.gb hg)
        have HRM10 := Lib.hid (HRM9.out.gb hg)
        have HRN10 := Lib.hid (HRN9.out.gb hg)
        clear HK9 HRM9 HRN9 hg
        rw [HFR.out]
        have xb := HK10.out.get 3 rfl
        have x0 : w10.cell? ⟨B9, 0, none⟩ = some (.int .i64 (r 0)) := xb.cell 0
        have x1 : w10.cell? ⟨B9, 1, none⟩ = some (.int .i64 (r 1)) := xb.cell 1
        have x2 : w10.cell? ⟨B9, 2, none⟩ = some (.int .i64 (r 2)) := xb.cell 2
        have x3 : w10.cell? ⟨B9, 3, none⟩ = some (.int .i64 (r 3)) := xb.cell 3
        have x4 : w10.cell? ⟨B9, 4, none⟩ = some (.int .i64 (r 4)) := xb.cell 4
        have x5 : w10.cell? ⟨B9, 5, none⟩ = some (.int .i64 (r 5)) := xb.cell 5
        have xl := xb.lt
        clear xb
        have yb := HK10.out.get 0 rfl
        have y0 : w10.cell? ⟨B12, 0, none⟩ = some (.int .i64 (r 0)) := yb.cell 0
        have y1 : w10.cell? ⟨B12, 1, none⟩ = some (.int .i64 (r 1)) := yb.cell 1
        have y2 : w10.cell? ⟨B12, 2, none⟩ = some (.int .i64 (r 2)) := yb.cell 2
        have y3 : w10.cell? ⟨B12, 3, none⟩ = some (.int .i64 (r 3)) := yb.cell 3
        have y4 : w10.cell? ⟨B12, 4, none⟩ = some (.int .i64 (r 4)) := yb.cell 4
        have y5 : w10.cell? ⟨B12, 5, none⟩ = some (.int .i64 (r 5)) := yb.cell 5
        have yl := yb.lt
        clear yb
        have zb := HK10.out.get 4 rfl
        have z0 : w10.cell? ⟨B8, 0, none⟩ = some (.slice Am nm cm) := zb.cell 0
        have z1 : w10.cell? ⟨B8, 1, none⟩ = some (.slice Bm mm em) := zb.cell 1
        have zl := zb.lt
        clear zb
        have ub := HK10.out.get 1 rfl
        have u0 : w10.cell? ⟨B11, 0, none⟩ = some (.slice An nn cn) := ub.cell 0
        have u1 : w10.cell? ⟨B11, 1, none⟩ = some (.slice Bn mn en) := ub.cell 1
        have ul := ub.lt
        clear ub
        have vb := HK10.out.get 2 rfl
        have v0 : w10.cell? ⟨B10, 0, none⟩ = some (.int .i64 4) := vb.cell 0
        have v1 : w10.cell? ⟨B10, 1, none⟩ = some (.int .i64 a) := vb.cell 1
        have v2 : w10.cell? ⟨B10, 2, none⟩ = some (.int .i64 b) := vb.cell 2
        have v3 : w10.cell? ⟨B10, 3, none⟩ = some (.int .i64 i) := vb.cell 3
        have v4 : w10.cell? ⟨B10, 4, none⟩ = some (.int .i64 n) := vb.cell 4
        have vl := vb.lt
        clear vb
        have heq := fun W => eq24_same r W
        simp only [rcs] at heq
        go_wp2_with fail
        have HK11 := Lib.hid (HK10.out.al1 #[.int .i64 O[p].s, .int .i64 O[p].sp, .int .i64 O[p].sd, .bool O[p].sw, .bool O[p].sf, .slice Af O[p].ps.length cf, .slice Bf O[p].ns.length df, .bool false] 41)
        have HRM11 := Lib.hid (HRM10.out.gb (al1 w10 #[.int .i64 O[p].s, .int .i64 O[p].sp, .int .i64 O[p].sd, .bool O[p].sw, .bool O[p].sf, .slice Af O[p].ps.length cf, .slice Bf O[p].ns.length df, .bool false] 41).1)
        have HRN11 := Lib.hid (HRN10.out.gb (al1 w10 #[.int .i64 O[p].s, .int .i64 O[p].sp, .int .i64 O[p].sd, .bool O[p].sw, .bool O[p].sf, .slice Af O[p].ps.length cf, .slice Bf O[p].ns.length df, .bool false] 41).1)
        clear HK10 HRM10 HRN10
        generalize hW : w10.alloc (.cells #[.int .i64 O[p].s, .int .i64 O[p].sp, .int .i64 O[p].sd, .bool O[p].sw, .bool O[p].sf, .slice Af O[p].ps.length cf, .slice Bf O[p].ns.length df, .bool false] 41) = w11 at *
        clear hW
        generalize w10.heap.size = B15 at *
        clear x0 x1 x2 x3 x4 x5 xl
        clear y0 y1 y2 y3 y4 y5 yl
        clear z0 z1 zl
        clear u0 u1 ul
        clear v0 v1 v2 v3 v4 vl
        have HD1 := Lib.hid (do_all HRM11.out HSM.out r 4 a b i n 0 9 (by omega) (by omega) ha6 hb6 hi0 HRT.out)
        have HD2 := fun W hh => do_all (w := W) (v := .agg #[.slice An nn cn, .slice Bn mn en]) (Q := Q) hh HSM2.out r 4 a b i n 0 9 (by omega) (by omega) ha6 hb6 hi0 HRT.out
        have HD2 := Lib.hid HD2
        obtain ⟨f, hf⟩ : ∃ f, flt O r 4 a b i 0 = f := ⟨_, rfl⟩
        obtain ⟨v, hv⟩ : ∃ v, dV O Q r 4 a b i n 0 9 = v := ⟨_, rfl⟩
        rw [hf, hv] at HD1
        have HLS := Lib.hid (fun h => law_same (O := O) (Q := Q) (r := r) (k := 4) (a := a) (b := b) (i := i) (n := n) (by omega) (by omega) hpl ht h)
        have HLE := Lib.hid (fun h => law_else (O := O) (Q := Q) (r := r) (k := 4) (a := a) (b := b) (i := i) (n := n) (by omega) (by omega) hpl ht h)
        have hat : r (tg 4 a b) = r b := rfl
        rw [hat] at HLS HLE
        rw [hf, hv] at HLE
        clear hf hv hat heq
        refine HD1.out.mono ?_
        rintro e w12 ⟨A1, n1, c1, A2, n2, c2, rfl, _, hg⟩
        have HK12 := Lib.hid (HK11.out.gb hg)
        have HRN12 := Lib.hid (HRN11.out.gb hg)
        clear HK11 HRN11 HRM11 HD1 hg
        generalize dR O Q r 4 a b i n 0 9 = r1 at *
        have xb := HK12.out.get 4 rfl
        have x0 : w12.cell? ⟨B9, 0, none⟩ = some (.int .i64 (r 0)) := xb.cell 0
        have x1 : w12.cell? ⟨B9, 1, none⟩ = some (.int .i64 (r 1)) := xb.cell 1
        have x2 : w12.cell? ⟨B9, 2, none⟩ = some (.int .i64 (r 2)) := xb.cell 2
        have x3 : w12.cell? ⟨B9, 3, none⟩ = some (.int .i64 (r 3)) := xb.cell 3
        have x4 : w12.cell? ⟨B9, 4, none⟩ = some (.int .i64 (r 4)) := xb.cell 4
        have x5 : w12.cell? ⟨B9, 5, none⟩ = some (.int .i64 (r 5)) := xb.cell 5
        have xl := xb.lt
        clear xb
        have ub := HK12.out.get 2 rfl
        have u0 : w12.cell? ⟨B11, 0, none⟩ = some (.slice An nn cn) := ub.cell 0
        have u1 : w12.cell? ⟨B11, 1, none⟩ = some (.slice Bn mn en) := ub.cell 1
        have ul := ub.lt
        clear ub
        have vb := HK12.out.get 3 rfl
        have v0 : w12.cell? ⟨B10, 0, none⟩ = some (.int .i64 4) := vb.cell 0
        have v1 : w12.cell? ⟨B10, 1, none⟩ = some (.int .i64 a) := vb.cell 1
        have v2 : w12.cell? ⟨B10, 2, none⟩ = some (.int .i64 b) := vb.cell 2
        have v3 : w12.cell? ⟨B10, 3, none⟩ = some (.int .i64 i) := vb.cell 3
        have v4 : w12.cell? ⟨B10, 4, none⟩ = some (.int .i64 n) := vb.cell 4
        have vl := vb.lt
        clear vb
        go_wp2_with fail
        have HK13 := Lib.hid (HK12.out.al2 #[.slice A1 n1 c1, .slice A2 n2 c2] #[.int .i64 (r1 0), .int .i64 (r1 1), .int .i64 (r1 2), .int .i64 (r1 3), .int .i64 (r1 4), .int .i64 (r1 5)] 29 24)
        have HRN13 := Lib.hid (HRN12.out.gb (al2 w12 #[.slice A1 n1 c1, .slice A2 n2 c2] #[.int .i64 (r1 0), .int .i64 (r1 1), .int .i64 (r1 2), .int .i64 (r1 3), .int .i64 (r1 4), .int .i64 (r1 5)] 29 24).1)
        clear HK12 HRN12
        generalize hW : (w12.alloc (.cells #[.slice A1 n1 c1, .slice A2 n2 c2] 29)).alloc (.cells #[.int .i64 (r1 0), .int .i64 (r1 1), .int .i64 (r1 2), .int .i64 (r1 3), .int .i64 (r1 4), .int .i64 (r1 5)] 24) = w13 at *
        clear hW
        generalize w12.heap.size = B18 at *
        clear x0 x1 x2 x3 x4 x5 xl
        clear u0 u1 ul
        clear v0 v1 v2 v3 v4 vl
        refine (HD2.out _ HRN13.out).mono ?_
        rintro e w14 ⟨A3, n3, c3, A4, n4, c4, rfl, _, hg⟩
        have HK14 := Lib.hid (HK13.out.gb hg)
        clear HK13 HRN13 HD2 hg
        generalize dR (O.set p { O.getD p ob0 with fr := true }) Q r 4 a b i n 0 9 = r2 at *
        have at0 : (0 : Int) ≤ (b : Int) := by omega
        have at6 : (b : Int) < 6 := by omega
        by_cases hs : r b = r 0
        · rw [(HLS.out hs).1, (HLS.out hs).2]
          go_wp2_with fail
          have HK15 := Lib.hid (HK14.out.al2 #[.slice A3 n3 c3, .slice A4 n4 c4] #[.int .i64 (r2 0), .int .i64 (r2 1), .int .i64 (r2 2), .int .i64 (r2 3), .int .i64 (r2 4), .int .i64 (r2 5)] 29 24)
          clear HK14
          generalize hW : (w14.alloc (.cells #[.slice A3 n3 c3, .slice A4 n4 c4] 29)).alloc (.cells #[.int .i64 (r2 0), .int .i64 (r2 1), .int .i64 (r2 2), .int .i64 (r2 3), .int .i64 (r2 4), .int .i64 (r2 5)] 24) = w15 at *
          clear hW
          generalize w14.heap.size = B22 at *
          have HG := Lib.hid (fun q => below_of (HK15.out.gb (gb_drewN w15 q none)).1)
          have HX := Lib.hid (HK15.out.get 8 rfl)
          clear HK15
          have hx := HX.out.cell 0
          have hy : w15.cell? ⟨B9, b, none⟩ = some (.int .i64 (r 0)) := by rw [← hs, HX.out.cell]; exact rcs_get r b hb6
          simp only [List.getElem?_toArray, List.getElem?_cons_zero] at hx
          clear hs HLS HLE
          go_quiet (fail)
          go_wp2_with fail
          go_ret
          exact ⟨rfl, HG.out _⟩
        · rw [(HLE.out hs).1, (HLE.out hs).2]
          go_wp2_with fail
          have HK15 := Lib.hid (HK14.out.al2 #[.slice A3 n3 c3, .slice A4 n4 c4] #[.int .i64 (r2 0), .int .i64 (r2 1), .int .i64 (r2 2), .int .i64 (r2 3), .int .i64 (r2 4), .int .i64 (r2 5)] 29 24)
          clear HK14
          generalize hW : (w14.alloc (.cells #[.slice A3 n3 c3, .slice A4 n4 c4] 29)).alloc (.cells #[.int .i64 (r2 0), .int .i64 (r2 1), .int .i64 (r2 2), .int .i64 (r2 3), .int .i64 (r2 4), .int .i64 (r2 5)] 24) = w15 at *
          clear hW
          generalize w14.heap.size = B22 at *
          have HG := Lib.hid (fun q => below_of (HK15.out.gb (gb_drewN w15 q none)).1)
          have HX := Lib.hid (HK15.out.get 8 rfl)
          clear HK15
          have hx := HX.out.cell 0
          have hy : w15.cell? ⟨B9, b, none⟩ = some (.int .i64 (r b)) := by rw [HX.out.cell]; exact rcs_get r b hb6
          have hne : (r b == r 0) = false := by rw [beq_eq_false_iff_ne]; exact hs
          simp only [List.getElem?_toArray, List.getElem?_cons_zero] at hx
          clear hs HLS HLE
          generalize r b = s1 at *
          go_quiet (fail)
          go_wp2_with fail
          go_ret
          exact ⟨rfl, HG.out _⟩
      · refine HDO.out.mono ?_
        rintro e w8 ⟨An, nn, cn, Bn, mn, en, rfl, hrm, hg⟩
        have HRN8 := Lib.hid hrm
        have HK8 := Lib.hid (HK7.out.gb hg)
        have HRM8 := Lib.hid (HRM7.out.gb hg)
        clear HK7 HRM7 hg hrm HDO
        have xb := HK8.out.get 2 rfl
        have x0 : w8.cell? ⟨B8, 0, none⟩ = some (.slice Am nm cm) := xb.cell 0
        have x1 : w8.cell? ⟨B8, 1, none⟩ = some (.slice Bm mm em) := xb.cell 1
        have xl := xb.lt
        clear xb
        have yb := HK8.out.get 1 rfl
        have y0 : w8.cell? ⟨B9, 0, none⟩ = some (.int .i64 (r 0)) := yb.cell 0
        have y1 : w8.cell? ⟨B9, 1, none⟩ = some (.int .i64 (r 1)) := yb.cell 1
        have y2 : w8.cell? ⟨B9, 2, none⟩ = some (.int .i64 (r 2)) := yb.cell 2
        have y3 : w8.cell? ⟨B9, 3, none⟩ = some (.int .i64 (r 3)) := yb.cell 3
        have y4 : w8.cell? ⟨B9, 4, none⟩ = some (.int .i64 (r 4)) := yb.cell 4
        have y5 : w8.cell? ⟨B9, 5, none⟩ = some (.int .i64 (r 5)) := yb.cell 5
        have yl := yb.lt
        clear yb
        go_wp2_with fail
        have HK9 := Lib.hid (HK8.out.al2 #[.slice An nn cn, .slice Bn mn en] #[.int .i64 (r 0), .int .i64 (r 1), .int .i64 (r 2), .int .i64 (r 3), .int .i64 (r 4), .int .i64 (r 5)] 29 24)
        have HRM9 := Lib.hid (HRM8.out.gb (al2 w8 #[.slice An nn cn, .slice Bn mn en] #[.int .i64 (r 0), .int .i64 (r 1), .int .i64 (r 2), .int .i64 (r 3), .int .i64 (r 4), .int .i64 (r 5)] 29 24).1)
        have HRN9 := Lib.hid (HRN8.out.gb (al2 w8 #[.slice An nn cn, .slice Bn mn en] #[.int .i64 (r 0), .int .i64 (r 1), .int .i64 (r 2), .int .i64 (r 3), .int .i64 (r 4), .int .i64 (r 5)] 29 24).1)
        clear HK8 HRM8 HRN8
        generalize hW : (w8.alloc (.cells #[.slice An nn cn, .slice Bn mn en] 29)).alloc (.cells #[.int .i64 (r 0), .int .i64 (r 1), .int .i64 (r 2), .int .i64 (r 3), .int .i64 (r 4), .int .i64 (r 5)] 24) = w9 at *
        clear hW
        generalize w8.heap.size = B11 at *
        generalize B11 + 1 = B12 at *
        clear x0 x1 xl
        clear y0 y1 y2 y3 y4 y5 yl
        refine (find_rm_some HRM9.out HSM.out (r 0) p hpl hp).mono ?_
        rintro e w10 ⟨Af, cf, Bf, df, rfl, _, _, hg⟩
        have HK10 := Lib.hid (HK9.out.gb hg)
        have HRM10 := Lib.hid (HRM9.out.gb hg)
        have HRN10 := Lib.hid (HRN9.out.gb hg)
        clear HK9 HRM9 HRN9 hg
        rw [HFR.out]
        have xb := HK10.out.get 3 rfl
        have x0 : w10.cell? ⟨B9, 0, none⟩ = some (.int .i64 (r 0)) := xb.cell 0
        have x1 : w10.cell? ⟨B9, 1, none⟩ = some (.int .i64 (r 1)) := xb.cell 1
        have x2 : w10.cell? ⟨B9, 2, none⟩ = some (.int .i64 (r 2)) := xb.cell 2
        have x3 : w10.cell? ⟨B9, 3, none⟩ = some (.int .i64 (r 3)) := xb.cell 3
        have x4 : w10.cell? ⟨B9, 4, none⟩ = some (.int .i64 (r 4)) := xb.cell 4
        have x5 : w10.cell? ⟨B9, 5, none⟩ = some (.int .i64 (r 5)) := xb.cell 5
        have xl := xb.lt
        clear xb
        have yb := HK10.out.get 0 rfl
        have y0 : w10.cell? ⟨B12, 0, none⟩ = some (.int .i64 (r 0)) := yb.cell 0
        have y1 : w10.cell? ⟨B12, 1, none⟩ = some (.int .i64 (r 1)) := yb.cell 1
        have y2 : w10.cell? ⟨B12, 2, none⟩ = some (.int .i64 (r 2)) := yb.cell 2
        have y3 : w10.cell? ⟨B12, 3, none⟩ = some (.int .i64 (r 3)) := yb.cell 3
        have y4 : w10.cell? ⟨B12, 4, none⟩ = some (.int .i64 (r 4)) := yb.cell 4
        have y5 : w10.cell? ⟨B12, 5, none⟩ = some (.int .i64 (r 5)) := yb.cell 5
        have yl := yb.lt
        clear yb
        have zb := HK10.out.get 4 rfl
        have z0 : w10.cell? ⟨B8, 0, none⟩ = some (.slice Am nm cm) := zb.cell 0
        have z1 : w10.cell? ⟨B8, 1, none⟩ = some (.slice Bm mm em) := zb.cell 1
        have zl := zb.lt
        clear zb
        have ub := HK10.out.get 1 rfl
        have u0 : w10.cell? ⟨B11, 0, none⟩ = some (.slice An nn cn) := ub.cell 0
        have u1 : w10.cell? ⟨B11, 1, none⟩ = some (.slice Bn mn en) := ub.cell 1
        have ul := ub.lt
        clear ub
        have vb := HK10.out.get 2 rfl
        have v0 : w10.cell? ⟨B10, 0, none⟩ = some (.int .i64 5) := vb.cell 0
        have v1 : w10.cell? ⟨B10, 1, none⟩ = some (.int .i64 a) := vb.cell 1
        have v2 : w10.cell? ⟨B10, 2, none⟩ = some (.int .i64 b) := vb.cell 2
        have v3 : w10.cell? ⟨B10, 3, none⟩ = some (.int .i64 i) := vb.cell 3
        have v4 : w10.cell? ⟨B10, 4, none⟩ = some (.int .i64 n) := vb.cell 4
        have vl := vb.lt
        clear vb
        have heq := fun W => eq24_same r W
        simp only [rcs] at heq
        go_wp2_with fail
        have HK11 := Lib.hid (HK10.out.al1 #[.int .i64 O[p].s, .int .i64 O[p].sp, .int .i64 O[p].sd, .bool O[p].sw, .bool O[p].sf, .slice Af O[p].ps.length cf, .slice Bf O[p].ns.length df, .bool false] 41)
        have HRM11 := Lib.hid (HRM10.out.gb (al1 w10 #[.int .i64 O[p].s, .int .i64 O[p].sp, .int .i64 O[p].sd, .bool O[p].sw, .bool O[p].sf, .slice Af O[p].ps.length cf, .slice Bf O[p].ns.length df, .bool false] 41).1)
        have HRN11 := Lib.hid (HRN10.out.gb (al1 w10 #[.int .i64 O[p].s, .int .i64 O[p].sp, .int .i64 O[p].sd, .bool O[p].sw, .bool O[p].sf, .slice Af O[p].ps.length cf, .slice Bf O[p].ns.length df, .bool false] 41).1)
        clear HK10 HRM10 HRN10
        generalize hW : w10.alloc (.cells #[.int .i64 O[p].s, .int .i64 O[p].sp, .int .i64 O[p].sd, .bool O[p].sw, .bool O[p].sf, .slice Af O[p].ps.length cf, .slice Bf O[p].ns.length df, .bool false] 41) = w11 at *
        clear hW
        generalize w10.heap.size = B15 at *
        clear x0 x1 x2 x3 x4 x5 xl
        clear y0 y1 y2 y3 y4 y5 yl
        clear z0 z1 zl
        clear u0 u1 ul
        clear v0 v1 v2 v3 v4 vl
        have HD1 := Lib.hid (do_all HRM11.out HSM.out r 5 a b i n 0 9 (by omega) (by omega) ha6 hb6 hi0 HRT.out)
        have HD2 := fun W hh => do_all (w := W) (v := .agg #[.slice An nn cn, .slice Bn mn en]) (Q := Q) hh HSM2.out r 5 a b i n 0 9 (by omega) (by omega) ha6 hb6 hi0 HRT.out
        have HD2 := Lib.hid HD2
        obtain ⟨f, hf⟩ : ∃ f, flt O r 5 a b i 0 = f := ⟨_, rfl⟩
        obtain ⟨v, hv⟩ : ∃ v, dV O Q r 5 a b i n 0 9 = v := ⟨_, rfl⟩
        rw [hf, hv] at HD1
        have HLS := Lib.hid (fun h => law_same (O := O) (Q := Q) (r := r) (k := 5) (a := a) (b := b) (i := i) (n := n) (by omega) (by omega) hpl ht h)
        have HLE := Lib.hid (fun h => law_else (O := O) (Q := Q) (r := r) (k := 5) (a := a) (b := b) (i := i) (n := n) (by omega) (by omega) hpl ht h)
        have hat : r (tg 5 a b) = r a := rfl
        rw [hat] at HLS HLE
        rw [hf, hv] at HLE
        clear hf hv hat heq
        refine HD1.out.mono ?_
        rintro e w12 ⟨A1, n1, c1, A2, n2, c2, rfl, _, hg⟩
        have HK12 := Lib.hid (HK11.out.gb hg)
        have HRN12 := Lib.hid (HRN11.out.gb hg)
        clear HK11 HRN11 HRM11 HD1 hg
        generalize dR O Q r 5 a b i n 0 9 = r1 at *
        have xb := HK12.out.get 4 rfl
        have x0 : w12.cell? ⟨B9, 0, none⟩ = some (.int .i64 (r 0)) := xb.cell 0
        have x1 : w12.cell? ⟨B9, 1, none⟩ = some (.int .i64 (r 1)) := xb.cell 1
        have x2 : w12.cell? ⟨B9, 2, none⟩ = some (.int .i64 (r 2)) := xb.cell 2
        have x3 : w12.cell? ⟨B9, 3, none⟩ = some (.int .i64 (r 3)) := xb.cell 3
        have x4 : w12.cell? ⟨B9, 4, none⟩ = some (.int .i64 (r 4)) := xb.cell 4
        have x5 : w12.cell? ⟨B9, 5, none⟩ = some (.int .i64 (r 5)) := xb.cell 5
        have xl := xb.lt
        clear xb
        have ub := HK12.out.get 2 rfl
        have u0 : w12.cell? ⟨B11, 0, none⟩ = some (.slice An nn cn) := ub.cell 0
        have u1 : w12.cell? ⟨B11, 1, none⟩ = some (.slice Bn mn en) := ub.cell 1
        have ul := ub.lt
        clear ub
        have vb := HK12.out.get 3 rfl
        have v0 : w12.cell? ⟨B10, 0, none⟩ = some (.int .i64 5) := vb.cell 0
        have v1 : w12.cell? ⟨B10, 1, none⟩ = some (.int .i64 a) := vb.cell 1
        have v2 : w12.cell? ⟨B10, 2, none⟩ = some (.int .i64 b) := vb.cell 2
        have v3 : w12.cell? ⟨B10, 3, none⟩ = some (.int .i64 i) := vb.cell 3
        have v4 : w12.cell? ⟨B10, 4, none⟩ = some (.int .i64 n) := vb.cell 4
        have vl := vb.lt
        clear vb
        go_wp2_with fail
        have HK13 := Lib.hid (HK12.out.al2 #[.slice A1 n1 c1, .slice A2 n2 c2] #[.int .i64 (r1 0), .int .i64 (r1 1), .int .i64 (r1 2), .int .i64 (r1 3), .int .i64 (r1 4), .int .i64 (r1 5)] 29 24)
        have HRN13 := Lib.hid (HRN12.out.gb (al2 w12 #[.slice A1 n1 c1, .slice A2 n2 c2] #[.int .i64 (r1 0), .int .i64 (r1 1), .int .i64 (r1 2), .int .i64 (r1 3), .int .i64 (r1 4), .int .i64 (r1 5)] 29 24).1)
        clear HK12 HRN12
        generalize hW : (w12.alloc (.cells #[.slice A1 n1 c1, .slice A2 n2 c2] 29)).alloc (.cells #[.int .i64 (r1 0), .int .i64 (r1 1), .int .i64 (r1 2), .int .i64 (r1 3), .int .i64 (r1 4), .int .i64 (r1 5)] 24) = w13 at *
        clear hW
        generalize w12.heap.size = B18 at *
        clear x0 x1 x2 x3 x4 x5 xl
        clear u0 u1 ul
        clear v0 v1 v2 v3 v4 vl
        refine (HD2.out _ HRN13.out).mono ?_
        rintro e w14 ⟨A3, n3, c3, A4, n4, c4, rfl, _, hg⟩
        have HK14 := Lib.hid (HK13.out.gb hg)
        clear HK13 HRN13 HD2 hg
        generalize dR (O.set p { O.getD p ob0 with fr := true }) Q r 5 a b i n 0 9 = r2 at *
        have at0 : (0 : Int) ≤ (a : Int) := by omega
        have at6 : (a : Int) < 6 := by omega
        by_cases hs : r a = r 0
        · rw [(HLS.out hs).1, (HLS.out hs).2]
          go_wp2_with fail
          have HK15 := Lib.hid (HK14.out.al2 #[.slice A3 n3 c3, .slice A4 n4 c4] #[.int .i64 (r2 0), .int .i64 (r2 1), .int .i64 (r2 2), .int .i64 (r2 3), .int .i64 (r2 4), .int .i64 (r2 5)] 29 24)
          clear HK14
          generalize hW : (w14.alloc (.cells #[.slice A3 n3 c3, .slice A4 n4 c4] 29)).alloc (.cells #[.int .i64 (r2 0), .int .i64 (r2 1), .int .i64 (r2 2), .int .i64 (r2 3), .int .i64 (r2 4), .int .i64 (r2 5)] 24) = w15 at *
          clear hW
          generalize w14.heap.size = B22 at *
          have HG := Lib.hid (fun q => below_of (HK15.out.gb (gb_drewN w15 q none)).1)
          have HX := Lib.hid (HK15.out.get 8 rfl)
          clear HK15
          have hx := HX.out.cell 0
          have hy : w15.cell? ⟨B9, a, none⟩ = some (.int .i64 (r 0)) := by rw [← hs, HX.out.cell]; exact rcs_get r a ha6
          simp only [List.getElem?_toArray, List.getElem?_cons_zero] at hx
          clear hs HLS HLE
          go_quiet (fail)
          go_wp2_with fail
          go_ret
          exact ⟨rfl, HG.out _⟩
        · rw [(HLE.out hs).1, (HLE.out hs).2]
          go_wp2_with fail
          have HK15 := Lib.hid (HK14.out.al2 #[.slice A3 n3 c3, .slice A4 n4 c4] #[.int .i64 (r2 0), .int .i64 (r2 1), .int .i64 (r2 2), .int .i64 (r2 3), .int .i64 (r2 4), .int .i64 (r2 5)] 29 24)
          clear HK14
          generalize hW : (w14.alloc (.cells #[.slice A3 n3 c3, .slice A4 n4 c4] 29)).alloc (.cells #[.int .i64 (r2 0), .int .i64 (r2 1), .int .i64 (r2 2), .int .i64 (r2 3), .int .i64 (r2 4), .int .i64 (r2 5)] 24) = w15 at *
          clear hW
          generalize w14.heap.size = B22 at *
          have HG := Lib.hid (fun q => below_of (HK15.out.gb (gb_drewN w15 q none)).1)
          have HX := Lib.hid (HK15.out.get 8 rfl)
          clear HK15
          have hx := HX.out.cell 0
          have hy : w15.cell? ⟨B9, a, none⟩ = some (.int .i64 (r a)) := by rw [HX.out.cell]; exact rcs_get r a ha6
          have hne : (r a == r 0) = false := by rw [beq_eq_false_iff_ne]; exact hs
          simp only [List.getElem?_toArray, List.getElem?_cons_zero] at hx
          clear hs HLS HLE
          generalize r a = s1 at *
          go_quiet (fail)
          go_wp2_with fail
          go_ret
          exact ⟨rfl, HG.out _⟩
      · refine HDO.out.mono ?_
        rintro e w8 ⟨An, nn, cn, Bn, mn, en, rfl, hrm, hg⟩
        have HRN8 := Lib.hid hrm
        have HK8 := Lib.hid (HK7.out.gb hg)
        have HRM8 := Lib.hid (HRM7.out.gb hg)
        clear HK7 HRM7 hg hrm HDO
        have xb := HK8.out.get 2 rfl
        have x0 : w8.cell? ⟨B8, 0, none⟩ = some (.slice Am nm cm) := xb.cell 0
        have x1 : w8.cell? ⟨B8, 1, none⟩ = some (.slice Bm mm em) := xb.cell 1
        have xl := xb.lt
        clear xb
        have yb := HK8.out.get 1 rfl
        have y0 : w8.cell? ⟨B9, 0, none⟩ = some (.int .i64 (r 0)) := yb.cell 0
        have y1 : w8.cell? ⟨B9, 1, none⟩ = some (.int .i64 (r 1)) := yb.cell 1
        have y2 : w8.cell? ⟨B9, 2, none⟩ = some (.int .i64 (r 2)) := yb.cell 2
        have y3 : w8.cell? ⟨B9, 3, none⟩ = some (.int .i64 (r 3)) := yb.cell 3
        have y4 : w8.cell? ⟨B9, 4, none⟩ = some (.int .i64 (r 4)) := yb.cell 4
        have y5 : w8.cell? ⟨B9, 5, none⟩ = some (.int .i64 (r 5)) := yb.cell 5
        have yl := yb.lt
        clear yb
        go_wp2_with fail
        have HK9 := Lib.hid (HK8.out.al2 #[.slice An nn cn, .slice Bn mn en] #[.int .i64 (r 0), .int .i64 (r 1), .int .i64 (r 2), .int .i64 (r 3), .int .i64 (r 4), .int .i64 (r 5)] 29 24)
        have HRM9 := Lib.hid (HRM8.out.gb (al2 w8 #[.slice An nn cn, .slice Bn mn en] #[.int .i64 (r 0), .int .i64 (r 1), .int .i64 (r 2), .int .i64 (r 3), .int .i64 (r 4), .int .i64 (r 5)] 29 24).1)
        have HRN9 := Lib.hid (HRN8.out.gb (al2 w8 #[.slice An nn cn, .slice Bn mn en] #[.int .i64 (r 0), .int .i64 (r 1), .int .i64 (r 2), .int .i64 (r 3), .int .i64 (r 4), .int .i64 (r 5)] 29 24).1)
        clear HK8 HRM8 HRN8
        generalize hW : (w8.alloc (.cells #[.slice An nn cn, .slice Bn mn en] 29)).alloc (.cells #[.int .i64 (r 0), .int .i64 (r 1), .int .i64 (r 2), .int .i64 (r 3), .int .i64 (r 4), .int .i64 (r 5)] 24) = w9 at *
        clear hW
        generalize w8.heap.size = B11 at *
        generalize B11 + 1 = B12 at *
        clear x0 x1 xl
        clear y0 y1 y2 y3 y4 y5 yl
        refine (find_rm_some HRM9.out HSM.out (r 0) p hpl hp).mono ?_
        rintro e w10 ⟨Af, cf, Bf, df, rfl, _, _, hg⟩
        have HK10 := Lib.hid (HK9.out.gb hg)
        have HRM10 := Lib.hid (HRM9.out.gb hg)
        have HRN10 := Lib.hid (HRN9.out.gb hg)
        clear HK9 HRM9 HRN9 hg
        rw [HFR.out]
        have xb := HK10.out.get 3 rfl
        have x0 : w10.cell? ⟨B9, 0, none⟩ = some (.int .i64 (r 0)) := xb.cell 0
        have x1 : w10.cell? ⟨B9, 1, none⟩ = some (.int .i64 (r 1)) := xb.cell 1
        have x2 : w10.cell? ⟨B9, 2, none⟩ = some (.int .i64 (r 2)) := xb.cell 2
        have x3 : w10.cell? ⟨B9, 3, none⟩ = some (.int .i64 (r 3)) := xb.cell 3
        have x4 : w10.cell? ⟨B9, 4, none⟩ = some (.int .i64 (r 4)) := xb.cell 4
        have x5 : w10.cell? ⟨B9, 5, none⟩ = some (.int .i64 (r 5)) := xb.cell 5
        have xl := xb.lt
        clear xb
        have yb := HK10.out.get 0 rfl
        have y0 : w10.cell? ⟨B12, 0, none⟩ = some (.int .i64 (r 0)) := yb.cell 0
        have y1 : w10.cell? ⟨B12, 1, none⟩ = some (.int .i64 (r 1)) := yb.cell 1
        have y2 : w10.cell? ⟨B12, 2, none⟩ = some (.int .i64 (r 2)) := yb.cell 2
        have y3 : w10.cell? ⟨B12, 3, none⟩ = some (.int .i64 (r 3)) := yb.cell 3
        have y4 : w10.cell? ⟨B12, 4, none⟩ = some (.int .i64 (r 4)) := yb.cell 4
        have y5 : w10.cell? ⟨B12, 5, none⟩ = some (.int .i64 (r 5)) := yb.cell 5
        have yl := yb.lt
        clear yb
        have zb := HK10.out.get 4 rfl
        have z0 : w10.cell? ⟨B8, 0, none⟩ = some (.slice Am nm cm) := zb.cell 0
        have z1 : w10.cell? ⟨B8, 1, none⟩ = some (.slice Bm mm em) := zb.cell 1
        have zl := zb.lt
        clear zb
        have ub := HK10.out.get 1 rfl
        have u0 : w10.cell? ⟨B11, 0, none⟩ = some (.slice An nn cn) := ub.cell 0
        have u1 : w10.cell? ⟨B11, 1, none⟩ = some (.slice Bn mn en) := ub.cell 1
        have ul := ub.lt
        clear ub
        have vb := HK10.out.get 2 rfl
        have v0 : w10.cell? ⟨B10, 0, none⟩ = some (.int .i64 6) := vb.cell 0
        have v1 : w10.cell? ⟨B10, 1, none⟩ = some (.int .i64 a) := vb.cell 1
        have v2 : w10.cell? ⟨B10, 2, none⟩ = some (.int .i64 b) := vb.cell 2
        have v3 : w10.cell? ⟨B10, 3, none⟩ = some (.int .i64 i) := vb.cell 3
        have v4 : w10.cell? ⟨B10, 4, none⟩ = some (.int .i64 n) := vb.cell 4
        have vl := vb.lt
        clear vb
        have heq := fun W => eq24_same r W
        simp only [rcs] at heq
        go_wp2_with fail
        have HK11 := Lib.hid (HK10.out.al1 #[.int .i64 O[p].s, .int .i64 O[p].sp, .int .i64 O[p].sd, .bool O[p].sw, .bool O[p].sf, .slice Af O[p].ps.length cf, .slice Bf O[p].ns.length df, .bool false] 41)
        have HRM11 := Lib.hid (HRM10.out.gb (al1 w10 #[.int .i64 O[p].s, .int .i64 O[p].sp, .int .i64 O[p].sd, .bool O[p].sw, .bool O[p].sf, .slice Af O[p].ps.length cf, .slice Bf O[p].ns.length df, .bool false] 41).1)
        have HRN11 := Lib.hid (HRN10.out.gb (al1 w10 #[.int .i64 O[p].s, .int .i64 O[p].sp, .int .i64 O[p].sd, .bool O[p].sw, .bool O[p].sf, .slice Af O[p].ps.length cf, .slice Bf O[p].ns.length df, .bool false] 41).1)
        clear HK10 HRM10 HRN10
        generalize hW : w10.alloc (.cells #[.int .i64 O[p].s, .int .i64 O[p].sp, .int .i64 O[p].sd, .bool O[p].sw, .bool O[p].sf, .slice Af O[p].ps.length cf, .slice Bf O[p].ns.length df, .bool false] 41) = w11 at *
        clear hW
        generalize w10.heap.size = B15 at *
        clear x0 x1 x2 x3 x4 x5 xl
        clear y0 y1 y2 y3 y4 y5 yl
        clear z0 z1 zl
        clear u0 u1 ul
        clear v0 v1 v2 v3 v4 vl
        have HD1 := Lib.hid (do_all HRM11.out HSM.out r 6 a b i n 0 9 (by omega) (by omega) ha6 hb6 hi0 HRT.out)
        have HD2 := fun W hh => do_all (w := W) (v := .agg #[.slice An nn cn, .slice Bn mn en]) (Q := Q) hh HSM2.out r 6 a b i n 0 9 (by omega) (by omega) ha6 hb6 hi0 HRT.out
        have HD2 := Lib.hid HD2
        obtain ⟨f, hf⟩ : ∃ f, flt O r 6 a b i 0 = f := ⟨_, rfl⟩
        obtain ⟨v, hv⟩ : ∃ v, dV O Q r 6 a b i n 0 9 = v := ⟨_, rfl⟩
        rw [hf, hv] at HD1
        have HLS := Lib.hid (fun h => law_same (O := O) (Q := Q) (r := r) (k := 6) (a := a) (b := b) (i := i) (n := n) (by omega) (by omega) hpl ht h)
        have HLE := Lib.hid (fun h => law_else (O := O) (Q := Q) (r := r) (k := 6) (a := a) (b := b) (i := i) (n := n) (by omega) (by omega) hpl ht h)
        have hat : r (tg 6 a b) = r a := rfl
        rw [hat] at HLS HLE
        rw [hf, hv] at HLE
        clear hf hv hat heq
        refine HD1.out.mono ?_
        rintro e w12 ⟨A1, n1, c1, A2, n2, c2, rfl, _, hg⟩
        have HK12 := Lib.hid (HK11.out.gb hg)
        have HRN12 := Lib.hid (HRN11.out.gb hg)
        clear HK11 HRN11 HRM11 HD1 hg
        generalize dR O Q r 6 a b i n 0 9 = r1 at *
        have xb := HK12.out.get 4 rfl
        have x0 : w12.cell? ⟨B9, 0, none⟩ = some (.int .i64 (r 0)) := xb.cell 0
        have x1 : w12.cell? ⟨B9, 1, none⟩ = some (.int .i64 (r 1)) := xb.cell 1
        have x2 : w12.cell? ⟨B9, 2, none⟩ = some (.int .i64 (r 2)) := xb.cell 2
        have x3 : w12.cell? ⟨B9, 3, none⟩ = some (.int .i64 (r 3)) := xb.cell 3
        have x4 : w12.cell? ⟨B9, 4, none⟩ = some (.int .i64 (r 4)) := xb.cell 4
        have x5 : w12.cell? ⟨B9, 5, none⟩ = some (.int .i64 (r 5)) := xb.cell 5
        have xl := xb.lt
        clear xb
        have ub := HK12.out.get 2 rfl
        have u0 : w12.cell? ⟨B11, 0, none⟩ = some (.slice An nn cn) := ub.cell 0
        have u1 : w12.cell? ⟨B11, 1, none⟩ = some (.slice Bn mn en) := ub.cell 1
        have ul := ub.lt
        clear ub
        have vb := HK12.out.get 3 rfl
        have v0 : w12.cell? ⟨B10, 0, none⟩ = some (.int .i64 6) := vb.cell 0
        have v1 : w12.cell? ⟨B10, 1, none⟩ = some (.int .i64 a) := vb.cell 1
        have v2 : w12.cell? ⟨B10, 2, none⟩ = some (.int .i64 b) := vb.cell 2
        have v3 : w12.cell? ⟨B10, 3, none⟩ = some (.int .i64 i) := vb.cell 3
        have v4 : w12.cell? ⟨B10, 4, none⟩ = some (.int .i64 n) := vb.cell 4
        have vl := vb.lt
        clear vb
        go_wp2_with fail
        have HK13 := Lib.hid (HK12.out.al2 #[.slice A1 n1 c1, .slice A2 n2 c2] #[.int .i64 (r1 0), .int .i64 (r1 1), .int .i64 (r1 2), .int .i64 (r1 3), .int .i64 (r1 4), .int .i64 (r1 5)] 29 24)
        have HRN13 := Lib.hid (HRN12.out.gb (al2 w12 #[.slice A1 n1 c1, .slice A2 n2 c2] #[.int .i64 (r1 0), .int .i64 (r1 1), .int .i64 (r1 2), .int .i64 (r1 3), .int .i64 (r1 4), .int .i64 (r1 5)] 29 24).1)
        clear HK12 HRN12
        generalize hW : (w12.alloc (.cells #[.slice A1 n1 c1, .slice A2 n2 c2] 29)).alloc (.cells #[.int .i64 (r1 0), .int .i64 (r1 1), .int .i64 (r1 2), .int .i64 (r1 3), .int .i64 (r1 4), .int .i64 (r1 5)] 24) = w13 at *
        clear hW
        generalize w12.heap.size = B18 at *
        clear x0 x1 x2 x3 x4 x5 xl
        clear u0 u1 ul
        clear v0 v1 v2 v3 v4 vl
        refine (HD2.out _ HRN13.out).mono ?_
        rintro e w14 ⟨A3, n3, c3, A4, n4, c4, rfl, _, hg⟩
        have HK14 := Lib.hid (HK13.out.gb hg)
        clear HK13 HRN13 HD2 hg
        generalize dR (O.set p { O.getD p ob0 with fr := true }) Q r 6 a b i n 0 9 = r2 at *
        have at0 : (0 : Int) ≤ (a : Int) := by omega
        have at6 : (a : Int) < 6 := by omega
        by_cases hs : r a = r 0
        · rw [(HLS.out hs).1, (HLS.out hs).2]
          go_wp2_with fail
          have HK15 := Lib.hid (HK14.out.al2 #[.slice A3 n3 c3, .slice A4 n4 c4] #[.int .i64 (r2 0), .int .i64 (r2 1), .int .i64 (r2 2), .int .i64 (r2 3), .int .i64 (r2 4), .int .i64 (r2 5)] 29 24)
          clear HK14
          generalize hW : (w14.alloc (.cells #[.slice A3 n3 c3, .slice A4 n4 c4] 29)).alloc (.cells #[.int .i64 (r2 0), .int .i64 (r2 1), .int .i64 (r2 2), .int .i64 (r2 3), .int .i64 (r2 4), .int .i64 (r2 5)] 24) = w15 at *
          clear hW
          generalize w14.heap.size = B22 at *
          have HG := Lib.hid (fun q => below_of (HK15.out.gb (gb_drewN w15 q none)).1)
          have HX := Lib.hid (HK15.out.get 8 rfl)
          clear HK15
          have hx := HX.out.cell 0
          have hy : w15.cell? ⟨B9, a, none⟩ = some (.int .i64 (r 0)) := by rw [← hs, HX.out.cell]; exact rcs_get r a ha6
          simp only [List.getElem?_toArray, List.getElem?_cons_zero] at hx
          clear hs HLS HLE
          go_quiet (fail)
          go_wp2_with fail
          go_ret
          exact ⟨rfl, HG.out _⟩
        · rw [(HLE.out hs).1, (HLE.out hs).2]
          go_wp2_with fail
          have HK15 := Lib.hid (HK14.out.al2 #[.slice A3 n3 c3, .slice A4 n4 c4] #[.int .i64 (r2 0), .int .i64 (r2 1), .int .i64 (r2 2), .int .i64 (r2 3), .int .i64 (r2 4), .int .i64 (r2 5)] 29 24)
          clear HK14
          generalize hW : (w14.alloc (.cells #[.slice A3 n3 c3, .slice A4 n4 c4] 29)).alloc (.cells #[.int .i64 (r2 0), .int .i64 (r2 1), .int .i64 (r2 2), .int .i64 (r2 3), .int .i64 (r2 4), .int .i64 (r2 5)] 24) = w15 at *
          clear hW
          generalize w14.heap.size = B22 at *
          have HG := Lib.hid (fun q => below_of (HK15.out.gb (gb_drewN w15 q none)).1)
          have HX := Lib.hid (HK15.out.get 8 rfl)
          clear HK15
          have hx := HX.out.cell 0
          have hy : w15.cell? ⟨B9, a, none⟩ = some (.int .i64 (r a)) := by rw [HX.out.cell]; exact rcs_get r a ha6
          have hne : (r a == r 0) = false := by rw [beq_eq_false_iff_ne]; exact hs
          simp only [List.getElem?_toArray, List.getElem?_cons_zero] at hx
          clear hs HLS HLE
          generalize r a = s1 at *
          go_quiet (fail)
          go_wp2_with fail
          go_ret
          exact ⟨rfl, HG.out _⟩
      · refine HDO.out.mono ?_
        rintro e w8 ⟨An, nn, cn, Bn, mn, en, rfl, hrm, hg⟩
        have HRN8 := Lib.hid hrm
        have HK8 := Lib.hid (HK7.out.gb hg)
        have HRM8 := Lib.hid (HRM7.out.gb hg)
        clear HK7 HRM7 hg hrm HDO
        have xb := HK8.out.get 2 rfl
        have x0 : w8.cell? ⟨B8, 0, none⟩ = some (.slice Am nm cm) := xb.cell 0
        have x1 : w8.cell? ⟨B8, 1, none⟩ = some (.slice Bm mm em) := xb.cell 1
        have xl := xb.lt
        clear xb
        have yb := HK8.out.get 1 rfl
        have y0 : w8.cell? ⟨B9, 0, none⟩ = some (.int .i64 (r 0)) := yb.cell 0
        have y1 : w8.cell? ⟨B9, 1, none⟩ = some (.int .i64 (r 1)) := yb.cell 1
        have y2 : w8.cell? ⟨B9, 2, none⟩ = some (.int .i64 (r 2)) := yb.cell 2
        have y3 : w8.cell? ⟨B9, 3, none⟩ = some (.int .i64 (r 3)) := yb.cell 3
        have y4 : w8.cell? ⟨B9, 4, none⟩ = some (.int .i64 (r 4)) := yb.cell 4
        have y5 : w8.cell? ⟨B9, 5, none⟩ = some (.int .i64 (r 5)) := yb.cell 5
        have yl := yb.lt
        clear yb
        go_wp2_with fail
        have HK9 := Lib.hid (HK8.out.al2 #[.slice An nn cn, .slice Bn mn en] #[.int .i64 (r 0), .int .i64 (r 1), .int .i64 (r 2), .int .i64 (r 3), .int .i64 (r 4), .int .i64 (r 5)] 29 24)
        have HRM9 := Lib.hid (HRM8.out.gb (al2 w8 #[.slice An nn cn, .slice Bn mn en] #[.int .i64 (r 0), .int .i64 (r 1), .int .i64 (r 2), .int .i64 (r 3), .int .i64 (r 4), .int .i64 (r 5)] 29 24).1)
        have HRN9 := Lib.hid (HRN8.out.gb (al2 w8 #[.slice An nn cn, .slice Bn mn en] #[.int .i64 (r 0), .int .i64 (r 1), .int .i64 (r 2), .int .i64 (r 3), .int .i64 (r 4), .int .i64 (r 5)] 29 24).1)
        clear HK8 HRM8 HRN8
        generalize hW : (w8.alloc (.cells #[.slice An nn cn, .slice Bn mn en] 29)).alloc (.cells #[.int .i64 (r 0), .int .i64 (r 1), .int .i64 (r 2), .int .i64 (r 3), .int .i64 (r 4), .int .i64 (r 5)] 24) = w9 at *
        clear hW
        generalize w8.heap.size = B11 at *
        generalize B11 + 1 = B12 at *
        clear x0 x1 xl
        clear y0 y1 y2 y3 y4 y5 yl
        refine (find_rm_some HRM9.out HSM.out (r 0) p hpl hp).mono ?_
        rintro e w10 ⟨Af, cf, Bf, df, rfl, _, _, hg⟩
        have HK10 := Lib.hid (HK9.out.gb hg)
        have HRM10 := Lib.hid (HRM9.out.gb hg)
        have HRN10 := Lib.hid (HRN9.out.gb hg)
        clear HK9 HRM9 HRN9 hg
        rw [HFR.out]
        have xb := HK10.out.get 3 rfl
        have x0 : w10.cell? ⟨B9, 0, none⟩ = some (.int .i64 (r 0)) := xb.cell 0
        have x1 : w10.cell? ⟨B9, 1, none⟩ = some (.int .i64 (r 1)) := xb.cell 1
        have x2 : w10.cell? ⟨B9, 2, none⟩ = some (.int .i64 (r 2)) := xb.cell 2
        have x3 : w10.cell? ⟨B9, 3, none⟩ = some (.int .i64 (r 3)) := xb.cell 3
        have x4 : w10.cell? ⟨B9, 4, none⟩ = some (.int .i64 (r 4)) := xb.cell 4
        have x5 : w10.cell? ⟨B9, 5, none⟩ = some (.int .i64 (r 5)) := xb.cell 5
        have xl := xb.lt
        clear xb
        have yb := HK10.out.get 0 rfl
        have y0 : w10.cell? ⟨B12, 0, none⟩ = some (.int .i64 (r 0)) := yb.cell 0
        have y1 : w10.cell? ⟨B12, 1, none⟩ = some (.int .i64 (r 1)) := yb.cell 1
        have y2 : w10.cell? ⟨B12, 2, none⟩ = some (.int .i64 (r 2)) := yb.cell 2
        have y3 : w10.cell? ⟨B12, 3, none⟩ = some (.int .i64 (r 3)) := yb.cell 3
        have y4 : w10.cell? ⟨B12, 4, none⟩ = some (.int .i64 (r 4)) := yb.cell 4
        have y5 : w10.cell? ⟨B12, 5, none⟩ = some (.int .i64 (r 5)) := yb.cell 5
        have yl := yb.lt
        clear yb
        have zb := HK10.out.get 4 rfl
        have z0 : w10.cell? ⟨B8, 0, none⟩ = some (.slice Am nm cm) := zb.cell 0
        have z1 : w10.cell? ⟨B8, 1, none⟩ = some (.slice Bm mm em) := zb.cell 1
        have zl := zb.lt
        clear zb
        have ub := HK10.out.get 1 rfl
        have u0 : w10.cell? ⟨B11, 0, none⟩ = some (.slice An nn cn) := ub.cell 0
        have u1 : w10.cell? ⟨B11, 1, none⟩ = some (.slice Bn mn en) := ub.cell 1
        have ul := ub.lt
        clear ub
        have vb := HK10.out.get 2 rfl
        have v0 : w10.cell? ⟨B10, 0, none⟩ = some (.int .i64 7) := vb.cell 0
        have v1 : w10.cell? ⟨B10, 1, none⟩ = some (.int .i64 a) := vb.cell 1
        have v2 : w10.cell? ⟨B10, 2, none⟩ = some (.int .i64 b) := vb.cell 2
        have v3 : w10.cell? ⟨B10, 3, none⟩ = some (.int .i64 i) := vb.cell 3
        have v4 : w10.cell? ⟨B10, 4, none⟩ = some (.int .i64 n) := vb.cell 4
        have vl := vb.lt
        clear vb
        have heq := fun W => eq24_same r W
        simp only [rcs] at heq
        go_wp2_with fail
        have HK11 := Lib.hid (HK10.out.al1 #[.int .i64 O[p].s, .int .i64 O[p].sp, .int .i64 O[p].sd, .bool O[p].sw, .bool O[p].sf, .slice Af O[p].ps.length cf, .slice Bf O[p].ns.length df, .bool false] 41)
        have HRM11 := Lib.hid (HRM10.out.gb (al1 w10 #[.int .i64 O[p].s, .int .i64 O[p].sp, .int .i64 O[p].sd, .bool O[p].sw, .bool O[p].sf, .slice Af O[p].ps.length cf, .slice Bf O[p].ns.length df, .bool false] 41).1)
        have HRN11 := Lib.hid (HRN10.out.gb (al1 w10 #[.int .i64 O[p].s, .int .i64 O[p].sp, .int .i64 O[p].sd, .bool O[p].sw, .bool O[p].sf, .slice Af O[p].ps.length cf, .slice Bf O[p].ns.length df, .bool false] 41).1)
        clear HK10 HRM10 HRN10
        generalize hW : w10.alloc (.cells #[.int .i64 O[p].s, .int .i64 O[p].sp, .int .i64 O[p].sd, .bool O[p].sw, .bool O[p].sf, .slice Af O[p].ps.length cf, .slice Bf O[p].ns.length df, .bool false] 41) = w11 at *
        clear hW
        generalize w10.heap.size = B15 at *
        clear x0 x1 x2 x3 x4 x5 xl
        clear y0 y1 y2 y3 y4 y5 yl
        clear z0 z1 zl
        clear u0 u1 ul
        clear v0 v1 v2 v3 v4 vl
        have HD1 := Lib.hid (do_all HRM11.out HSM.out r 7 a b i n 0 9 (by omega) (by omega) ha6 hb6 hi0 HRT.out)
        have HD2 := fun W hh => do_all (w := W) (v := .agg #[.slice An nn cn, .slice Bn mn en]) (Q := Q) hh HSM2.out r 7 a b i n 0 9 (by omega) (by omega) ha6 hb6 hi0 HRT.out
        have HD2 := Lib.hid HD2
        obtain ⟨f, hf⟩ : ∃ f, flt O r 7 a b i 0 = f := ⟨_, rfl⟩
        obtain ⟨v, hv⟩ : ∃ v, dV O Q r 7 a b i n 0 9 = v := ⟨_, rfl⟩
        rw [hf, hv] at HD1
        have HLS := Lib.hid (fun h => law_same (O := O) (Q := Q) (r := r) (k := 7) (a := a) (b := b) (i := i) (n := n) (by omega) (by omega) hpl ht h)
        have HLE := Lib.hid (fun h => law_else (O := O) (Q := Q) (r := r) (k := 7) (a := a) (b := b) (i := i) (n := n) (by omega) (by omega) hpl ht h)
        have hat : r (tg 7 a b) = r a := rfl
        rw [hat] at HLS HLE
        rw [hf, hv] at HLE
        clear hf hv hat heq
        refine HD1.out.mono ?_
        rintro e w12 ⟨A1, n1, c1, A2, n2, c2, rfl, _, hg⟩
        have HK12 := Lib.hid (HK11.out.gb hg)
        have HRN12 := Lib.hid (HRN11.out.gb hg)
        clear HK11 HRN11 HRM11 HD1 hg
        generalize dR O Q r 7 a b i n 0 9 = r1 at *
        have xb := HK12.out.get 4 rfl
        have x0 : w12.cell? ⟨B9, 0, none⟩ = some (.int .i64 (r 0)) := xb.cell 0
        have x1 : w12.cell? ⟨B9, 1, none⟩ = some (.int .i64 (r 1)) := xb.cell 1
        have x2 : w12.cell? ⟨B9, 2, none⟩ = some (.int .i64 (r 2)) := xb.cell 2
        have x3 : w12.cell? ⟨B9, 3, none⟩ = some (.int .i64 (r 3)) := xb.cell 3
        have x4 : w12.cell? ⟨B9, 4, none⟩ = some (.int .i64 (r 4)) := xb.cell 4
        have x5 : w12.cell? ⟨B9, 5, none⟩ = some (.int .i64 (r 5)) := xb.cell 5
        have xl := xb.lt
        clear xb
        have ub := HK12.out.get 2 rfl
        have u0 : w12.cell? ⟨B11, 0, none⟩ = some (.slice An nn cn) := ub.cell 0
        have u1 : w12.cell? ⟨B11, 1, none⟩ = some (.slice Bn mn en) := ub.cell 1
        have ul := ub.lt
        clear ub
        have vb := HK12.out.get 3 rfl
        have v0 : w12.cell? ⟨B10, 0, none⟩ = some (.int .i64 7) := vb.cell 0
        have v1 : w12.cell? ⟨B10, 1, none⟩ = some (.int .i64 a) := vb.cell 1
        have v2 : w12.cell? ⟨B10, 2, none⟩ = some (.int .i64 b) := vb.cell 2
        have v3 : w12.cell? ⟨B10, 3, none⟩ = some (.int .i64 i) := vb.cell 3
        have v4 : w12.cell? ⟨B10, 4, none⟩ = some (.int .i64 n) := vb.cell 4
        have vl := vb.lt
        clear vb
        go_wp2_with fail
        have HK13 := Lib.hid (HK12.out.al2 #[.slice A1 n1 c1, .slice A2 n2 c2] #[.int .i64 (r1 0), .int .i64 (r1 1), .int .i64 (r1 2), .int .i64 (r1 3), .int .i64 (r1 4), .int .i64 (r1 5)] 29 24)
        have HRN13 := Lib.hid (HRN12.out.gb (al2 w12 #[.slice A1 n1 c1, .slice A2 n2 c2] #[.int .i64 (r1 0), .int .i64 (r1 1), .int .i64 (r1 2), .int .i64 (r1 3), .int .i64 (r1 4), .int .i64 (r1 5)] 29 24).1)
        clear HK12 HRN12
        generalize hW : (w12.alloc (.cells #[.slice A1 n1 c1, .slice A2 n2 c2] 29)).alloc (.cells #[.int .i64 (r1 0), .int .i64 (r1 1), .int .i64 (r1 2), .int .i64 (r1 3), .int .i64 (r1 4), .int .i64 (r1 5)] 24) = w13 at *
        clear hW
        generalize w12.heap.size = B18 at *
        clear x0 x1 x2 x3 x4 x5 xl
        clear u0 u1 ul
        clear v0 v1 v2 v3 v4 vl
        refine (HD2.out _ HRN13.out).mono ?_
        rintro e w14 ⟨A3, n3, c3, A4, n4, c4, rfl, _, hg⟩
        have HK14 := Lib.hid (HK13.out.gb hg)
        clear HK13 HRN13 HD2 hg
        generalize dR (O.set p { O.getD p ob0 with fr := true }) Q r 7 a b i n 0 9 = r2 at *
        have at0 : (0 : Int) ≤ (a : Int) := by omega
        have at6 : (a : Int) < 6 := by omega
        by_cases hs : r a = r 0
        · rw [(HLS.out hs).1, (HLS.out hs).2]
          go_wp2_with fail
          have HK15 := Lib.hid (HK14.out.al2 #[.slice A3 n3 c3, .slice A4 n4 c4] #[.int .i64 (r2 0), .int .i64 (r2 1), .int .i64 (r2 2), .int .i64 (r2 3), .int .i64 (r2 4), .int .i64 (r2 5)] 29 24)
          clear HK14
          generalize hW : (w14.alloc (.cells #[.slice A3 n3 c3, .slice A4 n4 c4] 29)).alloc (.cells #[.int .i64 (r2 0), .int .i64 (r2 1), .int .i64 (r2 2), .int .i64 (r2 3), .int .i64 (r2 4), .int .i64 (r2 5)] 24) = w15 at *
          clear hW
          generalize w14.heap.size = B22 at *
          have HG := Lib.hid (fun q => below_of (HK15.out.gb (gb_drewN w15 q none)).1)
          have HX := Lib.hid (HK15.out.get 8 rfl)
          clear HK15
          have hx := HX.out.cell 0
          have hy : w15.cell? ⟨B9, a, none⟩ = some (.int .i64 (r 0)) := by rw [← hs, HX.out.cell]; exact rcs_get r a ha6
          simp only [List.getElem?_toArray, List.getElem?_cons_zero] at hx
          clear hs HLS HLE
          go_quiet (fail)
          go_wp2_with fail
          go_ret
          exact ⟨rfl, HG.out _⟩
        · rw [(HLE.out hs).1, (HLE.out hs).2]
          go_wp2_with fail
          have HK15 := Lib.hid (HK14.out.al2 #[.slice A3 n3 c3, .slice A4 n4 c4] #[.int .i64 (r2 0), .int .i64 (r2 1), .int .i64 (r2 2), .int .i64 (r2 3), .int .i64 (r2 4), .int .i64 (r2 5)] 29 24)
          clear HK14
          generalize hW : (w14.alloc (.cells #[.slice A3 n3 c3, .slice A4 n4 c4] 29)).alloc (.cells #[.int .i64 (r2 0), .int .i64 (r2 1), .int .i64 (r2 2), .int .i64 (r2 3), .int .i64 (r2 4), .int .i64 (r2 5)] 24) = w15 at *
          clear hW
          generalize w14.heap.size = B22 at *
          have HG := Lib.hid (fun q => below_of (HK15.out.gb (gb_drewN w15 q none)).1)
          have HX := Lib.hid (HK15.out.get 8 rfl)
          clear HK15
          have hx := HX.out.cell 0
          have hy : w15.cell? ⟨B9, a, none⟩ = some (.int .i64 (r a)) := by rw [HX.out.cell]; exact rcs_get r a ha6
          have hne : (r a == r 0) = false := by rw [beq_eq_false_iff_ne]; exact hs
          simp only [List.getElem?_toArray, List.getElem?_cons_zero] at hx
          clear hs HLS HLE
          generalize r a = s1 at *
          go_quiet (fail)
          go_wp2_with fail
          go_ret
          exact ⟨rfl, HG.out _⟩
      · refine HDO.out.mono ?_
        rintro e w8 ⟨An, nn, cn, Bn, mn, en, rfl, hrm, hg⟩
        have HRN8 := Lib.hid hrm
        have HK8 := Lib.hid (HK7.out.gb hg)
        have HRM8 := Lib.hid (HRM7.out.gb hg)
        clear HK7 HRM7 hg hrm HDO
        have xb := HK8.out.get 2 rfl
        have x0 : w8.cell? ⟨B8, 0, none⟩ = some (.slice Am nm cm) := xb.cell 0
        have x1 : w8.cell? ⟨B8, 1, none⟩ = some (.slice Bm mm em) := xb.cell 1
        have xl := xb.lt
        clear xb
        have yb := HK8.out.get 1 rfl
        have y0 : w8.cell? ⟨B9, 0, none⟩ = some (.int .i64 (r 0)) := yb.cell 0
        have y1 : w8.cell? ⟨B9, 1, none⟩ = some (.int .i64 (r 1)) := yb.cell 1
        have y2 : w8.cell? ⟨B9, 2, none⟩ = some (.int .i64 (r 2)) := yb.cell 2
        have y3 : w8.cell? ⟨B9, 3, none⟩ = some (.int .i64 (r 3)) := yb.cell 3
        have y4 : w8.cell? ⟨B9, 4, none⟩ = some (.int .i64 (r 4)) := yb.cell 4
        have y5 : w8.cell? ⟨B9, 5, none⟩ = some (.int .i64 (r 5)) := yb.cell 5
        have yl := yb.lt
        clear yb
        go_wp2_with fail
        have HK9 := Lib.hid (HK8.out.al2 #[.slice An nn cn, .slice Bn mn en] #[.int .i64 (r 0), .int .i64 (r 1), .int .i64 (r 2), .int .i64 (r 3), .int .i64 (r 4), .int .i64 (r 5)] 29 24)
        have HRM9 := Lib.hid (HRM8.out.gb (al2 w8 #[.slice An nn cn, .slice Bn mn en] #[.int .i64 (r 0), .int .i64 (r 1), .int .i64 (r 2), .int .i64 (r 3), .int .i64 (r 4), .int .i64 (r 5)] 29 24).1)
        have HRN9 := Lib.hid (HRN8.out.gb (al2 w8 #[.slice An nn cn, .slice Bn mn en] #[.int .i64 (r 0), .int .i64 (r 1), .int .i64 (r 2), .int .i64 (r 3), .int .i64 (r 4), .int .i64 (r 5)] 29 24).1)
        clear HK8 HRM8 HRN8
        generalize hW : (w8.alloc (.cells #[.slice An nn cn, .slice Bn mn en] 29)).alloc (.cells #[.int .i64 (r 0), .int .i64 (r 1), .int .i64 (r 2), .int .i64 (r 3), .int .i64 (r 4), .int .i64 (r 5)] 24) = w9 at *
        clear hW
        generalize w8.heap.size = B11 at *
        generalize B11 + 1 = B12 at *
        clear x0 x1 xl
        clear y0 y1 y2 y3 y4 y5 yl
        refine (find_rm_some HRM9.out HSM.out (r 0) p hpl hp).mono ?_
        rintro e w10 ⟨Af, cf, Bf, df, rfl, _, _, hg⟩
        have HK10 := Lib.hid (HK9.out.gb hg)
        have HRM10 := Lib.hid (HRM9.out.gb hg)
        have HRN10 := Lib.hid (HRN9.out.gb hg)
        clear HK9 HRM9 HRN9 hg
        rw [HFR.out]
        have xb := HK10.out.get 3 rfl
        have x0 : w10.cell? ⟨B9, 0, none⟩ = some (.int .i64 (r 0)) := xb.cell 0
        have x1 : w10.cell? ⟨B9, 1, none⟩ = some (.int .i64 (r 1)) := xb.cell 1
        have x2 : w10.cell? ⟨B9, 2, none⟩ = some (.int .i64 (r 2)) := xb.cell 2
        have x3 : w10.cell? ⟨B9, 3, none⟩ = some (.int .i64 (r 3)) := xb.cell 3
        have x4 : w10.cell? ⟨B9, 4, none⟩ = some (.int .i64 (r 4)) := xb.cell 4
        have x5 : w10.cell? ⟨B9, 5, none⟩ = some (.int .i64 (r 5)) := xb.cell 5
        have xl := xb.lt
        clear xb
        have yb := HK10.out.get 0 rfl
        have y0 : w10.cell? ⟨B12, 0, none⟩ = some (.int .i64 (r 0)) := yb.cell 0
        have y1 : w10.cell? ⟨B12, 1, none⟩ = some (.int .i64 (r 1)) := yb.cell 1
        have y2 : w10.cell? ⟨B12, 2, none⟩ = some (.int .i64 (r 2)) := yb.cell 2
        have y3 : w10.cell? ⟨B12, 3, none⟩ = some (.int .i64 (r 3)) := yb.cell 3
        have y4 : w10.cell? ⟨B12, 4, none⟩ = some (.int .i64 (r 4)) := yb.cell 4
        have y5 : w10.cell? ⟨B12, 5, none⟩ = some (.int .i64 (r 5)) := yb.cell 5
        have yl := yb.lt
        clear yb
        have zb := HK10.out.get 4 rfl
        have z0 : w10.cell? ⟨B8, 0, none⟩ = some (.slice Am nm cm) := zb.cell 0
        have z1 : w10.cell? ⟨B8, 1, none⟩ = some (.slice Bm mm em) := zb.cell 1
        have zl := zb.lt
        clear zb
        have ub := HK10.out.get 1 rfl
        have u0 : w10.cell? ⟨B11, 0, none⟩ = some (.slice An nn cn) := ub.cell 0
        have u1 : w10.cell? ⟨B11, 1, none⟩ = some (.slice Bn mn en) := ub.cell 1
        have ul := ub.lt
        clear ub
        have vb := HK10.out.get 2 rfl
        have v0 : w10.cell? ⟨B10, 0, none⟩ = some (.int .i64 8) := vb.cell 0
        have v1 : w10.cell? ⟨B10, 1, none⟩ = some (.int .i64 a) := vb.cell 1
        have v2 : w10.cell? ⟨B10, 2, none⟩ = some (.int .i64 b) := vb.cell 2
        have v3 : w10.cell? ⟨B10, 3, none⟩ = some (.int .i64 i) := vb.cell 3
        have v4 : w10.cell? ⟨B10, 4, none⟩ = some (.int .i64 n) := vb.cell 4
        have vl := vb.lt
        clear vb
        have heq := fun W => eq24_same r W
        simp only [rcs] at heq
        go_wp2_with fail
        have HK11 := Lib.hid (HK10.out.al1 #[.int .i64 O[p].s, .int .i64 O[p].sp, .int .i64 O[p].sd, .bool O[p].sw, .bool O[p].sf, .slice Af O[p].ps.length cf, .slice Bf O[p].ns.length df, .bool false] 41)
        have HRM11 := Lib.hid (HRM10.out.gb (al1 w10 #[.int .i64 O[p].s, .int .i64 O[p].sp, .int .i64 O[p].sd, .bool O[p].sw, .bool O[p].sf, .slice Af O[p].ps.length cf, .slice Bf O[p].ns.length df, .bool false] 41).1)
        have HRN11 := Lib.hid (HRN10.out.gb (al1 w10 #[.int .i64 O[p].s, .int .i64 O[p].sp, .int .i64 O[p].sd, .bool O[p].sw, .bool O[p].sf, .slice Af O[p].ps.length cf, .slice Bf O[p].ns.length df, .bool false] 41).1)
        clear HK10 HRM10 HRN10
        generalize hW : w10.alloc (.cells #[.int .i64 O[p].s, .int .i64 O[p].sp, .int .i64 O[p].sd, .bool O[p].sw, .bool O[p].sf, .slice Af O[p].ps.length cf, .slice Bf O[p].ns.length df, .bool false] 41) = w11 at *
        clear hW
        generalize w10.heap.size = B15 at *
        clear x0 x1 x2 x3 x4 x5 xl
        clear y0 y1 y2 y3 y4 y5 yl
        clear z0 z1 zl
        clear u0 u1 ul
        clear v0 v1 v2 v3 v4 vl
        have HD1 := Lib.hid (do_all HRM11.out HSM.out r 8 a b i n 0 9 (by omega) (by omega) ha6 hb6 hi0 HRT.out)
        have HD2 := fun W hh => do_all (w := W) (v := .agg #[.slice An nn cn, .slice Bn mn en]) (Q := Q) hh HSM2.out r 8 a b i n 0 9 (by omega) (by omega) ha6 hb6 hi0 HRT.out
        have HD2 := Lib.hid HD2
        obtain ⟨f, hf⟩ : ∃ f, flt O r 8 a b i 0 = f := ⟨_, rfl⟩
        obtain ⟨v, hv⟩ : ∃ v, dV O Q r 8 a b i n 0 9 = v := ⟨_, rfl⟩
        rw [hf, hv] at HD1
        have HLS := Lib.hid (fun h => law_same (O := O) (Q := Q) (r := r) (k := 8) (a := a) (b := b) (i := i) (n := n) (by omega) (by omega) hpl ht h)
        have HLE := Lib.hid (fun h => law_else (O := O) (Q := Q) (r := r) (k := 8) (a := a) (b := b) (i := i) (n := n) (by omega) (by omega) hpl ht h)
        have hat : r (tg 8 a b) = r a := rfl
        rw [hat] at HLS HLE
        rw [hf, hv] at HLE
        clear hf hv hat heq
        refine HD1.out.mono ?_
        rintro e w12 ⟨A1, n1, c1, A2, n2, c2, rfl, _, hg⟩
        have HK12 := Lib.hid (HK11.out.gb hg)
        have HRN12 := Lib.hid (HRN11.out.gb hg)
        clear HK11 HRN11 HRM11 HD1 hg
        generalize dR O Q r 8 a b i n 0 9 = r1 at *
        have xb := HK12.out.get 4 rfl
        have x0 : w12.cell? ⟨B9, 0, none⟩ = some (.int .i64 (r 0)) := xb.cell 0
        have x1 : w12.cell? ⟨B9, 1, none⟩ = some (.int .i64 (r 1)) := xb.cell 1
        have x2 : w12.cell? ⟨B9, 2, none⟩ = some (.int .i64 (r 2)) := xb.cell 2
        have x3 : w12.cell? ⟨B9, 3, none⟩ = some (.int .i64 (r 3)) := xb.cell 3
        have x4 : w12.cell? ⟨B9, 4, none⟩ = some (.int .i64 (r 4)) := xb.cell 4
        have x5 : w12.cell? ⟨B9, 5, none⟩ = some (.int .i64 (r 5)) := xb.cell 5
        have xl := xb.lt
        clear xb
        have ub := HK12.out.get 2 rfl
        have u0 : w12.cell? ⟨B11, 0, none⟩ = some (.slice An nn cn) := ub.cell 0
        have u1 : w12.cell? ⟨B11, 1, none⟩ = some (.slice Bn mn en) := ub.cell 1
        have ul := ub.lt
        clear ub
        have vb := HK12.out.get 3 rfl
        have v0 : w12.cell? ⟨B10, 0, none⟩ = some (.int .i64 8) := vb.cell 0
        have v1 : w12.cell? ⟨B10, 1, none⟩ = some (.int .i64 a) := vb.cell 1
        have v2 : w12.cell? ⟨B10, 2, none⟩ = some (.int .i64 b) := vb.cell 2
        have v3 : w12.cell? ⟨B10, 3, none⟩ = some (.int .i64 i) := vb.cell 3
        have v4 : w12.cell? ⟨B10, 4, none⟩ = some (.int .i64 n) := vb.cell 4
        have vl := vb.lt
        clear vb
        go_wp2_with fail
        have HK13 := Lib.hid (HK12.out.al2 #[.slice A1 n1 c1, .slice A2 n2 c2] #[.int .i64 (r1 0), .int .i64 (r1 1), .int .i64 (r1 2), .int .i64 (r1 3), .int .i64 (r1 4), .int .i64 (r1 5)] 29 24)
        have HRN13 := Lib.hid (HRN12.out.gb (al2 w12 #[.slice A1 n1 c1, .slice A2 n2 c2] #[.int .i64 (r1 0), .int .i64 (r1 1), .int .i64 (r1 2), .int .i64 (r1 3), .int .i64 (r1 4), .int .i64 (r1 5)] 29 24).1)
        clear HK12 HRN12
        generalize hW : (w12.alloc (.cells #[.slice A1 n1 c1, .slice A2 n2 c2] 29)).alloc (.cells #[.int .i64 (r1 0), .int .i64 (r1 1), .int .i64 (r1 2), .int .i64 (r1 3), .int .i64 (r1 4), .int .i64 (r1 5)] 24) = w13 at *
        clear hW
        generalize w12.heap.size = B18 at *
        clear x0 x1 x2 x3 x4 x5 xl
        clear u0 u1 ul
        clear v0 v1 v2 v3 v4 vl
        refine (HD2.out _ HRN13.out).mono ?_
        rintro e w14 ⟨A3, n3, c3, A4, n4, c4, rfl, _, hg⟩
        have HK14 := Lib.hid (HK13.out.gb hg)
        clear HK13 HRN13 HD2 hg
        generalize dR (O.set p { O.getD p ob0 with fr := true }) Q r 8 a b i n 0 9 = r2 at *
        have at0 : (0 : Int) ≤ (a : Int) := by omega
        have at6 : (a : Int) < 6 := by omega
        by_cases hs : r a = r 0
        · rw [(HLS.out hs).1, (HLS.out hs).2]
          go_wp2_with fail
          have HK15 := Lib.hid (HK14.out.al2 #[.slice A3 n3 c3, .slice A4 n4 c4] #[.int .i64 (r2 0), .int .i64 (r2 1), .int .i64 (r2 2), .int .i64 (r2 3), .int .i64 (r2 4), .int .i64 (r2 5)] 29 24)
          clear HK14
          generalize hW : (w14.alloc (.cells #[.slice A3 n3 c3, .slice A4 n4 c4] 29)).alloc (.cells #[.int .i64 (r2 0), .int .i64 (r2 1), .int .i64 (r2 2), .int .i64 (r2 3), .int .i64 (r2 4), .int .i64 (r2 5)] 24) = w15 at *
          clear hW
          generalize w14.heap.size = B22 at *
          have HG := Lib.hid (fun q => below_of (HK15.out.gb (gb_drewN w15 q none)).1)
          have HX := Lib.hid (HK15.out.get 8 rfl)
          clear HK15
          have hx := HX.out.cell 0
          have hy : w15.cell? ⟨B9, a, none⟩ = some (.int .i64 (r 0)) := by rw [← hs, HX.out.cell]; exact rcs_get r a ha6
          simp only [List.getElem?_toArray, List.getElem?_cons_zero] at hx
          clear hs HLS HLE
          go_quiet (fail)
          go_wp2_with fail
          go_ret
          exact ⟨rfl, HG.out _⟩
        · rw [(HLE.out hs).1, (HLE.out hs).2]
          go_wp2_with fail
          have HK15 := Lib.hid (HK14.out.al2 #[.slice A3 n3 c3, .slice A4 n4 c4] #[.int .i64 (r2 0), .int .i64 (r2 1), .int .i64 (r2 2), .int .i64 (r2 3), .int .i64 (r2 4), .int .i64 (r2 5)] 29 24)
          clear HK14
          generalize hW : (w14.alloc (.cells #[.slice A3 n3 c3, .slice A4 n4 c4] 29)).alloc (.cells #[.int .i64 (r2 0), .int .i64 (r2 1), .int .i64 (r2 2), .int .i64 (r2 3), .int .i64 (r2 4), .int .i64 (r2 5)] 24) = w15 at *
          clear hW
          generalize w14.heap.size = B22 at *
          have HG := Lib.hid (fun q => below_of (HK15.out.gb (gb_drewN w15 q none)).1)
          have HX := Lib.hid (HK15.out.get 8 rfl)
          clear HK15
          have hx := HX.out.cell 0
          have hy : w15.cell? ⟨B9, a, none⟩ = some (.int .i64 (r a)) := by rw [HX.out.cell]; exact rcs_get r a ha6
          have hne : (r a == r 0) = false := by rw [beq_eq_false_iff_ne]; exact hs
          simp only [List.getElem?_toArray, List.getElem?_cons_zero] at hx
          clear hs HLS HLE
          generalize r a = s1 at *
          go_quiet (fail)
          go_wp2_with fail
          go_ret
          exact ⟨rfl, HG.out _⟩
      · refine HDO.out.mono ?_
        rintro e w8 ⟨An, nn, cn, Bn, mn, en, rfl, hrm, hg⟩
        have HRN8 := Lib.hid hrm
        have HK8 := Lib.hid (HK7.out.gb hg)
        have HRM8 := Lib.hid (HRM7.out.gb hg)
        clear HK7 HRM7 hg hrm HDO
        have xb := HK8.out.get 2 rfl
        have x0 : w8.cell? ⟨B8, 0, none⟩ = some (.slice Am nm cm) := xb.cell 0
        have x1 : w8.cell? ⟨B8, 1, none⟩ = some (.slice Bm mm em) := xb.cell 1
        have xl := xb.lt
        clear xb
        have yb := HK8.out.get 1 rfl
        have y0 : w8.cell? ⟨B9, 0, none⟩ = some (.int .i64 (r 0)) := yb.cell 0
        have y1 : w8.cell? ⟨B9, 1, none⟩ = some (.int .i64 (r 1)) := yb.cell 1
        have y2 : w8.cell? ⟨B9, 2, none⟩ = some (.int .i64 (r 2)) := yb.cell 2
        have y3 : w8.cell? ⟨B9, 3, none⟩ = some (.int .i64 (r 3)) := yb.cell 3
        have y4 : w8.cell? ⟨B9, 4, none⟩ = some (.int .i64 (r 4)) := yb.cell 4
        have y5 : w8.cell? ⟨B9, 5, none⟩ = some (.int .i64 (r 5)) := yb.cell 5
        have yl := yb.lt
        clear yb
        go_wp2_with fail
        have HK9 := Lib.hid (HK8.out.al2 #[.slice An nn cn, .slice Bn mn en] #[.int .i64 (r 0), .int .i64 (r 1), .int .i64 (r 2), .int .i64 (r 3), .int .i64 (r 4), .int .i64 (r 5)] 29 24)
        have HRM9 := Lib.hid (HRM8.out.gb (al2 w8 #[.slice An nn cn, .slice Bn mn en] #[.int .i64 (r 0), .int .i64 (r 1), .int .i64 (r 2), .int .i64 (r 3), .int .i64 (r 4), .int .i64 (r 5)] 29 24).1)
        have HRN9 := Lib.hid (HRN8.out.gb (al2 w8 #[.slice An nn cn, .slice Bn mn en] #[.int .i64 (r 0), .int .i64 (r 1), .int .i64 (r 2), .int .i64 (r 3), .int .i64 (r 4), .int .i64 (r 5)] 29 24).1)
        clear HK8 HRM8 HRN8
        generalize hW : (w8.alloc (.cells #[.slice An nn cn, .slice Bn mn en] 29)).alloc (.cells #[.int .i64 (r 0), .int .i64 (r 1), .int .i64 (r 2), .int .i64 (r 3), .int .i64 (r 4), .int .i64 (r 5)] 24) = w9 at *
        clear hW
        generalize w8.heap.size = B11 at *
        generalize B11 + 1 = B12 at *
        clear x0 x1 xl
        clear y0 y1 y2 y3 y4 y5 yl
        refine (find_rm_some HRM9.out HSM.out (r 0) p hpl hp).mono ?_
        rintro e w10 ⟨Af, cf, Bf, df, rfl, _, _, hg⟩
        have HK10 := Lib.hid (HK9.out.gb hg)
        have HRM10 := Lib.hid (HRM9.out.gb hg)
        have HRN10 := Lib.hid (HRN9.out.gb hg)
        clear HK9 HRM9 HRN9 hg
        rw [HFR.out]
        have xb := HK10.out.get 3 rfl
        have x0 : w10.cell? ⟨B9, 0, none⟩ = some (.int .i64 (r 0)) := xb.cell 0
        have x1 : w10.cell? ⟨B9, 1, none⟩ = some (.int .i64 (r 1)) := xb.cell 1
        have x2 : w10.cell? ⟨B9, 2, none⟩ = some (.int .i64 (r 2)) := xb.cell 2
        have x3 : w10.cell? ⟨B9, 3, none⟩ = some (.int .i64 (r 3)) := xb.cell 3
        have x4 : w10.cell? ⟨B9, 4, none⟩ = some (.int .i64 (r 4)) := xb.cell 4
        have x5 : w10.cell? ⟨B9, 5, none⟩ = some (.int .i64 (r 5)) := xb.cell 5
        have xl := xb.lt
        clear xb
        have yb := HK10.out.get 0 rfl
        have y0 : w10.cell? ⟨B12, 0, none⟩ = some (.int .i64 (r 0)) := yb.cell 0
        have y1 : w10.cell? ⟨B12, 1, none⟩ = some (.int .i64 (r 1)) := yb.cell 1
        have y2 : w10.cell? ⟨B12, 2, none⟩ = some (.int .i64 (r 2)) := yb.cell 2
        have y3 : w10.cell? ⟨B12, 3, none⟩ = some (.int .i64 (r 3)) := yb.cell 3
        have y4 : w10.cell? ⟨B12, 4, none⟩ = some (.int .i64 (r 4)) := yb.cell 4
        have y5 : w10.cell? ⟨B12, 5, none⟩ = some (.int .i64 (r 5)) := yb.cell 5
        have yl := yb.lt
        clear yb
        have zb := HK10.out.get 4 rfl
        have z0 : w10.cell? ⟨B8, 0, none⟩ = some (.slice Am nm cm) := zb.cell 0
        have z1 : w10.cell? ⟨B8, 1, none⟩ = some (.slice Bm mm em) := zb.cell 1
        have zl := zb.lt
        clear zb
        have ub := HK10.out.get 1 rfl
        have u0 : w10.cell? ⟨B11, 0, none⟩ = some (.slice An nn cn) := ub.cell 0
        have u1 : w10.cell? ⟨B11, 1, none⟩ = some (.slice Bn mn en) := ub.cell 1
        have ul := ub.lt
        clear ub
        have vb := HK10.out.get 2 rfl
        have v0 : w10.cell? ⟨B10, 0, none⟩ = some (.int .i64 9) := vb.cell 0
        have v1 : w10.cell? ⟨B10, 1, none⟩ = some (.int .i64 a) := vb.cell 1
        have v2 : w10.cell? ⟨B10, 2, none⟩ = some (.int .i64 b) := vb.cell 2
        have v3 : w10.cell? ⟨B10, 3, none⟩ = some (.int .i64 i) := vb.cell 3
        have v4 : w10.cell? ⟨B10, 4, none⟩ = some (.int .i64 n) := vb.cell 4
        have vl := vb.lt
        clear vb
        have heq := fun W => eq24_same r W
        simp only [rcs] at heq
        go_wp2_with fail
        have HK11 := Lib.hid (HK10.out.al1 #[.int .i64 O[p].s, .int .i64 O[p].sp, .int .i64 O[p].sd, .bool O[p].sw, .bool O[p].sf, .slice Af O[p].ps.length cf, .slice Bf O[p].ns.length df, .bool false] 41)
        have HRM11 := Lib.hid (HRM10.out.gb (al1 w10 #[.int .i64 O[p].s, .int .i64 O[p].sp, .int .i64 O[p].sd, .bool O[p].sw, .bool O[p].sf, .slice Af O[p].ps.length cf, .slice Bf O[p].ns.length df, .bool false] 41).1)
        have HRN11 := Lib.hid (HRN10.out.gb (al1 w10 #[.int .i64 O[p].s, .int .i64 O[p].sp, .int .i64 O[p].sd, .bool O[p].sw, .bool O[p].sf, .slice Af O[p].ps.length cf, .slice Bf O[p].ns.length df, .bool false] 41).1)
        clear HK10 HRM10 HRN10
        generalize hW : w10.alloc (.cells #[.int .i64 O[p].s, .int .i64 O[p].sp, .int .i64 O[p].sd, .bool O[p].sw, .bool O[p].sf, .slice Af O[p].ps.length cf, .slice Bf O[p].ns.length df, .bool false] 41) = w11 at *
        clear hW
        generalize w10.heap.size = B15 at *
        clear x0 x1 x2 x3 x4 x5 xl
        clear y0 y1 y2 y3 y4 y5 yl
        clear z0 z1 zl
        clear u0 u1 ul
        clear v0 v1 v2 v3 v4 vl
        have HD1 := Lib.hid (do_all HRM11.out HSM.out r 9 a b i n 0 9 (by omega) (by omega) ha6 hb6 hi0 HRT.out)
        have HD2 := fun W hh => do_all (w := W) (v := .agg #[.slice An nn cn, .slice Bn mn en]) (Q := Q) hh HSM2.out r 9 a b i n 0 9 (by omega) (by omega) ha6 hb6 hi0 HRT.out
        have HD2 := Lib.hid HD2
        obtain ⟨f, hf⟩ : ∃ f, flt O r 9 a b i 0 = f := ⟨_, rfl⟩
        obtain ⟨v, hv⟩ : ∃ v, dV O Q r 9 a b i n 0 9 = v := ⟨_, rfl⟩
        rw [hf, hv] at HD1
        have HLS := Lib.hid (fun h => law_same (O := O) (Q := Q) (r := r) (k := 9) (a := a) (b := b) (i := i) (n := n) (by omega) (by omega) hpl ht h)
        have HLE := Lib.hid (fun h => law_else (O := O) (Q := Q) (r := r) (k := 9) (a := a) (b := b) (i := i) (n := n) (by omega) (by omega) hpl ht h)
        have hat : r (tg 9 a b) = r b := rfl
        rw [hat] at HLS HLE
        rw [hf, hv] at HLE
        clear hf hv hat heq
        refine HD1.out.mono ?_
        rintro e w12 ⟨A1, n1, c1, A2, n2, c2, rfl, _, hg⟩
        have HK12 := Lib.hid (HK11.out.gb hg)
        have HRN12 := Lib.hid (HRN11.out.gb hg)
        clear HK11 HRN11 HRM11 HD1 hg
        generalize dR O Q r 9 a b i n 0 9 = r1 at *
        have xb := HK12.out.get 4 rfl
        have x0 : w12.cell? ⟨B9, 0, none⟩ = some (.int .i64 (r 0)) := xb.cell 0
        have x1 : w12.cell? ⟨B9, 1, none⟩ = some (.int .i64 (r 1)) := xb.cell 1
        have x2 : w12.cell? ⟨B9, 2, none⟩ = some (.int .i64 (r 2)) := xb.cell 2
        have x3 : w12.cell? ⟨B9, 3, none⟩ = some (.int .i64 (r 3)) := xb.cell 3
        have x4 : w12.cell? ⟨B9, 4, none⟩ = some (.int .i64 (r 4)) := xb.cell 4
        have x5 : w12.cell? ⟨B9, 5, none⟩ = some (.int .i64 (r 5)) := xb.cell 5
        have xl := xb.lt
        clear xb
        have ub := HK12.out.get 2 rfl
        have u0 : w12.cell? ⟨B11, 0, none⟩ = some (.slice An nn cn) := ub.cell 0
        have u1 : w12.cell? ⟨B11, 1, none⟩ = some (.slice Bn mn en) := ub.cell 1
        have ul := ub.lt
        clear ub
        have vb := HK12.out.get 3 rfl
        have v0 : w12.cell? ⟨B10, 0, none⟩ = some (.int .i64 9) := vb.cell 0
        have v1 : w12.cell? ⟨B10, 1, none⟩ = some (.int .i64 a) := vb.cell 1
        have v2 : w12.cell? ⟨B10, 2, none⟩ = some (.int .i64 b) := vb.cell 2
        have v3 : w12.cell? ⟨B10, 3, none⟩ = some (.int .i64 i) := vb.cell 3
        have v4 : w12.cell? ⟨B10, 4, none⟩ = some (.int .i64 n) := vb.cell 4
        have vl := vb.lt
        clear vb
        go_wp2_with fail
        have HK13 := Lib.hid (HK12.out.al2 #[.slice A1 n1 c1, .slice A2 n2 c2] #[.int .i64 (r1 0), .int .i64 (r1 1), .int .i64 (r1 2), .int .i64 (r1 3), .int .i64 (r1 4), .int .i64 (r1 5)] 29 24)
        have HRN13 := Lib.hid (HRN12.out.gb (al2 w12 #[.slice A1 n1 c1, .slice A2 n2 c2] #[.int .i64 (r1 0), .int .i64 (r1 1), .int .i64 (r1 2), .int .i64 (r1 3), .int .i64 (r1 4), .int .i64 (r1 5)] 29 24).1)
        clear HK12 HRN12
        generalize hW : (w12.alloc (.cells #[.slice A1 n1 c1, .slice A2 n2 c2] 29)).alloc (.cells #[.int .i64 (r1 0), .int .i64 (r1 1), .int .i64 (r1 2), .int .i64 (r1 3), .int .i64 (r1 4), .int .i64 (r1 5)] 24) = w13 at *
        clear hW
        generalize w12.heap.size = B18 at *
        clear x0 x1 x2 x3 x4 x5 xl
        clear u0 u1 ul
        clear v0 v1 v2 v3 v4 vl
        refine (HD2.out _ HRN13.out).mono ?_
        rintro e w14 ⟨A3, n3, c3, A4, n4, c4, rfl, _, hg⟩
        have HK14 := Lib.hid (HK13.out.gb hg)
        clear HK13 HRN13 HD2 hg
        generalize dR (O.set p { O.getD p ob0 with fr := true }) Q r 9 a b i n 0 9 = r2 at *
        have at0 : (0 : Int) ≤ (b : Int) := by omega
        have at6 : (b : Int) < 6 := by omega
        by_cases hs : r b = r 0
        · rw [(HLS.out hs).1, (HLS.out hs).2]
          go_wp2_with fail
          have HK15 := Lib.hid (HK14.out.al2 #[.slice A3 n3 c3, .slice A4 n4 c4] #[.int .i64 (r2 0), .int .i64 (r2 1), .int .i64 (r2 2), .int .i64 (r2 3), .int .i64 (r2 4), .int .i64 (r2 5)] 29 24)
          clear HK14
          generalize hW : (w14.alloc (.cells #[.slice A3 n3 c3, .slice A4 n4 c4] 29)).alloc (.cells #[.int .i64 (r2 0), .int .i64 (r2 1), .int .i64 (r2 2), .int .i64 (r2 3), .int .i64 (r2 4), .int .i64 (r2 5)] 24) = w15 at *
          clear hW
          generalize w14.heap.size = B22 at *
          have HG := Lib.hid (fun q => below_of (HK15.out.gb (gb_drewN w15 q none)).1)
          have HX := Lib.hid (HK15.out.get 8 rfl)
          clear HK15
          have hx := HX.out.cell 0
          have hy : w15.cell? ⟨B9, b, none⟩ = some (.int .i64 (r 0)) := by rw [← hs, HX.out.cell]; exact rcs_get r b hb6
          simp only [List.getElem?_toArray, List.getElem?_cons_zero] at hx
          clear hs HLS HLE
          go_quiet (fail)
          go_wp2_with fail
          go_ret
          exact ⟨rfl, HG.out _⟩
        · rw [(HLE.out hs).1, (HLE.out hs).2]
          go_wp2_with fail
          have HK15 := Lib.hid (HK14.out.al2 #[.slice A3 n3 c3, .slice A4 n4 c4] #[.int .i64 (r2 0), .int .i64 (r2 1), .int .i64 (r2 2), .int .i64 (r2 3), .int .i64 (r2 4), .int .i64 (r2 5)] 29 24)
          clear HK14
          generalize hW : (w14.alloc (.cells #[.slice A3 n3 c3, .slice A4 n4 c4] 29)).alloc (.cells #[.int .i64 (r2 0), .int .i64 (r2 1), .int .i64 (r2 2), .int .i64 (r2 3), .int .i64 (r2 4), .int .i64 (r2 5)] 24) = w15 at *
          clear hW
          generalize w14.heap.size = B22 at *
          have HG := Lib.hid (fun q => below_of (HK15.out.gb (gb_drewN w15 q none)).1)
          have HX := Lib.hid (HK15.out.get 8 rfl)
          clear HK15
          have hx := HX.out.cell 0
          have hy : w15.cell? ⟨B9, b, none⟩ = some (.int .i64 (r b)) := by rw [HX.out.cell]; exact rcs_get r b hb6
          have hne : (r b == r 0) = false := by rw [beq_eq_false_iff_ne]; exact hs
          simp only [List.getElem?_toArray, List.getElem?_cons_zero] at hx
          clear hs HLS HLE
          generalize r b = s1 at *
          go_quiet (fail)
          go_wp2_with fail
          go_ret
          exact ⟨rfl, HG.out _⟩
      · refine HDO.out.mono ?_
        rintro e w8 ⟨An, nn, cn, Bn, mn, en, rfl, hrm, hg⟩
        have HRN8 := Lib.hid hrm
        have HK8 := Lib.hid (HK7.out.gb hg)
        have HRM8 := Lib.hid (HRM7.out.gb hg)
        clear HK7 HRM7 hg hrm HDO
        have xb := HK8.out.get 2 rfl
        have x0 : w8.cell? ⟨B8, 0, none⟩ = some (.slice Am nm cm) := xb.cell 0
        have x1 : w8.cell? ⟨B8, 1, none⟩ = some (.slice Bm mm em) := xb.cell 1
        have xl := xb.lt
        clear xb
        have yb := HK8.out.get 1 rfl
        have y0 : w8.cell? ⟨B9, 0, none⟩ = some (.int .i64 (r 0)) := yb.cell 0
        have y1 : w8.cell? ⟨B9, 1, none⟩ = some (.int .i64 (r 1)) := yb.cell 1
        have y2 : w8.cell? ⟨B9, 2, none⟩ = some (.int .i64 (r 2)) := yb.cell 2
        have y3 : w8.cell? ⟨B9, 3, none⟩ = some (.int .i64 (r 3)) := yb.cell 3
        have y4 : w8.cell? ⟨B9, 4, none⟩ = some (.int .i64 (r 4)) := yb.cell 4
        have y5 : w8.cell? ⟨B9, 5, none⟩ = some (.int .i64 (r 5)) := yb.cell 5
        have yl := yb.lt
        clear yb
        go_wp2_with fail
        have HK9 := Lib.hid (HK8.out.al2 #[.slice An nn cn, .slice Bn mn en] #[.int .i64 (r 0), .int .i64 (r 1), .int .i64 (r 2), .int .i64 (r 3), .int .i64 (r 4), .int .i64 (r 5)] 29 24)
        have HRM9 := Lib.hid (HRM8.out.gb (al2 w8 #[.slice An nn cn, .slice Bn mn en] #[.int .i64 (r 0), .int .i64 (r 1), .int .i64 (r 2), .int .i64 (r 3), .int .i64 (r 4), .int .i64 (r 5)] 29 24).1)
        have HRN9 := Lib.hid (HRN8.out.gb (al2 w8 #[.slice An nn cn, .slice Bn mn en] #[.int .i64 (r 0), .int .i64 (r 1), .int .i64 (r 2), .int .i64 (r 3), .int .i64 (r 4), .int .i64 (r 5)] 29 24).1)
        clear HK8 HRM8 HRN8
        generalize hW : (w8.alloc (.cells #[.slice An nn cn, .slice Bn mn en] 29)).alloc (.cells #[.int .i64 (r 0), .int .i64 (r 1), .int .i64 (r 2), .int .i64 (r 3), .int .i64 (r 4), .int .i64 (r 5)] 24) = w9 at *
        clear hW
        generalize w8.heap.size = B11 at *
        generalize B11 + 1 = B12 at *
        clear x0 x1 xl
        clear y0 y1 y2 y3 y4 y5 yl
        refine (find_rm_some HRM9.out HSM.out (r 0) p hpl hp).mono ?_
        rintro e w10 ⟨Af, cf, Bf, df, rfl, _, _, hg⟩
        have HK10 := Lib.hid (HK9.out.gb hg)
        have HRM10 := Lib.hid (HRM9.out.gb hg)
        have HRN10 := Lib.hid (HRN9.out.gb hg)
        clear HK9 HRM9 HRN9 hg
        rw [HFR.out]
        have xb := HK10.out.get 3 rfl
        have x0 : w10.cell? ⟨B9, 0, none⟩ = some (.int .i64 (r 0)) := xb.cell 0
        have x1 : w10.cell? ⟨B9, 1, none⟩ = some (.int .i64 (r 1)) := xb.cell 1
        have x2 : w10.cell? ⟨B9, 2, none⟩ = some (.int .i64 (r 2)) := xb.cell 2
        have x3 : w10.cell? ⟨B9, 3, none⟩ = some (.int .i64 (r 3)) := xb.cell 3
        have x4 : w10.cell? ⟨B9, 4, none⟩ = some (.int .i64 (r 4)) := xb.cell 4
        have x5 : w10.cell? ⟨B9, 5, none⟩ = some (.int .i64 (r 5)) := xb.cell 5
        have xl := xb.lt
        clear xb
        have yb := HK10.out.get 0 rfl
        have y0 : w10.cell? ⟨B12, 0, none⟩ = some (.int .i64 (r 0)) := yb.cell 0
        have y1 : w10.cell? ⟨B12, 1, none⟩ = some (.int .i64 (r 1)) := yb.cell 1
        have y2 : w10.cell? ⟨B12, 2, none⟩ = some (.int .i64 (r 2)) := yb.cell 2
        have y3 : w10.cell? ⟨B12, 3, none⟩ = some (.int .i64 (r 3)) := yb.cell 3
        have y4 : w10.cell? ⟨B12, 4, none⟩ = some (.int .i64 (r 4)) := yb.cell 4
        have y5 : w10.cell? ⟨B12, 5, none⟩ = some (.int .i64 (r 5)) := yb.cell 5
        have yl := yb.lt
        clear yb
        have zb := HK10.out.get 4 rfl
        have z0 : w10.cell? ⟨B8, 0, none⟩ = some (.slice Am nm cm) := zb.cell 0
        have z1 : w10.cell? ⟨B8, 1, none⟩ = some (.slice Bm mm em) := zb.cell 1
        have zl := zb.lt
        clear zb
        have ub := HK10.out.get 1 rfl
        have u0 : w10.cell? ⟨B11, 0, none⟩ = some (.slice An nn cn) := ub.cell 0
        have u1 : w10.cell? ⟨B11, 1, none⟩ = some (.slice Bn mn en) := ub.cell 1
        have ul := ub.lt
        clear ub
        have vb := HK10.out.get 2 rfl
        have v0 : w10.cell? ⟨B10, 0, none⟩ = some (.int .i64 10) := vb.cell 0
        have v1 : w10.cell? ⟨B10, 1, none⟩ = some (.int .i64 a) := vb.cell 1
        have v2 : w10.cell? ⟨B10, 2, none⟩ = some (.int .i64 b) := vb.cell 2
        have v3 : w10.cell? ⟨B10, 3, none⟩ = some (.int .i64 i) := vb.cell 3
        have v4 : w10.cell? ⟨B10, 4, none⟩ = some (.int .i64 n) := vb.cell 4
        have vl := vb.lt
        clear vb
        have heq := fun W => eq24_same r W
        simp only [rcs] at heq
        go_wp2_with fail
        go_ret
        exact ⟨rfl, below_of (grownBy_trans HK10.out.1 (World.grownBy_alloc _ _ none))⟩
      · refine HDO.out.mono ?_
        rintro e w8 ⟨An, nn, cn, Bn, mn, en, rfl, hrm, hg⟩
        have HRN8 := Lib.hid hrm
        have HK8 := Lib.hid (HK7.out.gb hg)
        have HRM8 := Lib.hid (HRM7.out.gb hg)
        clear HK7 HRM7 hg hrm HDO
        have xb := HK8.out.get 2 rfl
        have x0 : w8.cell? ⟨B8, 0, none⟩ = some (.slice Am nm cm) := xb.cell 0
        have x1 : w8.cell? ⟨B8, 1, none⟩ = some (.slice Bm mm em) := xb.cell 1
        have xl := xb.lt
        clear xb
        have yb := HK8.out.get 1 rfl
        have y0 : w8.cell? ⟨B9, 0, none⟩ = some (.int .i64 (r 0)) := yb.cell 0
        have y1 : w8.cell? ⟨B9, 1, none⟩ = some (.int .i64 (r 1)) := yb.cell 1
        have y2 : w8.cell? ⟨B9, 2, none⟩ = some (.int .i64 (r 2)) := yb.cell 2
        have y3 : w8.cell? ⟨B9, 3, none⟩ = some (.int .i64 (r 3)) := yb.cell 3
        have y4 : w8.cell? ⟨B9, 4, none⟩ = some (.int .i64 (r 4)) := yb.cell 4
        have y5 : w8.cell? ⟨B9, 5, none⟩ = some (.int .i64 (r 5)) := yb.cell 5
        have yl := yb.lt
        clear yb
        go_wp2_with fail
        have HK9 := Lib.hid (HK8.out.al2 #[.slice An nn cn, .slice Bn mn en] #[.int .i64 (r 0), .int .i64 (r 1), .int .i64 (r 2), .int .i64 (r 3), .int .i64 (r 4), .int .i64 (r 5)] 29 24)
        have HRM9 := Lib.hid (HRM8.out.gb (al2 w8 #[.slice An nn cn, .slice Bn mn en] #[.int .i64 (r 0), .int .i64 (r 1), .int .i64 (r 2), .int .i64 (r 3), .int .i64 (r 4), .int .i64 (r 5)] 29 24).1)
        have HRN9 := Lib.hid (HRN8.out.gb (al2 w8 #[.slice An nn cn, .slice Bn mn en] #[.int .i64 (r 0), .int .i64 (r 1), .int .i64 (r 2), .int .i64 (r 3), .int .i64 (r 4), .int .i64 (r 5)] 29 24).1)
        clear HK8 HRM8 HRN8
        generalize hW : (w8.alloc (.cells #[.slice An nn cn, .slice Bn mn en] 29)).alloc (.cells #[.int .i64 (r 0), .int .i64 (r 1), .int .i64 (r 2), .int .i64 (r 3), .int .i64 (r 4), .int .i64 (r 5)] 24) = w9 at *
        clear hW
        generalize w8.heap.size = B11 at *
        generalize B11 + 1 = B12 at *
        clear x0 x1 xl
        clear y0 y1 y2 y3 y4 y5 yl
        refine (find_rm_some HRM9.out HSM.out (r 0) p hpl hp).mono ?_
        rintro e w10 ⟨Af, cf, Bf, df, rfl, _, _, hg⟩
        have HK10 := Lib.hid (HK9.out.gb hg)
        have HRM10 := Lib.hid (HRM9.out.gb hg)
        have HRN10 := Lib.hid (HRN9.out.gb hg)
        clear HK9 HRM9 HRN9 hg
        rw [HFR.out]
        have xb := HK10.out.get 3 rfl
        have x0 : w10.cell? ⟨B9, 0, none⟩ = some (.int .i64 (r 0)) := xb.cell 0
        have x1 : w10.cell? ⟨B9, 1, none⟩ = some (.int .i64 (r 1)) := xb.cell 1
        have x2 : w10.cell? ⟨B9, 2, none⟩ = some (.int .i64 (r 2)) := xb.cell 2
        have x3 : w10.cell? ⟨B9, 3, none⟩ = some (.int .i64 (r 3)) := xb.cell 3
        have x4 : w10.cell? ⟨B9, 4, none⟩ = some (.int .i64 (r 4)) := xb.cell 4
        have x5 : w10.cell? ⟨B9, 5, none⟩ = some (.int .i64 (r 5)) := xb.cell 5
        have xl := xb.lt
        clear xb
        have yb := HK10.out.get 0 rfl
        have y0 : w10.cell? ⟨B12, 0, none⟩ = some (.int .i64 (r 0)) := yb.cell 0
        have y1 : w10.cell? ⟨B12, 1, none⟩ = some (.int .i64 (r 1)) := yb.cell 1
        have y2 : w10.cell? ⟨B12, 2, none⟩ = some (.int .i64 (r 2)) := yb.cell 2
        have y3 : w10.cell? ⟨B12, 3, none⟩ = some (.int .i64 (r 3)) := yb.cell 3
        have y4 : w10.cell? ⟨B12, 4, none⟩ = some (.int .i64 (r 4)) := yb.cell 4
        have y5 : w10.cell? ⟨B12, 5, none⟩ = some (.int .i64 (r 5)) := yb.cell 5
        have yl := yb.lt
        clear yb
        have zb := HK10.out.get 4 rfl
        have z0 : w10.cell? ⟨B8, 0, none⟩ = some (.slice Am nm cm) := zb.cell 0
        have z1 : w10.cell? ⟨B8, 1, none⟩ = some (.slice Bm mm em) := zb.cell 1
        have zl := zb.lt
        clear zb
        have ub := HK10.out.get 1 rfl
        have u0 : w10.cell? ⟨B11, 0, none⟩ = some (.slice An nn cn) := ub.cell 0
        have u1 : w10.cell? ⟨B11, 1, none⟩ = some (.slice Bn mn en) := ub.cell 1
        have ul := ub.lt
        clear ub
        have vb := HK10.out.get 2 rfl
        have v0 : w10.cell? ⟨B10, 0, none⟩ = some (.int .i64 11) := vb.cell 0
        have v1 : w10.cell? ⟨B10, 1, none⟩ = some (.int .i64 a) := vb.cell 1
        have v2 : w10.cell? ⟨B10, 2, none⟩ = some (.int .i64 b) := vb.cell 2
        have v3 : w10.cell? ⟨B10, 3, none⟩ = some (.int .i64 i) := vb.cell 3
        have v4 : w10.cell? ⟨B10, 4, none⟩ = some (.int .i64 n) := vb.cell 4
        have vl := vb.lt
        clear vb
        have heq := fun W => eq24_same r W
        simp only [rcs] at heq
        go_wp2_with fail
        go_ret
        exact ⟨rfl, below_of (grownBy_trans HK10.out.1 (World.grownBy_alloc _ _ none))⟩
      · refine HDO.out.mono ?_
        rintro e w8 ⟨An, nn, cn, Bn, mn, en, rfl, hrm, hg⟩
        have HRN8 := Lib.hid hrm
        have HK8 := Lib.hid (HK7.out.gb hg)
        have HRM8 := Lib.hid (HRM7.out.gb hg)
        clear HK7 HRM7 hg hrm HDO
        have xb := HK8.out.get 2 rfl
        have x0 : w8.cell? ⟨B8, 0, none⟩ = some (.slice Am nm cm) := xb.cell 0
        have x1 : w8.cell? ⟨B8, 1, none⟩ = some (.slice Bm mm em) := xb.cell 1
        have xl := xb.lt
        clear xb
        have yb := HK8.out.get 1 rfl
        have y0 : w8.cell? ⟨B9, 0, none⟩ = some (.int .i64 (r 0)) := yb.cell 0
        have y1 : w8.cell? ⟨B9, 1, none⟩ = some (.int .i64 (r 1)) := yb.cell 1
        have y2 : w8.cell? ⟨B9, 2, none⟩ = some (.int .i64 (r 2)) := yb.cell 2
        have y3 : w8.cell? ⟨B9, 3, none⟩ = some (.int .i64 (r 3)) := yb.cell 3
        have y4 : w8.cell? ⟨B9, 4, none⟩ = some (.int .i64 (r 4)) := yb.cell 4
        have y5 : w8.cell? ⟨B9, 5, none⟩ = some (.int .i64 (r 5)) := yb.cell 5
        have yl := yb.lt
        clear yb
        go_wp2_with fail
        have HK9 := Lib.hid (HK8.out.al2 #[.slice An nn cn, .slice Bn mn en] #[.int .i64 (r 0), .int .i64 (r 1), .int .i64 (r 2), .int .i64 (r 3), .int .i64 (r 4), .int .i64 (r 5)] 29 24)
        have HRM9 := Lib.hid (HRM8.out.gb (al2 w8 #[.slice An nn cn, .slice Bn mn en] #[.int .i64 (r 0), .int .i64 (r 1), .int .i64 (r 2), .int .i64 (r 3), .int .i64 (r 4), .int .i64 (r 5)] 29 24).1)
        have HRN9 := Lib.hid (HRN8.out.gb (al2 w8 #[.slice An nn cn, .slice Bn mn en] #[.int .i64 (r 0), .int .i64 (r 1), .int .i64 (r 2), .int .i64 (r 3), .int .i64 (r 4), .int .i64 (r 5)] 29 24).1)
        clear HK8 HRM8 HRN8
        generalize hW : (w8.alloc (.cells #[.slice An nn cn, .slice Bn mn en] 29)).alloc (.cells #[.int .i64 (r 0), .int .i64 (r 1), .int .i64 (r 2), .int .i64 (r 3), .int .i64 (r 4), .int .i64 (r 5)] 24) = w9 at *
        clear hW
        generalize w8.heap.size = B11 at *
        generalize B11 + 1 = B12 at *
        clear x0 x1 xl
        clear y0 y1 y2 y3 y4 y5 yl
        refine (find_rm_some HRM9.out HSM.out (r 0) p hpl hp).mono ?_
        rintro e w10 ⟨Af, cf, Bf, df, rfl, _, _, hg⟩
        have HK10 := Lib.hid (HK9.out.gb hg)
        have HRM10 := Lib.hid (HRM9.out.gb hg)
        have HRN10 := Lib.hid (HRN9.out.gb hg)
        clear HK9 HRM9 HRN9 hg
        rw [HFR.out]
        have xb := HK10.out.get 3 rfl
        have x0 : w10.cell? ⟨B9, 0, none⟩ = some (.int .i64 (r 0)) := xb.cell 0
        have x1 : w10.cell? ⟨B9, 1, none⟩ = some (.int .i64 (r 1)) := xb.cell 1
        have x2 : w10.cell? ⟨B9, 2, none⟩ = some (.int .i64 (r 2)) := xb.cell 2
        have x3 : w10.cell? ⟨B9, 3, none⟩ = some (.int .i64 (r 3)) := xb.cell 3
        have x4 : w10.cell? ⟨B9, 4, none⟩ = some (.int .i64 (r 4)) := xb.cell 4
        have x5 : w10.cell? ⟨B9, 5, none⟩ = some (.int .i64 (r 5)) := xb.cell 5
        have xl := xb.lt
        clear xb
        have yb := HK10.out.get 0 rfl
        have y0 : w10.cell? ⟨B12, 0, none⟩ = some (.int .i64 (r 0)) := yb.cell 0
        have y1 : w10.cell? ⟨B12, 1, none⟩ = some (.int .i64 (r 1)) := yb.cell 1
        have y2 : w10.cell? ⟨B12, 2, none⟩ = some (.int .i64 (r 2)) := yb.cell 2
        have y3 : w10.cell? ⟨B12, 3, none⟩ = some (.int .i64 (r 3)) := yb.cell 3
        have y4 : w10.cell? ⟨B12, 4, none⟩ = some (.int .i64 (r 4)) := yb.cell 4
        have y5 : w10.cell? ⟨B12, 5, none⟩ = some (.int .i64 (r 5)) := yb.cell 5
        have yl := yb.lt
        clear yb
        have zb := HK10.out.get 4 rfl
        have z0 : w10.cell? ⟨B8, 0, none⟩ = some (.slice Am nm cm) := zb.cell 0
        have z1 : w10.cell? ⟨B8, 1, none⟩ = some (.slice Bm mm em) := zb.cell 1
        have zl := zb.lt
        clear zb
        have ub := HK10.out.get 1 rfl
        have u0 : w10.cell? ⟨B11, 0, none⟩ = some (.slice An nn cn) := ub.cell 0
        have u1 : w10.cell? ⟨B11, 1, none⟩ = some (.slice Bn mn en) := ub.cell 1
        have ul := ub.lt
        clear ub
        have vb := HK10.out.get 2 rfl
        have v0 : w10.cell? ⟨B10, 0, none⟩ = some (.int .i64 12) := vb.cell 0
        have v1 : w10.cell? ⟨B10, 1, none⟩ = some (.int .i64 a) := vb.cell 1
        have v2 : w10.cell? ⟨B10, 2, none⟩ = some (.int .i64 b) := vb.cell 2
        have v3 : w10.cell? ⟨B10, 3, none⟩ = some (.int .i64 i) := vb.cell 3
        have v4 : w10.cell? ⟨B10, 4, none⟩ = some (.int .i64 n) := vb.cell 4
        have vl := vb.lt
        clear vb
        have heq := fun W => eq24_same r W
        simp only [rcs] at heq
        go_wp2_with fail
        go_ret
        exact ⟨rfl, below_of (grownBy_trans HK10.out.1 (World.grownBy_alloc _ _ none))⟩
      · refine HDO.out.mono ?_
        rintro e w8 ⟨An, nn, cn, Bn, mn, en, rfl, hrm, hg⟩
        have HRN8 := Lib.hid hrm
        have HK8 := Lib.hid (HK7.out.gb hg)
        have HRM8 := Lib.hid (HRM7.out.gb hg)
        clear HK7 HRM7 hg hrm HDO
        have xb := HK8.out.get 2 rfl
        have x0 : w8.cell? ⟨B8, 0, none⟩ = some (.slice Am nm cm) := xb.cell 0
        have x1 : w8.cell? ⟨B8, 1, none⟩ = some (.slice Bm mm em) := xb.cell 1
        have xl := xb.lt
        clear xb
        have yb := HK8.out.get 1 rfl
        have y0 : w8.cell? ⟨B9, 0, none⟩ = some (.int .i64 (r 0)) := yb.cell 0
        have y1 : w8.cell? ⟨B9, 1, none⟩ = some (.int .i64 (r 1)) := yb.cell 1
        have y2 : w8.cell? ⟨B9, 2, none⟩ = some (.int .i64 (r 2)) := yb.cell 2
        have y3 : w8.cell? ⟨B9, 3, none⟩ = some (.int .i64 (r 3)) := yb.cell 3
        have y4 : w8.cell? ⟨B9, 4, none⟩ = some (.int .i64 (r 4)) := yb.cell 4
        have y5 : w8.cell? ⟨B9, 5, none⟩ = some (.int .i64 (r 5)) := yb.cell 5
        have yl := yb.lt
        clear yb
        go_wp2_with fail
        have HK9 := Lib.hid (HK8.out.al2 #[.slice An nn cn, .slice Bn mn en] #[.int .i64 (r 0), .int .i64 (r 1), .int .i64 (r 2), .int .i64 (r 3), .int .i64 (r 4), .int .i64 (r 5)] 29 24)
        have HRM9 := Lib.hid (HRM8.out.gb (al2 w8 #[.slice An nn cn, .slice Bn mn en] #[.int .i64 (r 0), .int .i64 (r 1), .int .i64 (r 2), .int .i64 (r 3), .int .i64 (r 4), .int .i64 (r 5)] 29 24).1)
        have HRN9 := Lib.hid (HRN8.out.gb (al2 w8 #[.slice An nn cn, .slice Bn mn en] #[.int .i64 (r 0), .int .i64 (r 1), .int .i64 (r 2), .int .i64 (r 3), .int .i64 (r 4), .int .i64 (r 5)] 29 24).1)
        clear HK8 HRM8 HRN8
        generalize hW : (w8.alloc (.cells #[.slice An nn cn, .slice Bn mn en] 29)).alloc (.cells #[.int .i64 (r 0), .int .i64 (r 1), .int .i64 (r 2), .int .i64 (r 3), .int .i64 (r 4), .int .i64 (r 5)] 24) = w9 at *
        clear hW
        generalize w8.heap.size = B11 at *
        generalize B11 + 1 = B12 at *
        clear x0 x1 xl
        clear y0 y1 y2 y3 y4 y5 yl
        refine (find_rm_some HRM9.out HSM.out (r 0) p hpl hp).mono ?_
        rintro e w10 ⟨Af, cf, Bf, df, rfl, _, _, hg⟩
        have HK10 := Lib.hid (HK9.out.gb hg)
        have HRM10 := Lib.hid (HRM9.out.gb hg)
        have HRN10 := Lib.hid (HRN9.out.gb hg)
        clear HK9 HRM9 HRN9 hg
        rw [HFR.out]
        have xb := HK10.out.get 3 rfl
        have x0 : w10.cell? ⟨B9, 0, none⟩ = some (.int .i64 (r 0)) := xb.cell 0
        have x1 : w10.cell? ⟨B9, 1, none⟩ = some (.int .i64 (r 1)) := xb.cell 1
        have x2 : w10.cell? ⟨B9, 2, none⟩ = some (.int .i64 (r 2)) := xb.cell 2
        have x3 : w10.cell? ⟨B9, 3, none⟩ = some (.int .i64 (r 3)) := xb.cell 3
        have x4 : w10.cell? ⟨B9, 4, none⟩ = some (.int .i64 (r 4)) := xb.cell 4
        have x5 : w10.cell? ⟨B9, 5, none⟩ = some (.int .i64 (r 5)) := xb.cell 5
        have xl := xb.lt
        clear xb
        have yb := HK10.out.get 0 rfl
        have y0 : w10.cell? ⟨B12, 0, none⟩ = some (.int .i64 (r 0)) := yb.cell 0
        have y1 : w10.cell? ⟨B12, 1, none⟩ = some (.int .i64 (r 1)) := yb.cell 1
        have y2 : w10.cell? ⟨B12, 2, none⟩ = some (.int .i64 (r 2)) := yb.cell 2
        have y3 : w10.cell? ⟨B12, 3, none⟩ = some (.int .i64 (r 3)) := yb.cell 3
        have y4 : w10.cell? ⟨B12, 4, none⟩ = some (.int .i64 (r 4)) := yb.cell 4
        have y5 : w10.cell? ⟨B12, 5, none⟩ = some (.int .i64 (r 5)) := yb.cell 5
        have yl := yb.lt
        clear yb
        have zb := HK10.out.get 4 rfl
        have z0 : w10.cell? ⟨B8, 0, none⟩ = some (.slice Am nm cm) := zb.cell 0
        have z1 : w10.cell? ⟨B8, 1, none⟩ = some (.slice Bm mm em) := zb.cell 1
        have zl := zb.lt
        clear zb
        have ub := HK10.out.get 1 rfl
        have u0 : w10.cell? ⟨B11, 0, none⟩ = some (.slice An nn cn) := ub.cell 0
        have u1 : w10.cell? ⟨B11, 1, none⟩ = some (.slice Bn mn en) := ub.cell 1
        have ul := ub.lt
        clear ub
        have vb := HK10.out.get 2 rfl
        have v0 : w10.cell? ⟨B10, 0, none⟩ = some (.int .i64 13) := vb.cell 0
        have v1 : w10.cell? ⟨B10, 1, none⟩ = some (.int .i64 a) := vb.cell 1
        have v2 : w10.cell? ⟨B10, 2, none⟩ = some (.int .i64 b) := vb.cell 2
        have v3 : w10.cell? ⟨B10, 3, none⟩ = some (.int .i64 i) := vb.cell 3
        have v4 : w10.cell? ⟨B10, 4, none⟩ = some (.int .i64 n) := vb.cell 4
        have vl := vb.lt
        clear vb
        have heq := fun W => eq24_same r W
        simp only [rcs] at heq
        go_wp2_with fail
        go_ret
        exact ⟨rfl, below_of (grownBy_trans HK10.out.1 (World.grownBy_alloc _ _ none))⟩
      · refine HDO.out.mono ?_
        rintro e w8 ⟨An, nn, cn, Bn, mn, en, rfl, hrm, hg⟩
        have HRN8 := Lib.hid hrm
        have HK8 := Lib.hid (HK7.out.gb hg)
        have HRM8 := Lib.hid (HRM7.out.gb hg)
        clear HK7 HRM7 hg hrm HDO
        have xb := HK8.out.get 2 rfl
        have x0 : w8.cell? ⟨B8, 0, none⟩ = some (.slice Am nm cm) := xb.cell 0
        have x1 : w8.cell? ⟨B8, 1, none⟩ = some (.slice Bm mm em) := xb.cell 1
        have xl := xb.lt
        clear xb
        have yb := HK8.out.get 1 rfl
        have y0 : w8.cell? ⟨B9, 0, none⟩ = some (.int .i64 (r 0)) := yb.cell 0
        have y1 : w8.cell? ⟨B9, 1, none⟩ = some (.int .i64 (r 1)) := yb.cell 1
        have y2 : w8.cell? ⟨B9, 2, none⟩ = some (.int .i64 (r 2)) := yb.cell 2
        have y3 : w8.cell? ⟨B9, 3, none⟩ = some (.int .i64 (r 3)) := yb.cell 3
        have y4 : w8.cell? ⟨B9, 4, none⟩ = some (.int .i64 (r 4)) := yb.cell 4
        have y5 : w8.cell? ⟨B9, 5, none⟩ = some (.int .i64 (r 5)) := yb.cell 5
        have yl := yb.lt
        clear yb
        go_wp2_with fail
        have HK9 := Lib.hid (HK8.out.al2 #[.slice An nn cn, .slice Bn mn en] #[.int .i64 (r 0), .int .i64 (r 1), .int .i64 (r 2), .int .i64 (r 3), .int .i64 (r 4), .int .i64 (r 5)] 29 24)
        have HRM9 := Lib.hid (HRM8.out.gb (al2 w8 #[.slice An nn cn, .slice Bn mn en] #[.int .i64 (r 0), .int .i64 (r 1), .int .i64 (r 2), .int .i64 (r 3), .int .i64 (r 4), .int .i64 (r 5)] 29 24).1)
        have HRN9 := Lib.hid (HRN8.out.gb (al2 w8 #[.slice An nn cn, .slice Bn mn en] #[.int .i64 (r 0), .int .i64 (r 1), .int .i64 (r 2), .int .i64 (r 3), .int .i64 (r 4), .int .i64 (r 5)] 29 24).1)
        clear HK8 HRM8 HRN8
        generalize hW : (w8.alloc (.cells #[.slice An nn cn, .slice Bn mn en] 29)).alloc (.cells #[.int .i64 (r 0), .int .i64 (r 1), .int .i64 (r 2), .int .i64 (r 3), .int .i64 (r 4), .int .i64 (r 5)] 24) = w9 at *
        clear hW
        generalize w8.heap.size = B11 at *
        generalize B11 + 1 = B12 at *
        clear x0 x1 xl
        clear y0 y1 y2 y3 y4 y5 yl
        refine (find_rm_some HRM9.out HSM.out (r 0) p hpl hp).mono ?_
        rintro e w10 ⟨Af, cf, Bf, df, rfl, _, _, hg⟩
        have HK10 := Lib.hid (HK9.out.gb hg)
        have HRM10 := Lib.hid (HRM9.out.gb hg)
        have HRN10 := Lib.hid (HRN9.out.gb hg)
        clear HK9 HRM9 HRN9 hg
        rw [HFR.out]
        have xb := HK10.out.get 3 rfl
        have x0 : w10.cell? ⟨B9, 0, none⟩ = some (.int .i64 (r 0)) := xb.cell 0
        have x1 : w10.cell? ⟨B9, 1, none⟩ = some (.int .i64 (r 1)) := xb.cell 1
        have x2 : w10.cell? ⟨B9, 2, none⟩ = some (.int .i64 (r 2)) := xb.cell 2
        have x3 : w10.cell? ⟨B9, 3, none⟩ = some (.int .i64 (r 3)) := xb.cell 3
        have x4 : w10.cell? ⟨B9, 4, none⟩ = some (.int .i64 (r 4)) := xb.cell 4
        have x5 : w10.cell? ⟨B9, 5, none⟩ = some (.int .i64 (r 5)) := xb.cell 5
        have xl := xb.lt
        clear xb
        have yb := HK10.out.get 0 rfl
        have y0 : w10.cell? ⟨B12, 0, none⟩ = some (.int .i64 (r 0)) := yb.cell 0
        have y1 : w10.cell? ⟨B12, 1, none⟩ = some (.int .i64 (r 1)) := yb.cell 1
        have y2 : w10.cell? ⟨B12, 2, none⟩ = some (.int .i64 (r 2)) := yb.cell 2
        have y3 : w10.cell? ⟨B12, 3, none⟩ = some (.int .i64 (r 3)) := yb.cell 3
        have y4 : w10.cell? ⟨B12, 4, none⟩ = some (.int .i64 (r 4)) := yb.cell 4
        have y5 : w10.cell? ⟨B12, 5, none⟩ = some (.int .i64 (r 5)) := yb.cell 5
        have yl := yb.lt
        clear yb
        have zb := HK10.out.get 4 rfl
        have z0 : w10.cell? ⟨B8, 0, none⟩ = some (.slice Am nm cm) := zb.cell 0
        have z1 : w10.cell? ⟨B8, 1, none⟩ = some (.slice Bm mm em) := zb.cell 1
        have zl := zb.lt
        clear zb
        have ub := HK10.out.get 1 rfl
        have u0 : w10.cell? ⟨B11, 0, none⟩ = some (.slice An nn cn) := ub.cell 0
        have u1 : w10.cell? ⟨B11, 1, none⟩ = some (.slice Bn mn en) := ub.cell 1
        have ul := ub.lt
        clear ub
        have vb := HK10.out.get 2 rfl
        have v0 : w10.cell? ⟨B10, 0, none⟩ = some (.int .i64 14) := vb.cell 0
        have v1 : w10.cell? ⟨B10, 1, none⟩ = some (.int .i64 a) := vb.cell 1
        have v2 : w10.cell? ⟨B10, 2, none⟩ = some (.int .i64 b) := vb.cell 2
        have v3 : w10.cell? ⟨B10, 3, none⟩ = some (.int .i64 i) := vb.cell 3
        have v4 : w10.cell? ⟨B10, 4, none⟩ = some (.int .i64 n) := vb.cell 4
        have vl := vb.lt
        clear vb
        have heq := fun W => eq24_same r W
        simp only [rcs] at heq
        go_wp2_with fail
        go_ret
        exact ⟨rfl, below_of (grownBy_trans HK10.out.1 (World.grownBy_alloc _ _ none))⟩
theorem own : ownKnob Try.prog.godebug = none := by kernel_rfl
theorem laidOut : laidOutB Try.prog = true := by kernel_rfl

set_option maxRecDepth 100000 in
theorem lifted (os : _root_.Go.Os) (started : os.Started) (H : Type) (enc : TypeId × Value → H) :
    ReturnsInHanded {} Try.checked os 6 .any (Rows.modelFreedSpec.pre6 enc Try.prog Try.f6 Rows.modelFreedRow.domain false) (Rows.modelFreedSpec.post enc Try.prog Try.f6 false true false false) := by
  refine returnsInHanded_of_change (C := Try.checked) own started (by kernel_rfl) Try.func6
    (ChangeSpec.witness6 (enc := enc) (C := Try.checked) false ⟨#[], #[.slice none 0 0, .agg #[.int .i64 0, .int .i64 0, .int .i64 0, .int .i64 0, .int .i64 0, .int .i64 0], .agg #[.int .i64 0, .int .i64 0, .int .i64 0, .int .i64 0, .int .i64 0]], []⟩ 8 (by kernel_rfl) (by kernel_rfl) (by kernel_rfl) (by kernel_rfl)) ?_
  intro W base args ds gs before hval0 hW hcnd _
  have hval : ∀ (j : Nat) t v, Try.f6.params[j]? = some t → args[j]? = some v → Value.okWide Try.prog W .any base t v := hval0
  have hW' := hW
  obtain ⟨p, q, hA0, hV, rfl, hfz, hnd⟩ := hW
  have hA : DataW.TrodAll enc Try.prog W 0 (fun _ => true) true Try.f6.params.toList args.toList ds p := hA0
  rw [Try.params6] at hA hval
  obtain ⟨v0, vs0, d0, ds0, p0, q0, hargs, rfl, rfl, h0, r0⟩ := trodAll_cons hA
  obtain ⟨v1, vs1, d1, ds1, p1, q1, rfl, rfl, rfl, h1, r1⟩ := trodAll_cons r0
  obtain ⟨v2, vs2, d2, ds2, p2, q2, rfl, rfl, rfl, h2, r2⟩ := trodAll_cons r1
  obtain ⟨rfl, rfl, rfl⟩ := trodAll_nil r2
  obtain rfl : args = #[v0, v1, v2] := by cases args; simp_all
  obtain ⟨rfl, rfl⟩ := trodVars_none hV
  have k0 := h0
  have lt0 : ∀ x ∈ p0, x.block < W.heap.size := by obtain ⟨m, hm⟩ := k0; exact DataW.trod_lt m _ _ _ hm
  have k1 := h1
  have lt1 : ∀ x ∈ p1, x.block < W.heap.size := by obtain ⟨m, hm⟩ := k1; exact DataW.trod_lt m _ _ _ hm
  have k2 := h2
  have lt2 : ∀ x ∈ p2, x.block < W.heap.size := by obtain ⟨m, hm⟩ := k2; exact DataW.trod_lt m _ _ _ hm
  obtain ⟨a0, len0, cap0, rfl⟩ := okWide_slice Try.underlying22 (hval 0 22 v0 rfl rfl)
  obtain ⟨L0, hl0, hr0, hx0⟩ : ∃ L : List Ov, L.length = len0 ∧ RL W a0 L ∧ ∀ y ∈ L, Lo y.o ∧ Cp y := by
    obtain ⟨fuel, hf⟩ := h0
    exact open_objs hf
  subst hl0
  obtain ⟨R1, rfl, hR1⟩ := open_regs (hval 1 24 v1 rfl rfl) h1
  obtain ⟨D2, rfl, hD2⟩ := open_deed (hval 2 26 v2 rfl rfl) h2
  clear hA0 hval0
  refine (walk a0 cap0 L0 R1 (D2 0) (D2 1) (D2 2) (D2 3) (D2 4) W hr0 hx0 hR1 (hD2 0 (by omega)) (hD2 1 (by omega)) (hD2 2 (by omega)) (hD2 3 (by omega)) (hD2 4 (by omega))).mono fun e W' ⟨he, bel⟩ => ?_
  subst he
  exact ⟨_, rfl, _, _, _, [], _, [], hW', trodAll_mk1 (shut_bool Try.underlying4 _), (trodAll_cons_mk (Below.trod laidOut (by kernel_rfl) (of_decide_eq_true (by kernel_rfl)) k0 bel lt0) (trodAll_cons_mk (Below.trod laidOut (by kernel_rfl) (of_decide_eq_true (by kernel_rfl)) k1 bel lt1) (trodAll_cons_mk (Below.trod laidOut (by kernel_rfl) (of_decide_eq_true (by kernel_rfl)) k2 bel lt2) trodAll_mk0))), rfl, bel.frame _, fun h => by cases h⟩

theorem over : Rows.modelFreedRow.holds Try.pinned (OpenSpec.ofChange Rows.modelFreedSpec) :=
  OpenClaim.holds_of_wide 6 Try.f6 rfl rfl rfl rfl rfl rfl rfl ⟨rfl, rfl, rfl, rfl, rfl⟩ rfl rfl rfl rfl rfl (by kernel_rfl) Try.func6 (by kernel_rfl)
    (of_decide_eq_true (by kernel_rfl)) (by unfold Func.isWrapper; first | (rw [if_pos (by decide +kernel)]; kernel_rfl) | (rw [if_neg (by decide +kernel)]; exact ⟨rfl, rfl⟩))
    (fun os started H enc _ => lifted os started H enc)

theorem proved : Rows.ModelFreedSaid := over
end Go.Proofs.Yteieljkkcnpfmaa.modelFreed

namespace Go.Proofs.Yteieljkkcnpfmaa
theorem ModelFreed_holds : Rows.ModelFreedSaid := modelFreed.proved
#print axioms ModelFreed_holds
end Go.Proofs.Yteieljkkcnpfmaa

