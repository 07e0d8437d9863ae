/-
  sameObj, EqualFunc, Same.
-/
import Derived.Test.YteieljkkcnpfmaaSame
import Derived.Deep.Cut
namespace Go.Proofs.Yteieljkkcnpfmaa
open Go.ChangeShapes Go.WideShapes Go.ChangeAt Go.RowKit
set_option linter.unusedVariables false

set_option maxHeartbeats 4000000 in
theorem sameObj_any (o p : Ob) (Ao Bo Ap Bp : Option Addr) (co dz cp dp : Nat) (w : World) (h1 : Rd w Ao o.ps.length o.ps) (h2 : Rd w Bo o.ns.length o.ns) (h3 : Rd w Ap p.ps.length p.ps) (h4 : Rd w Bp p.ns.length p.ns) :
    Calls Try.prog 25 #[.agg #[.int .i64 o.s, .int .i64 o.sp, .int .i64 o.sd, .bool o.sw, .bool o.sf, .slice Ao o.ps.length co, .slice Bo o.ns.length dz, .bool o.fr], .agg #[.int .i64 p.s, .int .i64 p.sp, .int .i64 p.sd, .bool p.sw, .bool p.sf, .slice Ap p.ps.length cp, .slice Bp p.ns.length dp, .bool p.fr]] w fun e w' => e = .returned (.bool (decide (o = p))) ∧ w.grownBy w' none := by
  obtain ⟨q, hq⟩ : ∃ q, decide (o = p) = q := ⟨_, rfl⟩
  rw [hq]
  have HQ := Lib.hid hq
  clear hq
  obtain ⟨wb, hwb⟩ : ∃ wb, wb = (w.alloc (.cells #[.int .i64 o.s, .int .i64 o.sp, .int .i64 o.sd, .bool o.sw, .bool o.sf, .slice Ao o.ps.length co, .slice Bo o.ns.length dz, .bool o.fr] 41)).alloc (.cells #[.int .i64 p.s, .int .i64 p.sp, .int .i64 p.sd, .bool p.sw, .bool p.sf, .slice Ap p.ps.length cp, .slice Bp p.ns.length dp, .bool p.fr] 41) := ⟨_, rfl⟩
  have hg0 : w.grownBy wb none := by rw [hwb]; exact grownBy_trans (World.grownBy_alloc _ _ none) (World.grownBy_alloc _ _ none)
  have b1 : Blk wb w.heap.size 41 #[.int .i64 o.s, .int .i64 o.sp, .int .i64 o.sd, .bool o.sw, .bool o.sf, .slice Ao o.ps.length co, .slice Bo o.ns.length dz, .bool o.fr] := by rw [hwb]; exact (Blk.new w 41 _).gb (World.grownBy_alloc _ _ none) (by simp)
  have b2 : Blk wb (w.heap.size + 1) 41 #[.int .i64 p.s, .int .i64 p.sp, .int .i64 p.sd, .bool p.sw, .bool p.sf, .slice Ap p.ps.length cp, .slice Bp p.ns.length dp, .bool p.fr] := by
    rw [hwb]; have := Blk.new (w.alloc (.cells #[.int .i64 o.s, .int .i64 o.sp, .int .i64 o.sd, .bool o.sw, .bool o.sf, .slice Ao o.ps.length co, .slice Bo o.ns.length dz, .bool o.fr] 41)) 41 #[.int .i64 p.s, .int .i64 p.sp, .int .i64 p.sd, .bool p.sw, .bool p.sf, .slice Ap p.ps.length cp, .slice Bp p.ns.length dp, .bool p.fr]
    simpa using this
  have k0 : wb.cell? ⟨w.heap.size, 0, none⟩ = some (.int .i64 o.s) := b1.cell 0
  have l0 : wb.cell? ⟨w.heap.size + 1, 0, none⟩ = some (.int .i64 p.s) := b2.cell 0
  have k1 : wb.cell? ⟨w.heap.size, 1, none⟩ = some (.int .i64 o.sp) := b1.cell 1
  have l1 : wb.cell? ⟨w.heap.size + 1, 1, none⟩ = some (.int .i64 p.sp) := b2.cell 1
  have k2 : wb.cell? ⟨w.heap.size, 2, none⟩ = some (.int .i64 o.sd) := b1.cell 2
  have l2 : wb.cell? ⟨w.heap.size + 1, 2, none⟩ = some (.int .i64 p.sd) := b2.cell 2
  have k3 : wb.cell? ⟨w.heap.size, 3, none⟩ = some (.bool o.sw) := b1.cell 3
  have l3 : wb.cell? ⟨w.heap.size + 1, 3, none⟩ = some (.bool p.sw) := b2.cell 3
  have k4 : wb.cell? ⟨w.heap.size, 4, none⟩ = some (.bool o.sf) := b1.cell 4
  have l4 : wb.cell? ⟨w.heap.size + 1, 4, none⟩ = some (.bool p.sf) := b2.cell 4
  have k5 : wb.cell? ⟨w.heap.size, 5, none⟩ = some (.slice Ao o.ps.length co) := b1.cell 5
  have l5 : wb.cell? ⟨w.heap.size + 1, 5, none⟩ = some (.slice Ap p.ps.length cp) := b2.cell 5
  have k6 : wb.cell? ⟨w.heap.size, 6, none⟩ = some (.slice Bo o.ns.length dz) := b1.cell 6
  have l6 : wb.cell? ⟨w.heap.size + 1, 6, none⟩ = some (.slice Bp p.ns.length dp) := b2.cell 6
  have k7 : wb.cell? ⟨w.heap.size, 7, none⟩ = some (.bool o.fr) := b1.cell 7
  have l7 : wb.cell? ⟨w.heap.size + 1, 7, none⟩ = some (.bool p.fr) := b2.cell 7
  have HWB := Lib.hid hwb
  have HG0 := Lib.hid hg0
  have H1 := Lib.hid (h1.gb hg0); have H2 := Lib.hid (h2.gb hg0); have H3 := Lib.hid (h3.gb hg0); have H4 := Lib.hid (h4.gb hg0)
  clear hwb hg0 b1 b2 h1 h2 h3 h4
  go_enter Try.func25, Try.ntmps25
  go_upto_region 1 with (fail)
  rw [← HWB.out]
  clear HWB
  by_cases hs : o.s = p.s
  · rw [hs] at k0
    by_cases hsp : o.sp = p.sp
    · rw [hsp] at k1
      by_cases hsd : o.sd = p.sd
      · rw [hsd] at k2
        by_cases hsw : o.sw = p.sw
        · rw [hsw] at k3
          by_cases hsf : o.sf = p.sf
          · rw [hsf] at k4
            by_cases hfr : o.fr = p.fr
            · rw [hfr] at k7
              have HE : Hid (o.s = p.s ∧ o.sp = p.sp ∧ o.sd = p.sd ∧ o.sw = p.sw ∧ o.sf = p.sf ∧ o.fr = p.fr) := ⟨hs, hsp, hsd, hsw, hsf, hfr⟩
              clear hs hsp hsd hsw hsf hfr
              go_wp2_with fail
              refine (eqInts_any Ao Ap co cp o.ps p.ps wb H1.out H3.out).mono ?_
              by_cases hps : o.ps = p.ps
              · rw [show decide (o.ps = p.ps) = true from decide_eq_true hps]
                rintro e w2 ⟨rfl, hg2⟩
                have HG2 := Lib.hid (grownBy_trans HG0.out hg2)
                have HPS := Lib.hid hps
                have r6 := cellk k6 hg2
                have t6 := cellk l6 hg2
                have H2b := Lib.hid (H2.out.gb hg2)
                have H4b := Lib.hid (H4.out.gb hg2)
                clear hps hg2
                go_wp2_with fail
                refine (eqInts_any Bo Bp dz dp o.ns p.ns w2 H2b.out H4b.out).mono ?_
                have HFin : Hid (decide (o.ns = p.ns) = q) := by
                  unfold Hid; rw [← HQ.out, decide_eq_decide]
                  obtain ⟨e1, e2, e3, e4, e5, e6⟩ := HE.out
                  refine ⟨fun e => ?_, fun e => by rw [e]⟩
                  cases o; cases p; simp_all
                  exact HPS.out
                rw [HFin.out]
                rintro e w3 ⟨rfl, hg3⟩
                have HG3 := Lib.hid (grownBy_trans HG2.out hg3)
                clear hg3
                go_wp2_with fail
                go_ret
                exact ⟨rfl, HG3.out⟩
              · rw [show decide (o.ps = p.ps) = false from decide_eq_false hps]
                rintro e w2 ⟨rfl, hg2⟩
                have HG2 := Lib.hid (grownBy_trans HG0.out hg2)
                have HF : Hid (false = q) := by
                  unfold Hid; rw [← HQ.out]; symm; rw [decide_eq_false_iff_not]; intro e; exact hps (by rw [e])
                clear hps hg2
                go_wp2_with fail
                go_ret
                exact ⟨ret_bool HF.out, HG2.out⟩
            · have HF : Hid (false = q) := by
                unfold Hid; rw [← HQ.out]; symm; rw [decide_eq_false_iff_not]; intro e; exact hfr (by rw [e])
              have tt : (o.fr == p.fr) = false := by rw [beq_eq_false_iff_ne]; exact hfr
              clear hfr
              go_wp2_with fail
              go_ret
              exact ⟨ret_bool HF.out, HG0.out⟩
          · have HF : Hid (false = q) := by
              unfold Hid; rw [← HQ.out]; symm; rw [decide_eq_false_iff_not]; intro e; exact hsf (by rw [e])
            have tt : (o.sf == p.sf) = false := by rw [beq_eq_false_iff_ne]; exact hsf
            clear hsf
            go_wp2_with fail
            go_ret
            exact ⟨ret_bool HF.out, HG0.out⟩
        · have HF : Hid (false = q) := by
            unfold Hid; rw [← HQ.out]; symm; rw [decide_eq_false_iff_not]; intro e; exact hsw (by rw [e])
          have tt : (o.sw == p.sw) = false := by rw [beq_eq_false_iff_ne]; exact hsw
          clear hsw
          go_wp2_with fail
          go_ret
          exact ⟨ret_bool HF.out, HG0.out⟩
      · have HF : Hid (false = q) := by
          unfold Hid; rw [← HQ.out]; symm; rw [decide_eq_false_iff_not]; intro e; exact hsd (by rw [e])
        have tt : (o.sd == p.sd) = false := by rw [beq_eq_false_iff_ne]; exact hsd
        clear hsd
        go_wp2_with fail
        go_ret
        exact ⟨ret_bool HF.out, HG0.out⟩
    · have HF : Hid (false = q) := by
        unfold Hid; rw [← HQ.out]; symm; rw [decide_eq_false_iff_not]; intro e; exact hsp (by rw [e])
      have tt : (o.sp == p.sp) = false := by rw [beq_eq_false_iff_ne]; exact hsp
      clear hsp
      go_wp2_with fail
      go_ret
      exact ⟨ret_bool HF.out, HG0.out⟩
  · have HF : Hid (false = q) := by
      unfold Hid; rw [← HQ.out]; symm; rw [decide_eq_false_iff_not]; intro e; exact hs (by rw [e])
    have tt : (o.s == p.s) = false := by rw [beq_eq_false_iff_ne]; exact hs
    clear hs
    go_wp2_with fail
    go_ret
    exact ⟨ret_bool HF.out, HG0.out⟩
theorem fr25 (a b : Value) (w : World) : (callFunc 25 #[a, b]).run Try.prog w = .ok (.enter 25 #[a, b]) w := by kernel_rfl

theorem obs_get (L : List Ov) (i : Nat) (h : i < L.length) : (obs L)[i]'(by simpa [obs] using h) = L[i].o := by simp [obs]
set_option maxHeartbeats 4000000 in
theorem eqFunc_any (A B : Option Addr) (c d : Nat) (L M : List Ov) (w : World) (h : RL w A L) (k : RL w B M) :
    Calls Try.prog 24 #[.slice A L.length c, .slice B M.length d, .func (.func 25) #[] #[]] w fun e w' => e = .returned (.bool (decide (obs L = obs M))) ∧ w.grownBy w' none := by
  have hle1 := h.1.le
  have hle2 := k.1.le
  have HA := Lib.hid h
  have HB := Lib.hid k
  clear h k
  obtain ⟨q, hq⟩ : ∃ q, decide (obs L = obs M) = q := ⟨_, rfl⟩
  rw [hq]
  have HQ := Lib.hid hq
  clear hq
  have hcf := fr25
  by_cases hne : L.length = M.length
  · have HLM : Hid (M.length = L.length) := hne.symm
    have tt : ((L.length : Int) != (M.length : Int)) = false := by rw [hne]; simp
    clear hne
    go_enter Try.func24, Try.ntmps24
    go_wp2
    clear tt
    go_loopw [17] (fun s wr => ∃ i : Nat, s = .int .i64 i ∧ i ≤ L.length ∧ Agree (obs L) (obs M) i ∧ w.grownBy wr none) (fun s _ => L.length - (intOf s).toNat)
    case atStart => exact ⟨0, rfl, Nat.zero_le _, Agree.zero _ _, grownBy_refl _ _⟩
    case round =>
      obtain ⟨i, rfl, hi, hag, hg⟩ := hrel
      by_cases hl1 : i < L.length
      · have hl2 : i < M.length := by rw [HLM.out]; exact hl1
        have hi0 : (0 : Int) ≤ (i : Int) := by omega
        have hi1 : (i : Int) < (L.length : Int) := by omega
        have hi2 : (i : Int) < (M.length : Int) := by omega
        have HR1 := Lib.hid (HA.out.gb hg)
        have HR2 := Lib.hid (HB.out.gb hg)
        have HOL := Lib.hid (obs_get L i hl1)
        have HOM := Lib.hid (obs_get M i hl2)
        have hroo := HR1.out.2 L[i] (List.getElem_mem _)
        obtain ⟨bo, fo, eo, -, k0, k1, k2, k3, k4, k5, k6, k7⟩ := HR1.out.cells i hl1
        obtain ⟨Ao, co, Bo, dz, hvo, hwo, hro, hso⟩ := hroo
        rw [hvo] at k5
        rw [hwo] at k6
        clear hvo hwo
        have hrop := HR2.out.2 M[i] (List.getElem_mem _)
        obtain ⟨bp, fp, ep, -, m0, m1, m2, m3, m4, m5, m6, m7⟩ := HR2.out.cells i hl2
        obtain ⟨Ap, cp, Bp, dp, hvp, hwp, hrp, hsp⟩ := hrop
        rw [hvp] at m5
        rw [hwp] at m6
        clear hvp hwp
        subst eo ep
        generalize L[i].o = o at *
        generalize M[i].o = p at *
        have HW : Hid (wr.grownBy ((wr.alloc (.cells #[.int .i64 o.s, .int .i64 o.sp, .int .i64 o.sd, .bool o.sw, .bool o.sf, .slice Ao o.ps.length co, .slice Bo o.ns.length dz, .bool o.fr] 41)).alloc (.cells #[.int .i64 p.s, .int .i64 p.sp, .int .i64 p.sd, .bool p.sw, .bool p.sf, .slice Ap p.ps.length cp, .slice Bp p.ns.length dp, .bool p.fr] 41)) none) := grownBy_trans (World.grownBy_alloc _ _ none) (World.grownBy_alloc _ _ none)
        have HC1 := Lib.hid (hro.gb HW.out); have HC2 := Lib.hid (hso.gb HW.out); have HC3 := Lib.hid (hrp.gb HW.out); have HC4 := Lib.hid (hsp.gb HW.out)
        have bx1 : Blk ((wr.alloc (.cells #[.int .i64 o.s, .int .i64 o.sp, .int .i64 o.sd, .bool o.sw, .bool o.sf, .slice Ao o.ps.length co, .slice Bo o.ns.length dz, .bool o.fr] 41)).alloc (.cells #[.int .i64 p.s, .int .i64 p.sp, .int .i64 p.sd, .bool p.sw, .bool p.sf, .slice Ap p.ps.length cp, .slice Bp p.ns.length dp, .bool p.fr] 41)) wr.heap.size 41 #[.int .i64 o.s, .int .i64 o.sp, .int .i64 o.sd, .bool o.sw, .bool o.sf, .slice Ao o.ps.length co, .slice Bo o.ns.length dz, .bool o.fr] := (Blk.new wr 41 _).gb (World.grownBy_alloc _ _ none) (by simp)
        have n0 := cellk m0 (World.grownBy_alloc wr (.cells #[.int .i64 o.s, .int .i64 o.sp, .int .i64 o.sd, .bool o.sw, .bool o.sf, .slice Ao o.ps.length co, .slice Bo o.ns.length dz, .bool o.fr] 41) none)
        have n1 := cellk m1 (World.grownBy_alloc wr (.cells #[.int .i64 o.s, .int .i64 o.sp, .int .i64 o.sd, .bool o.sw, .bool o.sf, .slice Ao o.ps.length co, .slice Bo o.ns.length dz, .bool o.fr] 41) none)
        have n2 := cellk m2 (World.grownBy_alloc wr (.cells #[.int .i64 o.s, .int .i64 o.sp, .int .i64 o.sd, .bool o.sw, .bool o.sf, .slice Ao o.ps.length co, .slice Bo o.ns.length dz, .bool o.fr] 41) none)
        have n3 := cellk m3 (World.grownBy_alloc wr (.cells #[.int .i64 o.s, .int .i64 o.sp, .int .i64 o.sd, .bool o.sw, .bool o.sf, .slice Ao o.ps.length co, .slice Bo o.ns.length dz, .bool o.fr] 41) none)
        have n4 := cellk m4 (World.grownBy_alloc wr (.cells #[.int .i64 o.s, .int .i64 o.sp, .int .i64 o.sd, .bool o.sw, .bool o.sf, .slice Ao o.ps.length co, .slice Bo o.ns.length dz, .bool o.fr] 41) none)
        have n5 := cellk m5 (World.grownBy_alloc wr (.cells #[.int .i64 o.s, .int .i64 o.sp, .int .i64 o.sd, .bool o.sw, .bool o.sf, .slice Ao o.ps.length co, .slice Bo o.ns.length dz, .bool o.fr] 41) none)
        have n6 := cellk m6 (World.grownBy_alloc wr (.cells #[.int .i64 o.s, .int .i64 o.sp, .int .i64 o.sd, .bool o.sw, .bool o.sf, .slice Ao o.ps.length co, .slice Bo o.ns.length dz, .bool o.fr] 41) none)
        have n7 := cellk m7 (World.grownBy_alloc wr (.cells #[.int .i64 o.s, .int .i64 o.sp, .int .i64 o.sd, .bool o.sw, .bool o.sf, .slice Ao o.ps.length co, .slice Bo o.ns.length dz, .bool o.fr] 41) none)
        clear bx1 hro hso hrp hsp HR1 HR2
        by_cases he : o = p
        · have hag2 := hag.succ (by simpa [obs] using hl1) (by simpa [obs] using hl2) (by rw [HOL.out, HOM.out, he])
          have HD : Hid (decide (o = p) = true) := decide_eq_true he
          clear he
          go_wp2_with fail
          refine (sameObj_any o p Ao Bo Ap Bp co dz cp dp _ HC1.out HC2.out HC3.out HC4.out).mono ?_
          rw [HD.out]
          rintro e w4 ⟨rfl, hg4⟩
          have HG4 := Lib.hid (grownBy_trans hg (grownBy_trans HW.out hg4))
          clear hg4
          go_wp2_with fail
          go_roundw
          case rel => exact ⟨i + 1, by go_num, by omega, hag2, HG4.out⟩
          case measure => simp [intOf]; omega
        · have HD : Hid (decide (o = p) = false) := decide_eq_false he
          have HF : Hid (false = q) := by
            unfold Hid; rw [← HQ.out]; symm; rw [decide_eq_false_iff_not]; intro e
            apply he; rw [← HOL.out, ← HOM.out]; simp only [e]
          clear he
          go_wp2_with fail
          refine (sameObj_any o p Ao Bo Ap Bp co dz cp dp _ HC1.out HC2.out HC3.out HC4.out).mono ?_
          rw [HD.out]
          rintro e w4 ⟨rfl, hg4⟩
          have HG4 := Lib.hid (grownBy_trans hg (grownBy_trans HW.out hg4))
          clear hg4
          go_wp2_with fail
          go_ret
          exact ⟨ret_bool HF.out, HG4.out⟩
      · have hxs : i = L.length := by omega
        subst hxs
        have HT : Hid (true = q) := by
          unfold Hid; rw [← HQ.out]; symm; rw [decide_eq_true_iff]; exact hag.all (by simp [obs]) (by simp [obs, HLM.out])
        go_wp2_with fail
        go_ret
        exact ⟨ret_bool HT.out, hg⟩
  · have HF : Hid (false = q) := by
      unfold Hid; rw [← HQ.out]; symm; rw [decide_eq_false_iff_not]; intro e; exact hne (by have := congrArg List.length e; simpa [obs] using this)
    have tt : ((L.length : Int) != (M.length : Int)) = true := by rw [bne_iff_ne]; omega
    clear hne
    go_enter Try.func24, Try.ntmps24
    go_wp2
    go_ret
    exact ⟨ret_bool HF.out, grownBy_refl _ _⟩

set_option maxHeartbeats 4000000 in
theorem same_any (A B A' B' : Option Addr) (c d c' d' : Nat) (L M : List Ov) (Q R : List (Int × Int)) (w : World) (h : RL w A L) (hQ : Rc w B Q.length 2 (its Q)) (k : RL w A' M) (kQ : Rc w B' R.length 2 (its R)) :
    Calls Try.prog 13 #[.agg #[.slice A L.length c, .slice B Q.length d], .agg #[.slice A' M.length c', .slice B' R.length d']] w fun e w' => e = .returned (.bool (decide (obs L = obs M ∧ Q = R))) ∧ w.grownBy w' none := by
  obtain ⟨wb, hwb⟩ : ∃ wb, wb = (w.alloc (.cells #[.slice A L.length c, .slice B Q.length d] 29)).alloc (.cells #[.slice A' M.length c', .slice B' R.length d'] 29) := ⟨_, rfl⟩
  have hg0 : w.grownBy wb none := by rw [hwb]; exact grownBy_trans (World.grownBy_alloc _ _ none) (World.grownBy_alloc _ _ none)
  have b1 : Blk wb w.heap.size 29 #[.slice A L.length c, .slice B Q.length d] := by rw [hwb]; exact (Blk.new w 29 _).gb (World.grownBy_alloc _ _ none) (by simp)
  have b2 : Blk wb (w.heap.size + 1) 29 #[.slice A' M.length c', .slice B' R.length d'] := by
    rw [hwb]; have := Blk.new (w.alloc (.cells #[.slice A L.length c, .slice B Q.length d] 29)) 29 #[.slice A' M.length c', .slice B' R.length d']
    simpa using this
  have x0 : wb.cell? ⟨w.heap.size, 0, none⟩ = some (.slice A L.length c) := b1.cell 0
  have x1 : wb.cell? ⟨w.heap.size, 1, none⟩ = some (.slice B Q.length d) := b1.cell 1
  have y0 : wb.cell? ⟨w.heap.size + 1, 0, none⟩ = some (.slice A' M.length c') := b2.cell 0
  have y1 : wb.cell? ⟨w.heap.size + 1, 1, none⟩ = some (.slice B' R.length d') := b2.cell 1
  have HWB := Lib.hid hwb
  have HG0 := Lib.hid hg0
  have H1 := Lib.hid (h.gb hg0); have H2 := Lib.hid (hQ.gb hg0); have H3 := Lib.hid (k.gb hg0); have H4 := Lib.hid (kQ.gb hg0)
  clear hwb hg0 b1 b2 h hQ k kQ
  by_cases he : obs L = obs M
  · have HD : Hid (decide (obs L = obs M) = true) := decide_eq_true he
    have HF : Hid (decide (obs L = obs M ∧ Q = R) = decide (Q = R)) := by unfold Hid; rw [decide_eq_decide]; exact ⟨fun x => x.2, fun x => ⟨he, x⟩⟩
    rw [HF.out]
    clear he HF
    obtain ⟨q, hq⟩ : ∃ q, decide (Q = R) = q := ⟨_, rfl⟩
    rw [hq]
    have HQ := Lib.hid hq
    clear hq
    go_enter Try.func13, Try.ntmps13
    go_upto_region 1 with (fail)
    rw [← HWB.out]
    go_wp2_with fail
    refine (eqFunc_any A A' c c' L M wb H1.out H3.out).mono ?_
    rw [HD.out]
    rintro e w2 ⟨rfl, hg2⟩
    have HG2 := Lib.hid (grownBy_trans HG0.out hg2)
    have z1 := cellk x1 hg2
    have z2 := cellk y1 hg2
    have H2b := Lib.hid (H2.out.gb hg2)
    have H4b := Lib.hid (H4.out.gb hg2)
    clear hg2
    go_wp2_with fail
    refine (eqItems_any B B' d d' Q R w2 H2b.out H4b.out).mono ?_
    rw [HQ.out]
    rintro e w3 ⟨rfl, hg3⟩
    have HG3 := Lib.hid (grownBy_trans HG2.out hg3)
    clear hg3
    go_wp2_with fail
    go_ret
    exact ⟨rfl, HG3.out⟩
  · have HD : Hid (decide (obs L = obs M) = false) := decide_eq_false he
    have HF : Hid (decide (obs L = obs M ∧ Q = R) = false) := decide_eq_false (fun x => he x.1)
    rw [HF.out]
    clear he HF
    go_enter Try.func13, Try.ntmps13
    go_upto_region 1 with (fail)
    rw [← HWB.out]
    go_wp2_with fail
    refine (eqFunc_any A A' c c' L M wb H1.out H3.out).mono ?_
    rw [HD.out]
    rintro e w2 ⟨rfl, hg2⟩
    have HG2 := Lib.hid (grownBy_trans HG0.out hg2)
    clear hg2
    go_wp2_with fail
    go_ret
    exact ⟨rfl, HG2.out⟩
end Go.Proofs.Yteieljkkcnpfmaa
