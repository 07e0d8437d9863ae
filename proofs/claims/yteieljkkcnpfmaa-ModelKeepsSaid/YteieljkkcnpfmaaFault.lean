/-
  lays, fault.
-/
import Derived.Test.YteieljkkcnpfmaaOwnModel
import Derived.Test.YteieljkkcnpfmaaRight
import Derived.Deep.Cut
namespace Go.Proofs.Yteieljkkcnpfmaa
open Go.ChangeShapes Go.WideShapes Go.ChangeAt Go.RowKit
set_option linter.unusedVariables false

def laysI (objs : List Ob) (fresh : Int) : Int := if fresh < 1 ∨ 0 ≤ plc objs fresh then 1 else 0
theorem lays_any (Ao Aq : Option Addr) (co cq nq : Nat) (L : List Ov) (fresh : Int) (w : World) (h : RL w Ao L) :
    Calls Try.prog 32 #[.agg #[.slice Ao L.length co, .slice Aq nq cq], .int .i64 fresh] w fun e w' => e = .returned (.int .i64 (laysI (obs L) fresh)) ∧ w.grownBy w' none := by
  have HL : Hid (RL (w.alloc (.cells #[.slice Ao L.length co, .slice Aq nq cq] 29)) Ao L) := h.gb (World.grownBy_alloc _ _ none)
  clear h
  by_cases h1 : fresh < 1
  · rw [show laysI (obs L) fresh = 1 from by unfold laysI; rw [if_pos (.inl h1)]]
    go_enter Try.func32, Try.ntmps32
    go_wp2_with fail
    go_ret
    exact ⟨rfl, World.grownBy_alloc _ _ none⟩
  · obtain ⟨p, hp⟩ : ∃ p, plc (obs L) fresh = p := ⟨_, rfl⟩
    have HP := Lib.hid hp
    clear hp
    by_cases h2 : 0 ≤ p
    · rw [show laysI (obs L) fresh = 1 from by unfold laysI; rw [if_pos (.inr (by rw [HP.out]; exact h2))]]
      go_enter Try.func32, Try.ntmps32
      go_wp2_with fail
      refine (place_any Ao co L fresh _ HL.out).mono ?_
      rw [HP.out]
      rintro e w2 ⟨rfl, rfl⟩
      go_wp2_with fail
      go_ret
      exact ⟨rfl, World.grownBy_alloc _ _ none⟩
    · rw [show laysI (obs L) fresh = 0 from by unfold laysI; rw [if_neg (fun x => x.elim h1 (fun y => h2 (by rw [← HP.out]; exact y)))]]
      go_enter Try.func32, Try.ntmps32
      go_wp2_with fail
      refine (place_any Ao co L fresh _ HL.out).mono ?_
      rw [HP.out]
      rintro e w2 ⟨rfl, rfl⟩
      go_wp2_with fail
      go_ret
      exact ⟨rfl, World.grownBy_alloc _ _ none⟩

/-- Six registers. -/
def rcs (r : Nat → Int) : Array Value := #[.int .i64 (r 0), .int .i64 (r 1), .int .i64 (r 2), .int .i64 (r 3), .int .i64 (r 4), .int .i64 (r 5)]
theorem rcs_get (D : Nat → Int) (j : Nat) (h : j < 6) : (rcs D)[j]? = some (.int .i64 (D j)) := by
  match j, h with
  | 0, _ => rfl
  | 1, _ => rfl
  | 2, _ => rfl
  | 3, _ => rfl
  | 4, _ => rfl
  | 5, _ => rfl
theorem rcs_set (D : Nat → Int) (j : Nat) (v : Int) (h : j < 6) : (rcs D).setIfInBounds j (.int .i64 v) = rcs (upd D j v) := by
  match j, h with
  | 0, _ => rfl
  | 1, _ => rfl
  | 2, _ => rfl
  | 3, _ => rfl
  | 4, _ => rfl
  | 5, _ => rfl
/-- The object that a serial leads to. -/
def tgt (objs : List Ob) (s : Int) : Option Nat := if s = 0 ∨ plc objs s < 0 then none else some (plc objs s).toNat
def fltO (o : Ob) (k i : Int) : Int := if o.fr = true then 142 else if k = 8 then 0 else if o.sw ≠ decide (k = 9) then 144 else if ((if k = 6 ∨ k = 7 then o.ns.length else o.ps.length : Nat) : Int) ≤ i then 71 else 0
def ob0 : Ob := ⟨0, 0, 0, false, false, [], [], false⟩
def flt (objs : List Ob) (r : Nat → Int) (k : Int) (a b : Nat) (i fresh : Int) : Int :=
  if k = 1 ∨ k = 2 then laysI objs fresh
  else if 10 ≤ k then 0
  else match tgt objs (if k = 3 ∨ k = 4 ∨ k = 9 then r b else r a) with
    | none => 143
    | some p => if k = 3 then laysI objs fresh else fltO (objs.getD p ob0) k i
theorem tgt_none {objs : List Ob} {s : Int} (h : s = 0 ∨ plc objs s < 0) : tgt objs s = none := if_pos h
theorem tgt_some {objs : List Ob} {s : Int} (h0 : s ≠ 0) (p : Nat) (h : plc objs s = p) : tgt objs s = some p := by
  unfold tgt; rw [if_neg (fun x => x.elim h0 (fun y => by omega)), h]; rfl

/-- The three boxes. -/
def bx3 (w : World) (m rr dd : Array Value) : World := ((w.alloc (.cells m 29)).alloc (.cells rr 24)).alloc (.cells dd 26)
theorem bx3_gb (w : World) (m rr dd : Array Value) : w.grownBy (bx3 w m rr dd) none := grownBy_trans (grownBy_trans (World.grownBy_alloc _ _ none) (World.grownBy_alloc _ _ none)) (World.grownBy_alloc _ _ none)
theorem bx3_blk (w : World) (m rr dd : Array Value) : Blk (bx3 w m rr dd) w.heap.size 29 m ∧ Blk (bx3 w m rr dd) (w.heap.size + 1) 24 rr ∧ Blk (bx3 w m rr dd) (w.heap.size + 1 + 1) 26 dd ∧ (bx3 w m rr dd).heap.size = w.heap.size + 3 := by
  unfold bx3
  refine ⟨((Blk.new w 29 m).gb (World.grownBy_alloc _ _ none) (by simp)).gb (World.grownBy_alloc _ _ none) (by simp), ?_, ?_, by simp⟩
  · have := (Blk.new (w.alloc (.cells m 29)) 24 rr).gb (World.grownBy_alloc _ (.cells dd 26) none) (by simp)
    simpa using this
  · have := Blk.new ((w.alloc (.cells m 29)).alloc (.cells rr 24)) 26 dd
    simpa using this

theorem flt_none {objs : List Ob} {r : Nat → Int} {k : Int} {a b : Nat} {i fresh s : Int} (h3 : 3 ≤ k) (h9 : k ≤ 9) (hs : (if k = 3 ∨ k = 4 ∨ k = 9 then r b else r a) = s) (h : tgt objs s = none) : flt objs r k a b i fresh = 143 := by
  unfold flt; rw [if_neg (by omega), if_neg (by omega), hs, h]
theorem flt_weak {objs : List Ob} {r : Nat → Int} {a b : Nat} {i fresh : Int} {p : Nat} (h : tgt objs (r b) = some p) : flt objs r 3 a b i fresh = laysI objs fresh := by
  unfold flt; rw [if_neg (by omega), if_neg (by omega), if_pos (by omega), h]; rfl
theorem flt_obj {objs : List Ob} {r : Nat → Int} {k : Int} {a b : Nat} {i fresh s : Int} {p : Nat} (h3 : 4 ≤ k) (h9 : k ≤ 9) (hs : (if k = 3 ∨ k = 4 ∨ k = 9 then r b else r a) = s) (h : tgt objs s = some p) : flt objs r k a b i fresh = fltO (objs.getD p ob0) k i := by
  unfold flt; rw [if_neg (by omega), if_neg (by omega), hs, h]; simp only; rw [if_neg (by omega)]
theorem fltO_fr {o : Ob} {k i : Int} (h : o.fr = true) : fltO o k i = 142 := if_pos h
theorem fltO_8 {o : Ob} {i : Int} (h : ¬ o.fr = true) : fltO o 8 i = 0 := by unfold fltO; rw [if_neg h, if_pos rfl]
theorem fltO_sw {o : Ob} {k i : Int} (h : ¬ o.fr = true) (h8 : k ≠ 8) (hs : o.sw ≠ decide (k = 9)) : fltO o k i = 144 := by unfold fltO; rw [if_neg h, if_neg h8, if_pos hs]
theorem fltO_fld {o : Ob} {k i : Int} {n : Nat} (h : ¬ o.fr = true) (h8 : k ≠ 8) (hs : o.sw = decide (k = 9)) (hn : (if k = 6 ∨ k = 7 then o.ns.length else o.ps.length) = n) : fltO o k i = if (n : Int) ≤ i then 71 else 0 := by unfold fltO; rw [if_neg h, if_neg h8, if_neg (fun x => x hs), hn]
theorem obs_getD (L : List Ov) (p : Nat) (h : p < L.length) : (obs L).getD p ob0 = L[p].o := by
  simp [obs, h]

set_option maxHeartbeats 8000000 in
theorem fault_any (Ao Aq : Option Addr) (co cq nq : Nat) (L : List Ov) (r : Nat → Int) (k : Int) (a b : Nat) (i n fresh : Int) (w : World) (h : RL w Ao L) (hk1 : 1 ≤ k) (hk2 : k ≤ 14) (ha : a < 6) (hb : b < 6) (hi : 0 ≤ i) :
    Calls Try.prog 21 #[.agg #[.slice Ao L.length co, .slice Aq nq cq], .agg (rcs r), .agg #[.int .i64 k, .int .i64 a, .int .i64 b, .int .i64 i, .int .i64 n], .int .i64 fresh] w fun e w' => e = .returned (.int .i64 (flt (obs L) r k a b i fresh)) ∧ w.grownBy w' none := by
  obtain ⟨q, hq⟩ : ∃ q, flt (obs L) r k a b i fresh = q := ⟨_, rfl⟩
  rw [hq]
  have HQ := Lib.hid hq
  clear hq
  have hk : k = 1 ∨ k = 2 ∨ k = 3 ∨ k = 4 ∨ k = 5 ∨ k = 6 ∨ k = 7 ∨ k = 8 ∨ k = 9 ∨ k = 10 ∨ k = 11 ∨ k = 12 ∨ k = 13 ∨ k = 14 := by omega
  have HK := Lib.hid hk
  clear hk hk1 hk2
  obtain ⟨b1, b2, b3, hsz⟩ := bx3_blk w #[.slice Ao L.length co, .slice Aq nq cq] (rcs r) #[.int .i64 k, .int .i64 a, .int .i64 b, .int .i64 i, .int .i64 n]
  have hg := bx3_gb w #[.slice Ao L.length co, .slice Aq nq cq] (rcs r) #[.int .i64 k, .int .i64 a, .int .i64 b, .int .i64 i, .int .i64 n]
  have HG := Lib.hid hg
  have HL := Lib.hid (h.gb hg)
  obtain ⟨wb, hwb⟩ : ∃ wb, bx3 w #[.slice Ao L.length co, .slice Aq nq cq] (rcs r) #[.int .i64 k, .int .i64 a, .int .i64 b, .int .i64 i, .int .i64 n] = wb := ⟨_, rfl⟩
  rw [hwb] at b1 b2 b3 hsz
  rw [hwb] at HG HL
  have HWB := Lib.hid hwb
  have m0 : wb.cell? ⟨w.heap.size, 0, none⟩ = some (.slice Ao L.length co) := b1.cell 0
  have m1 : wb.cell? ⟨w.heap.size, 1, none⟩ = some (.slice Aq nq cq) := b1.cell 1
  have ra : wb.cell? ⟨w.heap.size + 1, a, none⟩ = some (.int .i64 (r a)) := by rw [b2.cell]; exact rcs_get r a ha
  have rb : wb.cell? ⟨w.heap.size + 1, b, none⟩ = some (.int .i64 (r b)) := by rw [b2.cell]; exact rcs_get r b hb
  have d0 : wb.cell? ⟨w.heap.size + 1 + 1, 0, none⟩ = some (.int .i64 k) := b3.cell 0
  have d1 : wb.cell? ⟨w.heap.size + 1 + 1, 1, none⟩ = some (.int .i64 a) := b3.cell 1
  have d2 : wb.cell? ⟨w.heap.size + 1 + 1, 2, none⟩ = some (.int .i64 b) := b3.cell 2
  have d3 : wb.cell? ⟨w.heap.size + 1 + 1, 3, none⟩ = some (.int .i64 i) := b3.cell 3
  have ha1 : (a : Int) < 6 := by omega
  have hb1 : (b : Int) < 6 := by omega
  clear h hg hwb b1 b2 b3 hsz
  unfold rcs
  go_enter Try.func21, Try.ntmps21
  go_upto_region 1 with (fail)
  change Code.wp _ _ _ _ (bx3 w #[.slice Ao L.length co, .slice Aq nq cq] (rcs r) #[.int .i64 k, .int .i64 a, .int .i64 b, .int .i64 i, .int .i64 n])
  rw [HWB.out]
  clear HWB
  go_upto_region 2 with (fail)
  generalize w.heap.size = N at *
  rcases HK.out with rfl | rfl | rfl | rfl | rfl | rfl | rfl | rfl | rfl | rfl | rfl | rfl | rfl | rfl
  · have HE : Hid (laysI (obs L) fresh = q) := by unfold Hid; rw [← HQ.out]; unfold flt; rw [if_pos (by omega)]
    clear HQ HK
    go_wp2_with fail
    refine (lays_any Ao Aq co cq nq L fresh wb HL.out).mono ?_
    rw [HE.out]
    rintro e w2 ⟨rfl, hg2⟩
    go_wp2_with fail
    go_ret
    exact ⟨rfl, grownBy_trans HG.out hg2⟩
  · have HE : Hid (laysI (obs L) fresh = q) := by unfold Hid; rw [← HQ.out]; unfold flt; rw [if_pos (by omega)]
    clear HQ HK
    go_wp2_with fail
    refine (lays_any Ao Aq co cq nq L fresh wb HL.out).mono ?_
    rw [HE.out]
    rintro e w2 ⟨rfl, hg2⟩
    go_wp2_with fail
    go_ret
    exact ⟨rfl, grownBy_trans HG.out hg2⟩
  · have HS : Hid ((if (3 : Int) = 3 ∨ (3 : Int) = 4 ∨ (3 : Int) = 9 then r b else r a) = r b) := if_pos (by omega)
    clear HK
    obtain ⟨p, hp⟩ : ∃ p, plc (obs L) (r b) = p := ⟨_, rfl⟩
    have HP := Lib.hid hp
    have hp1 := plc_ge (obs L) (r b)
    have hp2 := plc_lt (obs L) (r b)
    rw [hp] at hp1 hp2
    rw [show (obs L).length = L.length from by simp [obs]] at hp2
    clear hp
    by_cases hnil : r b = 0 ∨ p < 0
    · have HE : Hid (143 = q) := by unfold Hid; rw [← HQ.out, flt_none (by omega) (by omega) HS.out (tgt_none (by rw [HP.out]; exact hnil))]
      clear HQ HS
      generalize r b = s at *
      by_cases hs0 : s = 0
      · subst hs0
        go_wp2_with fail
        refine (place_any Ao co L 0 wb HL.out).mono ?_
        rw [HP.out]
        rintro e w2 ⟨rfl, rfl⟩
        go_wp2_with fail
        go_ret
        exact ⟨ret_int HE.out, HG.out⟩
      · have hpn : p < 0 := by omega
        have ts : (s == 0) = false := by rw [beq_eq_false_iff_ne]; exact hs0
        go_wp2_with fail
        refine (place_any Ao co L s wb HL.out).mono ?_
        rw [HP.out]
        rintro e w2 ⟨rfl, rfl⟩
        go_wp2_with fail
        go_ret
        exact ⟨ret_int HE.out, HG.out⟩
    · obtain ⟨t, rfl⟩ : ∃ t : Nat, p = t := ⟨p.toNat, by omega⟩
      have hs0 : r b ≠ 0 := fun e => hnil (.inl e)
      have HT := Lib.hid (tgt_some hs0 t HP.out)
      have htl : t < L.length := by omega
      clear hnil hp1 hp2
      have HE : Hid (laysI (obs L) fresh = q) := by unfold Hid; rw [← HQ.out, flt_weak HT.out]
      clear HQ HS HT
      have ts : (r b == 0) = false := by rw [beq_eq_false_iff_ne]; exact hs0
      generalize r b = s at *
      go_wp2_with fail
      refine (place_any Ao co L s wb HL.out).mono ?_
      rw [HP.out]
      rintro e w2 ⟨rfl, rfl⟩
      go_wp2_with fail
      refine (lays_any Ao Aq co cq nq L fresh wb HL.out).mono ?_
      rw [HE.out]
      rintro e w2 ⟨rfl, hg2⟩
      go_wp2_with fail
      go_ret
      exact ⟨rfl, grownBy_trans HG.out hg2⟩
  · have HS : Hid ((if (4 : Int) = 3 ∨ (4 : Int) = 4 ∨ (4 : Int) = 9 then r b else r a) = r b) := if_pos (by omega)
    clear HK
    obtain ⟨p, hp⟩ : ∃ p, plc (obs L) (r b) = p := ⟨_, rfl⟩
    have HP := Lib.hid hp
    have hp1 := plc_ge (obs L) (r b)
    have hp2 := plc_lt (obs L) (r b)
    rw [hp] at hp1 hp2
    rw [show (obs L).length = L.length from by simp [obs]] at hp2
    clear hp
    by_cases hnil : r b = 0 ∨ p < 0
    · have HE : Hid (143 = q) := by unfold Hid; rw [← HQ.out, flt_none (by omega) (by omega) HS.out (tgt_none (by rw [HP.out]; exact hnil))]
      clear HQ HS
      generalize r b = s at *
      by_cases hs0 : s = 0
      · subst hs0
        go_wp2_with fail
        refine (place_any Ao co L 0 wb HL.out).mono ?_
        rw [HP.out]
        rintro e w2 ⟨rfl, rfl⟩
        go_wp2_with fail
        go_ret
        exact ⟨ret_int HE.out, HG.out⟩
      · have hpn : p < 0 := by omega
        have ts : (s == 0) = false := by rw [beq_eq_false_iff_ne]; exact hs0
        go_wp2_with fail
        refine (place_any Ao co L s wb HL.out).mono ?_
        rw [HP.out]
        rintro e w2 ⟨rfl, rfl⟩
        go_wp2_with fail
        go_ret
        exact ⟨ret_int HE.out, HG.out⟩
    · obtain ⟨t, rfl⟩ : ∃ t : Nat, p = t := ⟨p.toNat, by omega⟩
      have hs0 : r b ≠ 0 := fun e => hnil (.inl e)
      have HT := Lib.hid (tgt_some hs0 t HP.out)
      have htl : t < L.length := by omega
      clear hnil hp1 hp2
      have HE : Hid (fltO L[t].o 4 i = q) := by unfold Hid; rw [← HQ.out, flt_obj (by omega) (by omega) HS.out HT.out, obs_getD L t htl]
      clear HQ HS HT
      have ts : (r b == 0) = false := by rw [beq_eq_false_iff_ne]; exact hs0
      generalize r b = s at *
      obtain ⟨b0, off, rfl, hb0, k0, k1, k2, k3, k4, k5, k6, k7⟩ := HL.out.cells t htl
      obtain ⟨Ap, cp, An, cn, hvp, hvn, _, _⟩ := HL.out.2 L[t] (List.getElem_mem _)
      rw [hvp] at k5
      rw [hvn] at k6
      clear hvp hvn
      generalize L[t].o = o at *
      have ht1 : (t : Int) < (L.length : Int) := by omega
      have HW : Hid (wb.grownBy (wb.alloc (.cells #[.int .i64 o.s, .int .i64 o.sp, .int .i64 o.sd, .bool o.sw, .bool o.sf, .slice Ap o.ps.length cp, .slice An o.ns.length cn, .bool o.fr] 41)) none) := World.grownBy_alloc _ _ none
      have e0 : (wb.alloc (.cells #[.int .i64 o.s, .int .i64 o.sp, .int .i64 o.sd, .bool o.sw, .bool o.sf, .slice Ap o.ps.length cp, .slice An o.ns.length cn, .bool o.fr] 41)).cell? ⟨N + 1 + 1, 0, none⟩ = some (.int .i64 4) := cellk d0 HW.out
      have e3 : (wb.alloc (.cells #[.int .i64 o.s, .int .i64 o.sp, .int .i64 o.sd, .bool o.sw, .bool o.sf, .slice Ap o.ps.length cp, .slice An o.ns.length cn, .bool o.fr] 41)).cell? ⟨N + 1 + 1, 3, none⟩ = some (.int .i64 i) := cellk d3 HW.out
      go_wp2_with fail
      refine (place_any _ co L s wb HL.out).mono ?_
      rw [HP.out]
      rintro e w2 ⟨rfl, rfl⟩
      by_cases hfr : o.fr = true
      · have HV : Hid (142 = q) := by unfold Hid; rw [← HE.out]; rw [fltO_fr hfr]
        rw [hfr] at k7 e0 e3 HW
        go_wp2_with fail
        go_ret
        exact ⟨ret_int HV.out, grownBy_trans HG.out HW.out⟩
      · by_cases hsw : o.sw = false
        · by_cases hfl : (o.ps.length : Int) ≤ i
          · have HV : Hid (71 = q) := by unfold Hid; rw [← HE.out]; rw [fltO_fld hfr (by omega) (hsw.trans (by decide)) (if_neg (by omega)), if_pos hfl]
            have hfr : o.fr = false := by simpa using hfr
            rw [hfr] at k7 e0 e3 HW
            rw [hsw] at k3 e0 e3 HW
            go_wp2_with fail
            go_ret
            exact ⟨ret_int HV.out, grownBy_trans HG.out HW.out⟩
          · have HV : Hid (0 = q) := by unfold Hid; rw [← HE.out]; rw [fltO_fld hfr (by omega) (hsw.trans (by decide)) (if_neg (by omega)), if_neg hfl]
            have hfr : o.fr = false := by simpa using hfr
            rw [hfr] at k7 e0 e3 HW
            rw [hsw] at k3 e0 e3 HW
            go_wp2_with fail
            go_ret
            exact ⟨ret_int HV.out, grownBy_trans HG.out HW.out⟩
        · have HV : Hid (144 = q) := by unfold Hid; rw [← HE.out]; rw [fltO_sw hfr (by omega) (fun e => hsw (e.trans (by decide)))]
          have hfr : o.fr = false := by simpa using hfr
          have hsw : o.sw = true := by simpa using hsw
          rw [hfr] at k7 e0 e3 HW
          rw [hsw] at k3 e0 e3 HW
          go_wp2_with fail
          go_ret
          exact ⟨ret_int HV.out, grownBy_trans HG.out HW.out⟩
  · have HS : Hid ((if (5 : Int) = 3 ∨ (5 : Int) = 4 ∨ (5 : Int) = 9 then r b else r a) = r a) := if_neg (by omega)
    clear HK
    obtain ⟨p, hp⟩ : ∃ p, plc (obs L) (r a) = p := ⟨_, rfl⟩
    have HP := Lib.hid hp
    have hp1 := plc_ge (obs L) (r a)
    have hp2 := plc_lt (obs L) (r a)
    rw [hp] at hp1 hp2
    rw [show (obs L).length = L.length from by simp [obs]] at hp2
    clear hp
    by_cases hnil : r a = 0 ∨ p < 0
    · have HE : Hid (143 = q) := by unfold Hid; rw [← HQ.out, flt_none (by omega) (by omega) HS.out (tgt_none (by rw [HP.out]; exact hnil))]
      clear HQ HS
      generalize r a = s at *
      by_cases hs0 : s = 0
      · subst hs0
        go_wp2_with fail
        refine (place_any Ao co L 0 wb HL.out).mono ?_
        rw [HP.out]
        rintro e w2 ⟨rfl, rfl⟩
        go_wp2_with fail
        go_ret
        exact ⟨ret_int HE.out, HG.out⟩
      · have hpn : p < 0 := by omega
        have ts : (s == 0) = false := by rw [beq_eq_false_iff_ne]; exact hs0
        go_wp2_with fail
        refine (place_any Ao co L s wb HL.out).mono ?_
        rw [HP.out]
        rintro e w2 ⟨rfl, rfl⟩
        go_wp2_with fail
        go_ret
        exact ⟨ret_int HE.out, HG.out⟩
    · obtain ⟨t, rfl⟩ : ∃ t : Nat, p = t := ⟨p.toNat, by omega⟩
      have hs0 : r a ≠ 0 := fun e => hnil (.inl e)
      have HT := Lib.hid (tgt_some hs0 t HP.out)
      have htl : t < L.length := by omega
      clear hnil hp1 hp2
      have HE : Hid (fltO L[t].o 5 i = q) := by unfold Hid; rw [← HQ.out, flt_obj (by omega) (by omega) HS.out HT.out, obs_getD L t htl]
      clear HQ HS HT
      have ts : (r a == 0) = false := by rw [beq_eq_false_iff_ne]; exact hs0
      generalize r a = s at *
      obtain ⟨b0, off, rfl, hb0, k0, k1, k2, k3, k4, k5, k6, k7⟩ := HL.out.cells t htl
      obtain ⟨Ap, cp, An, cn, hvp, hvn, _, _⟩ := HL.out.2 L[t] (List.getElem_mem _)
      rw [hvp] at k5
      rw [hvn] at k6
      clear hvp hvn
      generalize L[t].o = o at *
      have ht1 : (t : Int) < (L.length : Int) := by omega
      have HW : Hid (wb.grownBy (wb.alloc (.cells #[.int .i64 o.s, .int .i64 o.sp, .int .i64 o.sd, .bool o.sw, .bool o.sf, .slice Ap o.ps.length cp, .slice An o.ns.length cn, .bool o.fr] 41)) none) := World.grownBy_alloc _ _ none
      have e0 : (wb.alloc (.cells #[.int .i64 o.s, .int .i64 o.sp, .int .i64 o.sd, .bool o.sw, .bool o.sf, .slice Ap o.ps.length cp, .slice An o.ns.length cn, .bool o.fr] 41)).cell? ⟨N + 1 + 1, 0, none⟩ = some (.int .i64 5) := cellk d0 HW.out
      have e3 : (wb.alloc (.cells #[.int .i64 o.s, .int .i64 o.sp, .int .i64 o.sd, .bool o.sw, .bool o.sf, .slice Ap o.ps.length cp, .slice An o.ns.length cn, .bool o.fr] 41)).cell? ⟨N + 1 + 1, 3, none⟩ = some (.int .i64 i) := cellk d3 HW.out
      go_wp2_with fail
      refine (place_any _ co L s wb HL.out).mono ?_
      rw [HP.out]
      rintro e w2 ⟨rfl, rfl⟩
      by_cases hfr : o.fr = true
      · have HV : Hid (142 = q) := by unfold Hid; rw [← HE.out]; rw [fltO_fr hfr]
        rw [hfr] at k7 e0 e3 HW
        go_wp2_with fail
        go_ret
        exact ⟨ret_int HV.out, grownBy_trans HG.out HW.out⟩
      · by_cases hsw : o.sw = false
        · by_cases hfl : (o.ps.length : Int) ≤ i
          · have HV : Hid (71 = q) := by unfold Hid; rw [← HE.out]; rw [fltO_fld hfr (by omega) (hsw.trans (by decide)) (if_neg (by omega)), if_pos hfl]
            have hfr : o.fr = false := by simpa using hfr
            rw [hfr] at k7 e0 e3 HW
            rw [hsw] at k3 e0 e3 HW
            go_wp2_with fail
            go_ret
            exact ⟨ret_int HV.out, grownBy_trans HG.out HW.out⟩
          · have HV : Hid (0 = q) := by unfold Hid; rw [← HE.out]; rw [fltO_fld hfr (by omega) (hsw.trans (by decide)) (if_neg (by omega)), if_neg hfl]
            have hfr : o.fr = false := by simpa using hfr
            rw [hfr] at k7 e0 e3 HW
            rw [hsw] at k3 e0 e3 HW
            go_wp2_with fail
            go_ret
            exact ⟨ret_int HV.out, grownBy_trans HG.out HW.out⟩
        · have HV : Hid (144 = q) := by unfold Hid; rw [← HE.out]; rw [fltO_sw hfr (by omega) (fun e => hsw (e.trans (by decide)))]
          have hfr : o.fr = false := by simpa using hfr
          have hsw : o.sw = true := by simpa using hsw
          rw [hfr] at k7 e0 e3 HW
          rw [hsw] at k3 e0 e3 HW
          go_wp2_with fail
          go_ret
          exact ⟨ret_int HV.out, grownBy_trans HG.out HW.out⟩
  · have HS : Hid ((if (6 : Int) = 3 ∨ (6 : Int) = 4 ∨ (6 : Int) = 9 then r b else r a) = r a) := if_neg (by omega)
    clear HK
    obtain ⟨p, hp⟩ : ∃ p, plc (obs L) (r a) = p := ⟨_, rfl⟩
    have HP := Lib.hid hp
    have hp1 := plc_ge (obs L) (r a)
    have hp2 := plc_lt (obs L) (r a)
    rw [hp] at hp1 hp2
    rw [show (obs L).length = L.length from by simp [obs]] at hp2
    clear hp
    by_cases hnil : r a = 0 ∨ p < 0
    · have HE : Hid (143 = q) := by unfold Hid; rw [← HQ.out, flt_none (by omega) (by omega) HS.out (tgt_none (by rw [HP.out]; exact hnil))]
      clear HQ HS
      generalize r a = s at *
      by_cases hs0 : s = 0
      · subst hs0
        go_wp2_with fail
        refine (place_any Ao co L 0 wb HL.out).mono ?_
        rw [HP.out]
        rintro e w2 ⟨rfl, rfl⟩
        go_wp2_with fail
        go_ret
        exact ⟨ret_int HE.out, HG.out⟩
      · have hpn : p < 0 := by omega
        have ts : (s == 0) = false := by rw [beq_eq_false_iff_ne]; exact hs0
        go_wp2_with fail
        refine (place_any Ao co L s wb HL.out).mono ?_
        rw [HP.out]
        rintro e w2 ⟨rfl, rfl⟩
        go_wp2_with fail
        go_ret
        exact ⟨ret_int HE.out, HG.out⟩
    · obtain ⟨t, rfl⟩ : ∃ t : Nat, p = t := ⟨p.toNat, by omega⟩
      have hs0 : r a ≠ 0 := fun e => hnil (.inl e)
      have HT := Lib.hid (tgt_some hs0 t HP.out)
      have htl : t < L.length := by omega
      clear hnil hp1 hp2
      have HE : Hid (fltO L[t].o 6 i = q) := by unfold Hid; rw [← HQ.out, flt_obj (by omega) (by omega) HS.out HT.out, obs_getD L t htl]
      clear HQ HS HT
      have ts : (r a == 0) = false := by rw [beq_eq_false_iff_ne]; exact hs0
      generalize r a = s at *
      obtain ⟨b0, off, rfl, hb0, k0, k1, k2, k3, k4, k5, k6, k7⟩ := HL.out.cells t htl
      obtain ⟨Ap, cp, An, cn, hvp, hvn, _, _⟩ := HL.out.2 L[t] (List.getElem_mem _)
      rw [hvp] at k5
      rw [hvn] at k6
      clear hvp hvn
      generalize L[t].o = o at *
      have ht1 : (t : Int) < (L.length : Int) := by omega
      have HW : Hid (wb.grownBy (wb.alloc (.cells #[.int .i64 o.s, .int .i64 o.sp, .int .i64 o.sd, .bool o.sw, .bool o.sf, .slice Ap o.ps.length cp, .slice An o.ns.length cn, .bool o.fr] 41)) none) := World.grownBy_alloc _ _ none
      have e0 : (wb.alloc (.cells #[.int .i64 o.s, .int .i64 o.sp, .int .i64 o.sd, .bool o.sw, .bool o.sf, .slice Ap o.ps.length cp, .slice An o.ns.length cn, .bool o.fr] 41)).cell? ⟨N + 1 + 1, 0, none⟩ = some (.int .i64 6) := cellk d0 HW.out
      have e3 : (wb.alloc (.cells #[.int .i64 o.s, .int .i64 o.sp, .int .i64 o.sd, .bool o.sw, .bool o.sf, .slice Ap o.ps.length cp, .slice An o.ns.length cn, .bool o.fr] 41)).cell? ⟨N + 1 + 1, 3, none⟩ = some (.int .i64 i) := cellk d3 HW.out
      go_wp2_with fail
      refine (place_any _ co L s wb HL.out).mono ?_
      rw [HP.out]
      rintro e w2 ⟨rfl, rfl⟩
      by_cases hfr : o.fr = true
      · have HV : Hid (142 = q) := by unfold Hid; rw [← HE.out]; rw [fltO_fr hfr]
        rw [hfr] at k7 e0 e3 HW
        go_wp2_with fail
        go_ret
        exact ⟨ret_int HV.out, grownBy_trans HG.out HW.out⟩
      · by_cases hsw : o.sw = false
        · by_cases hfl : (o.ns.length : Int) ≤ i
          · have HV : Hid (71 = q) := by unfold Hid; rw [← HE.out]; rw [fltO_fld hfr (by omega) (hsw.trans (by decide)) (if_pos (by omega)), if_pos hfl]
            have hfr : o.fr = false := by simpa using hfr
            rw [hfr] at k7 e0 e3 HW
            rw [hsw] at k3 e0 e3 HW
            go_wp2_with fail
            go_ret
            exact ⟨ret_int HV.out, grownBy_trans HG.out HW.out⟩
          · have HV : Hid (0 = q) := by unfold Hid; rw [← HE.out]; rw [fltO_fld hfr (by omega) (hsw.trans (by decide)) (if_pos (by omega)), if_neg hfl]
            have hfr : o.fr = false := by simpa using hfr
            rw [hfr] at k7 e0 e3 HW
            rw [hsw] at k3 e0 e3 HW
            go_wp2_with fail
            go_ret
            exact ⟨ret_int HV.out, grownBy_trans HG.out HW.out⟩
        · have HV : Hid (144 = q) := by unfold Hid; rw [← HE.out]; rw [fltO_sw hfr (by omega) (fun e => hsw (e.trans (by decide)))]
          have hfr : o.fr = false := by simpa using hfr
          have hsw : o.sw = true := by simpa using hsw
          rw [hfr] at k7 e0 e3 HW
          rw [hsw] at k3 e0 e3 HW
          go_wp2_with fail
          go_ret
          exact ⟨ret_int HV.out, grownBy_trans HG.out HW.out⟩
  · have HS : Hid ((if (7 : Int) = 3 ∨ (7 : Int) = 4 ∨ (7 : Int) = 9 then r b else r a) = r a) := if_neg (by omega)
    clear HK
    obtain ⟨p, hp⟩ : ∃ p, plc (obs L) (r a) = p := ⟨_, rfl⟩
    have HP := Lib.hid hp
    have hp1 := plc_ge (obs L) (r a)
    have hp2 := plc_lt (obs L) (r a)
    rw [hp] at hp1 hp2
    rw [show (obs L).length = L.length from by simp [obs]] at hp2
    clear hp
    by_cases hnil : r a = 0 ∨ p < 0
    · have HE : Hid (143 = q) := by unfold Hid; rw [← HQ.out, flt_none (by omega) (by omega) HS.out (tgt_none (by rw [HP.out]; exact hnil))]
      clear HQ HS
      generalize r a = s at *
      by_cases hs0 : s = 0
      · subst hs0
        go_wp2_with fail
        refine (place_any Ao co L 0 wb HL.out).mono ?_
        rw [HP.out]
        rintro e w2 ⟨rfl, rfl⟩
        go_wp2_with fail
        go_ret
        exact ⟨ret_int HE.out, HG.out⟩
      · have hpn : p < 0 := by omega
        have ts : (s == 0) = false := by rw [beq_eq_false_iff_ne]; exact hs0
        go_wp2_with fail
        refine (place_any Ao co L s wb HL.out).mono ?_
        rw [HP.out]
        rintro e w2 ⟨rfl, rfl⟩
        go_wp2_with fail
        go_ret
        exact ⟨ret_int HE.out, HG.out⟩
    · obtain ⟨t, rfl⟩ : ∃ t : Nat, p = t := ⟨p.toNat, by omega⟩
      have hs0 : r a ≠ 0 := fun e => hnil (.inl e)
      have HT := Lib.hid (tgt_some hs0 t HP.out)
      have htl : t < L.length := by omega
      clear hnil hp1 hp2
      have HE : Hid (fltO L[t].o 7 i = q) := by unfold Hid; rw [← HQ.out, flt_obj (by omega) (by omega) HS.out HT.out, obs_getD L t htl]
      clear HQ HS HT
      have ts : (r a == 0) = false := by rw [beq_eq_false_iff_ne]; exact hs0
      generalize r a = s at *
      obtain ⟨b0, off, rfl, hb0, k0, k1, k2, k3, k4, k5, k6, k7⟩ := HL.out.cells t htl
      obtain ⟨Ap, cp, An, cn, hvp, hvn, _, _⟩ := HL.out.2 L[t] (List.getElem_mem _)
      rw [hvp] at k5
      rw [hvn] at k6
      clear hvp hvn
      generalize L[t].o = o at *
      have ht1 : (t : Int) < (L.length : Int) := by omega
      have HW : Hid (wb.grownBy (wb.alloc (.cells #[.int .i64 o.s, .int .i64 o.sp, .int .i64 o.sd, .bool o.sw, .bool o.sf, .slice Ap o.ps.length cp, .slice An o.ns.length cn, .bool o.fr] 41)) none) := World.grownBy_alloc _ _ none
      have e0 : (wb.alloc (.cells #[.int .i64 o.s, .int .i64 o.sp, .int .i64 o.sd, .bool o.sw, .bool o.sf, .slice Ap o.ps.length cp, .slice An o.ns.length cn, .bool o.fr] 41)).cell? ⟨N + 1 + 1, 0, none⟩ = some (.int .i64 7) := cellk d0 HW.out
      have e3 : (wb.alloc (.cells #[.int .i64 o.s, .int .i64 o.sp, .int .i64 o.sd, .bool o.sw, .bool o.sf, .slice Ap o.ps.length cp, .slice An o.ns.length cn, .bool o.fr] 41)).cell? ⟨N + 1 + 1, 3, none⟩ = some (.int .i64 i) := cellk d3 HW.out
      go_wp2_with fail
      refine (place_any _ co L s wb HL.out).mono ?_
      rw [HP.out]
      rintro e w2 ⟨rfl, rfl⟩
      by_cases hfr : o.fr = true
      · have HV : Hid (142 = q) := by unfold Hid; rw [← HE.out]; rw [fltO_fr hfr]
        rw [hfr] at k7 e0 e3 HW
        go_wp2_with fail
        go_ret
        exact ⟨ret_int HV.out, grownBy_trans HG.out HW.out⟩
      · by_cases hsw : o.sw = false
        · by_cases hfl : (o.ns.length : Int) ≤ i
          · have HV : Hid (71 = q) := by unfold Hid; rw [← HE.out]; rw [fltO_fld hfr (by omega) (hsw.trans (by decide)) (if_pos (by omega)), if_pos hfl]
            have hfr : o.fr = false := by simpa using hfr
            rw [hfr] at k7 e0 e3 HW
            rw [hsw] at k3 e0 e3 HW
            go_wp2_with fail
            go_ret
            exact ⟨ret_int HV.out, grownBy_trans HG.out HW.out⟩
          · have HV : Hid (0 = q) := by unfold Hid; rw [← HE.out]; rw [fltO_fld hfr (by omega) (hsw.trans (by decide)) (if_pos (by omega)), if_neg hfl]
            have hfr : o.fr = false := by simpa using hfr
            rw [hfr] at k7 e0 e3 HW
            rw [hsw] at k3 e0 e3 HW
            go_wp2_with fail
            go_ret
            exact ⟨ret_int HV.out, grownBy_trans HG.out HW.out⟩
        · have HV : Hid (144 = q) := by unfold Hid; rw [← HE.out]; rw [fltO_sw hfr (by omega) (fun e => hsw (e.trans (by decide)))]
          have hfr : o.fr = false := by simpa using hfr
          have hsw : o.sw = true := by simpa using hsw
          rw [hfr] at k7 e0 e3 HW
          rw [hsw] at k3 e0 e3 HW
          go_wp2_with fail
          go_ret
          exact ⟨ret_int HV.out, grownBy_trans HG.out HW.out⟩
  · have HS : Hid ((if (8 : Int) = 3 ∨ (8 : Int) = 4 ∨ (8 : Int) = 9 then r b else r a) = r a) := if_neg (by omega)
    clear HK
    obtain ⟨p, hp⟩ : ∃ p, plc (obs L) (r a) = p := ⟨_, rfl⟩
    have HP := Lib.hid hp
    have hp1 := plc_ge (obs L) (r a)
    have hp2 := plc_lt (obs L) (r a)
    rw [hp] at hp1 hp2
    rw [show (obs L).length = L.length from by simp [obs]] at hp2
    clear hp
    by_cases hnil : r a = 0 ∨ p < 0
    · have HE : Hid (143 = q) := by unfold Hid; rw [← HQ.out, flt_none (by omega) (by omega) HS.out (tgt_none (by rw [HP.out]; exact hnil))]
      clear HQ HS
      generalize r a = s at *
      by_cases hs0 : s = 0
      · subst hs0
        go_wp2_with fail
        refine (place_any Ao co L 0 wb HL.out).mono ?_
        rw [HP.out]
        rintro e w2 ⟨rfl, rfl⟩
        go_wp2_with fail
        go_ret
        exact ⟨ret_int HE.out, HG.out⟩
      · have hpn : p < 0 := by omega
        have ts : (s == 0) = false := by rw [beq_eq_false_iff_ne]; exact hs0
        go_wp2_with fail
        refine (place_any Ao co L s wb HL.out).mono ?_
        rw [HP.out]
        rintro e w2 ⟨rfl, rfl⟩
        go_wp2_with fail
        go_ret
        exact ⟨ret_int HE.out, HG.out⟩
    · obtain ⟨t, rfl⟩ : ∃ t : Nat, p = t := ⟨p.toNat, by omega⟩
      have hs0 : r a ≠ 0 := fun e => hnil (.inl e)
      have HT := Lib.hid (tgt_some hs0 t HP.out)
      have htl : t < L.length := by omega
      clear hnil hp1 hp2
      have HE : Hid (fltO L[t].o 8 i = q) := by unfold Hid; rw [← HQ.out, flt_obj (by omega) (by omega) HS.out HT.out, obs_getD L t htl]
      clear HQ HS HT
      have ts : (r a == 0) = false := by rw [beq_eq_false_iff_ne]; exact hs0
      generalize r a = s at *
      obtain ⟨b0, off, rfl, hb0, k0, k1, k2, k3, k4, k5, k6, k7⟩ := HL.out.cells t htl
      obtain ⟨Ap, cp, An, cn, hvp, hvn, _, _⟩ := HL.out.2 L[t] (List.getElem_mem _)
      rw [hvp] at k5
      rw [hvn] at k6
      clear hvp hvn
      generalize L[t].o = o at *
      have ht1 : (t : Int) < (L.length : Int) := by omega
      have HW : Hid (wb.grownBy (wb.alloc (.cells #[.int .i64 o.s, .int .i64 o.sp, .int .i64 o.sd, .bool o.sw, .bool o.sf, .slice Ap o.ps.length cp, .slice An o.ns.length cn, .bool o.fr] 41)) none) := World.grownBy_alloc _ _ none
      have e0 : (wb.alloc (.cells #[.int .i64 o.s, .int .i64 o.sp, .int .i64 o.sd, .bool o.sw, .bool o.sf, .slice Ap o.ps.length cp, .slice An o.ns.length cn, .bool o.fr] 41)).cell? ⟨N + 1 + 1, 0, none⟩ = some (.int .i64 8) := cellk d0 HW.out
      have e3 : (wb.alloc (.cells #[.int .i64 o.s, .int .i64 o.sp, .int .i64 o.sd, .bool o.sw, .bool o.sf, .slice Ap o.ps.length cp, .slice An o.ns.length cn, .bool o.fr] 41)).cell? ⟨N + 1 + 1, 3, none⟩ = some (.int .i64 i) := cellk d3 HW.out
      go_wp2_with fail
      refine (place_any _ co L s wb HL.out).mono ?_
      rw [HP.out]
      rintro e w2 ⟨rfl, rfl⟩
      by_cases hfr : o.fr = true
      · have HV : Hid (142 = q) := by unfold Hid; rw [← HE.out]; rw [fltO_fr hfr]
        rw [hfr] at k7 e0 e3 HW
        go_wp2_with fail
        go_ret
        exact ⟨ret_int HV.out, grownBy_trans HG.out HW.out⟩
      · have HV : Hid (0 = q) := by unfold Hid; rw [← HE.out]; rw [fltO_8 hfr]
        have hfr : o.fr = false := by simpa using hfr
        rw [hfr] at k7 e0 e3 HW
        go_wp2_with fail
        go_ret
        exact ⟨ret_int HV.out, grownBy_trans HG.out HW.out⟩
  · have HS : Hid ((if (9 : Int) = 3 ∨ (9 : Int) = 4 ∨ (9 : Int) = 9 then r b else r a) = r b) := if_pos (by omega)
    clear HK
    obtain ⟨p, hp⟩ : ∃ p, plc (obs L) (r b) = p := ⟨_, rfl⟩
    have HP := Lib.hid hp
    have hp1 := plc_ge (obs L) (r b)
    have hp2 := plc_lt (obs L) (r b)
    rw [hp] at hp1 hp2
    rw [show (obs L).length = L.length from by simp [obs]] at hp2
    clear hp
    by_cases hnil : r b = 0 ∨ p < 0
    · have HE : Hid (143 = q) := by unfold Hid; rw [← HQ.out, flt_none (by omega) (by omega) HS.out (tgt_none (by rw [HP.out]; exact hnil))]
      clear HQ HS
      generalize r b = s at *
      by_cases hs0 : s = 0
      · subst hs0
        go_wp2_with fail
        refine (place_any Ao co L 0 wb HL.out).mono ?_
        rw [HP.out]
        rintro e w2 ⟨rfl, rfl⟩
        go_wp2_with fail
        go_ret
        exact ⟨ret_int HE.out, HG.out⟩
      · have hpn : p < 0 := by omega
        have ts : (s == 0) = false := by rw [beq_eq_false_iff_ne]; exact hs0
        go_wp2_with fail
        refine (place_any Ao co L s wb HL.out).mono ?_
        rw [HP.out]
        rintro e w2 ⟨rfl, rfl⟩
        go_wp2_with fail
        go_ret
        exact ⟨ret_int HE.out, HG.out⟩
    · obtain ⟨t, rfl⟩ : ∃ t : Nat, p = t := ⟨p.toNat, by omega⟩
      have hs0 : r b ≠ 0 := fun e => hnil (.inl e)
      have HT := Lib.hid (tgt_some hs0 t HP.out)
      have htl : t < L.length := by omega
      clear hnil hp1 hp2
      have HE : Hid (fltO L[t].o 9 i = q) := by unfold Hid; rw [← HQ.out, flt_obj (by omega) (by omega) HS.out HT.out, obs_getD L t htl]
      clear HQ HS HT
      have ts : (r b == 0) = false := by rw [beq_eq_false_iff_ne]; exact hs0
      generalize r b = s at *
      obtain ⟨b0, off, rfl, hb0, k0, k1, k2, k3, k4, k5, k6, k7⟩ := HL.out.cells t htl
      obtain ⟨Ap, cp, An, cn, hvp, hvn, _, _⟩ := HL.out.2 L[t] (List.getElem_mem _)
      rw [hvp] at k5
      rw [hvn] at k6
      clear hvp hvn
      generalize L[t].o = o at *
      have ht1 : (t : Int) < (L.length : Int) := by omega
      have HW : Hid (wb.grownBy (wb.alloc (.cells #[.int .i64 o.s, .int .i64 o.sp, .int .i64 o.sd, .bool o.sw, .bool o.sf, .slice Ap o.ps.length cp, .slice An o.ns.length cn, .bool o.fr] 41)) none) := World.grownBy_alloc _ _ none
      have e0 : (wb.alloc (.cells #[.int .i64 o.s, .int .i64 o.sp, .int .i64 o.sd, .bool o.sw, .bool o.sf, .slice Ap o.ps.length cp, .slice An o.ns.length cn, .bool o.fr] 41)).cell? ⟨N + 1 + 1, 0, none⟩ = some (.int .i64 9) := cellk d0 HW.out
      have e3 : (wb.alloc (.cells #[.int .i64 o.s, .int .i64 o.sp, .int .i64 o.sd, .bool o.sw, .bool o.sf, .slice Ap o.ps.length cp, .slice An o.ns.length cn, .bool o.fr] 41)).cell? ⟨N + 1 + 1, 3, none⟩ = some (.int .i64 i) := cellk d3 HW.out
      go_wp2_with fail
      refine (place_any _ co L s wb HL.out).mono ?_
      rw [HP.out]
      rintro e w2 ⟨rfl, rfl⟩
      by_cases hfr : o.fr = true
      · have HV : Hid (142 = q) := by unfold Hid; rw [← HE.out]; rw [fltO_fr hfr]
        rw [hfr] at k7 e0 e3 HW
        go_wp2_with fail
        go_ret
        exact ⟨ret_int HV.out, grownBy_trans HG.out HW.out⟩
      · by_cases hsw : o.sw = true
        · by_cases hfl : (o.ps.length : Int) ≤ i
          · have HV : Hid (71 = q) := by unfold Hid; rw [← HE.out]; rw [fltO_fld hfr (by omega) (hsw.trans (by decide)) (if_neg (by omega)), if_pos hfl]
            have hfr : o.fr = false := by simpa using hfr
            rw [hfr] at k7 e0 e3 HW
            rw [hsw] at k3 e0 e3 HW
            go_wp2_with fail
            go_ret
            exact ⟨ret_int HV.out, grownBy_trans HG.out HW.out⟩
          · have HV : Hid (0 = q) := by unfold Hid; rw [← HE.out]; rw [fltO_fld hfr (by omega) (hsw.trans (by decide)) (if_neg (by omega)), if_neg hfl]
            have hfr : o.fr = false := by simpa using hfr
            rw [hfr] at k7 e0 e3 HW
            rw [hsw] at k3 e0 e3 HW
            go_wp2_with fail
            go_ret
            exact ⟨ret_int HV.out, grownBy_trans HG.out HW.out⟩
        · have HV : Hid (144 = q) := by unfold Hid; rw [← HE.out]; rw [fltO_sw hfr (by omega) (fun e => hsw (e.trans (by decide)))]
          have hfr : o.fr = false := by simpa using hfr
          have hsw : o.sw = false := by simpa using hsw
          rw [hfr] at k7 e0 e3 HW
          rw [hsw] at k3 e0 e3 HW
          go_wp2_with fail
          go_ret
          exact ⟨ret_int HV.out, grownBy_trans HG.out HW.out⟩
  · have HE : Hid (0 = q) := by unfold Hid; rw [← HQ.out]; unfold flt; rw [if_neg (by omega), if_pos (by omega)]
    clear HQ HK
    go_wp2_with fail
    go_ret
    exact ⟨ret_int HE.out, HG.out⟩
  · have HE : Hid (0 = q) := by unfold Hid; rw [← HQ.out]; unfold flt; rw [if_neg (by omega), if_pos (by omega)]
    clear HQ HK
    go_wp2_with fail
    go_ret
    exact ⟨ret_int HE.out, HG.out⟩
  · have HE : Hid (0 = q) := by unfold Hid; rw [← HQ.out]; unfold flt; rw [if_neg (by omega), if_pos (by omega)]
    clear HQ HK
    go_wp2_with fail
    go_ret
    exact ⟨ret_int HE.out, HG.out⟩
  · have HE : Hid (0 = q) := by unfold Hid; rw [← HQ.out]; unfold flt; rw [if_neg (by omega), if_pos (by omega)]
    clear HQ HK
    go_wp2_with fail
    go_ret
    exact ⟨ret_int HE.out, HG.out⟩
  · have HE : Hid (0 = q) := by unfold Hid; rw [← HQ.out]; unfold flt; rw [if_neg (by omega), if_pos (by omega)]
    clear HQ HK
    go_wp2_with fail
    go_ret
    exact ⟨ret_int HE.out, HG.out⟩
end Go.Proofs.Yteieljkkcnpfmaa
