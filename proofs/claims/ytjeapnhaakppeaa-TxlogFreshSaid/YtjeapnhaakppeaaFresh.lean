/-
  TxlogFresh returns true, whatever the input; what it was handed reads as before. No condition.
-/
import Derived.Test.YtjeapnhaakppeaaWm
namespace Go.Proofs.Ytjeapnhaakppeaa.txlogFresh
open Go.ChangeShapes Go.WideShapes Go.ChangeAt Go.RowKit Go.Shelf
set_option linter.unusedVariables false

structure St where
  R : List Int
  K : List Int
  H : List (Int × Int)
  U : List (Int × Int × Int × Int)
def St0 : St := ⟨[], [], [], []⟩
/-- What a raw op does, and tells. -/
def doS (s : St) (n m : Nat) (kd a b : Int) (u : Int × Int × Int × Int) : St :=
  if kd = 0 then { s with R := noteL s.R a n } else if kd = 1 then { s with K := noteL s.K a n } else if kd = 2 then { s with H := holdL s.H (a, b) m } else { s with U := undoL s.U u m }
def doB (s : St) (n m : Nat) (kd a b : Int) (u : Int × Int × Int × Int) : Bool :=
  if kd = 0 then noteB s.R a n else if kd = 1 then noteB s.K a n else if kd = 2 then holdB s.H (a, b) m else undoB s.U m
/-- A log in a state. -/
def Sy (w wr : World) (Z : Nat → Prop) (bp n m : Nat) (s : St) : Prop := Sz w wr Z bp n m s.R s.K s.H s.U

theorem Sy.gb {w wr w2 : World} {Z : Nat → Prop} {bp n m : Nat} {s : St} (h : Sy w wr Z bp n m s) (g : wr.grownBy w2 none) : Sy w w2 Z bp n m s := Sz.gb h g

/-- Behind a deed: the log, in a zone that grew by new blocks. -/
def Dp (w wr : World) (Z : Nat → Prop) (bp n m : Nat) (s : St) (b : Bool) (e : Ending) (w2 : World) : Prop :=
  e = .returned (.bool b) ∧ ∃ Z' : Nat → Prop, Sy w w2 Z' bp n m s ∧ Zf Z wr w2 ∧ ∀ k, Z' k → Z k ∨ wr.heap.size ≤ k

theorem Dp.of {w wr wb w2 : World} {Z : Nat → Prop} {bp n m : Nat} {s : St} {b : Bool} (g : wr.grownBy wb none) (h : Sy w w2 (zx Z wb w2) bp n m s) (f : Zf Z wb w2) : Dp w wr Z bp n m s b (.returned (.bool b)) w2 :=
  ⟨rfl, _, h, (Zf.of_gb g (by simp)).trans f, fun k hk => by
    rcases hk with x | x
    · exact .inl x
    · exact .inr (Nat.le_trans g.size x.1)⟩

set_option maxHeartbeats 2000000 in
theorem do_any (w wr : World) (Z : Nat → Prop) (bp n m : Nat) (s : St) (k a b u0 u1 u2 u3 : Int) (hk : -9223372036854775808 ≤ k) (h : Sy w wr Z bp n m s) :
    Calls Try.prog 22 #[.pointer (some ⟨bp, 0, none⟩), .agg #[.int .i64 k, .int .i64 a, .int .i64 b, .int .i64 u0, .int .i64 u1, .int .i64 u2, .int .i64 u3]] wr (Dp w wr Z bp n m (doS s n m (pk k 4) a b (u0, u1, u2, u3)) (doB s n m (pk k 4) a b (u0, u1, u2, u3))) := by
  have HS : Hid (Sy w (wr.alloc (.cells #[.int .i64 k, .int .i64 a, .int .i64 b, .int .i64 u0, .int .i64 u1, .int .i64 u2, .int .i64 u3] 40)) Z bp n m s) := h.gb (World.grownBy_alloc wr _ none)
  have HG : Hid (wr.grownBy (wr.alloc (.cells #[.int .i64 k, .int .i64 a, .int .i64 b, .int .i64 u0, .int .i64 u1, .int .i64 u2, .int .i64 u3] 40)) none) := World.grownBy_alloc wr _ none
  clear h
  obtain ⟨q1, q2⟩ := pk_range k 4 (by omega)
  have hkd : pk k 4 = 0 ∨ pk k 4 = 1 ∨ pk k 4 = 2 ∨ pk k 4 = 3 := by omega
  clear q1 q2
  rcases hkd with e | e | e | e
  · rw [show doS s n m (pk k 4) a b (u0, u1, u2, u3) = { s with R := noteL s.R a n } from by simp [doS, e], show doB s n m (pk k 4) a b (u0, u1, u2, u3) = noteB s.R a n from by simp [doB, e]]
    have HE := Lib.hid e
    clear e
    go_enter Try.func22, Try.ntmps22
    go_wp2_with fail
    refine (pick_any k 4 _ hk (by omega)).mono ?_
    rintro e w3 ⟨rfl, rfl⟩
    rw [HE.out]
    go_wp2_with fail
    refine (read_sz HS.out a).mono ?_
    rintro e w4 ⟨rfl, hS, hf⟩
    have HF := Lib.hid (Dp.of (b := noteB s.R a n) (s := { s with R := noteL s.R a n }) HG.out hS hf)
    clear hS hf
    go_wp2_with fail
    go_ret
    exact HF.out
  · rw [show doS s n m (pk k 4) a b (u0, u1, u2, u3) = { s with K := noteL s.K a n } from by simp [doS, e], show doB s n m (pk k 4) a b (u0, u1, u2, u3) = noteB s.K a n from by simp [doB, e]]
    have HE := Lib.hid e
    clear e
    go_enter Try.func22, Try.ntmps22
    go_wp2_with fail
    refine (pick_any k 4 _ hk (by omega)).mono ?_
    rintro e w3 ⟨rfl, rfl⟩
    rw [HE.out]
    go_wp2_with fail
    refine (keep_sz HS.out a).mono ?_
    rintro e w4 ⟨rfl, hS, hf⟩
    have HF := Lib.hid (Dp.of (b := noteB s.K a n) (s := { s with K := noteL s.K a n }) HG.out hS hf)
    clear hS hf
    go_wp2_with fail
    go_ret
    exact HF.out
  · rw [show doS s n m (pk k 4) a b (u0, u1, u2, u3) = { s with H := holdL s.H (a, b) m } from by simp [doS, e], show doB s n m (pk k 4) a b (u0, u1, u2, u3) = holdB s.H (a, b) m from by simp [doB, e]]
    have HE := Lib.hid e
    clear e
    go_enter Try.func22, Try.ntmps22
    go_wp2_with fail
    refine (pick_any k 4 _ hk (by omega)).mono ?_
    rintro e w3 ⟨rfl, rfl⟩
    rw [HE.out]
    go_wp2_with fail
    refine (hold_sz HS.out a b).mono ?_
    rintro e w4 ⟨rfl, hS, hf⟩
    have HF := Lib.hid (Dp.of (b := holdB s.H (a, b) m) (s := { s with H := holdL s.H (a, b) m }) HG.out hS hf)
    clear hS hf
    go_wp2_with fail
    go_ret
    exact HF.out
  · rw [show doS s n m (pk k 4) a b (u0, u1, u2, u3) = { s with U := undoL s.U (u0, u1, u2, u3) m } from by simp [doS, e], show doB s n m (pk k 4) a b (u0, u1, u2, u3) = undoB s.U m from by simp [doB, e]]
    have HE := Lib.hid e
    clear e
    go_enter Try.func22, Try.ntmps22
    go_wp2_with fail
    refine (pick_any k 4 _ hk (by omega)).mono ?_
    rintro e w3 ⟨rfl, rfl⟩
    rw [HE.out]
    go_wp2_with fail
    refine (undo_sz HS.out u0 u1 u2 u3).mono ?_
    rintro e w4 ⟨rfl, hS, hf⟩
    have HF := Lib.hid (Dp.of (b := undoB s.U m) (s := { s with U := undoL s.U (u0, u1, u2, u3) m }) HG.out hS hf)
    clear hS hf
    go_wp2_with fail
    go_ret
    exact HF.out

/-- Two logs apart. -/
def Two (w wr : World) (pa pb n m : Nat) (s t : St) : Prop := ∃ Za Zb : Nat → Prop, Sy w wr Za pa n m s ∧ Sy w wr Zb pb n m t ∧ ∀ k, Za k → ¬ Zb k
section
variable {w wr w2 : World} {pa pb n m : Nat} {s t : St}
theorem Two.gb (h : Two w wr pa pb n m s t) (g : wr.grownBy w2 none) : Two w w2 pa pb n m s t := by
  obtain ⟨Za, Zb, x, y, z⟩ := h
  exact ⟨Za, Zb, x.gb g, y.gb g, z⟩
theorem Two.gr (h : Two w wr pa pb n m s t) : w.grownBy wr none := by
  obtain ⟨Za, Zb, x, y, z⟩ := h
  exact Sz.gr x
theorem Two.symm (h : Two w wr pa pb n m s t) : Two w wr pb pa n m t s := by
  obtain ⟨Za, Zb, x, y, z⟩ := h
  exact ⟨Zb, Za, y, x, fun k a b => z k b a⟩
theorem Two.lens (h : Two w wr pa pb n m s t) : (rootsL s.R s.K s.H s.U).length ≤ 2000 ∧ s.H.length ≤ 200 ∧ s.U.length ≤ 200 := by
  obtain ⟨Za, Zb, x, y, z⟩ := h
  obtain ⟨vR, vK, vH, vU, hV⟩ := x.1
  have := hV.nR; have := hV.nK; have := hV.nH; have := hV.nU; have := hV.lr; have := hV.lu
  have := rootU_len s.U
  refine ⟨?_, by omega, by omega⟩
  unfold rootsL
  simp only [List.length_append, List.length_map]
  omega
theorem Two.turn {Za Zb Z' : Nat → Prop} {s' : St} (x : Sy w wr Za pa n m s) (y : Sy w wr Zb pb n m t) (z : ∀ k, Za k → ¬ Zb k) (x' : Sy w w2 Z' pa n m s') (f : Zf Za wr w2) (hz : ∀ k, Z' k → Za k ∨ wr.heap.size ≤ k) : Two w w2 pa pb n m s' t := by
  refine ⟨Z', Zb, x', ⟨y.1.zf f (fun k a b => z k b a), y.2.1, x'.2.2⟩, fun k a b => ?_⟩
  rcases hz k a with q | q
  · exact z k q b
  · have := y.1.zl' k b; omega
theorem Two.doit (h : Two w wr pa pb n m s t) (k a b u0 u1 u2 u3 : Int) (hk : -9223372036854775808 ≤ k) :
    Calls Try.prog 22 #[.pointer (some ⟨pa, 0, none⟩), .agg #[.int .i64 k, .int .i64 a, .int .i64 b, .int .i64 u0, .int .i64 u1, .int .i64 u2, .int .i64 u3]] wr fun e w2 => e = .returned (.bool (doB s n m (pk k 4) a b (u0, u1, u2, u3))) ∧ Two w w2 pa pb n m (doS s n m (pk k 4) a b (u0, u1, u2, u3)) t := by
  obtain ⟨Za, Zb, x, y, z⟩ := h
  exact (do_any w wr Za pa n m s k a b u0 u1 u2 u3 hk x).mono fun e w2 ⟨e1, Z', x', f, hz⟩ => ⟨e1, Two.turn x y z x' f hz⟩
theorem Two.reset (h : Two w wr pa pb n m s t) : Calls Try.prog 21 #[.pointer (some ⟨pa, 0, none⟩)] wr fun e w2 => (∃ v, e = .returned v) ∧ Two w w2 pa pb n m St0 t := by
  obtain ⟨Za, Zb, x, y, z⟩ := h
  exact (reset_sz x).mono fun e w2 hh => ⟨hh.1, Two.turn (s' := St0) x y z hh.2.1 hh.2.2 (fun k q => .inl q)⟩
theorem Two.roots (h : Two w wr pa pb n m s t) : Calls Try.prog 13 #[.pointer (some ⟨pa, 0, none⟩)] wr fun e w2 => (∃ A c, e = .returned (.slice A (rootsL s.R s.K s.H s.U).length c) ∧ Rd w2 A (rootsL s.R s.K s.H s.U).length (rootsL s.R s.K s.H s.U)) ∧ wr.grownBy w2 none := by
  obtain ⟨Za, Zb, x, y, z⟩ := h
  exact roots_sz x
theorem Two.undos (h : Two w wr pa pb n m s t) : Calls Try.prog 20 #[.pointer (some ⟨pa, 0, none⟩)] wr fun e w2 => (∃ A c base, e = .returned (.slice A s.U.length c) ∧ w2.ownsRow base 38 4 (.slice A s.U.length c) s.U.length (uvs s.U)) ∧ wr.grownBy w2 none := by
  obtain ⟨Za, Zb, x, y, z⟩ := h
  exact undos_sz x
theorem Two.holds (h : Two w wr pa pb n m s t) : Calls Try.prog 17 #[.pointer (some ⟨pa, 0, none⟩)] wr fun e w2 => (∃ A c base, e = .returned (.slice A s.H.length c) ∧ w2.ownsRow base 33 2 (.slice A s.H.length c) s.H.length (hvs s.H)) ∧ wr.grownBy w2 none := by
  obtain ⟨Za, Zb, x, y, z⟩ := h
  exact holds_sz x
theorem Two.start {Z : Nat → Prop} (h : Sz w wr Z pa n m [] [] [] []) (g : wr.grownBy w2 none) (h2 : Sz w w2 (fun k => k = wr.heap.size) wr.heap.size n m [] [] [] []) : Two w w2 pa wr.heap.size n m St0 St0 :=
  ⟨Z, _, Sz.gb h g, h2, fun k a b => by have := h.1.zl' k a; omega⟩
end

set_option maxRecDepth 100000 in
set_option maxHeartbeats 16000000 in
theorem walk (a0 a1 : Int) (a2 : Option Addr) (len2 cap2 : Nat) (f2 : Nat → Nat → Int) (a3 : Option Addr) (len3 cap3 : Nat) (f3 : Nat → Nat → Int) (w : World) (w0 : -9223372036854775808 ≤ a0) (w1 : -9223372036854775808 ≤ a1) (hs2 : Ss w a2 len2 7 f2) (hs3 : Ss w a3 len3 7 f3) :
    Calls Try.prog 7 #[.int .i64 a0, .int .i64 a1, .slice a2 len2 cap2, .slice a3 len3 cap3] w fun e w' => e = .returned (.bool true) ∧ Below w.heap.size w w' := by
  have HS2 := Lib.hid hs2
  have HS3 := Lib.hid hs3
  have hl2 := hs2.le
  have hl3 := hs3.le
  clear hs2 hs3
  go_enter Try.func7, Try.ntmps7
  go_wp2_with fail
  refine (awake_any w).mono ?_
  rintro e w1 ⟨rfl, hg1⟩
  go_wp2_with fail
  refine (pick_any a0 21 w1 w0 (by omega)).mono ?_
  rintro e w2 ⟨rfl, rfl⟩
  obtain ⟨q1, q2⟩ := pk_range a0 21 (by omega)
  obtain ⟨n, hn⟩ : ∃ n : Nat, pk a0 21 = n := ⟨(pk a0 21).toNat, by omega⟩
  rw [hn] at q1 q2 ⊢
  clear hn w0
  have hn21 : n < 21 := by omega
  clear q1 q2
  go_wp2_with fail
  refine (pick_any a1 21 w1 (by assumption) (by omega)).mono ?_
  rintro e w2 ⟨rfl, rfl⟩
  obtain ⟨q1, q2⟩ := pk_range a1 21 (by omega)
  obtain ⟨m, hm⟩ : ∃ n : Nat, pk a1 21 = n := ⟨(pk a1 21).toNat, by omega⟩
  rw [hm] at q1 q2 ⊢
  clear hm
  have hm21 : m < 21 := by omega
  clear q1 q2
  go_wp2_with fail
  refine (new_sz n m (by omega) (by omega) w w1 hg1).mono ?_
  rintro e w2 ⟨rfl, hSa, _⟩
  generalize w1.heap.size = pa at *
  have HSa := Lib.hid hSa
  go_wp2_with fail
  refine (new_sz n m (by omega) (by omega) w w2 hSa.gr).mono ?_
  rintro e w3 ⟨rfl, hSb, hg3⟩
  have HT := Lib.hid (Two.start HSa.out hg3 hSb)
  clear hSa hSb hg1 hg3 HSa
  generalize w2.heap.size = pb at *
  go_wp2_with fail
  go_loopw [15] (fun t wr => ∃ (i : Nat) (s : St), t = .int .i64 i ∧ i ≤ 30 ∧ i ≤ len2 ∧ Hid (Two w wr pa pb n m s St0)) (fun t _ => 30 - (intOf t).toNat)
  case atStart => exact ⟨0, St0, rfl, by omega, Nat.zero_le _, HT⟩
  case round =>
    obtain ⟨i, s, rfl, hi, hil, HTr⟩ := hrel
    clear HT
    by_cases hin : i < len2 ∧ i < 30
    · obtain ⟨hin1, hin2⟩ := hin
      obtain ⟨b0, o0, rfl, hb0, hc⟩ := HS2.out.at_ i hin1
      have hk0 := HS2.out.lo i 0
      have k0 := cell_kept (hc 0 (by omega)) HTr.out.gr (by simp)
      have k1 := cell_kept (hc 1 (by omega)) HTr.out.gr (by simp)
      have k2 := cell_kept (hc 2 (by omega)) HTr.out.gr (by simp)
      have k3 := cell_kept (hc 3 (by omega)) HTr.out.gr (by simp)
      have k4 := cell_kept (hc 4 (by omega)) HTr.out.gr (by simp)
      have k5 := cell_kept (hc 5 (by omega)) HTr.out.gr (by simp)
      have k6 := cell_kept (hc 6 (by omega)) HTr.out.gr (by simp)
      rw [Nat.add_zero] at k0
      clear hc
      generalize f2 i 0 = x0 at *
      generalize f2 i 1 = x1 at *
      generalize f2 i 2 = x2 at *
      generalize f2 i 3 = x3 at *
      generalize f2 i 4 = x4 at *
      generalize f2 i 5 = x5 at *
      generalize f2 i 6 = x6 at *
      go_wp2_with fail
      refine (HTr.out.doit x0 x1 x2 x3 x4 x5 x6 hk0).mono ?_
      rintro e w4 ⟨rfl, hS4⟩
      have HS4 := Lib.hid hS4
      clear hS4
      generalize doS s n m (pk x0 4) x1 x2 (x3, x4, x5, x6) = s2 at *
      generalize doB s n m (pk x0 4) x1 x2 (x3, x4, x5, x6) = b2 at *
      go_wp2_with fail
      go_roundw
      case rel => exact ⟨i + 1, s2, by go_num, by omega, by omega, HS4⟩
      case measure => simp [intOf]; omega
    · have hend : ¬ i < len2 ∨ (i < len2 ∧ ¬ i < 30) := by omega
      clear hin
      rename World => wo
      rcases hend with hd1 | ⟨hd1, hd2⟩
      all_goals
        go_wp2_with fail
        refine HTr.out.reset.mono ?_
        rintro e w5 ⟨⟨v5, rfl⟩, hS5⟩
        have HS5 := Lib.hid hS5
        clear hS5
        go_wp2_with fail
        go_loopw [16] (fun t wr => ∃ (j : Nat) (s : St), t = .int .i64 j ∧ j ≤ 30 ∧ j ≤ len3 ∧ Hid (Two w wr pa pb n m s s)) (fun t _ => 30 - (intOf t).toNat)
        case atStart => exact ⟨0, St0, rfl, by omega, Nat.zero_le _, HS5⟩
        case round =>
          obtain ⟨j, t, rfl, hj, hjl, HTr⟩ := hrel
          clear HS5
          by_cases hin : j < len3 ∧ j < 30
          · obtain ⟨hin1, hin2⟩ := hin
            obtain ⟨b0, o0, rfl, hb0, hc⟩ := HS3.out.at_ j hin1
            have hk0 := HS3.out.lo j 0
            have d0 := hc 0 (by omega)
            have d1 := hc 1 (by omega)
            have d2 := hc 2 (by omega)
            have d3 := hc 3 (by omega)
            have d4 := hc 4 (by omega)
            have d5 := hc 5 (by omega)
            have d6 := hc 6 (by omega)
            rw [Nat.add_zero] at d0
            clear hc
            generalize f3 j 0 = x0 at *
            generalize f3 j 1 = x1 at *
            generalize f3 j 2 = x2 at *
            generalize f3 j 3 = x3 at *
            generalize f3 j 4 = x4 at *
            generalize f3 j 5 = x5 at *
            generalize f3 j 6 = x6 at *
            have k0 := cell_kept d0 HTr.out.gr (by simp)
            have k1 := cell_kept d1 HTr.out.gr (by simp)
            have k2 := cell_kept d2 HTr.out.gr (by simp)
            have k3 := cell_kept d3 HTr.out.gr (by simp)
            have k4 := cell_kept d4 HTr.out.gr (by simp)
            have k5 := cell_kept d5 HTr.out.gr (by simp)
            have k6 := cell_kept d6 HTr.out.gr (by simp)
            go_wp2_with fail
            refine (HTr.out.doit x0 x1 x2 x3 x4 x5 x6 hk0).mono ?_
            rintro e w6 ⟨rfl, hS6⟩
            have HS6 := Lib.hid hS6.symm
            clear hS6 k0 k1 k2 k3 k4 k5 k6
            have k0 := cell_kept d0 HS6.out.gr (by simp)
            have k1 := cell_kept d1 HS6.out.gr (by simp)
            have k2 := cell_kept d2 HS6.out.gr (by simp)
            have k3 := cell_kept d3 HS6.out.gr (by simp)
            have k4 := cell_kept d4 HS6.out.gr (by simp)
            have k5 := cell_kept d5 HS6.out.gr (by simp)
            have k6 := cell_kept d6 HS6.out.gr (by simp)
            obtain ⟨b2, hb2⟩ : ∃ b, doB t n m (pk x0 4) x1 x2 (x3, x4, x5, x6) = b := ⟨_, rfl⟩
            rw [hb2]
            have HB2 := Lib.hid hb2
            clear hb2
            go_wp2_with fail
            refine (HS6.out.doit x0 x1 x2 x3 x4 x5 x6 hk0).mono ?_
            rintro e w7 ⟨rfl, hS7⟩
            rw [HB2.out]
            have HS7 := Lib.hid hS7.symm
            clear hS7 HS6 k0 k1 k2 k3 k4 k5 k6 HB2
            generalize doS t n m (pk x0 4) x1 x2 (x3, x4, x5, x6) = t2 at *
            have tt : (b2 != b2) = false := by simp
            go_wp2_with fail
            go_roundw
            case rel => exact ⟨j + 1, t2, by go_num, by omega, by omega, HS7⟩
            case measure => simp [intOf]; omega
          · have hend : ¬ j < len3 ∨ (j < len3 ∧ ¬ j < 30) := by omega
            clear hin
            obtain ⟨l1, l2, l3⟩ := HTr.out.lens
            rcases hend with he1 | ⟨he1, he2⟩
            all_goals
              generalize hr : rootsL t.R t.K t.H t.U = all at *
              have HR := Lib.hid hr
              clear hr
              go_wp2_with fail
              refine HTr.out.roots.mono ?_
              rintro e w6 ⟨⟨A6, c6, rfl, hr6⟩, hg6⟩
              rw [HR.out] at hr6 ⊢
              have HR6 := Lib.hid hr6
              have HT6 := Lib.hid (HTr.out.gb hg6)
              clear hr6 hg6
              go_wp2_with fail
              refine HT6.out.symm.roots.mono ?_
              rintro e w7 ⟨⟨A7, c7, rfl, hr7⟩, hg7⟩
              rw [HR.out] at hr7 ⊢
              have HR7 := Lib.hid hr7
              have HR6b := Lib.hid (HR6.out.gb hg7)
              have HT7 := Lib.hid (HT6.out.gb hg7)
              clear hr7 hg7
              go_wp2_with fail
              refine (ints_any A6 A7 all.length c6 c7 all w7 HR6b.out HR7.out (by omega)).mono ?_
              rintro e w8 ⟨rfl, hg8⟩
              have HT8 := Lib.hid (HT7.out.gb hg8)
              clear hg8
              go_wp2_with fail
              refine HT8.out.undos.mono ?_
              rintro e w9 ⟨⟨A9, c9, b9, rfl, hr9⟩, hg9⟩
              have HR9 := Lib.hid hr9
              have HT9 := Lib.hid (HT8.out.gb hg9)
              clear hr9 hg9
              go_wp2_with fail
              refine HT9.out.symm.undos.mono ?_
              rintro e w10 ⟨⟨A10, c10, b10, rfl, hr10⟩, hg10⟩
              have HR10 := Lib.hid hr10
              have HR9b := Lib.hid (own_gb0 HR9.out hg10)
              have HT10 := Lib.hid (HT9.out.gb hg10)
              clear hr10 hg10
              go_wp2_with fail
              refine (undos_cmp A9 A10 t.U.length c9 c10 b9 b10 t.U w10 HR9b.out HR10.out rfl (by omega)).mono ?_
              rintro e w11 ⟨rfl, hg11⟩
              have HT11 := Lib.hid (HT10.out.gb hg11)
              clear hg11
              go_wp2_with fail
              refine HT11.out.holds.mono ?_
              rintro e w12 ⟨⟨A12, c12, b12, rfl, hr12⟩, hg12⟩
              have HR12 := Lib.hid hr12
              have HT12 := Lib.hid (HT11.out.gb hg12)
              clear hr12 hg12
              go_wp2_with fail
              refine HT12.out.symm.holds.mono ?_
              rintro e w13 ⟨⟨A13, c13, b13, rfl, hr13⟩, hg13⟩
              have HR13 := Lib.hid hr13
              have HR12b := Lib.hid (own_gb0 HR12.out hg13)
              have HT13 := Lib.hid (HT12.out.gb hg13)
              clear hr13 hg13
              go_wp2_with fail
              refine (holds_cmp A12 A13 t.H.length c12 c13 b12 b13 t.H w13 HR12b.out HR13.out rfl (by omega)).mono ?_
              rintro e w14 ⟨rfl, hg14⟩
              have HB := Lib.hid (below_of (grownBy_trans HT13.out.gr hg14))
              clear hg14
              go_wp2_with fail
              go_ret
              exact ⟨rfl, HB.out⟩

theorem own : ownKnob Try.prog.godebug = none := by kernel_rfl
theorem laidOut : laidOutB Try.prog = true := by kernel_rfl

set_option maxRecDepth 100000 in
theorem lifted (os : Os) (started : os.Started) (H : Type) (enc : TypeId × Value → H) :
    ReturnsInHanded {} Try.checked os 7 .any (Rows.txlogFreshSpec.pre6 enc Try.prog Try.f7 Rows.txlogFreshRow.domain false) (Rows.txlogFreshSpec.post enc Try.prog Try.f7 false true false false) := by
  refine returnsInHanded_of_change (C := Try.checked) own started (by kernel_rfl) Try.func7
    (ChangeSpec.witness6 (enc := enc) (C := Try.checked) false ⟨#[], #[.int .i64 0, .int .i64 0, .slice none 0 0, .slice none 0 0], []⟩ 8 (by kernel_rfl) (by kernel_rfl) (by kernel_rfl) (by kernel_rfl)) ?_
  intro W base args ds gs before hval0 hW hcnd _
  have hval : ∀ (j : Nat) t v, Try.f7.params[j]? = some t → args[j]? = some v → Value.okWide Try.prog W .any base t v := hval0
  have hW' := hW
  obtain ⟨p, q, hA0, hV, rfl, hfz, hnd⟩ := hW
  have hA : DataW.TrodAll enc Try.prog W 0 (fun _ => true) true Try.f7.params.toList args.toList ds p := hA0
  rw [Try.params7] at hA hval
  obtain ⟨v0, vs0, d0, ds0, p0, q0, hargs, rfl, rfl, h0, r0⟩ := trodAll_cons hA
  obtain ⟨v1, vs1, d1, ds1, p1, q1, rfl, rfl, rfl, h1, r1⟩ := trodAll_cons r0
  obtain ⟨v2, vs2, d2, ds2, p2, q2, rfl, rfl, rfl, h2, r2⟩ := trodAll_cons r1
  obtain ⟨v3, vs3, d3, ds3, p3, q3, rfl, rfl, rfl, h3, r3⟩ := trodAll_cons r2
  obtain ⟨rfl, rfl, rfl⟩ := trodAll_nil r3
  obtain rfl : args = #[v0, v1, v2, v3] := by cases args; simp_all
  obtain ⟨rfl, rfl⟩ := trodVars_none hV
  have k0 := h0
  have lt0 : ∀ x ∈ p0, x.block < W.heap.size := by obtain ⟨m, hm⟩ := k0; exact DataW.trod_lt m _ _ _ hm
  have k1 := h1
  have lt1 : ∀ x ∈ p1, x.block < W.heap.size := by obtain ⟨m, hm⟩ := k1; exact DataW.trod_lt m _ _ _ hm
  have k2 := h2
  have lt2 : ∀ x ∈ p2, x.block < W.heap.size := by obtain ⟨m, hm⟩ := k2; exact DataW.trod_lt m _ _ _ hm
  have k3 := h3
  have lt3 : ∀ x ∈ p3, x.block < W.heap.size := by obtain ⟨m, hm⟩ := k3; exact DataW.trod_lt m _ _ _ hm
  obtain ⟨a0, rfl, rfl, rfl, w0⟩ := open_int Try.underlying3 (hval 0 3 v0 rfl rfl) h0
  obtain ⟨a1, rfl, rfl, rfl, w1⟩ := open_int Try.underlying3 (hval 1 3 v1 rfl rfl) h1
  obtain ⟨a2, len2, cap2, rfl⟩ := okWide_slice Try.underlying36 (hval 2 36 v2 rfl rfl)
  obtain ⟨f2, hs2⟩ : ∃ f, Ss W a2 len2 7 f := by
    obtain ⟨fuel, hf⟩ := h2
    exact open_ops hf
  obtain ⟨a3, len3, cap3, rfl⟩ := okWide_slice Try.underlying36 (hval 3 36 v3 rfl rfl)
  obtain ⟨f3, hs3⟩ : ∃ f, Ss W a3 len3 7 f := by
    obtain ⟨fuel, hf⟩ := h3
    exact open_ops hf
  clear hA0 hval0
  refine (walk a0 a1 a2 len2 cap2 f2 a3 len3 cap3 f3 W (i64_lo w0) (i64_lo w1) hs2 hs3).mono fun e W' ⟨he, bel⟩ => ?_
  subst he
  exact ⟨_, rfl, _, _, _, [], _, [], hW', trodAll_mk1 (shut_bool Try.underlying4 _), (trodAll_cons_mk (Below.trod laidOut (by kernel_rfl) (of_decide_eq_true (by kernel_rfl)) k0 bel lt0) (trodAll_cons_mk (Below.trod laidOut (by kernel_rfl) (of_decide_eq_true (by kernel_rfl)) k1 bel lt1) (trodAll_cons_mk (Below.trod laidOut (by kernel_rfl) (of_decide_eq_true (by kernel_rfl)) k2 bel lt2) (trodAll_cons_mk (Below.trod laidOut (by kernel_rfl) (of_decide_eq_true (by kernel_rfl)) k3 bel lt3) trodAll_mk0)))), rfl, bel.frame _, fun h => by cases h⟩

theorem over : Rows.txlogFreshRow.holds Try.pinned (OpenSpec.ofChange Rows.txlogFreshSpec) :=
  OpenClaim.holds_of_wide 7 Try.f7 rfl rfl rfl rfl rfl rfl rfl ⟨rfl, rfl, rfl, rfl, rfl⟩ rfl rfl rfl rfl rfl (by kernel_rfl) Try.func7 (by kernel_rfl)
    (of_decide_eq_true (by kernel_rfl)) (by unfold Func.isWrapper; first | (rw [if_pos (by decide +kernel)]; kernel_rfl) | (rw [if_neg (by decide +kernel)]; exact ⟨rfl, rfl⟩))
    (fun os started H enc _ => lifted os started H enc)

theorem proved : Rows.TxlogFreshSaid := over
end Go.Proofs.Ytjeapnhaakppeaa.txlogFresh

namespace Go.Proofs.Ytjeapnhaakppeaa
theorem TxlogFresh_holds : Rows.TxlogFreshSaid := txlogFresh.proved
#print axioms TxlogFresh_holds
end Go.Proofs.Ytjeapnhaakppeaa
