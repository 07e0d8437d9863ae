/-
  TxlogHolds returns true, whatever the input; what it was handed reads as before. No condition.
-/
import Derived.Test.YtjeapnhaakppeaaOpen
namespace Go.Proofs.Ytjeapnhaakppeaa.txlogHolds
open Go.ChangeShapes Go.WideShapes Go.ChangeAt Go.RowKit Go.Shelf
set_option linter.unusedVariables false

theorem hold_in {H : List (Int × Int)} {want : List Int} {a b : Int} {m : Nat} (e : H.map (·.1) = want) (h : a ∈ want) : holdB H (a, b) m = false ∧ holdL H (a, b) m = H := by
  subst e
  have h2 : ¬ ∀ x ∈ H, x.1 ≠ a := by
    obtain ⟨x, hx, e⟩ := List.mem_map.1 h
    exact fun k => k x hx e
  exact ⟨by unfold holdB; rw [decide_eq_false h2, Bool.false_and], by unfold holdL; rw [if_neg (fun k => h2 k.1)]⟩
theorem hold_fits {H : List (Int × Int)} {want : List Int} {a b : Int} {m : Nat} (e : H.map (·.1) = want) (h : ¬ a ∈ want) (k : want.length < m) : holdB H (a, b) m = true ∧ holdL H (a, b) m = H ++ [(a, b)] := by
  subst e
  have h2 : ∀ x ∈ H, x.1 ≠ a := fun x hx e => h (List.mem_map.2 ⟨x, hx, e⟩)
  have h3 : H.length < m := by simpa using k
  exact ⟨by unfold holdB; rw [decide_eq_true h2, decide_eq_true h3, Bool.true_and], by unfold holdL; rw [if_pos ⟨h2, h3⟩]⟩
theorem hold_full {H : List (Int × Int)} {want : List Int} {a b : Int} {m : Nat} (e : H.map (·.1) = want) (k : ¬ want.length < m) : holdB H (a, b) m = false ∧ holdL H (a, b) m = H := by
  subst e
  have h3 : ¬ H.length < m := by simpa using k
  exact ⟨by unfold holdB; rw [decide_eq_false h3, Bool.and_false], by unfold holdL; rw [if_neg (fun k => h3 k.2)]⟩

set_option maxRecDepth 100000 in
set_option maxHeartbeats 8000000 in
theorem walk (a0 : Int) (a1 : Option Addr) (len1 cap1 : Nat) (z1 : List Int) (w : World) (w0 : -9223372036854775808 ≤ a0) (hrd : Rd w a1 len1 z1) (hl : (len1 : Int) ≤ 9223372036854775807) :
    Calls Try.prog 4 #[.int .i64 a0, .slice a1 len1 cap1] w fun e w' => e = .returned (.bool true) ∧ Below w.heap.size w w' := by
  have HRD := Lib.hid hrd
  clear hrd
  go_enter Try.func4, Try.ntmps4
  go_wp2_with fail
  refine (awake_any w).mono ?_
  rintro e w1 ⟨rfl, hg1⟩
  go_wp2_with fail
  refine (pick_any a0 21 w1 w0 (by omega)).mono ?_
  rintro e w2 ⟨rfl, rfl⟩
  obtain ⟨q1, q2⟩ := pk_range a0 21 (by omega)
  obtain ⟨n, hn⟩ : ∃ n : Nat, pk a0 21 = n := ⟨(pk a0 21).toNat, by omega⟩
  rw [hn] at q1 q2 ⊢
  clear hn w0
  have hn21 : n < 21 := by omega
  clear q1 q2
  go_wp2_with fail
  refine (new_sz 0 n (by omega) (by omega) w w1 hg1).mono ?_
  rintro e w2 ⟨rfl, hS, _⟩
  have HS := Lib.hid (Wl.start hS)
  clear hS hg1
  generalize w1.heap.size = bp at *
  go_wp2_with fail
  go_loopw [8, 9] (fun s t wr => ∃ (i : Nat) (want : List Int) (H : List (Int × Int)), t = .int .i64 i ∧ i ≤ 40 ∧ i ≤ len1 ∧ Hid (Wl w wr bp 0 n [] [] H [] s want) ∧ want.length ≤ n ∧ Hid (H.map (·.1) = want)) (fun s t _ => 40 - (intOf t).toNat)
  case atStart => exact ⟨0, [], [], rfl, by omega, Nat.zero_le _, HS, by simp, rfl⟩
  case round =>
    obtain ⟨i, want, H, rfl, hi, hil, HSr, hwl, HM⟩ := hrel
    clear HS
    obtain ⟨Aw, cw, hvw, hrw, hcw1, hcw2⟩ := HSr.out.rd
    subst hvw
    have HRW := Lib.hid hrw
    clear hrw
    by_cases hin : i < len1 ∧ i < 40
    · obtain ⟨hin1, hin2⟩ := hin
      obtain ⟨bA, oA, rfl, hbA, hcA⟩ := HRD.out.at_ i hin1
      obtain ⟨p, hp⟩ : ∃ p, p = z1.getD i 0 := ⟨_, rfl⟩
      rw [← hp] at hcA
      clear hp
      have hcAr : wr.cell? ⟨bA, oA + i, none⟩ = some (.int .i64 p) := cell_kept hcA HSr.out.gr (by simp)
      rename World => wo
      go_wp2_with fail
      go_loopw [10, 11] (fun s t wv => ∃ (k : Nat) (b : Bool), s = .bool b ∧ t = .int .i64 k ∧ k ≤ want.length ∧ Ink b p want k ∧ wo.grownBy wv none) (fun s t _ => want.length - (intOf t).toNat)
      case atStart => exact ⟨0, false, rfl, rfl, Nat.zero_le _, Ink.zero _ _, grownBy_refl _ _⟩
      case round =>
        obtain ⟨k, b, rfl, rfl, hk, HB, hgv⟩ := hrel
        have hcv : wr.cell? ⟨bA, oA + i, none⟩ = some (.int .i64 p) := cell_kept hcAr hgv (by simp)
        by_cases hkl : k < want.length
        · obtain ⟨bW, oW, rfl, hbW, hcW⟩ := (HRW.out.gb hgv).at_ k hkl
          have hk0 : (0 : Int) ≤ (k : Int) := by omega
          have hk1 : (k : Int) < (want.length : Int) := by omega
          have hi1 : (i : Int) < (len1 : Int) := by omega
          cases b
          · by_cases hy : want.getD k 0 = p
            · have HB2 : Ink true p want (k + 1) := Ink.hit (b := true) hkl hy
              rw [hy] at hcW
              clear hy
              go_wp2_with fail
              go_quiet (fail)
              go_wp2_with fail
              go_roundw
              case rel => exact ⟨k + 1, true, rfl, by go_num, by omega, HB2, grownBy_trans hgv (gb_drewN _ _ _)⟩
              case measure => simp [intOf]; omega
            · have HB2 : Ink false p want (k + 1) := HB.miss hkl hy
              have tt : (want.getD k 0 == p) = false := by rw [beq_eq_false_iff_ne]; exact hy
              clear hy
              generalize want.getD k 0 = y at *
              go_wp2_with fail
              go_quiet (fail)
              go_wp2_with fail
              go_roundw
              case rel => exact ⟨k + 1, false, rfl, by go_num, by omega, HB2, grownBy_trans hgv (gb_drewN _ _ _)⟩
              case measure => simp [intOf]; omega
          · have HB2 : Ink true p want (k + 1) := HB.stays hkl
            go_wp2_with fail
            go_quiet (fail)
            go_wp2_with fail
            go_roundw
            case rel => exact ⟨k + 1, true, rfl, by go_num, by omega, HB2, grownBy_trans hgv (gb_drewN _ _ _)⟩
            case measure => simp [intOf]; omega
        · obtain rfl : want.length = k := by omega
          have HS2 := Lib.hid (HSr.out.gb hgv)
          go_wp2_with fail
          refine (HS2.out.hold p i).mono ?_
          rintro e w3 ⟨rfl, hS3⟩
          have HS3 := Lib.hid hS3
          have hc3 : w3.cell? ⟨bA, oA + i, none⟩ = some (.int .i64 p) := cell_kept hcA hS3.gr (by simp)
          clear hS3 hcv
          cases b
          · have hno := HB.no
            by_cases hfit : want.length < n
            · obtain ⟨e1, e2⟩ := hold_fits (b := (i : Int)) HM.out hno hfit
              rw [e1]
              rw [e2] at HS3
              clear e1 e2 hno
              obtain ⟨Z, hS3, hO3⟩ := HS3.out
              have HS4 := Lib.hid hS3
              have HO4 := Lib.hid hO3
              clear hS3 hO3
              have HM2 : Hid ((H ++ [(p, (i : Int))]).map (·.1) = want ++ [p]) := by unfold Hid; rw [List.map_append, HM.out]; rfl
              obtain ⟨i0, hi0, hz0, hz1, hz2⟩ := info_parts info3
              have HI := Lib.hid hi0; have HZ0 := Lib.hid hz0; have HZ1 := Lib.hid hz1; have HZ2 := Lib.hid hz2
              clear hi0 hz0 hz1 hz2
              have hsz : w.heap.size ≤ w3.heap.size := HS4.out.gr.size
              go_wp2_with (at_builtin; go_must (refine wpList_append_lies _ rfl _ _ 22 rfl w.heap.size 3 i0 (.int .i64 0) 1 8 Try.underlying22 HI.out HZ0.out HZ1.out HZ2.out rfl (by decide) (.slice Aw want.length cw) want.length (ints want) rfl (HO4.out.1.alloc _) ⟨w3.heap.size, 0, none⟩ 1 1 [.int .i64 p] rfl rfl (cell_one_new _ _ _) (one_int _ _) (by omega) (by unfold maxLen; omega) (by omega) (by simp; omega) (w3.heap.size + 1) (by simp) ?_); intro g cap w4 hown4 g4 hat4 hlt4; have HF := Lib.hid (Wl.app (k := 0) HS4.out HO4.out hown4 g4 hat4); clear hown4 g4 hat4 hlt4)
              go_roundw
              case rel => exact ⟨i + 1, want ++ [p], H ++ [(p, (i : Int))], by go_num, by omega, by omega, HF, by simp; omega, HM2⟩
              case measure => simp [intOf]; omega
            · obtain ⟨e1, e2⟩ := hold_full (a := p) (b := (i : Int)) HM.out hfit
              rw [e1]
              rw [e2] at HS3
              clear e1 e2 hno
              go_wp2_with fail
              go_roundw
              case rel => exact ⟨i + 1, want, H, by go_num, by omega, by omega, HS3, hwl, HM⟩
              case measure => simp [intOf]; omega
          · obtain ⟨e1, e2⟩ := hold_in (b := (i : Int)) (m := n) HM.out HB.yes
            rw [e1]
            rw [e2] at HS3
            clear e1 e2
            go_wp2_with fail
            go_roundw
            case rel => exact ⟨i + 1, want, H, by go_num, by omega, by omega, HS3, hwl, HM⟩
            case measure => simp [intOf]; omega
    · have hend : ¬ i < len1 ∨ (i < len1 ∧ ¬ i < 40) := by omega
      clear hin
      rcases hend with hd1 | ⟨hd1, hd2⟩
      all_goals
        go_wp2_with fail
        refine HSr.out.roots.mono ?_
        rintro e w3 ⟨⟨A, c, rfl, hrd⟩, hS3⟩
        rw [show rootsL [] [] H [] = want from by simp only [rootsL, HM.out]; simp] at hrd ⊢
        have HR := Lib.hid hrd
        have HW := Lib.hid hS3
        obtain ⟨Aw2, cw2, hvw, hrw, _, _⟩ := hS3.rd
        cases hvw
        have HRW3 := Lib.hid hrw
        clear hrd hS3 hrw
        go_wp2_with fail
        refine (ints_any A Aw want.length c cw want w3 HR.out HRW3.out (by omega)).mono ?_
        rintro e w4 ⟨rfl, hg4⟩
        have HS4 := Lib.hid (HW.out.gb hg4)
        clear hg4
        go_wp2_with fail
        refine HS4.out.holds.mono ?_
        rintro e w5 ⟨⟨A5, c5, base5, rfl, _⟩, hS5⟩
        rw [show H.length = want.length from by rw [← HM.out, List.length_map]]
        have HS5 := Lib.hid hS5
        clear hS5
        go_wp2_with fail
        refine (HS5.out.read 1).mono ?_
        rintro e w6 ⟨rfl, hS6⟩
        rw [show noteB [] 1 0 = false from rfl]
        have HS6 := Lib.hid hS6
        clear hS6
        go_wp2_with fail
        refine (HS6.out.keep 1).mono ?_
        rintro e w7 ⟨rfl, hS7⟩
        rw [show noteB [] 1 0 = false from rfl]
        have HS7 := Lib.hid (below_of hS7.gr)
        clear hS7
        go_wp2_with fail
        go_ret
        exact ⟨rfl, HS7.out⟩

theorem own : ownKnob Try.prog.godebug = none := by kernel_rfl
theorem laidOut : laidOutB Try.prog = true := by kernel_rfl

set_option maxRecDepth 100000 in
theorem lifted (os : Os) (started : os.Started) (H : Type) (enc : TypeId × Value → H) :
    ReturnsInHanded {} Try.checked os 4 .any (Rows.txlogHoldsSpec.pre6 enc Try.prog Try.f4 Rows.txlogHoldsRow.domain false) (Rows.txlogHoldsSpec.post enc Try.prog Try.f4 false true false false) := by
  refine returnsInHanded_of_change (C := Try.checked) own started (by kernel_rfl) Try.func4
    (ChangeSpec.witness6 (enc := enc) (C := Try.checked) false ⟨#[], #[.int .i64 0, .slice none 0 0], []⟩ 8 (by kernel_rfl) (by kernel_rfl) (by kernel_rfl) (by kernel_rfl)) ?_
  intro W base args ds gs before hval0 hW hcnd _
  have hval : ∀ (j : Nat) t v, Try.f4.params[j]? = some t → args[j]? = some v → Value.okWide Try.prog W .any base t v := hval0
  have hW' := hW
  obtain ⟨p, q, hA0, hV, rfl, hfz, hnd⟩ := hW
  have hA : DataW.TrodAll enc Try.prog W 0 (fun _ => true) true Try.f4.params.toList args.toList ds p := hA0
  rw [Try.params4] at hA hval
  obtain ⟨v0, vs0, d0, ds0, p0, q0, hargs, rfl, rfl, h0, r0⟩ := trodAll_cons hA
  obtain ⟨v1, vs1, d1, ds1, p1, q1, rfl, rfl, rfl, h1, r1⟩ := trodAll_cons r0
  obtain ⟨rfl, rfl, rfl⟩ := trodAll_nil r1
  obtain rfl : args = #[v0, v1] := by cases args; simp_all
  obtain ⟨rfl, rfl⟩ := trodVars_none hV
  have k0 := h0
  have lt0 : ∀ x ∈ p0, x.block < W.heap.size := by obtain ⟨m, hm⟩ := k0; exact DataW.trod_lt m _ _ _ hm
  have k1 := h1
  have lt1 : ∀ x ∈ p1, x.block < W.heap.size := by obtain ⟨m, hm⟩ := k1; exact DataW.trod_lt m _ _ _ hm
  obtain ⟨a0, rfl, rfl, rfl, w0⟩ := open_int Try.underlying3 (hval 0 3 v0 rfl rfl) h0
  obtain ⟨a1, len1, cap1, rfl⟩ := okWide_slice Try.underlying22 (hval 1 22 v1 rfl rfl)
  obtain ⟨z1, hr1, hl1⟩ : ∃ zs, Rd W a1 len1 zs ∧ (len1 : Int) ≤ 9223372036854775807 := by
    obtain ⟨fuel, hf⟩ := h1
    exact open_rd hf
  clear hA0 hval0
  refine (walk a0 a1 len1 cap1 z1 W (i64_lo w0) hr1 hl1).mono fun e W' ⟨he, bel⟩ => ?_
  subst he
  exact ⟨_, rfl, _, _, _, [], _, [], hW', trodAll_mk1 (shut_bool Try.underlying4 _), (trodAll_cons_mk (Below.trod laidOut (by kernel_rfl) (of_decide_eq_true (by kernel_rfl)) k0 bel lt0) (trodAll_cons_mk (Below.trod laidOut (by kernel_rfl) (of_decide_eq_true (by kernel_rfl)) k1 bel lt1) trodAll_mk0)), rfl, bel.frame _, fun h => by cases h⟩

theorem over : Rows.txlogHoldsRow.holds Try.pinned (OpenSpec.ofChange Rows.txlogHoldsSpec) :=
  OpenClaim.holds_of_wide 4 Try.f4 rfl rfl rfl rfl rfl rfl rfl ⟨rfl, rfl, rfl, rfl, rfl⟩ rfl rfl rfl rfl rfl (by kernel_rfl) Try.func4 (by kernel_rfl)
    (of_decide_eq_true (by kernel_rfl)) (by unfold Func.isWrapper; first | (rw [if_pos (by decide +kernel)]; kernel_rfl) | (rw [if_neg (by decide +kernel)]; exact ⟨rfl, rfl⟩))
    (fun os started H enc _ => lifted os started H enc)

theorem proved : Rows.TxlogHoldsSaid := over
end Go.Proofs.Ytjeapnhaakppeaa.txlogHolds

namespace Go.Proofs.Ytjeapnhaakppeaa
theorem TxlogHolds_holds : Rows.TxlogHoldsSaid := txlogHolds.proved
#print axioms TxlogHolds_holds
end Go.Proofs.Ytjeapnhaakppeaa
