/-
  TxlogNotes returns true, whatever the input; what it was handed reads as before. No condition.
-/
import Derived.Test.YtjeapnhaakppeaaWm
namespace Go.Proofs.Ytjeapnhaakppeaa.txlogNotes
open Go.ChangeShapes Go.WideShapes Go.ChangeAt Go.RowKit Go.Shelf
set_option linter.unusedVariables false

theorem undo_fits' {U : List (Int × Int × Int × Int)} {u : Int × Int × Int × Int} {m : Nat} (h : U.length < m) : undoB U m = true ∧ undoL U u m = U ++ [u] := ⟨decide_eq_true h, if_pos h⟩
theorem undo_full' {U : List (Int × Int × Int × Int)} {u : Int × Int × Int × Int} {m : Nat} (h : ¬ U.length < m) : undoB U m = false ∧ undoL U u m = U := ⟨decide_eq_false h, if_neg h⟩

set_option maxRecDepth 100000 in
set_option maxHeartbeats 16000000 in
theorem walk (a0 a1 : Int) (a2 : Option Addr) (len2 cap2 : Nat) (z2 : List Int) (a3 : Option Addr) (len3 cap3 : Nat) (f : Nat → Nat → Int) (w : World) (w0 : -9223372036854775808 ≤ a0) (w1 : -9223372036854775808 ≤ a1) (hrd : Rd w a2 len2 z2) (hl : (len2 : Int) ≤ 9223372036854775807) (hss : Ss w a3 len3 4 f) :
    Calls Try.prog 6 #[.int .i64 a0, .int .i64 a1, .slice a2 len2 cap2, .slice a3 len3 cap3] w fun e w' => e = .returned (.bool true) ∧ Below w.heap.size w w' := by
  have HRD := Lib.hid hrd
  have HSS := Lib.hid hss
  have hl3 := hss.le
  clear hrd hss
  go_enter Try.func6, Try.ntmps6
  go_wp2_with fail
  refine (awake_any w).mono ?_
  rintro e w1 ⟨rfl, hg1⟩
  go_wp2_with fail
  refine (pick_any a0 21 w1 w0 (by omega)).mono ?_
  rintro e w2 ⟨rfl, rfl⟩
  obtain ⟨q1, q2⟩ := pk_range a0 21 (by omega)
  obtain ⟨n, hn⟩ : ∃ n : Nat, pk a0 21 = n := ⟨(pk a0 21).toNat, by omega⟩
  rw [hn] at q1 q2 ⊢
  clear hn w0
  have hn21 : n < 21 := by omega
  clear q1 q2
  go_wp2_with fail
  refine (pick_any a1 21 w1 (by assumption) (by omega)).mono ?_
  rintro e w2 ⟨rfl, rfl⟩
  obtain ⟨q1, q2⟩ := pk_range a1 21 (by omega)
  obtain ⟨m, hm⟩ : ∃ n : Nat, pk a1 21 = n := ⟨(pk a1 21).toNat, by omega⟩
  rw [hm] at q1 q2 ⊢
  clear hm
  have hm21 : m < 21 := by omega
  clear q1 q2
  go_wp2_with fail
  refine (new_sz n m (by omega) (by omega) w w1 hg1).mono ?_
  rintro e w2 ⟨rfl, hS, _⟩
  have HS := Lib.hid ((Wm.start hS).more (ir (.slice none 0 0) []) rfl rfl rfl)
  clear hS hg1
  generalize w1.heap.size = bp at *
  go_wp2_with fail
  go_loopw [13, 14] (fun s t wr => ∃ (i : Nat) (want : List Int), t = .int .i64 i ∧ i ≤ 40 ∧ i ≤ len2 ∧ Hid (Wm w wr bp n m want [] [] [] [ir s want]) ∧ want.length ≤ n) (fun s t _ => 40 - (intOf t).toNat)
  case atStart => exact ⟨0, [], rfl, by omega, Nat.zero_le _, HS, by simp⟩
  case round =>
    obtain ⟨i, want, rfl, hi, hil, HSr, hwl⟩ := hrel
    clear HS
    obtain ⟨Aw, cw, hvw, hrw, hcw1, hcw2⟩ := HSr.out.rd (List.mem_singleton.2 rfl)
    subst hvw
    have HRW := Lib.hid hrw
    clear hrw
    by_cases hin : i < len2 ∧ i < 40
    · obtain ⟨hin1, hin2⟩ := hin
      obtain ⟨bA, oA, rfl, hbA, hcA⟩ := HRD.out.at_ i hin1
      obtain ⟨p, hp⟩ : ∃ p, p = z2.getD i 0 := ⟨_, rfl⟩
      rw [← hp] at hcA
      clear hp
      have hcAr : wr.cell? ⟨bA, oA + i, none⟩ = some (.int .i64 p) := cell_kept hcA HSr.out.gr (by simp)
      rename World => wo
      go_wp2_with fail
      go_loopw [15, 16] (fun s t wv => ∃ (k : Nat) (b : Bool), s = .bool b ∧ t = .int .i64 k ∧ k ≤ want.length ∧ Ink b p want k ∧ wo.grownBy wv none) (fun s t _ => want.length - (intOf t).toNat)
      case atStart => exact ⟨0, false, rfl, rfl, Nat.zero_le _, Ink.zero _ _, grownBy_refl _ _⟩
      case round =>
        obtain ⟨k, b, rfl, rfl, hk, HB, hgv⟩ := hrel
        have hcv : wr.cell? ⟨bA, oA + i, none⟩ = some (.int .i64 p) := cell_kept hcAr hgv (by simp)
        by_cases hkl : k < want.length
        · obtain ⟨bW, oW, rfl, hbW, hcW⟩ := (HRW.out.gb hgv).at_ k hkl
          have hk0 : (0 : Int) ≤ (k : Int) := by omega
          have hk1 : (k : Int) < (want.length : Int) := by omega
          have hi1 : (i : Int) < (len2 : Int) := by omega
          cases b
          · by_cases hy : want.getD k 0 = p
            · have HB2 : Ink true p want (k + 1) := Ink.hit (b := true) hkl hy
              rw [hy] at hcW
              clear hy
              go_wp2_with fail
              go_quiet (fail)
              go_wp2_with fail
              go_roundw
              case rel => exact ⟨k + 1, true, rfl, by go_num, by omega, HB2, grownBy_trans hgv (gb_drewN _ _ _)⟩
              case measure => simp [intOf]; omega
            · have HB2 : Ink false p want (k + 1) := HB.miss hkl hy
              have tt : (want.getD k 0 == p) = false := by rw [beq_eq_false_iff_ne]; exact hy
              clear hy
              generalize want.getD k 0 = y at *
              go_wp2_with fail
              go_quiet (fail)
              go_wp2_with fail
              go_roundw
              case rel => exact ⟨k + 1, false, rfl, by go_num, by omega, HB2, grownBy_trans hgv (gb_drewN _ _ _)⟩
              case measure => simp [intOf]; omega
          · have HB2 : Ink true p want (k + 1) := HB.stays hkl
            go_wp2_with fail
            go_quiet (fail)
            go_wp2_with fail
            go_roundw
            case rel => exact ⟨k + 1, true, rfl, by go_num, by omega, HB2, grownBy_trans hgv (gb_drewN _ _ _)⟩
            case measure => simp [intOf]; omega
        · obtain rfl : want.length = k := by omega
          have HS2 := Lib.hid (HSr.out.gb hgv)
          go_wp2_with fail
          refine (HS2.out.read p).mono ?_
          rintro e w3 ⟨rfl, hS3⟩
          have HS3 := Lib.hid hS3
          have hc3 : w3.cell? ⟨bA, oA + i, none⟩ = some (.int .i64 p) := cell_kept hcA hS3.gr (by simp)
          clear hS3 hcv
          cases b
          · have hno := HB.no
            by_cases hfit : want.length < n
            · obtain ⟨e1, e2⟩ := note_fits hno hfit
              rw [e1]
              rw [e2] at HS3
              clear e1 e2 hno
              have HO4 : Hid (w3.ownsRow w.heap.size 3 1 (.slice Aw want.length cw) want.length (ints want)) := HS3.out.own (List.mem_singleton.2 rfl)
              obtain ⟨i0, hi0, hz0, hz1, hz2⟩ := info_parts info3
              have HI := Lib.hid hi0; have HZ0 := Lib.hid hz0; have HZ1 := Lib.hid hz1; have HZ2 := Lib.hid hz2
              clear hi0 hz0 hz1 hz2
              have hsz : w.heap.size ≤ w3.heap.size := HS3.out.gr.size
              go_wp2_with (at_builtin; go_must (refine wpList_append_lies _ rfl _ _ 22 rfl w.heap.size 3 i0 (.int .i64 0) 1 8 Try.underlying22 HI.out HZ0.out HZ1.out HZ2.out rfl (by decide) (.slice Aw want.length cw) want.length (ints want) rfl (HO4.out.alloc _) ⟨w3.heap.size, 0, none⟩ 1 1 [.int .i64 p] rfl rfl (cell_one_new _ _ _) (one_int _ _) (by omega) (by unfold maxLen; omega) (by omega) (by simp; omega) (w3.heap.size + 1) (by simp) ?_); intro g cap w4 hown4 g4 hat4 hlt4; have HF := Lib.hid (Wm.appi (pre := []) (post := []) HS3.out hown4 g4 hat4); clear hown4 g4 hat4 hlt4)
              go_roundw
              case rel => exact ⟨i + 1, want ++ [p], by go_num, by omega, by omega, HF, by simp; omega⟩
              case measure => simp [intOf]; omega
            · obtain ⟨e1, e2⟩ := note_full hno hfit
              rw [e1]
              rw [e2] at HS3
              clear e1 e2 hno
              go_wp2_with fail
              go_roundw
              case rel => exact ⟨i + 1, want, by go_num, by omega, by omega, HS3, hwl⟩
              case measure => simp [intOf]; omega
          · obtain ⟨e1, e2⟩ := note_in (m := n) HB.yes
            rw [e1]
            rw [e2] at HS3
            clear e1 e2
            go_wp2_with fail
            go_roundw
            case rel => exact ⟨i + 1, want, by go_num, by omega, by omega, HS3, hwl⟩
            case measure => simp [intOf]; omega
    · have hend : ¬ i < len2 ∨ (i < len2 ∧ ¬ i < 40) := by omega
      clear hin
      have HS5 := Lib.hid (HSr.out.more (ur (.slice none 0 0) []) rfl rfl rfl)
      clear HSr HRW HRD
      rename World => wo
      rcases hend with hd1 | ⟨hd1, hd2⟩
      all_goals
        go_wp2_with fail
        go_loopw [17, 18] (fun s t wr => ∃ (j : Nat) (U : List (Int × Int × Int × Int)), t = .int .i64 j ∧ j ≤ 40 ∧ j ≤ len3 ∧ Hid (Wm w wr bp n m want [] [] U [ur s U, ir (.slice Aw want.length cw) want]) ∧ U.length ≤ m) (fun s t _ => 40 - (intOf t).toNat)
        case atStart => exact ⟨0, [], rfl, by omega, Nat.zero_le _, HS5, by simp⟩
        case round =>
          obtain ⟨j, U, rfl, hj, hjl, HT, hUl⟩ := hrel
          clear HS5
          obtain ⟨Au, cu, hvu, _, hcu1, hcu2⟩ := HT.out.ru (List.mem_cons_self ..)
          subst hvu
          by_cases hin : j < len3 ∧ j < 40
          · obtain ⟨hin1, hin2⟩ := hin
            obtain ⟨bU, oU, rfl, hbU, hcU⟩ := HSS.out.at_ j hin1
            have d0 := hcU 0 (by omega); have d1 := hcU 1 (by omega); have d2 := hcU 2 (by omega); have d3 := hcU 3 (by omega)
            clear hcU
            generalize f j 0 = x0 at *
            generalize f j 1 = x1 at *
            generalize f j 2 = x2 at *
            generalize f j 3 = x3 at *
            rw [Nat.add_zero] at d0
            have c0 := cell_kept d0 HT.out.gr (by simp)
            have c1 := cell_kept d1 HT.out.gr (by simp)
            have c2 := cell_kept d2 HT.out.gr (by simp)
            have c3 := cell_kept d3 HT.out.gr (by simp)
            go_wp2_with fail
            refine (HT.out.undo x0 x1 x2 x3).mono ?_
            rintro e w3 ⟨rfl, hS3⟩
            have HS3 := Lib.hid hS3
            clear c0 c1 c2 c3
            have c0 := cell_kept d0 hS3.gr (by simp)
            have c1 := cell_kept d1 hS3.gr (by simp)
            have c2 := cell_kept d2 hS3.gr (by simp)
            have c3 := cell_kept d3 hS3.gr (by simp)
            clear hS3 d0 d1 d2 d3
            by_cases hfit : U.length < m
            · obtain ⟨e1, e2⟩ := undo_fits' (u := (x0, x1, x2, x3)) hfit
              rw [e1]
              rw [e2] at HS3
              clear e1 e2
              have HO4 : Hid (w3.ownsRow w.heap.size 38 4 (.slice Au U.length cu) U.length (uvs U)) := HS3.out.own (List.mem_cons_self ..)
              obtain ⟨i0, hi0, hz0, hz1, hz2⟩ := info_parts info38
              have HI := Lib.hid hi0; have HZ0 := Lib.hid hz0; have HZ1 := Lib.hid hz1; have HZ2 := Lib.hid hz2
              clear hi0 hz0 hz1 hz2
              have hsz : w.heap.size ≤ w3.heap.size := HS3.out.gr.size
              go_wp2_with (at_builtin; go_must (refine wpList_append_lies _ rfl _ _ 43 rfl w.heap.size 38 i0 (.agg #[.int .i64 0, .int .i64 0, .int .i64 0, .int .i64 0]) 4 32 Try.underlying43 HI.out HZ0.out HZ1.out HZ2.out rfl (by decide) (.slice Au U.length cu) U.length (uvs U) rfl (HO4.out.alloc _) ⟨w3.heap.size, 0, none⟩ 1 1 [.int .i64 x0, .int .i64 x1, .int .i64 x2, .int .i64 x3] rfl rfl (cells_four _ _ _ _ _ _) (one_uv (x0, x1, x2, x3)) (by omega) (by unfold maxLen; omega) (by omega) (by simp; omega) (w3.heap.size + 1) (by simp) ?_); intro g cap w4 hown4 g4 hat4 hlt4; have HF := Lib.hid (Wm.appu (pre := []) (post := [ir (.slice Aw want.length cw) want]) HS3.out hown4 g4 hat4); clear hown4 g4 hat4 hlt4)
              go_roundw
              case rel => exact ⟨j + 1, U ++ [(x0, x1, x2, x3)], by go_num, by omega, by omega, HF, by simp; omega⟩
              case measure => simp [intOf]; omega
            · obtain ⟨e1, e2⟩ := undo_full' (u := (x0, x1, x2, x3)) hfit
              rw [e1]
              rw [e2] at HS3
              clear e1 e2
              go_wp2_with fail
              go_roundw
              case rel => exact ⟨j + 1, U, by go_num, by omega, by omega, HS3, hUl⟩
              case measure => simp [intOf]; omega
          · have hend : ¬ j < len3 ∨ (j < len3 ∧ ¬ j < 40) := by omega
            clear hin
            rcases hend with he1 | ⟨he1, he2⟩
            all_goals
              go_wp2_with fail
              refine HT.out.reads.mono ?_
              rintro e w3 ⟨⟨A, c, rfl, hrd⟩, hS3⟩
              have HR := Lib.hid hrd
              have HW := Lib.hid hS3
              obtain ⟨Aw2, cw2, hvw, hrw, _, _⟩ := hS3.rd (v := .slice Aw want.length cw) (xs := want) (by simp)
              cases hvw
              have HRW3 := Lib.hid hrw
              clear hrd hS3 hrw
              go_wp2_with fail
              refine (ints_any A Aw want.length c cw want w3 HR.out HRW3.out (by omega)).mono ?_
              rintro e w4 ⟨rfl, hg4⟩
              have HS4 := Lib.hid (HW.out.gb hg4)
              clear hg4
              go_wp2_with fail
              refine HS4.out.undos.mono ?_
              rintro e w5 ⟨⟨A5, c5, base5, rfl, ho5⟩, hS5⟩
              have HO5 := Lib.hid ho5
              have HS5 := Lib.hid hS5
              obtain ⟨Au2, cu2, hvu, ho6, _, _⟩ := hS5.ru (v := .slice Au U.length cu) (xs := U) (by simp)
              cases hvu
              have HO6 := Lib.hid ho6
              clear hS5 ho5 ho6
              go_wp2_with fail
              refine (undos_cmp A5 Au U.length c5 cu base5 w.heap.size U w5 HO5.out HO6.out rfl (by omega)).mono ?_
              rintro e w6 ⟨rfl, hg6⟩
              have HS6 := Lib.hid (HS5.out.gb hg6)
              clear hg6
              go_wp2_with fail
              refine HS6.out.holds.mono ?_
              rintro e w7 ⟨⟨A7, c7, base7, rfl, _⟩, hS7⟩
              have HS7 := Lib.hid hS7.drop
              clear hS7
              go_wp2_with fail
              refine HS7.out.reset.mono ?_
              rintro e w8 ⟨⟨v8, rfl⟩, hS8⟩
              have HS8 := Lib.hid hS8
              clear hS8
              go_wp2_with fail
              refine HS8.out.roots.mono ?_
              rintro e w9 ⟨⟨A9, c9, rfl, _⟩, hS9⟩
              rw [show (rootsL [] [] [] []).length = 0 from rfl]
              have HS9 := Lib.hid hS9
              clear hS9
              go_wp2_with fail
              refine HS9.out.reads.mono ?_
              rintro e w10 ⟨⟨A10, c10, rfl, _⟩, hS10⟩
              have HS10 := Lib.hid hS10
              clear hS10
              go_wp2_with fail
              refine HS10.out.undos.mono ?_
              rintro e w11 ⟨⟨A11, c11, base11, rfl, _⟩, hS11⟩
              have HS11 := Lib.hid hS11
              clear hS11
              go_wp2_with fail
              refine (HS11.out.read 1).mono ?_
              rintro e w12 ⟨rfl, hS12⟩
              have HS12 := Lib.hid (below_of hS12.gr)
              clear hS12
              by_cases hn0 : 0 < n
              · rw [show noteB [] 1 n = true from by simp [noteB, hn0]]
                go_wp2_with fail
                go_ret
                exact ⟨rfl, HS12.out⟩
              · rw [show noteB [] 1 n = false from by simp [noteB]; omega]
                go_wp2_with fail
                go_ret
                exact ⟨rfl, HS12.out⟩


theorem own : ownKnob Try.prog.godebug = none := by kernel_rfl
theorem laidOut : laidOutB Try.prog = true := by kernel_rfl

set_option maxRecDepth 100000 in
theorem lifted (os : Os) (started : os.Started) (H : Type) (enc : TypeId × Value → H) :
    ReturnsInHanded {} Try.checked os 6 .any (Rows.txlogNotesSpec.pre6 enc Try.prog Try.f6 Rows.txlogNotesRow.domain false) (Rows.txlogNotesSpec.post enc Try.prog Try.f6 false true false false) := by
  refine returnsInHanded_of_change (C := Try.checked) own started (by kernel_rfl) Try.func6
    (ChangeSpec.witness6 (enc := enc) (C := Try.checked) false ⟨#[], #[.int .i64 0, .int .i64 0, .slice none 0 0, .slice none 0 0], []⟩ 8 (by kernel_rfl) (by kernel_rfl) (by kernel_rfl) (by kernel_rfl)) ?_
  intro W base args ds gs before hval0 hW hcnd _
  have hval : ∀ (j : Nat) t v, Try.f6.params[j]? = some t → args[j]? = some v → Value.okWide Try.prog W .any base t v := hval0
  have hW' := hW
  obtain ⟨p, q, hA0, hV, rfl, hfz, hnd⟩ := hW
  have hA : DataW.TrodAll enc Try.prog W 0 (fun _ => true) true Try.f6.params.toList args.toList ds p := hA0
  rw [Try.params6] at hA hval
  obtain ⟨v0, vs0, d0, ds0, p0, q0, hargs, rfl, rfl, h0, r0⟩ := trodAll_cons hA
  obtain ⟨v1, vs1, d1, ds1, p1, q1, rfl, rfl, rfl, h1, r1⟩ := trodAll_cons r0
  obtain ⟨v2, vs2, d2, ds2, p2, q2, rfl, rfl, rfl, h2, r2⟩ := trodAll_cons r1
  obtain ⟨v3, vs3, d3, ds3, p3, q3, rfl, rfl, rfl, h3, r3⟩ := trodAll_cons r2
  obtain ⟨rfl, rfl, rfl⟩ := trodAll_nil r3
  obtain rfl : args = #[v0, v1, v2, v3] := by cases args; simp_all
  obtain ⟨rfl, rfl⟩ := trodVars_none hV
  have k0 := h0
  have lt0 : ∀ x ∈ p0, x.block < W.heap.size := by obtain ⟨m, hm⟩ := k0; exact DataW.trod_lt m _ _ _ hm
  have k1 := h1
  have lt1 : ∀ x ∈ p1, x.block < W.heap.size := by obtain ⟨m, hm⟩ := k1; exact DataW.trod_lt m _ _ _ hm
  have k2 := h2
  have lt2 : ∀ x ∈ p2, x.block < W.heap.size := by obtain ⟨m, hm⟩ := k2; exact DataW.trod_lt m _ _ _ hm
  have k3 := h3
  have lt3 : ∀ x ∈ p3, x.block < W.heap.size := by obtain ⟨m, hm⟩ := k3; exact DataW.trod_lt m _ _ _ hm
  obtain ⟨a0, rfl, rfl, rfl, w0⟩ := open_int Try.underlying3 (hval 0 3 v0 rfl rfl) h0
  obtain ⟨a1, rfl, rfl, rfl, w1⟩ := open_int Try.underlying3 (hval 1 3 v1 rfl rfl) h1
  obtain ⟨a2, len2, cap2, rfl⟩ := okWide_slice Try.underlying22 (hval 2 22 v2 rfl rfl)
  obtain ⟨z2, hr2, hl2⟩ : ∃ zs, Rd W a2 len2 zs ∧ (len2 : Int) ≤ 9223372036854775807 := by
    obtain ⟨fuel, hf⟩ := h2
    exact open_rd hf
  obtain ⟨a3, len3, cap3, rfl⟩ := okWide_slice Try.underlying43 (hval 3 43 v3 rfl rfl)
  obtain ⟨f3, hs3⟩ : ∃ f, Ss W a3 len3 4 f := by
    obtain ⟨fuel, hf⟩ := h3
    exact open_undos hf
  clear hA0 hval0
  refine (walk a0 a1 a2 len2 cap2 z2 a3 len3 cap3 f3 W (i64_lo w0) (i64_lo w1) hr2 hl2 hs3).mono fun e W' ⟨he, bel⟩ => ?_
  subst he
  exact ⟨_, rfl, _, _, _, [], _, [], hW', trodAll_mk1 (shut_bool Try.underlying4 _), (trodAll_cons_mk (Below.trod laidOut (by kernel_rfl) (of_decide_eq_true (by kernel_rfl)) k0 bel lt0) (trodAll_cons_mk (Below.trod laidOut (by kernel_rfl) (of_decide_eq_true (by kernel_rfl)) k1 bel lt1) (trodAll_cons_mk (Below.trod laidOut (by kernel_rfl) (of_decide_eq_true (by kernel_rfl)) k2 bel lt2) (trodAll_cons_mk (Below.trod laidOut (by kernel_rfl) (of_decide_eq_true (by kernel_rfl)) k3 bel lt3) trodAll_mk0)))), rfl, bel.frame _, fun h => by cases h⟩

theorem over : Rows.txlogNotesRow.holds Try.pinned (OpenSpec.ofChange Rows.txlogNotesSpec) :=
  OpenClaim.holds_of_wide 6 Try.f6 rfl rfl rfl rfl rfl rfl rfl ⟨rfl, rfl, rfl, rfl, rfl⟩ rfl rfl rfl rfl rfl (by kernel_rfl) Try.func6 (by kernel_rfl)
    (of_decide_eq_true (by kernel_rfl)) (by unfold Func.isWrapper; first | (rw [if_pos (by decide +kernel)]; kernel_rfl) | (rw [if_neg (by decide +kernel)]; exact ⟨rfl, rfl⟩))
    (fun os started H enc _ => lifted os started H enc)

theorem proved : Rows.TxlogNotesSaid := over
end Go.Proofs.Ytjeapnhaakppeaa.txlogNotes

namespace Go.Proofs.Ytjeapnhaakppeaa
theorem TxlogNotes_holds : Rows.TxlogNotesSaid := txlogNotes.proved
#print axioms TxlogNotes_holds
end Go.Proofs.Ytjeapnhaakppeaa
