/-
  PROVED: middenheaplaw02.ArenaFills returns true for every input, and turns nothing that was there. No condition.
-/
import Derived.Test.YtdfnehcnilmfdaaOps
namespace Go.Proofs.Ytdfnehcnilmfdaa.arenaFills
open Go.ChangeShapes Go.WideShapes Go.ChangeAt Go.RowKit
open Go.ChangeMaps (open_string shut_string)
set_option linter.unusedVariables false

theorem flW_getD (ws : List Int) (a : Nat) (v : Int) (i : Nat) : ∀ k, a + k ≤ ws.length → (flW ws a v k).getD i 0 = if a ≤ i ∧ i < a + k then v else ws.getD i 0
  | 0, _ => by rw [if_neg (by omega)]; rfl
  | k + 1, h => by
    have ih := flW_getD ws a v i k (by omega)
    have hl := flW_length ws a v k
    simp only [flW, List.getD_eq_getElem?_getD, List.getElem?_set] at ih ⊢
    by_cases hi : a + k = i
    · subst hi
      rw [if_pos rfl, if_pos (by omega), if_pos (by omega)]; rfl
    · rw [if_neg hi, ih]
      by_cases h1 : a ≤ i ∧ i < a + k
      · rw [if_pos h1, if_pos (by omega)]
      · rw [if_neg h1, if_neg (by omega)]

/-- The end of a round that appends the next word. -/
theorem rel_next {w wr w4 : World} {N1 j : Nat} {ws : List Int} {old v' : Value} (hj : j < ws.length)
    (hA : Ar wr (N1 + 1) N1 ws) (hgr : w.grownBy wr none) (hsr : N1 + 2 ≤ wr.heap.size) (hwN : w.heap.size ≤ N1)
    (hown : wr.ownsRow (N1 + 2) 29 1 old j ((ws.take j).map (Value.int .u64)))
    (hown4 : w4.ownsRow (N1 + 2) 29 1 v' (j + 1) ((ws.take j).map (Value.int .u64) ++ [.int .u64 (ws.getD j 0)])) (o : Obj) (g4 : (wr.alloc o).grownBy w4 old.ownBlock) :
    Ar w4 (N1 + 1) N1 ws ∧ w4.ownsRow (N1 + 2) 29 1 v' (j + 1) ((ws.take (j + 1)).map (Value.int .u64)) ∧ w.grownBy w4 none ∧ N1 + 2 ≤ w4.heap.size := by
  have hb : ∀ g, old.ownBlock = some g → N1 + 2 ≤ g := fun g hg => (hown.lt g hg).1
  have g5 : wr.grownBy w4 old.ownBlock := grownBy_trans (World.grownBy_alloc wr o _) g4
  refine ⟨hA.kept g5 (fun e => ?_) (fun e => ?_), ?_, gb_new hgr g5 (fun g hg => ?_), ?_⟩
  · have := hb _ e.symm; omega
  · have := hb _ e.symm; omega
  · rw [List.take_succ_eq_append_getElem hj, List.map_append]
    have e : ws.getD j 0 = ws[j] := by simp [hj]
    rw [e] at hown4
    exact hown4
  · have := hb _ hg; omega
  · have := g5.size; omega

set_option maxHeartbeats 4000000 in
theorem walk1 (a0 : Int) (a1 : Option Addr) (len1 cap1 : Nat) (f : Nat → Nat → Int) (a2 a3 a4 : Int) (w : World) (hc0 : -9223372036854775808 ≤ a0) (hO : IsOps w a1 len1 f) (hc2 : -9223372036854775808 ≤ a2) (hc3 : -9223372036854775808 ≤ a3) :
    Calls Try.prog 7 #[.int .i64 a0, .slice a1 len1 cap1, .int .i64 a2, .int .i64 a3, .int .u64 a4] w fun e w' => e = .returned (.bool true) ∧ Below w.heap.size w w' := by
  have hlen : (len1 : Int) ≤ 9223372036854775807 := by have := hO.le; unfold maxLen at this; omega
  obtain ⟨i0, hi, hz0, hz1, hz2⟩ := info_parts info29
  have HI := Lib.hid hi; have HZ0 := Lib.hid hz0; have HZ1 := Lib.hid hz1; have HZ2 := Lib.hid hz2
  clear hi hz0 hz1 hz2
  have hp := pk_range a0 40 (by omega)
  obtain ⟨k, hk⟩ := Int.eq_ofNat_of_zero_le hp.1
  have hk40 : k < 40 := by omega
  have HK := Lib.hid hk
  clear hp hk
  go_enter Try.func7, Try.ntmps7
  go_wp2_with fail
  refine (awake_any w).mono ?_
  rintro e w1 ⟨rfl, g1⟩
  go_wp2_with fail
  refine (pick_any a0 40 w1 hc0 (by omega)).mono ?_
  rw [HK.out]
  rintro e w2 ⟨rfl, rfl⟩
  go_wp2_with fail
  refine (new_in _ w1 (by omega) (by omega)).mono ?_
  rintro e w2 ⟨rfl, hA, g2, hsz⟩
  rw [show (1 + (k : Int)).toNat = 1 + k by omega] at hA
  have g3 := gb_new g1 g2 (by simp)
  have hz1 := g1.size
  have HS := Lib.hid hsz
  clear hsz g1 g2
  generalize w1.heap.size = N1 at *
  go_wp2_with fail
  go_loopw [15] (fun i wr => ∃ (j : Nat) (ws : List Int), j ≤ len1 ∧ i = .int .i64 j ∧ Ar wr (N1 + 1) N1 ws ∧ Hid (ws.length = 1 + k) ∧ w.grownBy wr none ∧ N1 + 2 ≤ wr.heap.size) (fun i _ => len1 - (intOf i).toNat)
  case atStart => exact ⟨0, _, Nat.zero_le _, rfl, hA, List.length_replicate, g3, by rw [HS.out]; omega⟩
  case round =>
    obtain ⟨j, ws, hj, rfl, hAr, HL, hgr, hsr⟩ := hrel
    clear hA g3 HS
    have hcs : (j < len1 ∧ j < 20) ∨ (j < len1 ∧ ¬ j < 20) ∨ (¬ j < len1) := by omega
    rcases hcs with ⟨hlt, h20⟩ | hcs
    · obtain ⟨b, off, rfl, hb, c0, c1, c2, c3, c4⟩ := hO.at_ j hlt
      have d1 := hgr.cell c1 (by simp)
      have d3 := hgr.cell c3 (by simp)
      have d4 := hgr.cell c4 (by simp)
      clear c0 c1 c2 c3 c4
      generalize f j 1 = x1 at *
      generalize f j 3 = x3 at *
      generalize f j 4 = x4 at *
      go_wp2_with fail
      go_still_tail 11, (by kernel_rfl)
      change wpList _ _ _ _ _ wr.drew
      go_wp2_with fail
      refine (store_any _ _ ws x1 x4 wr.drew hAr.drew).mono ?_
      rintro e w5 ⟨rfl, hA5, g6⟩
      have hs6 := g6.size
      have g7 := gb_new (gb_new hgr (gb_drew wr none) (by simp)) g6 (by simp; omega)
      have hL5 : Hid ((stW ws x1 x4).length = 1 + k) := by unfold Hid; rw [stW_length]; exact HL.out
      have hs7 : N1 + 2 ≤ w5.heap.size := Nat.le_trans hsr hs6
      clear hAr d1 d3 d4
      go_wp2_with fail
      go_roundw
      case rel => exact ⟨j + 1, _, by omega, by go_num, hA5, hL5, g7, hs7⟩
      case measure => simp [intOf]; omega
    · rcases hcs with ⟨hlt, h20⟩ | hlt
      all_goals
        go_wp2_with fail
        go_loopw [16, 17] (fun s i wq => ∃ (j : Nat) (old : Value), old = s ∧ j ≤ 1 + k ∧ i = .int .i64 j ∧ Ar wq (N1 + 1) N1 ws ∧ wq.ownsRow (N1 + 2) 29 1 old j ((ws.take j).map (Value.int .u64)) ∧ w.grownBy wq none ∧ N1 + 2 ≤ wq.heap.size) (fun _ i _ => 1 + k - (intOf i).toNat)
        case atStart => exact ⟨0, _, rfl, Nat.zero_le _, rfl, hAr, World.ownsRow_nil _ _ _ _, hgr, hsr⟩
        case round =>
          obtain ⟨i, old, rfl, hi, rfl, hAq, hown, hgq, hsq⟩ := hrel
          clear hAr hgr hsr
          by_cases hik : i < 1 + k
          · have HN := Lib.hid (fun w4 v' c d => @rel_next w wr w4 N1 i ws old v' (by rw [HL.out]; exact hik) hAq hgq hsq (by omega) hown c d)
            go_wp2_with fail
            refine (load_in _ _ _ (i : Int) wr hAq (by omega) (by rw [HL.out]; omega)).mono ?_
            rw [Int.toNat_natCast]
            generalize ws.getD i 0 = v at *
            rintro e w5 ⟨rfl, rfl⟩
            go_wp2_with (at_builtin; refine wpList_append_own _ rfl _ _ 22 rfl (N1 + 2) 29 i0 (.int .u64 0) 1 8 Try.underlying22 HI.out HZ0.out HZ1.out HZ2.out rfl (by decide) _ _ _ rfl (hown.alloc _) ⟨wr.heap.size, 0, none⟩ 1 1 [.int .u64 v] rfl rfl (cell_one_new _ _ _) (one_int _ _) (by unfold maxLen; omega) (by omega) (by simp; omega) ?_; intro v' w4 hown4 g4 _)
            have hfin := HN.out w4 v' hown4 _ g4
            clear hown4 g4 hAq hown hgq HN
            go_wp2_with fail
            go_roundw
            case rel => exact ⟨i + 1, v', rfl, by omega, by go_num, hfin⟩
            case measure => simp [intOf]; omega
          · obtain rfl : i = 1 + k := by omega
            rw [List.take_of_length_le (by rw [HL.out]; exact Nat.le_refl _)] at hown
            go_wp2_with fail
            refine (pick_any a2 _ wr hc2 (by omega)).mono ?_
            have r2 := pk_range a2 (1 + k + 1) (by omega)
            generalize pk a2 (1 + k + 1) = p at *
            rintro e w4 ⟨rfl, rfl⟩
            obtain ⟨p, rfl⟩ := Int.eq_ofNat_of_zero_le r2.1
            have hpk : p ≤ 1 + k := by omega
            clear r2
            go_wp2_with fail
            refine (pick_any a3 _ wr hc3 (by omega)).mono ?_
            have r3 := pk_range a3 (1 + k - p + 1) (by omega)
            generalize pk a3 (1 + k - p + 1) = m at *
            rintro e w4 ⟨rfl, rfl⟩
            obtain ⟨m, rfl⟩ := Int.eq_ofNat_of_zero_le r3.1
            have hpm : p + m ≤ 1 + k := by omega
            clear r3
            go_wp2_with fail
            refine (fill_in _ _ ws (p : Int) (m : Int) a4 wr hAq (by rw [HL.out]; simp only [fits, decide_eq_true_eq]; omega)).mono ?_
            rw [Int.toNat_natCast, Int.toNat_natCast]
            rintro e w4 ⟨rfl, hA4, g4⟩
            have hown4 := hown.kept g4 (.inr (fun e => by have := (hown.lt _ e).1; omega))
            have g5 := gb_new hgq g4 (by simp; omega)
            clear hown hgq hAq
            have HL4 : Hid ((flW ws p a4 m).length = 1 + k) := by unfold Hid; rw [flW_length]; exact HL.out
            have Hv : Hid (∀ i, (flW ws p a4 m).getD i 0 = if p ≤ i ∧ i < p + m then a4 else ws.getD i 0) := fun i => flW_getD ws p a4 i m (by rw [HL.out]; exact hpm)
            generalize flW ws p a4 m = ws4 at *
            obtain ⟨g, cap, rfl, hbg, hlg⟩ := hown4.form (by omega)
            have Hold : Hid (∀ i, i < 1 + k → w4.cell? ⟨g, i, none⟩ = some (.int .u64 (ws.getD i 0))) := by
              intro i hi
              have h1 := hown4.cellAt i (by omega)
              have h2 : i < ws.length := by rw [HL.out]; exact hi
              rw [h1]; simp [h2]
            go_wp2_with fail
            go_loop [22] (fun i => ∃ j : Nat, j ≤ 1 + k ∧ i = .int .i64 j) (fun i => 1 + k - (intOf i).toNat)
            case atStart => exact ⟨0, Nat.zero_le _, rfl⟩
            case round =>
              obtain ⟨i, hi, rfl⟩ := hrel
              by_cases hlt : i < 1 + k
              · have hc1 := Hold.out i hlt
                have hv := Hv.out i
                have hcc : (p ≤ i ∧ i < p + m) ∨ (p ≤ i ∧ ¬ i < p + m) ∨ ¬ p ≤ i := by omega
                rcases hcc with ⟨hpi, him⟩ | ⟨hpi, him⟩ | hpi
                · skip
                  rw [if_pos ⟨hpi, him⟩] at hv
                  have HV := Lib.hid hv
                  clear hv
                  generalize ws.getD i 0 = y at *
                  go_wp2_with fail
                  refine (load_in _ _ _ (i : Int) w4 hA4 (by omega) (by rw [HL4.out]; omega)).mono ?_
                  rw [Int.toNat_natCast, HV.out]
                  rintro e w5 ⟨rfl, rfl⟩
                  go_wp2_with fail
                  go_round
                  case rel => exact ⟨i + 1, by omega, by go_num⟩
                  case measure => simp [intOf]; omega
                · skip
                  rw [if_neg (by omega)] at hv
                  have HV := Lib.hid hv
                  clear hv
                  generalize ws.getD i 0 = y at *
                  go_wp2_with fail
                  refine (load_in _ _ _ (i : Int) w4 hA4 (by omega) (by rw [HL4.out]; omega)).mono ?_
                  rw [Int.toNat_natCast, HV.out]
                  rintro e w5 ⟨rfl, rfl⟩
                  go_wp2_with fail
                  go_round
                  case rel => exact ⟨i + 1, by omega, by go_num⟩
                  case measure => simp [intOf]; omega
                · skip
                  rw [if_neg (by omega)] at hv
                  have HV := Lib.hid hv
                  clear hv
                  generalize ws.getD i 0 = y at *
                  go_wp2_with fail
                  refine (load_in _ _ _ (i : Int) w4 hA4 (by omega) (by rw [HL4.out]; omega)).mono ?_
                  rw [Int.toNat_natCast, HV.out]
                  rintro e w5 ⟨rfl, rfl⟩
                  go_wp2_with fail
                  go_round
                  case rel => exact ⟨i + 1, by omega, by go_num⟩
                  case measure => simp [intOf]; omega
              · go_wp2_with fail
                go_ret
                exact ⟨rfl, below_of g5⟩

theorem walk (a0 : Int) (a1 : Option Addr) (len1 cap1 : Nat) (f : Nat → Nat → Int) (a2 a3 a4 : Int) (w : World) (w0 : (Lit.int .i64 a0).wf = true) (hO : IsOps w a1 len1 f) (w2 : (Lit.int .i64 a2).wf = true) (w3 : (Lit.int .i64 a3).wf = true) :
    Calls Try.prog 7 #[.int .i64 a0, .slice a1 len1 cap1, .int .i64 a2, .int .i64 a3, .int .u64 a4] w fun e w' => e = .returned (.bool true) ∧ Below w.heap.size w w' :=
  walk1 a0 a1 len1 cap1 f a2 a3 a4 w (i64_lo w0) hO (i64_lo w2) (i64_lo w3)

theorem own : ownKnob Try.prog.godebug = none := by kernel_rfl
theorem laidOut : laidOutB Try.prog = true := by kernel_rfl

set_option maxRecDepth 100000 in
theorem lifted (os : Os) (started : os.Started) (H : Type) (enc : TypeId × Value → H) :
    ReturnsInHanded {} Try.checked os 7 .any (Rows.arenaFillsSpec.pre6 enc Try.prog Try.f7 Rows.arenaFillsRow.domain false) (Rows.arenaFillsSpec.post enc Try.prog Try.f7 false true false false) := by
  refine returnsInHanded_of_change (C := Try.checked) own started (by kernel_rfl) Try.func7
    (ChangeSpec.witness6 (enc := enc) (C := Try.checked) false ⟨#[], #[.int .i64 0, .slice none 0 0, .int .i64 0, .int .i64 0, .int .u64 0], []⟩ 8 (by kernel_rfl) (by kernel_rfl) (by kernel_rfl) (by kernel_rfl)) ?_
  intro W base args ds gs before hval0 hW hcnd _
  have hval : ∀ (j : Nat) t v, Try.f7.params[j]? = some t → args[j]? = some v → Value.okWide Try.prog W .any base t v := hval0
  have hW' := hW
  obtain ⟨p, q, hA0, hV, rfl, hfz, hnd⟩ := hW
  have hA : DataW.TrodAll enc Try.prog W 0 (fun _ => true) true Try.f7.params.toList args.toList ds p := hA0
  rw [Try.params7] at hA hval
  obtain ⟨v0, vs0, d0, ds0, p0, q0, hargs, rfl, rfl, h0, r0⟩ := trodAll_cons hA
  obtain ⟨v1, vs1, d1, ds1, p1, q1, rfl, rfl, rfl, h1, r1⟩ := trodAll_cons r0
  obtain ⟨v2, vs2, d2, ds2, p2, q2, rfl, rfl, rfl, h2, r2⟩ := trodAll_cons r1
  obtain ⟨v3, vs3, d3, ds3, p3, q3, rfl, rfl, rfl, h3, r3⟩ := trodAll_cons r2
  obtain ⟨v4, vs4, d4, ds4, p4, q4, rfl, rfl, rfl, h4, r4⟩ := trodAll_cons r3
  obtain ⟨rfl, rfl, rfl⟩ := trodAll_nil r4
  obtain rfl : args = #[v0, v1, v2, v3, v4] := by cases args; simp_all
  obtain ⟨rfl, rfl⟩ := trodVars_none hV
  have k0 := h0
  have lt0 : ∀ x ∈ p0, x.block < W.heap.size := by obtain ⟨m, hm⟩ := k0; exact DataW.trod_lt m _ _ _ hm
  have k1 := h1
  have lt1 : ∀ x ∈ p1, x.block < W.heap.size := by obtain ⟨m, hm⟩ := k1; exact DataW.trod_lt m _ _ _ hm
  have k2 := h2
  have lt2 : ∀ x ∈ p2, x.block < W.heap.size := by obtain ⟨m, hm⟩ := k2; exact DataW.trod_lt m _ _ _ hm
  have k3 := h3
  have lt3 : ∀ x ∈ p3, x.block < W.heap.size := by obtain ⟨m, hm⟩ := k3; exact DataW.trod_lt m _ _ _ hm
  have k4 := h4
  have lt4 : ∀ x ∈ p4, x.block < W.heap.size := by obtain ⟨m, hm⟩ := k4; exact DataW.trod_lt m _ _ _ hm
  obtain ⟨a0, rfl, rfl, rfl, w0⟩ := open_int Try.underlying3 (hval 0 3 v0 rfl rfl) h0
  obtain ⟨a1, len1, cap1, rfl⟩ := okWide_slice Try.underlying35 (hval 1 35 v1 rfl rfl)
  obtain ⟨f1, w1⟩ : ∃ f, IsOps W a1 len1 f := by
    obtain ⟨fuel, hf⟩ := h1
    exact open_ops hf
  obtain ⟨a2, rfl, rfl, rfl, w2⟩ := open_int Try.underlying3 (hval 2 3 v2 rfl rfl) h2
  obtain ⟨a3, rfl, rfl, rfl, w3⟩ := open_int Try.underlying3 (hval 3 3 v3 rfl rfl) h3
  obtain ⟨a4, rfl, rfl, rfl, w4⟩ := open_int Try.underlying29 (hval 4 29 v4 rfl rfl) h4
  clear hA0 hval0
  refine (walk a0 a1 len1 cap1 f1 a2 a3 a4 W w0 w1 w2 w3).mono fun e W' ⟨he, bel⟩ => ?_
  subst he
  exact ⟨_, rfl, _, _, _, [], _, [], hW', trodAll_mk1 (shut_bool Try.underlying4 _), (trodAll_cons_mk (Below.trod laidOut (by kernel_rfl) (of_decide_eq_true (by kernel_rfl)) k0 bel lt0) (trodAll_cons_mk (Below.trod laidOut (by kernel_rfl) (of_decide_eq_true (by kernel_rfl)) k1 bel lt1) (trodAll_cons_mk (Below.trod laidOut (by kernel_rfl) (of_decide_eq_true (by kernel_rfl)) k2 bel lt2) (trodAll_cons_mk (Below.trod laidOut (by kernel_rfl) (of_decide_eq_true (by kernel_rfl)) k3 bel lt3) (trodAll_cons_mk (Below.trod laidOut (by kernel_rfl) (of_decide_eq_true (by kernel_rfl)) k4 bel lt4) trodAll_mk0))))), rfl, bel.frame _, fun h => by cases h⟩

theorem over : Rows.arenaFillsRow.holds Try.pinned (OpenSpec.ofChange Rows.arenaFillsSpec) :=
  OpenClaim.holds_of_wide 7 Try.f7 rfl rfl rfl rfl rfl rfl rfl ⟨rfl, rfl, rfl, rfl, rfl⟩ rfl rfl rfl rfl rfl (by kernel_rfl) Try.func7 (by kernel_rfl)
    (of_decide_eq_true (by kernel_rfl)) (by unfold Func.isWrapper; first | (rw [if_pos (by decide +kernel)]; kernel_rfl) | (rw [if_neg (by decide +kernel)]; exact ⟨rfl, rfl⟩))
    (fun os started H enc _ => lifted os started H enc)

theorem proved : Rows.ArenaFillsSaid := over
end Go.Proofs.Ytdfnehcnilmfdaa.arenaFills

namespace Go.Proofs.Ytdfnehcnilmfdaa
theorem ArenaFills_holds : Rows.ArenaFillsSaid := arenaFills.proved
#print axioms ArenaFills_holds
end Go.Proofs.Ytdfnehcnilmfdaa
