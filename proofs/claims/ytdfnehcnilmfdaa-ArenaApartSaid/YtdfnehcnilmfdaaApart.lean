/-
  PROVED: middenheaplaw02.ArenaApart returns true for every input (a raw size, any ops), and turns nothing that was there. No condition.
-/
import Derived.Test.YtdfnehcnilmfdaaOps
namespace Go.Proofs.Ytdfnehcnilmfdaa.arenaApart
open Go.ChangeShapes Go.WideShapes Go.ChangeAt Go.RowKit
open Go.ChangeMaps (open_string shut_string)
set_option linter.unusedVariables false

set_option maxHeartbeats 1000000 in
theorem walk1 (a0 : Int) (a1 : Option Addr) (len1 cap1 : Nat) (f : Nat → Nat → Int) (w : World) (hc0 : -9223372036854775808 ≤ a0) (hO : IsOps w a1 len1 f) :
    Calls Try.prog 8 #[.int .i64 a0, .slice a1 len1 cap1] w fun e w' => e = .returned (.bool true) ∧ Below w.heap.size w w' := by
  have hlen : (len1 : Int) ≤ 9223372036854775807 := by have := hO.le; unfold maxLen at this; omega
  have hp := pk_range a0 40 (by omega)
  obtain ⟨k, hk⟩ := Int.eq_ofNat_of_zero_le hp.1
  have hk40 : k < 40 := by omega
  have HK := Lib.hid hk
  clear hp hk
  go_enter Try.func8, Try.ntmps8
  go_wp2_with fail
  refine (awake_any w).mono ?_
  rintro e w1 ⟨rfl, g1⟩
  go_wp2_with fail
  refine (pick_any a0 40 w1 hc0 (by omega)).mono ?_
  rw [HK.out]
  rintro e w2 ⟨rfl, rfl⟩
  go_wp2_with fail
  refine (new_in _ w1 (by omega) (by omega)).mono ?_
  rintro e w2 ⟨rfl, hA, g2, hsz⟩
  rw [show (1 + (k : Int)).toNat = 1 + k by omega] at hA
  have g3 := gb_new g1 g2 (by simp)
  have hz1 := g1.size
  have HS := Lib.hid hsz
  clear hsz g1 g2
  generalize w1.heap.size = N1 at *
  go_wp2_with fail
  refine (new_in _ w2 (by omega) (by omega)).mono ?_
  rw [HS.out]
  rintro e w3 ⟨rfl, hB, g4, hsz⟩
  rw [show (1 + (k : Int)).toNat = 1 + k by omega] at hB
  have hA3 := hA.kept g4 (by simp) (by simp)
  have g5 := gb_new g3 g4 (by simp)
  have HS3 := Lib.hid hsz
  clear hsz g3 g4 hA HS
  go_wp2_with fail
  refine (len_any _ _ _ w3 hA3).mono ?_
  rw [List.length_replicate]
  rintro e w4 ⟨rfl, rfl⟩
  go_wp2_with fail
  go_loopw [11] (fun i wr => ∃ (j : Nat) (ws : List Int), j ≤ len1 ∧ i = .int .i64 j ∧ Ar wr (N1 + 1) N1 ws ∧ Ar wr (N1 + 2 + 1) (N1 + 2) (List.replicate (1 + k) 0) ∧ w.grownBy wr none) (fun i _ => len1 - (intOf i).toNat)
  case atStart => exact ⟨0, _, Nat.zero_le _, rfl, hA3, hB, g5⟩
  case round =>
    obtain ⟨j, ws, hj, rfl, hAr, hBr, hgr⟩ := hrel
    have hcs : (j < len1 ∧ j < 20) ∨ (j < len1 ∧ ¬ j < 20) ∨ (¬ j < len1) := by omega
    rcases hcs with ⟨hlt, h20⟩ | hcs
    · · obtain ⟨b, off, rfl, hb, c0, c1, c2, c3, c4⟩ := hO.at_ j hlt
        have d1 := hgr.cell c1 (by simp)
        have d3 := hgr.cell c3 (by simp)
        have d4 := hgr.cell c4 (by simp)
        clear c0 c1 c2 c3 c4
        generalize f j 1 = x1 at *
        generalize f j 3 = x3 at *
        generalize f j 4 = x4 at *
        go_wp2_with fail
        go_still_tail 16, (by kernel_rfl)
        change wpList _ _ _ _ _ wr.drew
        go_wp2_with fail
        refine (fill_any _ _ ws x1 x3 x4 wr.drew hAr.drew).mono ?_
        rintro e w5 ⟨rfl, hA5, g6⟩
        have g7 := gb_new (gb_new hgr (gb_drew wr none) (by simp)) g6 (by simp; omega)
        have hB5 := hBr.drew.kept g6 (by simp; omega) (by simp)
        clear hAr hBr d1 d3 d4
        go_wp2_with fail
        go_roundw
        case rel => exact ⟨j + 1, _, by omega, by go_num, hA5, hB5, g7⟩
        case measure => simp [intOf]; omega
    · rcases hcs with ⟨hlt, h20⟩ | hlt
      all_goals
        clear hA3 hB g5
        go_wp2_with fail
        go_loop [12] (fun i => ∃ j : Nat, j ≤ 1 + k ∧ i = .int .i64 j) (fun i => 1 + k - (intOf i).toNat)
        case atStart => exact ⟨0, Nat.zero_le _, rfl⟩
        case round =>
          obtain ⟨i, hi, rfl⟩ := hrel
          by_cases hik : i < 1 + k
          · go_wp2_with fail
            refine (load_in _ _ _ (i : Int) wr hBr (by omega) (by rw [List.length_replicate]; omega)).mono ?_
            rw [Int.toNat_natCast, show (List.replicate (1 + k) (0 : Int)).getD i 0 = 0 by simp [hik]]
            rintro e w5 ⟨rfl, rfl⟩
            go_wp2_with fail
            go_round
            case rel => exact ⟨i + 1, by omega, by go_num⟩
            case measure => simp [intOf]; omega
          · go_wp2_with fail
            go_ret
            exact ⟨rfl, below_of hgr⟩

theorem walk (a0 : Int) (a1 : Option Addr) (len1 cap1 : Nat) (f : Nat → Nat → Int) (w : World) (w0 : (Lit.int .i64 a0).wf = true) (hO : IsOps w a1 len1 f) :
    Calls Try.prog 8 #[.int .i64 a0, .slice a1 len1 cap1] w fun e w' => e = .returned (.bool true) ∧ Below w.heap.size w w' :=
  walk1 a0 a1 len1 cap1 f w (i64_lo w0) hO

theorem own : ownKnob Try.prog.godebug = none := by kernel_rfl
theorem laidOut : laidOutB Try.prog = true := by kernel_rfl

set_option maxRecDepth 100000 in
theorem lifted (os : Os) (started : os.Started) (H : Type) (enc : TypeId × Value → H) :
    ReturnsInHanded {} Try.checked os 8 .any (Rows.arenaApartSpec.pre6 enc Try.prog Try.f8 Rows.arenaApartRow.domain false) (Rows.arenaApartSpec.post enc Try.prog Try.f8 false true false false) := by
  refine returnsInHanded_of_change (C := Try.checked) own started (by kernel_rfl) Try.func8
    (ChangeSpec.witness6 (enc := enc) (C := Try.checked) false ⟨#[], #[.int .i64 0, .slice none 0 0], []⟩ 8 (by kernel_rfl) (by kernel_rfl) (by kernel_rfl) (by kernel_rfl)) ?_
  intro W base args ds gs before hval0 hW hcnd _
  have hval : ∀ (j : Nat) t v, Try.f8.params[j]? = some t → args[j]? = some v → Value.okWide Try.prog W .any base t v := hval0
  have hW' := hW
  obtain ⟨p, q, hA0, hV, rfl, hfz, hnd⟩ := hW
  have hA : DataW.TrodAll enc Try.prog W 0 (fun _ => true) true Try.f8.params.toList args.toList ds p := hA0
  rw [Try.params8] at hA hval
  obtain ⟨v0, vs0, d0, ds0, p0, q0, hargs, rfl, rfl, h0, r0⟩ := trodAll_cons hA
  obtain ⟨v1, vs1, d1, ds1, p1, q1, rfl, rfl, rfl, h1, r1⟩ := trodAll_cons r0
  obtain ⟨rfl, rfl, rfl⟩ := trodAll_nil r1
  obtain rfl : args = #[v0, v1] := by cases args; simp_all
  obtain ⟨rfl, rfl⟩ := trodVars_none hV
  have k0 := h0
  have lt0 : ∀ x ∈ p0, x.block < W.heap.size := by obtain ⟨m, hm⟩ := k0; exact DataW.trod_lt m _ _ _ hm
  have k1 := h1
  have lt1 : ∀ x ∈ p1, x.block < W.heap.size := by obtain ⟨m, hm⟩ := k1; exact DataW.trod_lt m _ _ _ hm
  obtain ⟨a0, rfl, rfl, rfl, w0⟩ := open_int Try.underlying3 (hval 0 3 v0 rfl rfl) h0
  obtain ⟨a1, len1, cap1, rfl⟩ := okWide_slice Try.underlying35 (hval 1 35 v1 rfl rfl)
  obtain ⟨f1, w1⟩ : ∃ f, IsOps W a1 len1 f := by
    obtain ⟨fuel, hf⟩ := h1
    exact open_ops hf
  clear hA0 hval0
  refine (walk a0 a1 len1 cap1 f1 W w0 w1).mono fun e W' ⟨he, bel⟩ => ?_
  subst he
  exact ⟨_, rfl, _, _, _, [], _, [], hW', trodAll_mk1 (shut_bool Try.underlying4 _), (trodAll_cons_mk (Below.trod laidOut (by kernel_rfl) (of_decide_eq_true (by kernel_rfl)) k0 bel lt0) (trodAll_cons_mk (Below.trod laidOut (by kernel_rfl) (of_decide_eq_true (by kernel_rfl)) k1 bel lt1) trodAll_mk0)), rfl, bel.frame _, fun h => by cases h⟩

theorem over : Rows.arenaApartRow.holds Try.pinned (OpenSpec.ofChange Rows.arenaApartSpec) :=
  OpenClaim.holds_of_wide 8 Try.f8 rfl rfl rfl rfl rfl rfl rfl ⟨rfl, rfl, rfl, rfl, rfl⟩ rfl rfl rfl rfl rfl (by kernel_rfl) Try.func8 (by kernel_rfl)
    (of_decide_eq_true (by kernel_rfl)) (by unfold Func.isWrapper; first | (rw [if_pos (by decide +kernel)]; kernel_rfl) | (rw [if_neg (by decide +kernel)]; exact ⟨rfl, rfl⟩))
    (fun os started H enc _ => lifted os started H enc)

theorem proved : Rows.ArenaApartSaid := over
end Go.Proofs.Ytdfnehcnilmfdaa.arenaApart

namespace Go.Proofs.Ytdfnehcnilmfdaa
theorem ArenaApart_holds : Rows.ArenaApartSaid := arenaApart.proved
#print axioms ArenaApart_holds
end Go.Proofs.Ytdfnehcnilmfdaa
