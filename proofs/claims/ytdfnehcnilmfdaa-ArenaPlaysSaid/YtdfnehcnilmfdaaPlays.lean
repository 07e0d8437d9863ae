/-
  PROVED: middenheaplaw02.ArenaPlays returns true for every input (a raw size, any ops), and turns nothing that was there. No condition.
-/
import Derived.Test.YtdfnehcnilmfdaaRef
namespace Go.Proofs.Ytdfnehcnilmfdaa.arenaPlays
open Go.ChangeShapes Go.WideShapes Go.ChangeAt Go.RowKit
open Go.ChangeMaps (open_string shut_string)
set_option linter.unusedVariables false

set_option maxRecDepth 100000 in
set_option maxHeartbeats 4000000 in
theorem walk1 (a0 : Int) (a1 : Option Addr) (len1 cap1 : Nat) (f : Nat → Nat → Int) (w : World) (hc0 : -9223372036854775808 ≤ a0) (hO : IsOps w a1 len1 f) :
    Calls Try.prog 4 #[.int .i64 a0, .slice a1 len1 cap1] w fun e w' => e = .returned (.bool true) ∧ Below w.heap.size w w' := by
  have hlen : (len1 : Int) ≤ 9223372036854775807 := by have := hO.le; unfold maxLen at this; omega
  have hp := pk_range a0 40 (by omega)
  obtain ⟨k, hk⟩ := Int.eq_ofNat_of_zero_le hp.1
  have hk40 : k < 40 := by omega
  have HK := Lib.hid hk
  clear hp hk
  have hcs : (1 ≤ a0 ∧ a0 ≤ 65536) ∨ (a0 < 1 ∨ 65536 < a0) := by omega
  rcases hcs with ⟨hr1, hr2⟩ | hr
  focus
    go_enter Try.func4, Try.ntmps4
    go_wp2_with fail
    refine (awake_any w).mono ?_
    rintro e w1 ⟨rfl, g1⟩
    go_wp2_with fail
    refine (new_in _ w1 hr1 hr2).mono ?_
    rintro e w2 ⟨rfl, _, g2, hsz⟩
    have g3 := gb_new g1 g2 (by simp)
    clear hsz g1 g2
    go_wp2_with fail
    refine (rnew_in _ w2 hr1 hr2).mono ?_
    rintro e w3 ⟨rfl, _, g4, hsz⟩
    have g5 := gb_new g3 g4 (by simp)
    clear hsz g3 g4
  rotate_left
  focus
    go_enter Try.func4, Try.ntmps4
    go_wp2_with fail
    refine (awake_any w).mono ?_
    rintro e w1 ⟨rfl, g5⟩
    go_wp2_with fail
    refine (new_out _ w1 hr).mono ?_
    rintro e w2 ⟨rfl, rfl⟩
    go_wp2_with fail
    refine (rnew_out _ w1 hr).mono ?_
    rintro e w3 ⟨rfl, rfl⟩
    clear hr
    obtain ⟨w3, rfl⟩ : ∃ w3, w3 = w1 := ⟨_, rfl⟩
  all_goals
    go_wp2_with fail
    refine (pick_any a0 40 w3 hc0 (by omega)).mono ?_
    rw [HK.out]
    rintro e w4 ⟨rfl, rfl⟩
    go_wp2_with fail
    refine (new_in _ w3 (by omega) (by omega)).mono ?_
    rintro e w4 ⟨rfl, hA, g6, hsz⟩
    rw [show (1 + (k : Int)).toNat = 1 + k by omega] at hA
    have g7 := gb_new g5 g6 (by simp)
    have hz1 := g5.size
    have HS := Lib.hid hsz
    clear hsz g5 g6
    generalize w3.heap.size = N1 at *
    go_wp2_with fail
    refine (rnew_in _ w4 (by omega) (by omega)).mono ?_
    rw [HS.out]
    rintro e w5 ⟨rfl, hB, g8, hsz⟩
    rw [show (1 + (k : Int)).toNat = 1 + k by omega] at hB
    have hA5 := hA.kept g8 (by simp) (by simp)
    have g9 := gb_new g7 g8 (by simp)
    have HS5 := Lib.hid hsz
    clear hsz g7 g8 hA HS
    go_wp2_with fail
    go_loopw [14] (fun i wr => ∃ (j : Nat) (ws : List Int), j ≤ len1 ∧ i = .int .i64 j ∧ Ar wr (N1 + 1) N1 ws ∧ Rr wr (N1 + 2 + 1) (N1 + 2) ws ∧ Hid (ws.length = 1 + k) ∧ w.grownBy wr none) (fun i _ => len1 - (intOf i).toNat)
    case atStart => exact ⟨0, _, Nat.zero_le _, rfl, hA5, hB, List.length_replicate, g9⟩
    case round =>
      obtain ⟨j, ws, hj, rfl, hAr, hBr, HL, hgr⟩ := hrel
      clear hA5 hB g9 HS5
      have hcs : (j < len1 ∧ j < 60) ∨ (j < len1 ∧ ¬ j < 60) ∨ (¬ j < len1) := by omega
      rcases hcs with ⟨hlt, h20⟩ | hcs
      · obtain ⟨b, off, rfl, hb, c0, c1, c2, c3, c4⟩ := hO.at_ j hlt
        have hlo := hO.lo j 0 hlt
        have d0 := hgr.cell c0 (by simp)
        have d1 := hgr.cell c1 (by simp)
        have d2 := hgr.cell c2 (by simp)
        have d3 := hgr.cell c3 (by simp)
        have d4 := hgr.cell c4 (by simp)
        clear c0 c1 c2 c3 c4
        generalize f j 0 = x0 at *
        generalize f j 1 = x1 at *
        generalize f j 2 = x2 at *
        generalize f j 3 = x3 at *
        generalize f j 4 = x4 at *
        have hso := hgr.size
        have hAM : N1 + 2 + 1 < wr.heap.size := by have := (Array.getElem?_eq_some_iff.1 hBr.ptr).1; omega
        obtain ⟨wo, hwo⟩ : ∃ wo, wo = wr.alloc (.cells #[.int .i64 x0, .int .i64 x1, .int .i64 x2, .int .i64 x3, .int .u64 x4] 40) := ⟨_, rfl⟩
        have hgo : w.grownBy wo none := by rw [hwo]; exact gb_new hgr (World.grownBy_alloc wr _ none) (by simp)
        have hAo : Ar wo (N1 + 1) N1 ws := by rw [hwo]; exact hAr.kept (World.grownBy_alloc wr _ none) (by simp) (by simp)
        have hBo : Rr wo (N1 + 2 + 1) (N1 + 2) ws := by rw [hwo]; exact hBr.kept (World.grownBy_alloc wr _ none) (by simp) (by simp)
        have hnew : wo.heap[wr.heap.size]? = some (.cells #[.int .i64 x0, .int .i64 x1, .int .i64 x2, .int .i64 x3, .int .u64 x4] 40 (0, 0)) := by rw [hwo]; exact heap_alloc_new wr _
        have p0 : wo.cell? ⟨wr.heap.size, 0, none⟩ = some (.int .i64 x0) := by rw [cell_of_row wo _ 0 _ 40 (0, 0) hnew]; rfl
        have p1 : wo.cell? ⟨wr.heap.size, 1, none⟩ = some (.int .i64 x1) := by rw [cell_of_row wo _ 1 _ 40 (0, 0) hnew]; rfl
        have p2 : wo.cell? ⟨wr.heap.size, 2, none⟩ = some (.int .i64 x2) := by rw [cell_of_row wo _ 2 _ 40 (0, 0) hnew]; rfl
        have p3 : wo.cell? ⟨wr.heap.size, 3, none⟩ = some (.int .i64 x3) := by rw [cell_of_row wo _ 3 _ 40 (0, 0) hnew]; rfl
        have p4 : wo.cell? ⟨wr.heap.size, 4, none⟩ = some (.int .u64 x4) := by rw [cell_of_row wo _ 4 _ 40 (0, 0) hnew]; rfl
        clear hnew
        have HWO := Lib.hid hwo
        clear hwo
        go_wp2_with fail
        rw [← HWO.out]
        refine (pick_any x0 4 wo hlo (by omega)).mono ?_
        have r4 := pk_range x0 4 (by omega)
        generalize pk x0 4 = kd at *
        rintro e w7 ⟨rfl, rfl⟩
        clear d0 d1 d2 d3 d4 hAr hBr hgr HWO
        generalize wr.heap.size = M at *
        have hkd : kd = 0 ∨ kd = 1 ∨ kd = 2 ∨ kd = 3 := by omega
        clear r4
        rcases hkd with rfl | rfl | rfl | rfl
        · go_wp2_with fail
          refine (store_any _ _ ws x1 x4 wo hAo).mono ?_
          rintro e w7 ⟨rfl, hA7, g10⟩
          have q1 := g10.cell p1 (by simp; omega)
          have q2 := g10.cell p2 (by simp; omega)
          have q3 := g10.cell p3 (by simp; omega)
          have q4 := g10.cell p4 (by simp; omega)
          have hB7 := hBo.kept g10 (by simp; omega) (by simp)
          clear hAo hBo p0 p1 p2 p3 p4
          go_wp2_with fail
          refine (rstore_any _ _ ws x1 x4 w7 hB7).mono ?_
          rintro e w8 ⟨rfl, hB8, g11⟩
          have hA8 := hA7.kept g11 (by simp) (by simp)
          have g8 := gb_new (gb_new hgo g10 (by simp; omega)) g11 (by simp; omega)
          clear hA7 hB7 g10 g11 q1 q2 q3 q4 hgo
          generalize ldE ws.length x1 = er at *
          have hL8 : Hid ((stW ws x1 x4).length = 1 + k) := by unfold Hid; rw [stW_length]; exact HL.out
          generalize stW ws x1 x4 = ws8 at *
          go_wp2_with fail
          refine (len_any _ _ _ w8 hA8).mono ?_
          rintro e w9 ⟨rfl, rfl⟩
          go_wp2_with fail
          refine (rlen_any _ _ _ w8 hB8).mono ?_
          rintro e w9 ⟨rfl, rfl⟩
          go_wp2_with fail
          go_loop [22] (fun i => ∃ i' : Nat, i' ≤ 1 + k ∧ i = .int .i64 i') (fun i => 1 + k - (intOf i).toNat)
          case atStart => exact ⟨0, Nat.zero_le _, rfl⟩
          case round =>
            obtain ⟨i, hi, rfl⟩ := hrel
            by_cases hik : i < 1 + k
            · go_wp2_with fail
              refine (load_any _ _ _ (i : Int) w8 hA8).mono ?_
              rintro e w9 ⟨rfl, rfl⟩
              go_wp2_with fail
              refine (rload_any _ _ _ (i : Int) w8 hB8).mono ?_
              rintro e w9 ⟨rfl, rfl⟩
              generalize ldV ws8 (i : Int) = v at *
              generalize ldE ws8.length (i : Int) = v2 at *
              go_wp2_with fail
              go_round
              case rel => exact ⟨i + 1, by omega, by go_num⟩
              case measure => simp [intOf]; omega
            · go_wp2_with fail
              go_roundw
              case rel => exact ⟨j + 1, ws8, by omega, by go_num, hA8, hB8, hL8, g8⟩
              case measure => simp [intOf]; omega
        · go_wp2_with fail
          refine (fill_any _ _ ws x1 x3 x4 wo hAo).mono ?_
          rintro e w7 ⟨rfl, hA7, g10⟩
          have q1 := g10.cell p1 (by simp; omega)
          have q2 := g10.cell p2 (by simp; omega)
          have q3 := g10.cell p3 (by simp; omega)
          have q4 := g10.cell p4 (by simp; omega)
          have hB7 := hBo.kept g10 (by simp; omega) (by simp)
          clear hAo hBo p0 p1 p2 p3 p4
          go_wp2_with fail
          refine (rfill_any _ _ ws x1 x3 x4 w7 hB7).mono ?_
          rintro e w8 ⟨rfl, hB8, g11⟩
          have hA8 := hA7.kept g11 (by simp) (by simp)
          have g8 := gb_new (gb_new hgo g10 (by simp; omega)) g11 (by simp; omega)
          clear hA7 hB7 g10 g11 q1 q2 q3 q4 hgo
          generalize erE (fits ws.length x1 x3) = er at *
          have hL8 : Hid ((fillW ws x1 x3 x4).length = 1 + k) := by unfold Hid; rw [fillW_length]; exact HL.out
          generalize fillW ws x1 x3 x4 = ws8 at *
          go_wp2_with fail
          refine (len_any _ _ _ w8 hA8).mono ?_
          rintro e w9 ⟨rfl, rfl⟩
          go_wp2_with fail
          refine (rlen_any _ _ _ w8 hB8).mono ?_
          rintro e w9 ⟨rfl, rfl⟩
          go_wp2_with fail
          go_loop [22] (fun i => ∃ i' : Nat, i' ≤ 1 + k ∧ i = .int .i64 i') (fun i => 1 + k - (intOf i).toNat)
          case atStart => exact ⟨0, Nat.zero_le _, rfl⟩
          case round =>
            obtain ⟨i, hi, rfl⟩ := hrel
            by_cases hik : i < 1 + k
            · go_wp2_with fail
              refine (load_any _ _ _ (i : Int) w8 hA8).mono ?_
              rintro e w9 ⟨rfl, rfl⟩
              go_wp2_with fail
              refine (rload_any _ _ _ (i : Int) w8 hB8).mono ?_
              rintro e w9 ⟨rfl, rfl⟩
              generalize ldV ws8 (i : Int) = v at *
              generalize ldE ws8.length (i : Int) = v2 at *
              go_wp2_with fail
              go_round
              case rel => exact ⟨i + 1, by omega, by go_num⟩
              case measure => simp [intOf]; omega
            · go_wp2_with fail
              go_roundw
              case rel => exact ⟨j + 1, ws8, by omega, by go_num, hA8, hB8, hL8, g8⟩
              case measure => simp [intOf]; omega
        · go_wp2_with fail
          refine (move_any _ _ ws x1 x2 x3 wo hAo).mono ?_
          rintro e w7 ⟨rfl, hA7, g10⟩
          have q1 := g10.cell p1 (by simp; omega)
          have q2 := g10.cell p2 (by simp; omega)
          have q3 := g10.cell p3 (by simp; omega)
          have q4 := g10.cell p4 (by simp; omega)
          have hB7 := hBo.kept g10 (by simp; omega) (by simp)
          clear hAo hBo p0 p1 p2 p3 p4
          go_wp2_with fail
          refine (rmove_any _ _ ws x1 x2 x3 w7 hB7).mono ?_
          rintro e w8 ⟨rfl, hB8, g11⟩
          have hA8 := hA7.kept g11 (by simp) (by simp)
          have g8 := gb_new (gb_new hgo g10 (by simp; omega)) g11 (by simp; omega)
          clear hA7 hB7 g10 g11 q1 q2 q3 q4 hgo
          generalize erE (fits ws.length x1 x3 && fits ws.length x2 x3) = er at *
          have hL8 : Hid ((moveW ws x1 x2 x3).length = 1 + k) := by unfold Hid; rw [moveW_length]; exact HL.out
          generalize moveW ws x1 x2 x3 = ws8 at *
          go_wp2_with fail
          refine (len_any _ _ _ w8 hA8).mono ?_
          rintro e w9 ⟨rfl, rfl⟩
          go_wp2_with fail
          refine (rlen_any _ _ _ w8 hB8).mono ?_
          rintro e w9 ⟨rfl, rfl⟩
          go_wp2_with fail
          go_loop [22] (fun i => ∃ i' : Nat, i' ≤ 1 + k ∧ i = .int .i64 i') (fun i => 1 + k - (intOf i).toNat)
          case atStart => exact ⟨0, Nat.zero_le _, rfl⟩
          case round =>
            obtain ⟨i, hi, rfl⟩ := hrel
            by_cases hik : i < 1 + k
            · go_wp2_with fail
              refine (load_any _ _ _ (i : Int) w8 hA8).mono ?_
              rintro e w9 ⟨rfl, rfl⟩
              go_wp2_with fail
              refine (rload_any _ _ _ (i : Int) w8 hB8).mono ?_
              rintro e w9 ⟨rfl, rfl⟩
              generalize ldV ws8 (i : Int) = v at *
              generalize ldE ws8.length (i : Int) = v2 at *
              go_wp2_with fail
              go_round
              case rel => exact ⟨i + 1, by omega, by go_num⟩
              case measure => simp [intOf]; omega
            · go_wp2_with fail
              go_roundw
              case rel => exact ⟨j + 1, ws8, by omega, by go_num, hA8, hB8, hL8, g8⟩
              case measure => simp [intOf]; omega
        · go_wp2_with fail
          refine (load_any _ _ _ x1 wo hAo).mono ?_
          rintro e w7 ⟨rfl, rfl⟩
          go_wp2_with fail
          refine (rload_any _ _ _ x1 wo hBo).mono ?_
          rintro e w7 ⟨rfl, rfl⟩
          generalize ldV ws x1 = v at *
          generalize ldE ws.length x1 = er at *
          obtain ⟨w8, rfl⟩ : ∃ w8, w8 = wo := ⟨_, rfl⟩
          have hA8 := hAo
          have hB8 := hBo
          have g8 := hgo
          clear hAo hBo p0 p1 p2 p3 p4 hgo
          have hL8 : Hid ((ws).length = 1 + k) := HL
          obtain ⟨ws8, rfl⟩ : ∃ ws8, ws8 = ws := ⟨_, rfl⟩
          go_wp2_with fail
          refine (len_any _ _ _ w8 hA8).mono ?_
          rintro e w9 ⟨rfl, rfl⟩
          go_wp2_with fail
          refine (rlen_any _ _ _ w8 hB8).mono ?_
          rintro e w9 ⟨rfl, rfl⟩
          go_wp2_with fail
          go_loop [22] (fun i => ∃ i' : Nat, i' ≤ 1 + k ∧ i = .int .i64 i') (fun i => 1 + k - (intOf i).toNat)
          case atStart => exact ⟨0, Nat.zero_le _, rfl⟩
          case round =>
            obtain ⟨i, hi, rfl⟩ := hrel
            by_cases hik : i < 1 + k
            · go_wp2_with fail
              refine (load_any _ _ _ (i : Int) w8 hA8).mono ?_
              rintro e w9 ⟨rfl, rfl⟩
              go_wp2_with fail
              refine (rload_any _ _ _ (i : Int) w8 hB8).mono ?_
              rintro e w9 ⟨rfl, rfl⟩
              generalize ldV ws8 (i : Int) = v at *
              generalize ldE ws8.length (i : Int) = v2 at *
              go_wp2_with fail
              go_round
              case rel => exact ⟨i + 1, by omega, by go_num⟩
              case measure => simp [intOf]; omega
            · go_wp2_with fail
              go_roundw
              case rel => exact ⟨j + 1, ws8, by omega, by go_num, hA8, hB8, hL8, g8⟩
              case measure => simp [intOf]; omega
      · rcases hcs with ⟨hlt, h20⟩ | hlt
        all_goals
          go_wp2_with fail
          go_ret
          exact ⟨rfl, below_of hgr⟩

theorem walk (a0 : Int) (a1 : Option Addr) (len1 cap1 : Nat) (f : Nat → Nat → Int) (w : World) (w0 : (Lit.int .i64 a0).wf = true) (hO : IsOps w a1 len1 f) :
    Calls Try.prog 4 #[.int .i64 a0, .slice a1 len1 cap1] w fun e w' => e = .returned (.bool true) ∧ Below w.heap.size w w' :=
  walk1 a0 a1 len1 cap1 f w (i64_lo w0) hO

theorem own : ownKnob Try.prog.godebug = none := by kernel_rfl
theorem laidOut : laidOutB Try.prog = true := by kernel_rfl

set_option maxRecDepth 100000 in
theorem lifted (os : Os) (started : os.Started) (H : Type) (enc : TypeId × Value → H) :
    ReturnsInHanded {} Try.checked os 4 .any (Rows.arenaPlaysSpec.pre6 enc Try.prog Try.f4 Rows.arenaPlaysRow.domain false) (Rows.arenaPlaysSpec.post enc Try.prog Try.f4 false true false false) := by
  refine returnsInHanded_of_change (C := Try.checked) own started (by kernel_rfl) Try.func4
    (ChangeSpec.witness6 (enc := enc) (C := Try.checked) false ⟨#[], #[.int .i64 0, .slice none 0 0], []⟩ 8 (by kernel_rfl) (by kernel_rfl) (by kernel_rfl) (by kernel_rfl)) ?_
  intro W base args ds gs before hval0 hW hcnd _
  have hval : ∀ (j : Nat) t v, Try.f4.params[j]? = some t → args[j]? = some v → Value.okWide Try.prog W .any base t v := hval0
  have hW' := hW
  obtain ⟨p, q, hA0, hV, rfl, hfz, hnd⟩ := hW
  have hA : DataW.TrodAll enc Try.prog W 0 (fun _ => true) true Try.f4.params.toList args.toList ds p := hA0
  rw [Try.params4] at hA hval
  obtain ⟨v0, vs0, d0, ds0, p0, q0, hargs, rfl, rfl, h0, r0⟩ := trodAll_cons hA
  obtain ⟨v1, vs1, d1, ds1, p1, q1, rfl, rfl, rfl, h1, r1⟩ := trodAll_cons r0
  obtain ⟨rfl, rfl, rfl⟩ := trodAll_nil r1
  obtain rfl : args = #[v0, v1] := by cases args; simp_all
  obtain ⟨rfl, rfl⟩ := trodVars_none hV
  have k0 := h0
  have lt0 : ∀ x ∈ p0, x.block < W.heap.size := by obtain ⟨m, hm⟩ := k0; exact DataW.trod_lt m _ _ _ hm
  have k1 := h1
  have lt1 : ∀ x ∈ p1, x.block < W.heap.size := by obtain ⟨m, hm⟩ := k1; exact DataW.trod_lt m _ _ _ hm
  obtain ⟨a0, rfl, rfl, rfl, w0⟩ := open_int Try.underlying3 (hval 0 3 v0 rfl rfl) h0
  obtain ⟨a1, len1, cap1, rfl⟩ := okWide_slice Try.underlying35 (hval 1 35 v1 rfl rfl)
  obtain ⟨f1, w1⟩ : ∃ f, IsOps W a1 len1 f := by
    obtain ⟨fuel, hf⟩ := h1
    exact open_ops hf
  clear hA0 hval0
  refine (walk a0 a1 len1 cap1 f1 W w0 w1).mono fun e W' ⟨he, bel⟩ => ?_
  subst he
  exact ⟨_, rfl, _, _, _, [], _, [], hW', trodAll_mk1 (shut_bool Try.underlying4 _), (trodAll_cons_mk (Below.trod laidOut (by kernel_rfl) (of_decide_eq_true (by kernel_rfl)) k0 bel lt0) (trodAll_cons_mk (Below.trod laidOut (by kernel_rfl) (of_decide_eq_true (by kernel_rfl)) k1 bel lt1) trodAll_mk0)), rfl, bel.frame _, fun h => by cases h⟩

theorem over : Rows.arenaPlaysRow.holds Try.pinned (OpenSpec.ofChange Rows.arenaPlaysSpec) :=
  OpenClaim.holds_of_wide 4 Try.f4 rfl rfl rfl rfl rfl rfl rfl ⟨rfl, rfl, rfl, rfl, rfl⟩ rfl rfl rfl rfl rfl (by kernel_rfl) Try.func4 (by kernel_rfl)
    (of_decide_eq_true (by kernel_rfl)) (by unfold Func.isWrapper; first | (rw [if_pos (by decide +kernel)]; kernel_rfl) | (rw [if_neg (by decide +kernel)]; exact ⟨rfl, rfl⟩))
    (fun os started H enc _ => lifted os started H enc)

theorem proved : Rows.ArenaPlaysSaid := over
end Go.Proofs.Ytdfnehcnilmfdaa.arenaPlays

namespace Go.Proofs.Ytdfnehcnilmfdaa
theorem ArenaPlays_holds : Rows.ArenaPlaysSaid := arenaPlays.proved
#print axioms ArenaPlays_holds
end Go.Proofs.Ytdfnehcnilmfdaa
