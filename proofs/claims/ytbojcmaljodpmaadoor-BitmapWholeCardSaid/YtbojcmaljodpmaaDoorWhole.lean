/-
  PROVED: the card of middenheaplaw03.BitmapWhole: it returns true for every input (raw bounds of a stretch) and turns nothing that was there; the library's table is as its text lays it (tied).
-/
import Derived.Test.YtbojcmaljodpmaaDoorMore
namespace Go.Proofs.YtbojcmaljodpmaaDoor.bitmapWhole
open Go.ChangeShapes Go.WideShapes Go.ChangeAt Go.RowKit
open Go.ChangeMaps (open_string shut_string)
set_option linter.unusedVariables false

set_option maxRecDepth 100000 in
set_option maxHeartbeats 2000000 in
theorem walk (a0 a1 : Int) (w : World) (hT : Tab w) (w0 : (Lit.int .i64 a0).wf = true) (w1 : (Lit.int .i64 a1).wf = true) :
    Calls Tryd.prog 6 #[.int .i64 a0, .int .i64 a1] w fun e w' => e = .returned (.bool true) ∧ Below w.heap.size w w' := by
  have hlo := i64_lo w0
  have hlo1 := i64_lo w1
  clear w0 w1
  have hp := pk_range a0 300 (by omega)
  obtain ⟨f, hf⟩ := Int.eq_ofNat_of_zero_le hp.1
  have hf2 : f < 300 := by omega
  have HKf := Lib.hid hf
  clear hp hf
  have hp := pk_range a1 (300 - f + 1) (by omega)
  obtain ⟨n, hn⟩ := Int.eq_ofNat_of_zero_le hp.1
  have hn2 : f + n ≤ 300 := by omega
  have HKn := Lib.hid hn
  clear hp hn
  have HT := Lib.hid hT
  clear hT
  go_enter Tryd.func6, Tryd.ntmps6
  go_wp2_with fail
  refine (awake_any w HT.out).mono ?_
  rintro e w1 ⟨rfl, g1, t1⟩
  have HT1 := Lib.hid t1
  clear t1
  go_wp2_with fail
  refine (s_new 300 (by omega) w1 HT1.out).mono ?_
  rintro e w2 ⟨rfl, hA0, g2, hsz⟩
  have hA := hA0.later (gb_new g1 g2 (by simp)) g1.size HT.out.pos
  have HS := Lib.hid hsz
  clear hsz hA0 g1 g2
  generalize w1.heap.size = N1 at *
  go_wp2_with fail
  refine (pick_any a0 300 w2 hlo (by omega)).mono ?_
  rw [HKf.out]
  rintro e w3 ⟨rfl, rfl⟩
  go_wp2_with fail
  refine (pick_any a1 _ w2 hlo1 (by omega)).mono ?_
  rw [HKn.out]
  rintro e w3 ⟨rfl, rfl⟩
  go_wp2_with fail
  go_loopw [9] (fun s wr => ∃ j : Nat, s = .int .i64 j ∧ j ≤ n ∧ Sta w wr (N1 + 1) N1 300 (rng f j)) (fun s _ => n - (intOf s).toNat)
  case atStart => exact ⟨0, rfl, Nat.zero_le _, hA.eqv (fun k => by unfold rng; simp)⟩
  case round =>
    obtain ⟨j, rfl, hj, hAr⟩ := hrel
    clear hA
    by_cases hlt : j < n
    · have HF : Hid (rng f j (f + j) = false) := by unfold Hid rng; simp
      go_wp2_with fail
      rw [← Int.natCast_add]
      refine (s_set (f + j) (by omega) hAr).mono ?_
      rw [HF.out, Bool.not_false]
      rintro e w4 ⟨rfl, hA4, _⟩
      have hA5 := hA4.eqv (rng_succ f j)
      clear hA4 hAr
      go_wp2_with fail
      go_roundw
      case rel => exact ⟨j + 1, by go_num, by omega, hA5⟩
      case measure => simp [intOf]; omega
    · obtain rfl : j = n := by omega
      go_wp2_with fail
      go_loopw [10] (fun s wq => ∃ i : Nat, s = .int .i64 i ∧ i ≤ j ∧ Sta w wq (N1 + 1) N1 300 (rng f j)) (fun s _ => j - (intOf s).toNat)
      case atStart => exact ⟨0, rfl, Nat.zero_le _, hAr⟩
      case round =>
        obtain ⟨i, rfl, hi, hAq⟩ := hrel
        clear hAr
        by_cases hij : i < j
        · have HX := Lib.hid (nx_head (rng f j) (f + i) 300 (by omega) (by unfold rng; simp; omega))
          have HC : Hid (cnt (mem (rng f j) f 300) ((f + i : Nat) : Int) = i) := by
            unfold Hid; rw [cnt_mem _ _ _ _ (by omega)]; exact rng_len f j f i (Nat.le_refl _) (by omega)
          go_wp2_with fail
          rw [← Int.natCast_add]
          refine (s_next _ (by omega) (by omega) hAq).mono ?_
          rw [Int.toNat_natCast, HX.out]
          rintro e w5 ⟨rfl, hA5, _⟩
          go_wp2_with fail
          rw [← Int.natCast_add]
          refine (s_count _ _ (by omega) (by omega) hA5).mono ?_
          rw [Int.toNat_natCast, HC.out]
          rintro e w6 ⟨rfl, hA6, _⟩
          clear hA5 hAq
          go_wp2_with fail
          go_roundw
          case rel => exact ⟨i + 1, by go_num, by omega, hA6⟩
          case measure => simp [intOf]; omega
        · obtain rfl : i = j := by omega
          have HX := Lib.hid (nx_none (rng f i) (f + i) 300 (fun k h1 h2 => by unfold rng; simp; omega))
          have HC : Hid (cnt (mem (rng f i) 0 300) 300 = i) := by
            unfold Hid
            rw [cnt_mem_big _ _ _ _ (by omega), mem_le (rng f i) 0 (f + i) 300 (by omega) (fun k h1 h2 _ => by unfold rng; simp; omega)]
            exact rng_len f i 0 i (by omega) (Nat.le_refl _)
          go_wp2_with fail
          rw [← Int.natCast_add]
          refine (s_next _ (by omega) (by omega) hAq).mono ?_
          rw [Int.toNat_natCast, HX.out]
          rintro e w5 ⟨rfl, hA5, _⟩
          go_wp2_with fail
          refine (s_count _ _ (by omega) (by omega) hA5).mono ?_
          rw [show (0 : Int).toNat = 0 from rfl, HC.out]
          rintro e w6 ⟨rfl, hA6, _⟩
          clear hA5 hAq
          go_wp2_with fail
          go_ret
          exact ⟨ret_bool (by simp), below_of hA6.gr⟩

/-- What the walk gives, for every argument and every world that holds the table. -/
theorem contract (H : Type) (enc : TypeId × Value → H) (W : World) (base : Nat) (args : Array Value) (ds gs : List (DataW H)) (before : List MemPlace)
    (hval : ∀ (j : Nat) t v, Tryd.f6.params[j]? = some t → args[j]? = some v → Value.okWide Tryd.prog W .any base t v)
    (hW : DataW.Whole enc Tryd.prog Tryd.f6.params.toList Rows.bitmapWholeSpec.vars false W args.toList ds gs before) (hL : laidMetH Tryd.prog Rows.bitmapWholeRow.laid W) :
    Calls Tryd.prog 6 args W fun e W' => ∃ v, e = .returned v ∧ Rows.bitmapWholeSpec.post enc Tryd.prog Tryd.f6 false true false false W args v W' := by
  have hW' := hW
  obtain ⟨p, q, hA0, hV, rfl, hfz, hnd⟩ := hW
  have hA : DataW.TrodAll enc Tryd.prog W 0 (fun _ => true) true Tryd.f6.params.toList args.toList ds p := hA0
  rw [Tryd.params6] at hA hval
  obtain ⟨v0, vs0, d0, ds0, p0, q0, hargs, rfl, rfl, h0, r0⟩ := trodAll_cons hA
  obtain ⟨v1, vs1, d1, ds1, p1, q1, rfl, rfl, rfl, h1, r1⟩ := trodAll_cons r0
  obtain ⟨rfl, rfl, rfl⟩ := trodAll_nil r1
  obtain rfl : args = #[v0, v1] := by cases args; simp_all
  obtain ⟨rfl, rfl⟩ := trodVars_none hV
  have k0 := h0
  have lt0 : ∀ x ∈ p0, x.block < W.heap.size := by obtain ⟨m, hm⟩ := k0; exact DataW.trod_lt m _ _ _ hm
  have k1 := h1
  have lt1 : ∀ x ∈ p1, x.block < W.heap.size := by obtain ⟨m, hm⟩ := k1; exact DataW.trod_lt m _ _ _ hm
  obtain ⟨a0, rfl, rfl, rfl, w0⟩ := open_int Tryd.underlying3 (hval 0 3 v0 rfl rfl) h0
  obtain ⟨a1, rfl, rfl, rfl, w1⟩ := open_int Tryd.underlying3 (hval 1 3 v1 rfl rfl) h1
  clear hA0
  have hTab := tab_of hL
  refine (walk a0 a1 W hTab w0 w1).mono fun e W' ⟨he, bel⟩ => ?_
  subst he
  exact ⟨_, rfl, _, _, _, [], _, [], hW', trodAll_mk1 (shut_bool Tryd.underlying4 _), (trodAll_cons_mk (Below.trod laidOut (by kernel_rfl) (of_decide_eq_true (by kernel_rfl)) k0 bel lt0) (trodAll_cons_mk (Below.trod laidOut (by kernel_rfl) (of_decide_eq_true (by kernel_rfl)) k1 bel lt1) trodAll_mk0)), rfl, bel.frame _, fun h => by cases h⟩

theorem laid_met (os : Os) : laidMet Tryd.prog Rows.bitmapWholeRow.laid ((laidWorld os).forCall (fun _ _ => 0) ⟨#[], #[.int .i64 0, .int .i64 0], []⟩).memory :=
  laidMet_of_run' 8 (by kernel_rfl) (by kernel_rfl)
theorem reads (os : Os) {H : Type} (enc : TypeId × Value → H) : ∃ places, DataW.whole enc Tryd.prog ((laidWorld os).forCall (fun _ _ => 0) ⟨#[], #[.int .i64 0, .int .i64 0], []⟩).memory Tryd.f6.params.toList Rows.bitmapWholeSpec.vars false (#[.int .i64 0, .int .i64 0] : Array Value).toList 8 = some ([.lit (.int .i64 0), .lit (.int .i64 0)], [], places) :=
  ⟨[], by kernel_rfl⟩

set_option maxRecDepth 100000 in
theorem lifted (os : Os) (started : os.Started) (H : Type) (enc : TypeId × Value → H) (F : Stop.Interp) :
    ReturnsInHanded {} Tryd.checked os 6 .any ((OpenSpec.ofChange Rows.bitmapWholeSpec).preRow enc Tryd.prog Tryd.f6 Rows.bitmapWholeRow.domain false Rows.bitmapWholeRow.laid) (((OpenSpec.ofChange Rows.bitmapWholeSpec).at F).post enc Tryd.prog Tryd.f6 false true false false) := by
  obtain ⟨places, hx⟩ := reads os enc
  refine returnsInHanded_of_row (C := Tryd.checked) (s := OpenSpec.ofChange Rows.bitmapWholeSpec) own started (by kernel_rfl) Tryd.func6
    (witness_row_at (enc := enc) (C := Tryd.checked) false (laidWorld os) #[.int .i64 0, .int .i64 0] rfl (by kernel_rfl) (by kernel_rfl) (by kernel_rfl)
      (OpenSpec.preRow_of_cond 8 hx (by kernel_rfl) (fun k hk => by cases hk) (by kernel_rfl) (laid_met os))) ?_
  intro W base args ds gs before hval hW _ _ _ hL _ _
  exact contract H enc W base args ds gs before hval hW hL

theorem said : Rows.BitmapWholeSaid :=
  OpenClaim.holds_of_cond 6 Tryd.f6 rfl rfl rfl rfl rfl rfl rfl ⟨rfl, rfl, rfl, rfl, rfl⟩ rfl rfl rfl rfl rfl (by kernel_rfl) Tryd.func6 (by kernel_rfl)
    (of_decide_eq_true (by kernel_rfl)) (by unfold Func.isWrapper; first | (rw [if_pos (by decide +kernel)]; kernel_rfl) | (rw [if_neg (by decide +kernel)]; exact ⟨rfl, rfl⟩))
    (fun os started H enc _ F => by rw [OpenClaim.pre_eq_preRow]; exact lifted os started H enc F)

theorem plain (f : FuncId) (fn : Func) (hf : Tryd.pinned.checked.prog.funcNamed "middenheap/middenheaplaw03.BitmapWhole" = some f) (hfn : Tryd.pinned.checked.prog.funcs[f]? = some fn) :
    false = Tryd.pinned.checked.prog.looks [] ∧ ∀ (j : Nat) t, fn.params[j]? = some t → Tryd.pinned.checked.prog.wantsStandIn t = false := by
  obtain rfl : f = 6 := Option.some.inj ((show Tryd.prog.funcNamed "middenheap/middenheaplaw03.BitmapWhole" = some 6 by kernel_rfl).symm.trans hf) |>.symm
  obtain rfl : fn = Tryd.f6 := (Option.some.inj (Tryd.func6.symm.trans hfn)).symm
  refine ⟨by kernel_rfl, fun j t ht => ?_⟩
  rw [Tryd.params6] at ht
  have ht2 : t = 3 := by have := Array.mem_of_getElem? ht; simp at this; omega
  rcases ht2 with rfl
  · exact (show Tryd.prog.wantsStandIn 3 = false by kernel_rfl)

theorem card : Rows.BitmapWholeCardSaid :=
  Claim7.holds_tied_plain_at .later [] _ _ _ _ said (fun _ h => by cases h) (by kernel_rfl) (fun _ h => by cases h) bitmapWhole_row_tie rfl ⟨rfl, rfl⟩ (by kernel_rfl) rfl plain (by kernel_rfl)
end Go.Proofs.YtbojcmaljodpmaaDoor.bitmapWhole

namespace Go.Proofs.YtbojcmaljodpmaaDoor
theorem BitmapWhole_holds : Rows.BitmapWholeCardSaid := bitmapWhole.card
#print axioms BitmapWhole_holds
end Go.Proofs.YtbojcmaljodpmaaDoor
