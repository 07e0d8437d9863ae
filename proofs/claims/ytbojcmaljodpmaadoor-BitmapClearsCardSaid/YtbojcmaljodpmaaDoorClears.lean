/-
  PROVED: the card of middenheaplaw03.BitmapClears: it returns true for every input (raw ops ahead, a raw number) and turns nothing that was there; the library's table is as its text lays it (tied).
-/
import Derived.Test.YtbojcmaljodpmaaDoorOps
namespace Go.Proofs.YtbojcmaljodpmaaDoor.bitmapClears
open Go.ChangeShapes Go.WideShapes Go.ChangeAt Go.RowKit
open Go.ChangeMaps (open_string shut_string)
set_option linter.unusedVariables false

set_option maxRecDepth 100000 in
set_option maxHeartbeats 4000000 in
theorem walk (a : Option Addr) (len cap : Nat) (c : Nat → Bool) (f : Nat → Int) (a1 : Int) (w : World) (hT : Tab w) (hO : IsOps w a len c f) (w1 : (Lit.int .i64 a1).wf = true) :
    Calls Tryd.prog 7 #[.slice a len cap, .int .i64 a1] w fun e w' => e = .returned (.bool true) ∧ Below w.heap.size w w' := by
  have hlo1 := i64_lo w1
  clear w1
  have hlen : (len : Int) ≤ 9223372036854775807 := by have := hO.le; unfold maxLen at this; omega
  have HT := Lib.hid hT
  clear hT
  go_enter Tryd.func7, Tryd.ntmps7
  go_wp2_with fail
  refine (awake_any w HT.out).mono ?_
  rintro e w1 ⟨rfl, g1, t1⟩
  have HT1 := Lib.hid t1
  clear t1
  go_wp2_with fail
  refine (s_new 300 (by omega) w1 HT1.out).mono ?_
  rintro e w2 ⟨rfl, hA0, g2, hsz⟩
  have hA := hA0.later (gb_new g1 g2 (by simp)) g1.size HT.out.pos
  have HS := Lib.hid hsz
  clear hsz hA0 g1 g2
  generalize w1.heap.size = N1 at *
  go_wp2_with fail
  go_loopw [7] (fun s wr => ∃ (j : Nat) (S : Nat → Bool), s = .int .i64 j ∧ j ≤ len ∧ Sta w wr (N1 + 1) N1 300 S) (fun s _ => len - (intOf s).toNat)
  case atStart => exact ⟨0, _, rfl, Nat.zero_le _, hA⟩
  case round =>
    obtain ⟨j, S, rfl, hj, hAr⟩ := hrel
    clear hA
    have hcs : (j < len ∧ j < 40) ∨ (j < len ∧ ¬ j < 40) ∨ (¬ j < len) := by omega
    rcases hcs with ⟨hlt, h20⟩ | hcs
    · obtain ⟨b, off, rfl, hb, c0, c1⟩ := hO.at_ j hlt
      have d1 := hAr.gr.cell c1 (by simp)
      have hlo := hO.lo j hlt
      clear c0 c1
      generalize f j = y at *
      have hp := pk_range y 300 (by omega)
      obtain ⟨x, hx⟩ := Int.eq_ofNat_of_zero_le hp.1
      have hx2 : x < 300 := by omega
      have HX := Lib.hid hx
      clear hp hx
      go_wp2_with fail
      refine (pick_any y 300 wr hlo (by omega)).mono ?_
      rw [HX.out]
      rintro e w4 ⟨rfl, rfl⟩
      go_wp2_with fail
      refine (s_set x hx2 hAr).mono ?_
      rintro e w4 ⟨rfl, hA4, _⟩
      generalize (!S x) = bb at *
      clear hAr d1
      go_wp2_with fail
      go_roundw
      case rel => exact ⟨j + 1, _, by go_num, by omega, hA4⟩
      case measure => simp [intOf]; omega
    · rcases hcs with ⟨hlt, h20⟩ | hlt
      all_goals
        have hp := pk_range a1 300 (by omega)
        obtain ⟨x, hx⟩ := Int.eq_ofNat_of_zero_le hp.1
        have hx2 : x < 300 := by omega
        have HX := Lib.hid hx
        clear hp hx
        have hn := len_upd S x 300 hx2
        have hl : (mem (upd S x false) 0 300).length ≤ 300 := by
          have := List.length_filter_le (fun j => decide (0 ≤ j) && upd S x false j) (List.range 300)
          rw [List.length_range] at this; unfold mem; omega
        have eT : ∀ j, upd (upd (upd (upd (upd S x true) x true) x false) x false) x true j = upd S x true j := fun j => by unfold upd; by_cases h : j = x <;> simp [h]
        have eF : ∀ j, upd (upd (upd (upd S x true) x true) x false) x false j = upd S x false j := fun j => by unfold upd; by_cases h : j = x <;> simp [h]
        have HET := Lib.hid eT
        have HEF := Lib.hid eF
        clear eT eF
        generalize hn1 : (mem (upd S x false) 0 300).length = n1 at *
        have HN1 := Lib.hid hn1
        have HN := Lib.hid hn
        clear hn hn1
        cases hS : S x
        · have hSf : mem S 0 300 = mem (upd S x false) 0 300 := mem_congr (fun j => by unfold upd; by_cases h : j = x <;> simp [h, hS]) 0 300
          have HC0 : Hid (cnt (mem S 0 300) 300 = n1) := by unfold Hid; rw [cnt_mem_big _ _ _ _ (by omega), hSf]; exact HN1.out
          have HC1 : Hid (cnt (mem (upd S x false) 0 300) 300 = n1) := by unfold Hid; rw [cnt_mem_big _ _ _ _ (by omega)]; exact HN1.out
          have HSx := Lib.hid hS
          clear hS hSf
          go_wp2_with fail
          refine (pick_any a1 300 wr hlo1 (by omega)).mono ?_
          rw [HX.out]
          rintro e w4 ⟨rfl, rfl⟩
          go_wp2_with fail
          refine (s_count _ _ (by omega) (by omega) hAr).mono ?_
          rw [show (0 : Int).toNat = 0 from rfl, HC0.out]
          rintro e w5 ⟨rfl, hA5, _⟩
          clear hAr
          go_wp2_with fail
          refine (s_has x hA5).mono ?_
          rw [HSx.out]
          rintro e w6 ⟨rfl, rfl⟩
          go_wp2_with fail
          refine (s_set x hx2 hA5).mono ?_
          rw [HSx.out]
          rintro e w6 ⟨rfl, hA6, _⟩
          clear hA5
          go_wp2_with fail
          refine (s_set x hx2 hA6).mono ?_
          rw [show upd S x true x = true by simp [upd]]
          rintro e w7 ⟨rfl, hA7, _⟩
          clear hA6
          go_wp2_with fail
          refine (s_has x hA7).mono ?_
          rw [show upd (upd S x true) x true x = true by simp [upd]]
          rintro e w8 ⟨rfl, rfl⟩
          go_wp2_with fail
          refine (s_clear x hA7).mono ?_
          rw [show upd (upd S x true) x true x = true by simp [upd]]
          rintro e w8 ⟨rfl, hA8, _⟩
          clear hA7
          go_wp2_with fail
          refine (s_clear x hA8).mono ?_
          rw [show upd (upd (upd S x true) x true) x false x = false by simp [upd]]
          rintro e w9 ⟨rfl, hA9, _⟩
          clear hA8
          go_wp2_with fail
          refine (s_has x hA9).mono ?_
          rw [show upd (upd (upd (upd S x true) x true) x false) x false x = false by simp [upd]]
          rintro e wa ⟨rfl, rfl⟩
          have hB := hA9.eqv HEF.out
          clear hA9
          go_wp2_with fail
          refine (s_count _ _ (by omega) (by omega) hB).mono ?_
          rw [show (0 : Int).toNat = 0 from rfl, HC1.out]
          rintro e wb ⟨rfl, hB1, _⟩
          go_wp2_with fail
          go_ret
          exact ⟨ret_bool (by simp), below_of hB1.gr⟩
        · have hSt : mem S 0 300 = mem (upd S x true) 0 300 := mem_congr (fun j => by unfold upd; by_cases h : j = x <;> simp [h, hS]) 0 300
          have HC0 : Hid (cnt (mem S 0 300) 300 = n1 + 1) := by unfold Hid; rw [cnt_mem_big _ _ _ _ (by omega), hSt]; exact HN.out
          have HC1 : Hid (cnt (mem (upd S x false) 0 300) 300 = n1) := by unfold Hid; rw [cnt_mem_big _ _ _ _ (by omega)]; exact HN1.out
          have HC2 : Hid (cnt (mem (upd (upd S x false) x true) 0 300) 300 = n1 + 1) := by
            unfold Hid; rw [cnt_mem_big _ _ _ _ (by omega), mem_congr (T := upd S x true) (fun j => by unfold upd; by_cases h : j = x <;> simp [h])]; exact HN.out
          have HSx := Lib.hid hS
          clear hS hSt
          go_wp2_with fail
          refine (pick_any a1 300 wr hlo1 (by omega)).mono ?_
          rw [HX.out]
          rintro e w4 ⟨rfl, rfl⟩
          go_wp2_with fail
          refine (s_count _ _ (by omega) (by omega) hAr).mono ?_
          rw [show (0 : Int).toNat = 0 from rfl, HC0.out]
          rintro e w5 ⟨rfl, hA5, _⟩
          clear hAr
          go_wp2_with fail
          refine (s_has x hA5).mono ?_
          rw [HSx.out]
          rintro e w6 ⟨rfl, rfl⟩
          go_wp2_with fail
          refine (s_set x hx2 hA5).mono ?_
          rw [HSx.out]
          rintro e w6 ⟨rfl, hA6, _⟩
          clear hA5
          go_wp2_with fail
          refine (s_set x hx2 hA6).mono ?_
          rw [show upd S x true x = true by simp [upd]]
          rintro e w7 ⟨rfl, hA7, _⟩
          clear hA6
          go_wp2_with fail
          refine (s_has x hA7).mono ?_
          rw [show upd (upd S x true) x true x = true by simp [upd]]
          rintro e w8 ⟨rfl, rfl⟩
          go_wp2_with fail
          refine (s_clear x hA7).mono ?_
          rw [show upd (upd S x true) x true x = true by simp [upd]]
          rintro e w8 ⟨rfl, hA8, _⟩
          clear hA7
          go_wp2_with fail
          refine (s_clear x hA8).mono ?_
          rw [show upd (upd (upd S x true) x true) x false x = false by simp [upd]]
          rintro e w9 ⟨rfl, hA9, _⟩
          clear hA8
          go_wp2_with fail
          refine (s_has x hA9).mono ?_
          rw [show upd (upd (upd (upd S x true) x true) x false) x false x = false by simp [upd]]
          rintro e wa ⟨rfl, rfl⟩
          have hB := hA9.eqv HEF.out
          clear hA9
          go_wp2_with fail
          refine (s_count _ _ (by omega) (by omega) hB).mono ?_
          rw [show (0 : Int).toNat = 0 from rfl, HC1.out]
          rintro e wb ⟨rfl, hB1, _⟩
          clear hB
          go_wp2_with fail
          refine (s_set x hx2 hB1).mono ?_
          rw [show upd S x false x = false by simp [upd], Bool.not_false]
          rintro e wc ⟨rfl, hB2, _⟩
          clear hB1
          go_wp2_with fail
          refine (s_count _ _ (by omega) (by omega) hB2).mono ?_
          rw [show (0 : Int).toNat = 0 from rfl, HC2.out]
          rintro e wd ⟨rfl, hB3, _⟩
          go_wp2_with fail
          go_ret
          exact ⟨ret_bool (by simp), below_of hB3.gr⟩

/-- What the walk gives, for every argument and every world that holds the table. -/
theorem contract (H : Type) (enc : TypeId × Value → H) (W : World) (base : Nat) (args : Array Value) (ds gs : List (DataW H)) (before : List MemPlace)
    (hval : ∀ (j : Nat) t v, Tryd.f7.params[j]? = some t → args[j]? = some v → Value.okWide Tryd.prog W .any base t v)
    (hW : DataW.Whole enc Tryd.prog Tryd.f7.params.toList Rows.bitmapClearsSpec.vars false W args.toList ds gs before) (hL : laidMetH Tryd.prog Rows.bitmapClearsRow.laid W) :
    Calls Tryd.prog 7 args W fun e W' => ∃ v, e = .returned v ∧ Rows.bitmapClearsSpec.post enc Tryd.prog Tryd.f7 false true false false W args v W' := by
  have hW' := hW
  obtain ⟨p, q, hA0, hV, rfl, hfz, hnd⟩ := hW
  have hA : DataW.TrodAll enc Tryd.prog W 0 (fun _ => true) true Tryd.f7.params.toList args.toList ds p := hA0
  rw [Tryd.params7] at hA hval
  obtain ⟨v0, vs0, d0, ds0, p0, q0, hargs, rfl, rfl, h0, r0⟩ := trodAll_cons hA
  obtain ⟨v1, vs1, d1, ds1, p1, q1, rfl, rfl, rfl, h1, r1⟩ := trodAll_cons r0
  obtain ⟨rfl, rfl, rfl⟩ := trodAll_nil r1
  obtain rfl : args = #[v0, v1] := by cases args; simp_all
  obtain ⟨rfl, rfl⟩ := trodVars_none hV
  have k0 := h0
  have lt0 : ∀ x ∈ p0, x.block < W.heap.size := by obtain ⟨m, hm⟩ := k0; exact DataW.trod_lt m _ _ _ hm
  have k1 := h1
  have lt1 : ∀ x ∈ p1, x.block < W.heap.size := by obtain ⟨m, hm⟩ := k1; exact DataW.trod_lt m _ _ _ hm
  obtain ⟨a, len, cap, rfl⟩ := okWide_slice Tryd.underlying22 (hval 0 22 v0 rfl rfl)
  obtain ⟨c, f, w0⟩ : ∃ c f, IsOps W a len c f := by
    obtain ⟨fuel, hf⟩ := h0
    exact open_ops hf
  obtain ⟨a1, rfl, rfl, rfl, w1⟩ := open_int Tryd.underlying3 (hval 1 3 v1 rfl rfl) h1
  clear hA0
  have hTab := tab_of hL
  refine (walk a len cap c f a1 W hTab w0 w1).mono fun e W' ⟨he, bel⟩ => ?_
  subst he
  exact ⟨_, rfl, _, _, _, [], _, [], hW', trodAll_mk1 (shut_bool Tryd.underlying4 _), (trodAll_cons_mk (Below.trod laidOut (by kernel_rfl) (of_decide_eq_true (by kernel_rfl)) k0 bel lt0) (trodAll_cons_mk (Below.trod laidOut (by kernel_rfl) (of_decide_eq_true (by kernel_rfl)) k1 bel lt1) trodAll_mk0)), rfl, bel.frame _, fun h => by cases h⟩

theorem laid_met (os : Os) : laidMet Tryd.prog Rows.bitmapClearsRow.laid ((laidWorld os).forCall (fun _ _ => 0) ⟨#[], #[.slice none 0 0, .int .i64 0], []⟩).memory :=
  laidMet_of_run' 8 (by kernel_rfl) (by kernel_rfl)
theorem reads (os : Os) {H : Type} (enc : TypeId × Value → H) : ∃ places, DataW.whole enc Tryd.prog ((laidWorld os).forCall (fun _ _ => 0) ⟨#[], #[.slice none 0 0, .int .i64 0], []⟩).memory Tryd.f7.params.toList Rows.bitmapClearsSpec.vars false (#[.slice none 0 0, .int .i64 0] : Array Value).toList 8 = some ([.nil, .lit (.int .i64 0)], [], places) :=
  ⟨[], by kernel_rfl⟩

set_option maxRecDepth 100000 in
theorem lifted (os : Os) (started : os.Started) (H : Type) (enc : TypeId × Value → H) (F : Stop.Interp) :
    ReturnsInHanded {} Tryd.checked os 7 .any ((OpenSpec.ofChange Rows.bitmapClearsSpec).preRow enc Tryd.prog Tryd.f7 Rows.bitmapClearsRow.domain false Rows.bitmapClearsRow.laid) (((OpenSpec.ofChange Rows.bitmapClearsSpec).at F).post enc Tryd.prog Tryd.f7 false true false false) := by
  obtain ⟨places, hx⟩ := reads os enc
  refine returnsInHanded_of_row (C := Tryd.checked) (s := OpenSpec.ofChange Rows.bitmapClearsSpec) own started (by kernel_rfl) Tryd.func7
    (witness_row_at (enc := enc) (C := Tryd.checked) false (laidWorld os) #[.slice none 0 0, .int .i64 0] rfl (by kernel_rfl) (by kernel_rfl) (by kernel_rfl)
      (OpenSpec.preRow_of_cond 8 hx (by kernel_rfl) (fun k hk => by cases hk) (by kernel_rfl) (laid_met os))) ?_
  intro W base args ds gs before hval hW _ _ _ hL _ _
  exact contract H enc W base args ds gs before hval hW hL

theorem said : Rows.BitmapClearsSaid :=
  OpenClaim.holds_of_cond 7 Tryd.f7 rfl rfl rfl rfl rfl rfl rfl ⟨rfl, rfl, rfl, rfl, rfl⟩ rfl rfl rfl rfl rfl (by kernel_rfl) Tryd.func7 (by kernel_rfl)
    (of_decide_eq_true (by kernel_rfl)) (by unfold Func.isWrapper; first | (rw [if_pos (by decide +kernel)]; kernel_rfl) | (rw [if_neg (by decide +kernel)]; exact ⟨rfl, rfl⟩))
    (fun os started H enc _ F => by rw [OpenClaim.pre_eq_preRow]; exact lifted os started H enc F)

theorem plain (f : FuncId) (fn : Func) (hf : Tryd.pinned.checked.prog.funcNamed "middenheap/middenheaplaw03.BitmapClears" = some f) (hfn : Tryd.pinned.checked.prog.funcs[f]? = some fn) :
    false = Tryd.pinned.checked.prog.looks [] ∧ ∀ (j : Nat) t, fn.params[j]? = some t → Tryd.pinned.checked.prog.wantsStandIn t = false := by
  obtain rfl : f = 7 := Option.some.inj ((show Tryd.prog.funcNamed "middenheap/middenheaplaw03.BitmapClears" = some 7 by kernel_rfl).symm.trans hf) |>.symm
  obtain rfl : fn = Tryd.f7 := (Option.some.inj (Tryd.func7.symm.trans hfn)).symm
  refine ⟨by kernel_rfl, fun j t ht => ?_⟩
  rw [Tryd.params7] at ht
  have ht2 : t = 3 ∨ t = 22 := by have := Array.mem_of_getElem? ht; simp at this; rcases this with h | h <;> subst h <;> simp
  rcases ht2 with rfl | rfl
  · exact (show Tryd.prog.wantsStandIn 3 = false by kernel_rfl)
  · exact (show Tryd.prog.wantsStandIn 22 = false by kernel_rfl)

theorem card : Rows.BitmapClearsCardSaid :=
  Claim7.holds_tied_plain_at .later [] _ _ _ _ said (fun _ h => by cases h) (by kernel_rfl) (fun _ h => by cases h) bitmapClears_row_tie rfl ⟨rfl, rfl⟩ (by kernel_rfl) rfl plain (by kernel_rfl)
end Go.Proofs.YtbojcmaljodpmaaDoor.bitmapClears

namespace Go.Proofs.YtbojcmaljodpmaaDoor
theorem BitmapClears_holds : Rows.BitmapClearsCardSaid := bitmapClears.card
#print axioms BitmapClears_holds
end Go.Proofs.YtbojcmaljodpmaaDoor
