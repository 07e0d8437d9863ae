/-
  PROVED: the card of middenheaplaw03.BitmapAdds: it returns true for every input (raw ops, three raw numbers) and turns nothing that was there; the library's table is as its text lays it (tied).
-/
import Derived.Test.YtbojcmaljodpmaaDoorOps
namespace Go.Proofs.YtbojcmaljodpmaaDoor.bitmapAdds
open Go.ChangeShapes Go.WideShapes Go.ChangeAt Go.RowKit
open Go.ChangeMaps (open_string shut_string)
set_option linter.unusedVariables false

set_option maxRecDepth 100000 in
set_option maxHeartbeats 4000000 in
theorem walk (a : Option Addr) (len cap : Nat) (c : Nat → Bool) (f : Nat → Int) (a1 a2 a3 : Int) (w : World) (hT : Tab w) (hO : IsOps w a len c f) (w1 : (Lit.int .i64 a1).wf = true) (w2 : (Lit.int .i64 a2).wf = true) (w3 : (Lit.int .i64 a3).wf = true) :
    Calls Tryd.prog 4 #[.slice a len cap, .int .i64 a1, .int .i64 a2, .int .i64 a3] w fun e w' => e = .returned (.bool true) ∧ Below w.heap.size w w' := by
  have hlo1 := i64_lo w1
  have hlo2 := i64_lo w2
  have hlo3 := i64_lo w3
  clear w1 w2 w3
  have hlen : (len : Int) ≤ 9223372036854775807 := by have := hO.le; unfold maxLen at this; omega
  have HT := Lib.hid hT
  clear hT
  go_enter Tryd.func4, Tryd.ntmps4
  go_wp2_with fail
  refine (awake_any w HT.out).mono ?_
  rintro e w1 ⟨rfl, g1, t1⟩
  have HT1 := Lib.hid t1
  clear t1
  go_wp2_with fail
  refine (s_new 300 (by omega) w1 HT1.out).mono ?_
  rintro e w2 ⟨rfl, hA0, g2, hsz⟩
  have hA := hA0.later (gb_new g1 g2 (by simp)) g1.size HT.out.pos
  have HS := Lib.hid hsz
  clear hsz hA0 g1 g2
  generalize w1.heap.size = N1 at *
  go_wp2_with fail
  go_loopw [11] (fun s wr => ∃ (j : Nat) (S : Nat → Bool), s = .int .i64 j ∧ j ≤ len ∧ Sta w wr (N1 + 1) N1 300 S) (fun s _ => len - (intOf s).toNat)
  case atStart => exact ⟨0, _, rfl, Nat.zero_le _, hA⟩
  case round =>
    obtain ⟨j, S, rfl, hj, hAr⟩ := hrel
    clear hA
    have hcs : (j < len ∧ j < 60) ∨ (j < len ∧ ¬ j < 60) ∨ (¬ j < len) := by omega
    rcases hcs with ⟨hlt, h20⟩ | hcs
    · obtain ⟨b, off, rfl, hb, c0, c1⟩ := hO.at_ j hlt
      have d1 := hAr.gr.cell c1 (by simp)
      have hlo := hO.lo j hlt
      clear c0 c1
      generalize f j = y at *
      have hp := pk_range y 300 (by omega)
      obtain ⟨x, hx⟩ := Int.eq_ofNat_of_zero_le hp.1
      have hx2 : x < 300 := by omega
      have HX := Lib.hid hx
      clear hp hx
      go_wp2_with fail
      refine (pick_any y 300 wr hlo (by omega)).mono ?_
      rw [HX.out]
      rintro e w4 ⟨rfl, rfl⟩
      go_wp2_with fail
      refine (s_set x hx2 hAr).mono ?_
      rintro e w4 ⟨rfl, hA4, _⟩
      generalize (!S x) = bb at *
      clear hAr d1
      go_wp2_with fail
      go_roundw
      case rel => exact ⟨j + 1, _, by go_num, by omega, hA4⟩
      case measure => simp [intOf]; omega
    · rcases hcs with ⟨hlt, h20⟩ | hlt
      all_goals
        have hp := pk_range a1 301 (by omega)
        obtain ⟨x, hx⟩ := Int.eq_ofNat_of_zero_le hp.1
        have hx2 : x ≤ 300 := by omega
        have HX := Lib.hid hx
        clear hp hx
        have hp := pk_range a2 (301 - x) (by omega)
        obtain ⟨d, hd⟩ := Int.eq_ofNat_of_zero_le hp.1
        have hd2 : x + d ≤ 300 := by omega
        have HD := Lib.hid hd
        clear hp hd
        have hp := pk_range a3 (301 - ((x + d : Nat) : Int)) (by omega)
        obtain ⟨d', hd'⟩ := Int.eq_ofNat_of_zero_le hp.1
        have hd3 : x + d + d' ≤ 300 := by omega
        have HD' := Lib.hid hd'
        clear hp hd'
        go_wp2_with fail
        refine (pick_any a1 301 wr hlo1 (by omega)).mono ?_
        rw [HX.out]
        rintro e w4 ⟨rfl, rfl⟩
        go_wp2_with fail
        refine (pick_any a2 _ wr hlo2 (by omega)).mono ?_
        rw [HD.out]
        rintro e w4 ⟨rfl, rfl⟩
        go_wp2_with fail
        rw [← Int.natCast_add]
        refine (pick_any a3 _ wr hlo3 (by omega)).mono ?_
        rw [HD'.out]
        rintro e w4 ⟨rfl, rfl⟩
        obtain ⟨y, hy⟩ : ∃ y, x + d = y := ⟨_, rfl⟩
        have hy2 : x ≤ y := by omega
        have hy3 : y + d' ≤ 300 := by omega
        rw [hy]
        clear HD HD' hy hd3 hd2
        go_wp2_with fail
        rw [← Int.natCast_add]
        obtain ⟨z, hz⟩ : ∃ z, y + d' = z := ⟨_, rfl⟩
        have hz2 : y ≤ z := by omega
        have hz3 : z ≤ 300 := by omega
        rw [hz]
        clear hz hy3
        have HC1 : Hid (cnt (mem S x 300) (y : Int) = (mem S x y).length) := cnt_mem S x 300 y (by omega)
        have HC2 : Hid (cnt (mem S y 300) (z : Int) = (mem S y z).length) := cnt_mem S y 300 z (by omega)
        have HC3 : Hid (cnt (mem S x 300) (z : Int) = (mem S x y).length + (mem S y z).length) := by
          unfold Hid; rw [cnt_mem S x 300 z (by omega), mem_split S x y z hy2 hz2, List.length_append]
        have HC4 : Hid (cnt (mem S z 300) (x : Int) = 0) := by unfold Hid; rw [cnt_mem S z 300 x (by omega), mem_nil S z x (by omega)]; rfl
        have HC5 : Hid (cnt (mem S x 300) (x : Int) = 0) := by unfold Hid; rw [cnt_mem S x 300 x (by omega), mem_nil S x x (by omega)]; rfl
        have hl1 : (mem S x y).length ≤ 300 := by
          have := List.length_filter_le (fun j => decide (x ≤ j) && S j) (List.range y)
          rw [List.length_range] at this; unfold mem; omega
        have hl2 : (mem S y z).length ≤ 300 := by
          have := List.length_filter_le (fun j => decide (y ≤ j) && S j) (List.range z)
          rw [List.length_range] at this; unfold mem; omega
        generalize (mem S x y).length = n1 at *
        generalize (mem S y z).length = n2 at *
        refine (s_count _ _ (by omega) (by omega) hAr).mono ?_
        rw [Int.toNat_natCast, HC1.out]
        rintro e w5 ⟨rfl, hA5, _⟩
        clear hAr
        go_wp2_with fail
        refine (s_count _ _ (by omega) (by omega) hA5).mono ?_
        rw [Int.toNat_natCast, HC2.out]
        rintro e w6 ⟨rfl, hA6, _⟩
        clear hA5
        go_wp2_with fail
        refine (s_count _ _ (by omega) (by omega) hA6).mono ?_
        rw [Int.toNat_natCast, HC3.out]
        rintro e w7 ⟨rfl, hA7, _⟩
        clear hA6
        by_cases hxz : x = z
        · subst hxz
          go_wp2_with fail
          refine (s_count _ _ (by omega) (by omega) hA7).mono ?_
          rw [Int.toNat_natCast, HC5.out]
          rintro e w8 ⟨rfl, hA8, _⟩
          go_wp2_with fail
          go_ret
          exact ⟨ret_bool (by simp), below_of hA8.gr⟩
        · have tz : (((x : Nat) : Int) == ((z : Nat) : Int)) = false := by rw [beq_eq_false_iff_ne]; omega
          have HXZ := Lib.hid hxz
          clear hxz
          go_wp2_with fail
          refine (s_count _ _ (by omega) (by omega) hA7).mono ?_
          rw [Int.toNat_natCast, HC4.out]
          rintro e w8 ⟨rfl, hA8, _⟩
          clear hA7
          go_wp2_with fail
          refine (s_count _ _ (by omega) (by omega) hA8).mono ?_
          rw [Int.toNat_natCast, HC5.out]
          rintro e w9 ⟨rfl, hA9, _⟩
          go_wp2_with fail
          go_ret
          exact ⟨ret_bool (by simp), below_of hA9.gr⟩

/-- What the walk gives, for every argument and every world that holds the table. -/
theorem contract (H : Type) (enc : TypeId × Value → H) (W : World) (base : Nat) (args : Array Value) (ds gs : List (DataW H)) (before : List MemPlace)
    (hval : ∀ (j : Nat) t v, Tryd.f4.params[j]? = some t → args[j]? = some v → Value.okWide Tryd.prog W .any base t v)
    (hW : DataW.Whole enc Tryd.prog Tryd.f4.params.toList Rows.bitmapAddsSpec.vars false W args.toList ds gs before) (hL : laidMetH Tryd.prog Rows.bitmapAddsRow.laid W) :
    Calls Tryd.prog 4 args W fun e W' => ∃ v, e = .returned v ∧ Rows.bitmapAddsSpec.post enc Tryd.prog Tryd.f4 false true false false W args v W' := by
  have hW' := hW
  obtain ⟨p, q, hA0, hV, rfl, hfz, hnd⟩ := hW
  have hA : DataW.TrodAll enc Tryd.prog W 0 (fun _ => true) true Tryd.f4.params.toList args.toList ds p := hA0
  rw [Tryd.params4] at hA hval
  obtain ⟨v0, vs0, d0, ds0, p0, q0, hargs, rfl, rfl, h0, r0⟩ := trodAll_cons hA
  obtain ⟨v1, vs1, d1, ds1, p1, q1, rfl, rfl, rfl, h1, r1⟩ := trodAll_cons r0
  obtain ⟨v2, vs2, d2, ds2, p2, q2, rfl, rfl, rfl, h2, r2⟩ := trodAll_cons r1
  obtain ⟨v3, vs3, d3, ds3, p3, q3, rfl, rfl, rfl, h3, r3⟩ := trodAll_cons r2
  obtain ⟨rfl, rfl, rfl⟩ := trodAll_nil r3
  obtain rfl : args = #[v0, v1, v2, v3] := by cases args; simp_all
  obtain ⟨rfl, rfl⟩ := trodVars_none hV
  have k0 := h0
  have lt0 : ∀ x ∈ p0, x.block < W.heap.size := by obtain ⟨m, hm⟩ := k0; exact DataW.trod_lt m _ _ _ hm
  have k1 := h1
  have lt1 : ∀ x ∈ p1, x.block < W.heap.size := by obtain ⟨m, hm⟩ := k1; exact DataW.trod_lt m _ _ _ hm
  have k2 := h2
  have lt2 : ∀ x ∈ p2, x.block < W.heap.size := by obtain ⟨m, hm⟩ := k2; exact DataW.trod_lt m _ _ _ hm
  have k3 := h3
  have lt3 : ∀ x ∈ p3, x.block < W.heap.size := by obtain ⟨m, hm⟩ := k3; exact DataW.trod_lt m _ _ _ hm
  obtain ⟨a, len, cap, rfl⟩ := okWide_slice Tryd.underlying22 (hval 0 22 v0 rfl rfl)
  obtain ⟨c, f, w0⟩ : ∃ c f, IsOps W a len c f := by
    obtain ⟨fuel, hf⟩ := h0
    exact open_ops hf
  obtain ⟨a1, rfl, rfl, rfl, w1⟩ := open_int Tryd.underlying3 (hval 1 3 v1 rfl rfl) h1
  obtain ⟨a2, rfl, rfl, rfl, w2⟩ := open_int Tryd.underlying3 (hval 2 3 v2 rfl rfl) h2
  obtain ⟨a3, rfl, rfl, rfl, w3⟩ := open_int Tryd.underlying3 (hval 3 3 v3 rfl rfl) h3
  clear hA0
  have hTab := tab_of hL
  refine (walk a len cap c f a1 a2 a3 W hTab w0 w1 w2 w3).mono fun e W' ⟨he, bel⟩ => ?_
  subst he
  exact ⟨_, rfl, _, _, _, [], _, [], hW', trodAll_mk1 (shut_bool Tryd.underlying4 _), (trodAll_cons_mk (Below.trod laidOut (by kernel_rfl) (of_decide_eq_true (by kernel_rfl)) k0 bel lt0) (trodAll_cons_mk (Below.trod laidOut (by kernel_rfl) (of_decide_eq_true (by kernel_rfl)) k1 bel lt1) (trodAll_cons_mk (Below.trod laidOut (by kernel_rfl) (of_decide_eq_true (by kernel_rfl)) k2 bel lt2) (trodAll_cons_mk (Below.trod laidOut (by kernel_rfl) (of_decide_eq_true (by kernel_rfl)) k3 bel lt3) trodAll_mk0)))), rfl, bel.frame _, fun h => by cases h⟩

theorem laid_met (os : Os) : laidMet Tryd.prog Rows.bitmapAddsRow.laid ((laidWorld os).forCall (fun _ _ => 0) ⟨#[], #[.slice none 0 0, .int .i64 0, .int .i64 0, .int .i64 0], []⟩).memory :=
  laidMet_of_run' 8 (by kernel_rfl) (by kernel_rfl)
theorem reads (os : Os) {H : Type} (enc : TypeId × Value → H) : ∃ places, DataW.whole enc Tryd.prog ((laidWorld os).forCall (fun _ _ => 0) ⟨#[], #[.slice none 0 0, .int .i64 0, .int .i64 0, .int .i64 0], []⟩).memory Tryd.f4.params.toList Rows.bitmapAddsSpec.vars false (#[.slice none 0 0, .int .i64 0, .int .i64 0, .int .i64 0] : Array Value).toList 8 = some ([.nil, .lit (.int .i64 0), .lit (.int .i64 0), .lit (.int .i64 0)], [], places) :=
  ⟨[], by kernel_rfl⟩

set_option maxRecDepth 100000 in
theorem lifted (os : Os) (started : os.Started) (H : Type) (enc : TypeId × Value → H) (F : Stop.Interp) :
    ReturnsInHanded {} Tryd.checked os 4 .any ((OpenSpec.ofChange Rows.bitmapAddsSpec).preRow enc Tryd.prog Tryd.f4 Rows.bitmapAddsRow.domain false Rows.bitmapAddsRow.laid) (((OpenSpec.ofChange Rows.bitmapAddsSpec).at F).post enc Tryd.prog Tryd.f4 false true false false) := by
  obtain ⟨places, hx⟩ := reads os enc
  refine returnsInHanded_of_row (C := Tryd.checked) (s := OpenSpec.ofChange Rows.bitmapAddsSpec) own started (by kernel_rfl) Tryd.func4
    (witness_row_at (enc := enc) (C := Tryd.checked) false (laidWorld os) #[.slice none 0 0, .int .i64 0, .int .i64 0, .int .i64 0] rfl (by kernel_rfl) (by kernel_rfl) (by kernel_rfl)
      (OpenSpec.preRow_of_cond 8 hx (by kernel_rfl) (fun k hk => by cases hk) (by kernel_rfl) (laid_met os))) ?_
  intro W base args ds gs before hval hW _ _ _ hL _ _
  exact contract H enc W base args ds gs before hval hW hL

theorem said : Rows.BitmapAddsSaid :=
  OpenClaim.holds_of_cond 4 Tryd.f4 rfl rfl rfl rfl rfl rfl rfl ⟨rfl, rfl, rfl, rfl, rfl⟩ rfl rfl rfl rfl rfl (by kernel_rfl) Tryd.func4 (by kernel_rfl)
    (of_decide_eq_true (by kernel_rfl)) (by unfold Func.isWrapper; first | (rw [if_pos (by decide +kernel)]; kernel_rfl) | (rw [if_neg (by decide +kernel)]; exact ⟨rfl, rfl⟩))
    (fun os started H enc _ F => by rw [OpenClaim.pre_eq_preRow]; exact lifted os started H enc F)

theorem plain (f : FuncId) (fn : Func) (hf : Tryd.pinned.checked.prog.funcNamed "middenheap/middenheaplaw03.BitmapAdds" = some f) (hfn : Tryd.pinned.checked.prog.funcs[f]? = some fn) :
    false = Tryd.pinned.checked.prog.looks [] ∧ ∀ (j : Nat) t, fn.params[j]? = some t → Tryd.pinned.checked.prog.wantsStandIn t = false := by
  obtain rfl : f = 4 := Option.some.inj ((show Tryd.prog.funcNamed "middenheap/middenheaplaw03.BitmapAdds" = some 4 by kernel_rfl).symm.trans hf) |>.symm
  obtain rfl : fn = Tryd.f4 := (Option.some.inj (Tryd.func4.symm.trans hfn)).symm
  refine ⟨by kernel_rfl, fun j t ht => ?_⟩
  rw [Tryd.params4] at ht
  have ht2 : t = 3 ∨ t = 22 := by have := Array.mem_of_getElem? ht; simp at this; rcases this with h | h <;> subst h <;> simp
  rcases ht2 with rfl | rfl
  · exact (show Tryd.prog.wantsStandIn 3 = false by kernel_rfl)
  · exact (show Tryd.prog.wantsStandIn 22 = false by kernel_rfl)

theorem card : Rows.BitmapAddsCardSaid :=
  Claim7.holds_tied_plain_at .later [] _ _ _ _ said (fun _ h => by cases h) (by kernel_rfl) (fun _ h => by cases h) bitmapAdds_row_tie rfl ⟨rfl, rfl⟩ (by kernel_rfl) rfl plain (by kernel_rfl)
end Go.Proofs.YtbojcmaljodpmaaDoor.bitmapAdds

namespace Go.Proofs.YtbojcmaljodpmaaDoor
theorem BitmapAdds_holds : Rows.BitmapAddsCardSaid := bitmapAdds.card
#print axioms BitmapAdds_holds
end Go.Proofs.YtbojcmaljodpmaaDoor
