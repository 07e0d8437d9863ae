/-
  PROVED: the card of middenheaplaw03.BitmapBound: it returns true for every input (a raw bound, any number) and turns nothing that was there; the library's table is as its text lays it (tied).
-/
import Derived.Test.YtbojcmaljodpmaaDoorLaid
namespace Go.Proofs.YtbojcmaljodpmaaDoor.bitmapBound
open Go.ChangeShapes Go.WideShapes Go.ChangeAt Go.RowKit
open Go.ChangeMaps (open_string shut_string)
set_option linter.unusedVariables false

theorem mem_last (S : Nat → Bool) (x : Nat) (h : S x = true) : mem S x (x + 1) = [x] := by
  rw [mem_succ S x x (Nat.le_refl _) h, mem_self]; rfl

theorem i64_lo {a : Int} (h : (Lit.int .i64 a).wf = true) : -9223372036854775808 ≤ a := by
  simp [Lit.wf, IntKind.min, IntKind.max, IntKind.signed, IntKind.bits] at h; omega
theorem i64_hi {a : Int} (h : (Lit.int .i64 a).wf = true) : a ≤ 9223372036854775807 := by
  simp [Lit.wf, IntKind.min, IntKind.max, IntKind.signed, IntKind.bits] at h; omega

set_option maxRecDepth 100000 in
set_option maxHeartbeats 2000000 in
theorem walk (a0 a1 : Int) (w : World) (hT : Tab w) (w0 : (Lit.int .i64 a0).wf = true) (w1 : (Lit.int .i64 a1).wf = true) :
    Calls Tryd.prog 5 #[.int .i64 a0, .int .i64 a1] w fun e w' => e = .returned (.bool true) ∧ Below w.heap.size w w' := by
  have hlo := i64_lo w0
  have hlo1 := i64_lo w1
  have hhi1 := i64_hi w1
  clear w0 w1
  have hp := pk_range a0 65537 (by omega)
  obtain ⟨m, hm⟩ := Int.eq_ofNat_of_zero_le hp.1
  have hm2 : m ≤ 65536 := by omega
  have HK := Lib.hid hm
  clear hp hm
  have HT := Lib.hid hT
  clear hT
  have hcs : m = 0 ∨ ∃ x, m = x + 1 := by
    rcases Nat.eq_zero_or_pos m with h | h
    · exact .inl h
    · exact .inr ⟨m - 1, by omega⟩
  rcases hcs with rfl | ⟨x, rfl⟩
  · have hout : a1 < 0 ∨ 0 ≤ a1 := by omega
    rcases hout with hout | hout
    all_goals
      go_enter Tryd.func5, Tryd.ntmps5
      go_wp2_with fail
      refine (awake_any w HT.out).mono ?_
      rintro e w1 ⟨rfl, g1, t1⟩
      have HT1 := Lib.hid t1
      clear t1
      go_wp2_with fail
      refine (pick_any a0 65537 w1 hlo (by omega)).mono ?_
      rw [HK.out]
      rintro e w2 ⟨rfl, rfl⟩
      go_wp2_with fail
      refine (s_new 0 (by omega) w1 HT1.out).mono ?_
      rintro e w2 ⟨rfl, hA0, g2, hsz⟩
      have hA := hA0.later (gb_new g1 g2 (by simp)) g1.size HT.out.pos
      have HS := Lib.hid hsz
      clear hsz hA0 g1 g2
      generalize w1.heap.size = N1 at *
      go_wp2_with fail
      refine (s_set_out a1 (by omega) hA).mono ?_
      rintro e w3 ⟨rfl, rfl⟩
      go_wp2_with fail
      refine (s_has_int a1 hA).mono ?_
      rw [Bool.and_false]
      rintro e w3 ⟨rfl, rfl⟩
      go_wp2_with fail
      refine (s_set_out _ (by omega) hA).mono ?_
      rintro e w3 ⟨rfl, rfl⟩
      go_wp2_with fail
      refine (s_set_out _ (by omega) hA).mono ?_
      rintro e w3 ⟨rfl, rfl⟩
      go_wp2_with fail
      refine (s_next _ (by omega) (by omega) hA).mono ?_
      rw [mem_nil _ _ _ (by omega), show nxV [] = .tuple #[.int .i64 0, .bool false] from rfl]
      rintro e w9 ⟨rfl, hA9, _⟩
      go_wp2_with fail
      go_ret
      exact ⟨rfl, below_of hA9.gr⟩
  · have hcs : (0 ≤ a1 ∧ a1 < x) ∨ a1 = x ∨ (a1 < 0 ∨ (x : Int) + 1 ≤ a1) := by omega
    rcases hcs with ⟨h1, h2⟩ | h1 | h1
    · obtain ⟨i, rfl⟩ := Int.eq_ofNat_of_zero_le h1
      have hix : i < x := by omega
      have t1 : (((i : Nat) : Int) != (x : Int)) = true := by rw [bne_iff_ne]; omega
      have t2 : (((i : Nat) : Int) != (x : Int) + 1 - 1) = true := by rw [bne_iff_ne]; omega
      go_enter Tryd.func5, Tryd.ntmps5
      go_wp2_with fail
      refine (awake_any w HT.out).mono ?_
      rintro e w1 ⟨rfl, g1, t1⟩
      have HT1 := Lib.hid t1
      clear t1
      go_wp2_with fail
      refine (pick_any a0 65537 w1 hlo (by omega)).mono ?_
      rw [HK.out]
      rintro e w2 ⟨rfl, rfl⟩
      go_wp2_with fail
      refine (s_new (x + 1) (by omega) w1 HT1.out).mono ?_
      rintro e w2 ⟨rfl, hA0, g2, hsz⟩
      have hA := hA0.later (gb_new g1 g2 (by simp)) g1.size HT.out.pos
      have HS := Lib.hid hsz
      clear hsz hA0 g1 g2
      generalize w1.heap.size = N1 at *
      go_wp2_with fail
      refine (s_set i (by omega) hA).mono ?_
      rw [Bool.not_false]
      rintro e w3 ⟨rfl, hA3, _⟩
      go_wp2_with fail
      refine (s_has i hA3).mono ?_
      rw [show upd (fun _ => false) i true i = true by simp [upd]]
      rintro e w4 ⟨rfl, rfl⟩
      go_wp2_with fail
      refine (s_set_out _ (by omega) hA3).mono ?_
      rintro e w4 ⟨rfl, rfl⟩
      go_wp2_with fail
      refine (s_set_out _ (by omega) hA3).mono ?_
      rintro e w4 ⟨rfl, rfl⟩
      go_wp2_with fail
      try rw [show (x : Int) + 1 - 1 = x by omega]
      refine (s_set x (by omega) hA3).mono ?_
      rw [show upd (fun _ => false) i true x = false by simp [upd]; omega, Bool.not_false]
      rintro e w4 ⟨rfl, hA4, _⟩
      go_wp2_with fail
      refine (s_next _ (by omega) (by omega) hA4).mono ?_
      rw [Int.toNat_natCast, mem_last _ x (by simp [upd]), show nxV [x] = .tuple #[.int .i64 (x : Nat), .bool true] from rfl]
      rintro e w9 ⟨rfl, hA9, _⟩
      go_wp2_with fail
      go_ret
      exact ⟨rfl, below_of hA9.gr⟩
    · subst h1
      have t1 : (((x : Nat) : Int) != (x : Int) + 1 - 1) = false := by rw [bne_eq_false_iff_eq]; omega
      go_enter Tryd.func5, Tryd.ntmps5
      go_wp2_with fail
      refine (awake_any w HT.out).mono ?_
      rintro e w1 ⟨rfl, g1, t1⟩
      have HT1 := Lib.hid t1
      clear t1
      go_wp2_with fail
      refine (pick_any a0 65537 w1 hlo (by omega)).mono ?_
      rw [HK.out]
      rintro e w2 ⟨rfl, rfl⟩
      go_wp2_with fail
      refine (s_new (x + 1) (by omega) w1 HT1.out).mono ?_
      rintro e w2 ⟨rfl, hA0, g2, hsz⟩
      have hA := hA0.later (gb_new g1 g2 (by simp)) g1.size HT.out.pos
      have HS := Lib.hid hsz
      clear hsz hA0 g1 g2
      generalize w1.heap.size = N1 at *
      go_wp2_with fail
      refine (s_set x (by omega) hA).mono ?_
      rw [Bool.not_false]
      rintro e w3 ⟨rfl, hA3, _⟩
      go_wp2_with fail
      refine (s_has x hA3).mono ?_
      rw [show upd (fun _ => false) x true x = true by simp [upd]]
      rintro e w4 ⟨rfl, rfl⟩
      go_wp2_with fail
      refine (s_set_out _ (by omega) hA3).mono ?_
      rintro e w4 ⟨rfl, rfl⟩
      go_wp2_with fail
      refine (s_set_out _ (by omega) hA3).mono ?_
      rintro e w4 ⟨rfl, rfl⟩
      go_wp2_with fail
      refine (s_next _ (by omega) (by omega) hA3).mono ?_
      rw [Int.toNat_natCast, mem_last _ x (by simp [upd]), show nxV [x] = .tuple #[.int .i64 (x : Nat), .bool true] from rfl]
      rintro e w9 ⟨rfl, hA9, _⟩
      go_wp2_with fail
      go_ret
      exact ⟨rfl, below_of hA9.gr⟩
    · have t2 : (a1 != (x : Int) + 1 - 1) = true := by rw [bne_iff_ne]; omega
      have t3 : (a1 != (x : Int)) = true := by rw [bne_iff_ne]; omega
      have hcc := h1
      rcases h1 with h1 | h1
      all_goals
        go_enter Tryd.func5, Tryd.ntmps5
        go_wp2_with fail
        refine (awake_any w HT.out).mono ?_
        rintro e w1 ⟨rfl, g1, t1⟩
        have HT1 := Lib.hid t1
        clear t1
        go_wp2_with fail
        refine (pick_any a0 65537 w1 hlo (by omega)).mono ?_
        rw [HK.out]
        rintro e w2 ⟨rfl, rfl⟩
        go_wp2_with fail
        refine (s_new (x + 1) (by omega) w1 HT1.out).mono ?_
        rintro e w2 ⟨rfl, hA0, g2, hsz⟩
        have hA := hA0.later (gb_new g1 g2 (by simp)) g1.size HT.out.pos
        have HS := Lib.hid hsz
        clear hsz hA0 g1 g2
        generalize w1.heap.size = N1 at *
        go_wp2_with fail
        refine (s_set_out a1 (by simpa using hcc) hA).mono ?_
        rintro e w3 ⟨rfl, rfl⟩
        go_wp2_with fail
        refine (s_has_int a1 hA).mono ?_
        rw [Bool.and_false]
        rintro e w3 ⟨rfl, rfl⟩
        go_wp2_with fail
        refine (s_set_out _ (by omega) hA).mono ?_
        rintro e w3 ⟨rfl, rfl⟩
        go_wp2_with fail
        refine (s_set_out _ (by omega) hA).mono ?_
        rintro e w3 ⟨rfl, rfl⟩
        go_wp2_with fail
        try rw [show (x : Int) + 1 - 1 = x by omega]
        refine (s_set x (by omega) hA).mono ?_
        rw [Bool.not_false]
        rintro e w4 ⟨rfl, hA4, _⟩
        go_wp2_with fail
        refine (s_next _ (by omega) (by omega) hA4).mono ?_
        rw [Int.toNat_natCast, mem_last _ x (by simp [upd]), show nxV [x] = .tuple #[.int .i64 (x : Nat), .bool true] from rfl]
        rintro e w9 ⟨rfl, hA9, _⟩
        go_wp2_with fail
        go_ret
        exact ⟨rfl, below_of hA9.gr⟩

/-- What the walk gives, for every argument and every world that holds the table. -/
theorem contract (H : Type) (enc : TypeId × Value → H) (W : World) (base : Nat) (args : Array Value) (ds gs : List (DataW H)) (before : List MemPlace)
    (hval : ∀ (j : Nat) t v, Tryd.f5.params[j]? = some t → args[j]? = some v → Value.okWide Tryd.prog W .any base t v)
    (hW : DataW.Whole enc Tryd.prog Tryd.f5.params.toList Rows.bitmapBoundSpec.vars false W args.toList ds gs before) (hL : laidMetH Tryd.prog Rows.bitmapBoundRow.laid W) :
    Calls Tryd.prog 5 args W fun e W' => ∃ v, e = .returned v ∧ Rows.bitmapBoundSpec.post enc Tryd.prog Tryd.f5 false true false false W args v W' := by
  have hW' := hW
  obtain ⟨p, q, hA0, hV, rfl, hfz, hnd⟩ := hW
  have hA : DataW.TrodAll enc Tryd.prog W 0 (fun _ => true) true Tryd.f5.params.toList args.toList ds p := hA0
  rw [Tryd.params5] at hA hval
  obtain ⟨v0, vs0, d0, ds0, p0, q0, hargs, rfl, rfl, h0, r0⟩ := trodAll_cons hA
  obtain ⟨v1, vs1, d1, ds1, p1, q1, rfl, rfl, rfl, h1, r1⟩ := trodAll_cons r0
  obtain ⟨rfl, rfl, rfl⟩ := trodAll_nil r1
  obtain rfl : args = #[v0, v1] := by cases args; simp_all
  obtain ⟨rfl, rfl⟩ := trodVars_none hV
  have k0 := h0
  have lt0 : ∀ x ∈ p0, x.block < W.heap.size := by obtain ⟨m, hm⟩ := k0; exact DataW.trod_lt m _ _ _ hm
  have k1 := h1
  have lt1 : ∀ x ∈ p1, x.block < W.heap.size := by obtain ⟨m, hm⟩ := k1; exact DataW.trod_lt m _ _ _ hm
  obtain ⟨a0, rfl, rfl, rfl, w0⟩ := open_int Tryd.underlying3 (hval 0 3 v0 rfl rfl) h0
  obtain ⟨a1, rfl, rfl, rfl, w1⟩ := open_int Tryd.underlying3 (hval 1 3 v1 rfl rfl) h1
  clear hA0
  have hTab := tab_of hL
  refine (walk a0 a1 W hTab w0 w1).mono fun e W' ⟨he, bel⟩ => ?_
  subst he
  exact ⟨_, rfl, _, _, _, [], _, [], hW', trodAll_mk1 (shut_bool Tryd.underlying4 _), (trodAll_cons_mk (Below.trod laidOut (by kernel_rfl) (of_decide_eq_true (by kernel_rfl)) k0 bel lt0) (trodAll_cons_mk (Below.trod laidOut (by kernel_rfl) (of_decide_eq_true (by kernel_rfl)) k1 bel lt1) trodAll_mk0)), rfl, bel.frame _, fun h => by cases h⟩

theorem laid_met (os : Os) : laidMet Tryd.prog Rows.bitmapBoundRow.laid ((laidWorld os).forCall (fun _ _ => 0) ⟨#[], #[.int .i64 0, .int .i64 0], []⟩).memory :=
  laidMet_of_run' 8 (by kernel_rfl) (by kernel_rfl)
theorem reads (os : Os) {H : Type} (enc : TypeId × Value → H) : ∃ places, DataW.whole enc Tryd.prog ((laidWorld os).forCall (fun _ _ => 0) ⟨#[], #[.int .i64 0, .int .i64 0], []⟩).memory Tryd.f5.params.toList Rows.bitmapBoundSpec.vars false (#[.int .i64 0, .int .i64 0] : Array Value).toList 8 = some ([.lit (.int .i64 0), .lit (.int .i64 0)], [], places) :=
  ⟨[], by kernel_rfl⟩

set_option maxRecDepth 100000 in
theorem lifted (os : Os) (started : os.Started) (H : Type) (enc : TypeId × Value → H) (F : Stop.Interp) :
    ReturnsInHanded {} Tryd.checked os 5 .any ((OpenSpec.ofChange Rows.bitmapBoundSpec).preRow enc Tryd.prog Tryd.f5 Rows.bitmapBoundRow.domain false Rows.bitmapBoundRow.laid) (((OpenSpec.ofChange Rows.bitmapBoundSpec).at F).post enc Tryd.prog Tryd.f5 false true false false) := by
  obtain ⟨places, hx⟩ := reads os enc
  refine returnsInHanded_of_row (C := Tryd.checked) (s := OpenSpec.ofChange Rows.bitmapBoundSpec) own started (by kernel_rfl) Tryd.func5
    (witness_row_at (enc := enc) (C := Tryd.checked) false (laidWorld os) #[.int .i64 0, .int .i64 0] rfl (by kernel_rfl) (by kernel_rfl) (by kernel_rfl)
      (OpenSpec.preRow_of_cond 8 hx (by kernel_rfl) (fun k hk => by cases hk) (by kernel_rfl) (laid_met os))) ?_
  intro W base args ds gs before hval hW _ _ _ hL _ _
  exact contract H enc W base args ds gs before hval hW hL

theorem said : Rows.BitmapBoundSaid :=
  OpenClaim.holds_of_cond 5 Tryd.f5 rfl rfl rfl rfl rfl rfl rfl ⟨rfl, rfl, rfl, rfl, rfl⟩ rfl rfl rfl rfl rfl (by kernel_rfl) Tryd.func5 (by kernel_rfl)
    (of_decide_eq_true (by kernel_rfl)) (by unfold Func.isWrapper; first | (rw [if_pos (by decide +kernel)]; kernel_rfl) | (rw [if_neg (by decide +kernel)]; exact ⟨rfl, rfl⟩))
    (fun os started H enc _ F => by rw [OpenClaim.pre_eq_preRow]; exact lifted os started H enc F)

theorem plain (f : FuncId) (fn : Func) (hf : Tryd.pinned.checked.prog.funcNamed "middenheap/middenheaplaw03.BitmapBound" = some f) (hfn : Tryd.pinned.checked.prog.funcs[f]? = some fn) :
    false = Tryd.pinned.checked.prog.looks [] ∧ ∀ (j : Nat) t, fn.params[j]? = some t → Tryd.pinned.checked.prog.wantsStandIn t = false := by
  obtain rfl : f = 5 := Option.some.inj ((show Tryd.prog.funcNamed "middenheap/middenheaplaw03.BitmapBound" = some 5 by kernel_rfl).symm.trans hf) |>.symm
  obtain rfl : fn = Tryd.f5 := (Option.some.inj (Tryd.func5.symm.trans hfn)).symm
  refine ⟨by kernel_rfl, fun j t ht => ?_⟩
  rw [Tryd.params5] at ht
  have ht2 : t = 3 := by have := Array.mem_of_getElem? ht; simp at this; omega
  rcases ht2 with rfl
  · exact (show Tryd.prog.wantsStandIn 3 = false by kernel_rfl)

theorem card : Rows.BitmapBoundCardSaid :=
  Claim7.holds_tied_plain_at .later [] _ _ _ _ said (fun _ h => by cases h) (by kernel_rfl) (fun _ h => by cases h) bitmapBound_row_tie rfl ⟨rfl, rfl⟩ (by kernel_rfl) rfl plain (by kernel_rfl)
end Go.Proofs.YtbojcmaljodpmaaDoor.bitmapBound

namespace Go.Proofs.YtbojcmaljodpmaaDoor
theorem BitmapBound_holds : Rows.BitmapBoundCardSaid := bitmapBound.card
#print axioms BitmapBound_holds
end Go.Proofs.YtbojcmaljodpmaaDoor
