/-
  PROVED: middenheaplaw02.ArenaEnds returns true for every input (a raw size, any place, any number, any word), and turns nothing that was there. No condition.
-/
import Derived.Test.YtdfnehcnilmfdaaAwake
import Derived.OpenShut
import Derived.ShutString
import Derived.ChangeOld
namespace Go.Proofs.Ytdfnehcnilmfdaa.arenaEnds
open Go.ChangeShapes Go.WideShapes Go.ChangeAt Go.RowKit
open Go.ChangeMaps (open_string shut_string)
set_option linter.unusedVariables false

theorem below_of {w w' : World} (h : w.grownBy w' none) : Below w.heap.size w w' := ⟨h.os, h.tape, h.output, h.size, fun k hk => h.block k hk (by simp)⟩

theorem ldV_zero (n : Nat) (at_ : Int) : ldV (List.replicate n 0) at_ = 0 := by
  unfold ldV
  split
  · rename_i h
    simp at h
    rw [List.getD_eq_getElem?_getD, List.getElem?_replicate]
    split <;> rfl
  · rfl

theorem fits_zero {n : Nat} {a k : Int} (h : fits n a k = true) : fits n 0 k = true := by
  simp [fits] at h ⊢; omega

/-- Fill, by the answer. -/
theorem fill_b (b : Bool) (bp bw : Nat) (ws : List Int) (at_ n v : Int) (w : World) (h : Ar w bp bw ws) (m : Nat) (hm : ws.length = m) (hb : fits m at_ n = b) :
    Calls Try.prog 17 #[.pointer (some ⟨bp, 0, none⟩), .int .i64 at_, .int .i64 n, .int .u64 v] w fun e w' => e = .returned (.int .i64 (erE b)) ∧ (∃ ws', ws'.length = ws.length ∧ Ar w' bp bw ws') ∧ w.grownBy w' (some bw) := by
  subst hm
  refine (fill_any bp bw ws at_ n v w h).mono ?_
  rintro e w' ⟨rfl, h1, h2⟩
  rw [hb]
  exact ⟨rfl, ⟨_, fillW_length _ _ _ _, h1⟩, h2⟩

theorem move_b (b : Bool) (bp bw : Nat) (ws : List Int) (p q n : Int) (w : World) (h : Ar w bp bw ws) (m : Nat) (hm : ws.length = m) (hb : (fits m p n && fits m q n) = b) :
    Calls Try.prog 13 #[.pointer (some ⟨bp, 0, none⟩), .int .i64 p, .int .i64 q, .int .i64 n] w fun e w' => e = .returned (.int .i64 (erE b)) ∧ (∃ ws', ws'.length = ws.length ∧ Ar w' bp bw ws') ∧ w.grownBy w' (some bw) := by
  subst hm
  refine (move_any bp bw ws p q n w h).mono ?_
  rintro e w' ⟨rfl, h1, h2⟩
  rw [hb]
  exact ⟨rfl, ⟨_, moveW_length _ _ _ _, h1⟩, h2⟩

set_option maxHeartbeats 1000000 in
/-- The law from 'may' on, given the two tests' answers. -/
theorem walk1 (a0 a1 a2 a3 : Int) (w : World) (hc : -9223372036854775808 ≤ a0) :
    Calls Try.prog 6 #[.int .i64 a0, .int .i64 a1, .int .i64 a2, .int .u64 a3] w fun e w' => e = .returned (.bool true) ∧ Below w.heap.size w w' := by
  have hp := pk_range a0 40 (by omega)
  obtain ⟨k, hk⟩ := Int.eq_ofNat_of_zero_le hp.1
  have hk40 : k < 40 := by omega
  have HK := Lib.hid hk
  clear hp hk
  have fT : (0 ≤ a1 ∧ 0 ≤ a2 ∧ a1 ≤ 1 + k ∧ a2 ≤ 1 + k - a1) → Hid (fits (1 + k) a1 a2 = true) := fun h => by simp only [Hid, fits, decide_eq_true_eq]; omega
  have fF : ¬ (0 ≤ a1 ∧ 0 ≤ a2 ∧ a1 ≤ 1 + k ∧ a2 ≤ 1 + k - a1) → Hid (fits (1 + k) a1 a2 = false) := fun h => by simp only [Hid, fits, decide_eq_false_iff_not]; omega
  have eT : (0 ≤ a1 ∧ a1 < 1 + k) → Hid (ldE (1 + k) a1 = 0) := fun h => by unfold Hid ldE; rw [if_pos (by omega)]
  have eF : ¬ (0 ≤ a1 ∧ a1 < 1 + k) → Hid (ldE (1 + k) a1 = 20) := fun h => by unfold Hid ldE; rw [if_neg (by omega)]
  have cs : (0 ≤ a1 ∧ a1 < 1 + k ∧ 0 ≤ a2 ∧ a1 ≤ 1 + k ∧ a2 ≤ 1 + k - a1 ∧ Hid (fits (1 + k) a1 a2 = true) ∧ Hid (ldE (1 + k) a1 = 0))
      ∨ (0 ≤ a1 ∧ a1 < 1 + k ∧ 0 ≤ a2 ∧ a1 ≤ 1 + k ∧ ¬ a2 ≤ 1 + k - a1 ∧ Hid (fits (1 + k) a1 a2 = false) ∧ Hid (ldE (1 + k) a1 = 0))
      ∨ (0 ≤ a1 ∧ a1 < 1 + k ∧ ¬ 0 ≤ a2 ∧ a1 ≤ 1 + k ∧ True ∧ Hid (fits (1 + k) a1 a2 = false) ∧ Hid (ldE (1 + k) a1 = 0))
      ∨ (0 ≤ a1 ∧ ¬ a1 < 1 + k ∧ 0 ≤ a2 ∧ a1 ≤ 1 + k ∧ a2 ≤ 1 + k - a1 ∧ Hid (fits (1 + k) a1 a2 = true) ∧ Hid (ldE (1 + k) a1 = 20))
      ∨ (0 ≤ a1 ∧ ¬ a1 < 1 + k ∧ 0 ≤ a2 ∧ a1 ≤ 1 + k ∧ ¬ a2 ≤ 1 + k - a1 ∧ Hid (fits (1 + k) a1 a2 = false) ∧ Hid (ldE (1 + k) a1 = 20))
      ∨ (0 ≤ a1 ∧ ¬ a1 < 1 + k ∧ 0 ≤ a2 ∧ ¬ a1 ≤ 1 + k ∧ True ∧ Hid (fits (1 + k) a1 a2 = false) ∧ Hid (ldE (1 + k) a1 = 20))
      ∨ (0 ≤ a1 ∧ ¬ a1 < 1 + k ∧ ¬ 0 ≤ a2 ∧ True ∧ True ∧ Hid (fits (1 + k) a1 a2 = false) ∧ Hid (ldE (1 + k) a1 = 20))
      ∨ (¬ 0 ≤ a1 ∧ True ∧ True ∧ True ∧ True ∧ Hid (fits (1 + k) a1 a2 = false) ∧ Hid (ldE (1 + k) a1 = 20)) := by
    by_cases c1 : 0 ≤ a1
    · by_cases c2 : a1 < 1 + k
      · by_cases c3 : 0 ≤ a2
        · by_cases c4 : a2 ≤ 1 + k - a1
          · exact .inl ⟨c1, c2, c3, by omega, c4, fT (by omega), eT (by omega)⟩
          · exact .inr (.inl ⟨c1, c2, c3, by omega, c4, fF (by omega), eT (by omega)⟩)
        · exact .inr (.inr (.inl ⟨c1, c2, c3, by omega, trivial, fF (by omega), eT (by omega)⟩))
      · by_cases c3 : 0 ≤ a2
        · by_cases c5 : a1 ≤ 1 + k
          · by_cases c4 : a2 ≤ 1 + k - a1
            · exact .inr (.inr (.inr (.inl ⟨c1, c2, c3, c5, c4, fT (by omega), eF (by omega)⟩)))
            · exact .inr (.inr (.inr (.inr (.inl ⟨c1, c2, c3, c5, c4, fF (by omega), eF (by omega)⟩))))
          · exact .inr (.inr (.inr (.inr (.inr (.inl ⟨c1, c2, c3, c5, trivial, fF (by omega), eF (by omega)⟩)))))
        · exact .inr (.inr (.inr (.inr (.inr (.inr (.inl ⟨c1, c2, c3, trivial, trivial, fF (by omega), eF (by omega)⟩))))))
    · exact .inr (.inr (.inr (.inr (.inr (.inr (.inr ⟨c1, trivial, trivial, trivial, trivial, fF (by omega), eF (by omega)⟩))))))
  clear fT fF eT eF
  have key : ∀ b, fits (1 + k) a1 a2 = b → (fits (1 + k) a1 a2 && fits (1 + k) 0 a2) = b ∧ (fits (1 + k) 0 a2 && fits (1 + k) a1 a2) = b := by
    intro b hb
    cases b with
    | false => rw [hb]; simp
    | true => rw [hb, fits_zero hb]; simp
  have KEY := Lib.hid key
  clear key
  rcases cs with ⟨c1, c2, c3, c4, c5, HF, HE⟩ | ⟨c1, c2, c3, c4, c5, HF, HE⟩ | ⟨c1, c2, c3, c4, c5, HF, HE⟩ | ⟨c1, c2, c3, c4, c5, HF, HE⟩ | ⟨c1, c2, c3, c4, c5, HF, HE⟩ | ⟨c1, c2, c3, c4, c5, HF, HE⟩ | ⟨c1, c2, c3, c4, c5, HF, HE⟩ | ⟨c1, c2, c3, c4, c5, HF, HE⟩
  all_goals
    go_enter Try.func6, Try.ntmps6
    go_wp2_with fail
    refine (awake_any w).mono ?_
    rintro e w1 ⟨rfl, g1⟩
    go_wp2_with fail
    refine (pick_any a0 40 w1 hc (by omega)).mono ?_
    rw [HK.out]
    rintro e w2 ⟨rfl, rfl⟩
    go_wp2_with fail
    refine (new_in _ w1 (by omega) (by omega)).mono ?_
    rintro e w2 ⟨rfl, hA, g2, hsz⟩
    rw [show (1 + (k : Int)).toNat = 1 + k by omega] at hA
    have HS := Lib.hid hsz
    clear hsz
    go_wp2_with fail
    refine (load_any _ _ _ a1 w2 hA).mono ?_
    rw [ldV_zero, List.length_replicate, HE.out]
    rintro e w3 ⟨rfl, rfl⟩
    go_wp2_with fail
    refine (fill_b _ _ _ _ a1 a2 a3 w2 hA (1 + k) List.length_replicate HF.out).mono ?_
    rintro e w3 ⟨rfl, ⟨ws3, hl3, hA3⟩, g3⟩
    rw [List.length_replicate] at hl3
    have HL3 := Lib.hid hl3
    clear hl3
    simp only [erE]
    go_wp2_with fail
    refine (move_b _ _ _ _ a1 0 a2 w3 hA3 (1 + k) HL3.out (KEY.out _ HF.out).1).mono ?_
    rintro e w4 ⟨rfl, ⟨ws4, hl4, hA4⟩, g4⟩
    rw [HL3.out] at hl4
    have HL4 := Lib.hid hl4
    clear hl4
    simp only [erE]
    go_wp2_with fail
    refine (move_b _ _ _ _ 0 a1 a2 w4 hA4 (1 + k) HL4.out (KEY.out _ HF.out).2).mono ?_
    rintro e w5 ⟨rfl, ⟨ws5, hl5, hA5⟩, g5⟩
    clear hl5
    simp only [erE]
    go_wp2_with fail
    refine (new_out _ w5 (by omega)).mono ?_
    rintro e w6 ⟨rfl, rfl⟩
    go_wp2_with fail
    refine (new_out _ w5 (by omega)).mono ?_
    rintro e w6 ⟨rfl, rfl⟩
    go_wp2_with fail
    go_ret
    have hsz1 := g1.size
    exact ⟨rfl, below_of (gb_new (gb_new (gb_new (gb_new g1 g2 (by simp)) g3 (by simp; omega)) g4 (by simp; omega)) g5 (by simp; omega))⟩

theorem walk (a0 a1 a2 a3 : Int) (w : World) (w0 : (Lit.int .i64 a0).wf = true) :
    Calls Try.prog 6 #[.int .i64 a0, .int .i64 a1, .int .i64 a2, .int .u64 a3] w fun e w' => e = .returned (.bool true) ∧ Below w.heap.size w w' :=
  walk1 a0 a1 a2 a3 w (by have := w0; simp [Lit.wf, IntKind.min, IntKind.max, IntKind.signed, IntKind.bits] at this; omega)

theorem own : ownKnob Try.prog.godebug = none := by kernel_rfl
theorem laidOut : laidOutB Try.prog = true := by kernel_rfl

set_option maxRecDepth 100000 in
theorem lifted (os : Os) (started : os.Started) (H : Type) (enc : TypeId × Value → H) :
    ReturnsInHanded {} Try.checked os 6 .any (Rows.arenaEndsSpec.pre6 enc Try.prog Try.f6 Rows.arenaEndsRow.domain false) (Rows.arenaEndsSpec.post enc Try.prog Try.f6 false true false false) := by
  refine returnsInHanded_of_change (C := Try.checked) own started (by kernel_rfl) Try.func6
    (ChangeSpec.witness6 (enc := enc) (C := Try.checked) false ⟨#[], #[.int .i64 0, .int .i64 0, .int .i64 0, .int .u64 0], []⟩ 8 (by kernel_rfl) (by kernel_rfl) (by kernel_rfl) (by kernel_rfl)) ?_
  intro W base args ds gs before hval0 hW hcnd _
  have hval : ∀ (j : Nat) t v, Try.f6.params[j]? = some t → args[j]? = some v → Value.okWide Try.prog W .any base t v := hval0
  have hW' := hW
  obtain ⟨p, q, hA0, hV, rfl, hfz, hnd⟩ := hW
  have hA : DataW.TrodAll enc Try.prog W 0 (fun _ => true) true Try.f6.params.toList args.toList ds p := hA0
  rw [Try.params6] at hA hval
  obtain ⟨v0, vs0, d0, ds0, p0, q0, hargs, rfl, rfl, h0, r0⟩ := trodAll_cons hA
  obtain ⟨v1, vs1, d1, ds1, p1, q1, rfl, rfl, rfl, h1, r1⟩ := trodAll_cons r0
  obtain ⟨v2, vs2, d2, ds2, p2, q2, rfl, rfl, rfl, h2, r2⟩ := trodAll_cons r1
  obtain ⟨v3, vs3, d3, ds3, p3, q3, rfl, rfl, rfl, h3, r3⟩ := trodAll_cons r2
  obtain ⟨rfl, rfl, rfl⟩ := trodAll_nil r3
  obtain rfl : args = #[v0, v1, v2, v3] := by cases args; simp_all
  obtain ⟨rfl, rfl⟩ := trodVars_none hV
  have k0 := h0
  have lt0 : ∀ x ∈ p0, x.block < W.heap.size := by obtain ⟨m, hm⟩ := k0; exact DataW.trod_lt m _ _ _ hm
  have k1 := h1
  have lt1 : ∀ x ∈ p1, x.block < W.heap.size := by obtain ⟨m, hm⟩ := k1; exact DataW.trod_lt m _ _ _ hm
  have k2 := h2
  have lt2 : ∀ x ∈ p2, x.block < W.heap.size := by obtain ⟨m, hm⟩ := k2; exact DataW.trod_lt m _ _ _ hm
  have k3 := h3
  have lt3 : ∀ x ∈ p3, x.block < W.heap.size := by obtain ⟨m, hm⟩ := k3; exact DataW.trod_lt m _ _ _ hm
  obtain ⟨a0, rfl, rfl, rfl, w0⟩ := open_int Try.underlying3 (hval 0 3 v0 rfl rfl) h0
  obtain ⟨a1, rfl, rfl, rfl, w1⟩ := open_int Try.underlying3 (hval 1 3 v1 rfl rfl) h1
  obtain ⟨a2, rfl, rfl, rfl, w2⟩ := open_int Try.underlying3 (hval 2 3 v2 rfl rfl) h2
  obtain ⟨a3, rfl, rfl, rfl, w3⟩ := open_int Try.underlying29 (hval 3 29 v3 rfl rfl) h3
  clear hA0 hval0
  refine (walk a0 a1 a2 a3 W w0).mono fun e W' ⟨he, bel⟩ => ?_
  subst he
  exact ⟨_, rfl, _, _, _, [], _, [], hW', trodAll_mk1 (shut_bool Try.underlying4 _), (trodAll_cons_mk (Below.trod laidOut (by kernel_rfl) (of_decide_eq_true (by kernel_rfl)) k0 bel lt0) (trodAll_cons_mk (Below.trod laidOut (by kernel_rfl) (of_decide_eq_true (by kernel_rfl)) k1 bel lt1) (trodAll_cons_mk (Below.trod laidOut (by kernel_rfl) (of_decide_eq_true (by kernel_rfl)) k2 bel lt2) (trodAll_cons_mk (Below.trod laidOut (by kernel_rfl) (of_decide_eq_true (by kernel_rfl)) k3 bel lt3) trodAll_mk0)))), rfl, bel.frame _, fun h => by cases h⟩

theorem over : Rows.arenaEndsRow.holds Try.pinned (OpenSpec.ofChange Rows.arenaEndsSpec) :=
  OpenClaim.holds_of_wide 6 Try.f6 rfl rfl rfl rfl rfl rfl rfl ⟨rfl, rfl, rfl, rfl, rfl⟩ rfl rfl rfl rfl rfl (by kernel_rfl) Try.func6 (by kernel_rfl)
    (of_decide_eq_true (by kernel_rfl)) (by unfold Func.isWrapper; first | (rw [if_pos (by decide +kernel)]; kernel_rfl) | (rw [if_neg (by decide +kernel)]; exact ⟨rfl, rfl⟩))
    (fun os started H enc _ => lifted os started H enc)

theorem proved : Rows.ArenaEndsSaid := over
end Go.Proofs.Ytdfnehcnilmfdaa.arenaEnds

namespace Go.Proofs.Ytdfnehcnilmfdaa
theorem ArenaEnds_holds : Rows.ArenaEndsSaid := arenaEnds.proved
#print axioms ArenaEnds_holds
end Go.Proofs.Ytdfnehcnilmfdaa
