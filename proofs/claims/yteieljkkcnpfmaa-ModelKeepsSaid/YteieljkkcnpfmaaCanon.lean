/-
  Canon at the example's model: the closure.
-/
import Derived.Test.YteieljkkcnpfmaaOwnModel
import Derived.Maps.OwnOps
import Derived.Maps.OwnSet
namespace Go.Proofs.Yteieljkkcnpfmaa
open Go.ChangeShapes Go.WideShapes Go.ChangeAt Go.RowKit Go.Maps
set_option linter.unusedVariables false

theorem law3 : Keyed Try.prog 3 := int_keyed Try.underlying3
theorem zero3 (w : World) : (zeroValue 3).run Try.prog w = .ok (.int .i64 0) w := by kernel_rfl
/-- A map of ints at b. -/
def Mp (w : World) (b n : Nat) (D : DataW Unit) : Prop := w.ownsMap Try.prog 3 (plainElem Try.prog 3) b n D
def D0 : DataW Unit := .map []
def D7 : DataW Unit := D0.put (.int .i64 7) (.lit (.int .i64 0))
theorem key7 : keyOf Try.prog 3 (.int .i64 7) = some (.int .i64 7) := keyOf_int_mk Try.underlying3 (by decide)
theorem key0 : keyOf Try.prog 3 (.int .i64 0) = some (.int .i64 0) := keyOf_int_mk Try.underlying3 (by decide)
theorem has70 : Maps.has D7 (.int .i64 0) = false := by rfl
theorem has77 : Maps.has D7 (.int .i64 7) = true := by rfl
theorem has07 : Maps.has D0 (.int .i64 7) = false := by rfl

set_option maxHeartbeats 2000000 in
theorem come0 (B5 B10 B11 M1 : Nat) (w : World) (h5 : w.cell? ⟨B5, 0, none⟩ = some (.map (some M1))) (hM : Mp w M1 1 D7) :
    Calls Try.prog 28 #[.int .i64 0, .pointer (some ⟨B5, 0, none⟩), .pointer (some ⟨B10, 0, none⟩), .pointer (some ⟨B11, 0, none⟩)] w fun e w' => (∃ v, e = .returned v) ∧ w = w' := by
  have HM := Lib.hid hM
  clear hM
  go_enter Try.func28, Try.ntmps28
  go_wp2_with (at_lookup; go_must (refine wpList_lookup_own_ok_int _ rfl _ _ 64 rfl 3 3 .i64 law3 Try.underlying64 Try.underlying3 (zero3 _) M1 1 D7 rfl HM.out _ _ rfl key0 ?_); intro c hat hwc; rw [has70]; clear hat)
  exact bodyPost_ret (v := .tuple #[]) (by simp [results, Try.results28, go_sem]) rfl ⟨⟨_, rfl⟩, rfl⟩
theorem at77 {c : Int} (h : D7.atKey (.int .i64 7) (.lit (.int .i64 0)) = .lit (.int .i64 c)) : c = 0 := by
  have e : D7.atKey (.int .i64 7) (.lit (.int .i64 0)) = .lit (.int .i64 0) := rfl
  rw [e] at h
  injection h with h
  injection h with _ h
  exact h.symm
/-- What come leaves behind the first root. -/
def Come7 (w : World) (M2 B11 : Nat) (w' : World) : Prop :=
  Mp w' M2 1 D7 ∧ (∃ g cap, w'.cell? ⟨B11, 0, none⟩ = some (.slice (some ⟨g, 0, none⟩) 1 cap) ∧ w.heap.size ≤ g ∧ Rd w' (some ⟨g, 0, none⟩) 1 [0]) ∧ Zf (fun k => k = M2 ∨ k = B11) w w'

set_option maxHeartbeats 2000000 in
theorem come7 (B5 B10 B11 M1 M2 : Nat) (w : World) (h5 : w.cell? ⟨B5, 0, none⟩ = some (.map (some M1))) (h10 : w.cell? ⟨B10, 0, none⟩ = some (.map (some M2))) (h11 : Blk w B11 39 #[.slice none 0 0]) (hM : Mp w M1 1 D7) (hM2 : Mp w M2 0 D0) (n1 : B5 ≠ M2) (n2 : B10 ≠ M2) (n3 : B11 ≠ M2) :
    Calls Try.prog 28 #[.int .i64 7, .pointer (some ⟨B5, 0, none⟩), .pointer (some ⟨B10, 0, none⟩), .pointer (some ⟨B11, 0, none⟩)] w fun e w' => (∃ v, e = .returned v) ∧ Come7 w M2 B11 w' := by
  have HM := Lib.hid hM
  have HM2 := Lib.hid hM2
  have HB := Lib.hid h11
  have c11 : w.cell? ⟨B11, 0, none⟩ = some (.slice none 0 0) := h11.cell 0
  clear hM hM2 h11
  have tok1 : True := trivial
  obtain ⟨i0, hi0, hz0, hz1, hz2⟩ := info_parts info3
  have HI := Lib.hid hi0; have HZ0 := Lib.hid hz0; have HZ1 := Lib.hid hz1; have HZ2 := Lib.hid hz2
  clear hi0 hz0 hz1 hz2
  go_enter Try.func28, Try.ntmps28
  go_wp2_with (first
    | (at_lookup; have _t := tok1; go_must (refine wpList_lookup_own_ok_int _ rfl _ _ 64 rfl 3 3 .i64 law3 Try.underlying64 Try.underlying3 (zero3 _) M1 1 D7 rfl HM.out _ _ rfl key7 ?_); intro c hat hwc; rw [has77]; obtain rfl := at77 hat; clear hat hwc tok1)
    | (at_lookup; go_must (refine wpList_lookup_own_ok_int _ rfl _ _ 64 rfl 3 3 .i64 law3 Try.underlying64 Try.underlying3 (zero3 _) M2 0 D0 rfl HM2.out _ _ rfl key7 ?_); intro c2 hat2 hwc2; rw [has07]; clear hat2 hwc2)
    | (at_mapUpdate; go_must (refine wpList_mapUpdate_own _ rfl _ _ _ 64 rfl 3 3 law3 Try.underlying64 _ M2 0 _ rfl HM2.out (by unfold maxLen; omega) _ _ _ rfl rfl key7 _ [] (plainElem_int Try.underlying3 (by decide)) ?_); intro w1 hown1 hgrow1; have b1 := HB.out.gb hgrow1 (fun e => n3 (by cases e; rfl)); have d11 : w1.cell? ⟨B11, 0, none⟩ = some (.slice none 0 0) := b1.cell 0; have HB1 := Lib.hid b1; have HO1 := Lib.hid hown1; have HG1 := Lib.hid hgrow1; clear hown1 hgrow1 b1)
    | (at_builtin; go_must (refine wpList_append_lies _ rfl _ _ 39 rfl 0 3 i0 (.int .i64 0) 1 8 Try.underlying39 HI.out HZ0.out HZ1.out HZ2.out rfl (by decide) (.slice none 0 0) 0 [] rfl (World.ownsRow_nil _ _ _ _) ⟨w1.heap.size, 0, none⟩ 1 1 [.int .i64 0] rfl rfl (cell_one_new _ _ _) (by simp; rfl) (by omega) (by unfold maxLen; omega) (by omega) (by omega) (w1.heap.size + 1) (by simp) ?_); intro g cap w8 hown8 g8 hat8 hlt8; have b8 := (HB1.out.gb (World.grownBy_alloc w1 _ none) (by simp)).gb g8 (by simp [Value.ownBlock]); have d8 : w8.cell? ⟨B11, 0, none⟩ = some (.slice none 0 0) := b8.cell 0; have f8 := b8.free 0; have HB8 := Lib.hid b8; have HO8 := Lib.hid hown8; have HG8 := Lib.hid g8; have HAT := Lib.hid hat8; clear hown8 g8 hat8 hlt8 b8))
  go_end0
  refine ⟨⟨_, rfl⟩, ?_⟩
  have hgt : g = w1.heap.size + 1 := by
    rcases HAT.out with x | x
    · simp [Value.ownBlock] at x
    · exact x
  have hs1 := HG1.out.size
  have f8 : Zf (fun k => k = B11) w8 (w8.setCell ⟨B11, 0, none⟩ (.slice (some ⟨g, 0, none⟩) 1 cap)) := (Zf.refl (fun k => k = B11) w8).set (by rfl)
  have g18 : w1.grownBy w8 none := grownBy_trans (World.grownBy_alloc w1 _ none) HG8.out
  have hb11 := HB1.out.lt
  refine ⟨?_, ⟨g, cap, (HB8.out.set 0 _).cell 0, by omega, ?_⟩, ?_⟩
  · obtain ⟨es, clock, hb, F, hs, hD⟩ := HO1.out
    have hlt : M2 < w1.heap.size := (Array.getElem?_eq_some_iff.1 hb).1
    refine ⟨es, clock, ?_, F, hs, hD⟩
    rw [f8.block M2 (Nat.lt_of_lt_of_le hlt g18.size) (fun e => n3 e.symm), g18.block M2 hlt (by simp), hb]
  · have o8 : w8.ownsRow 0 3 1 (.slice (some ⟨g, 0, none⟩) 1 cap) 1 (ints [0]) := HO8.out
    obtain ⟨A, c, e, hr, _, _⟩ := Rc.of_own (own_zf o8 f8 (fun b e k => by
      have e' : g = b := by simpa [Value.ownBlock] using e
      omega))
    cases e; exact hr
  · have z1 : Zf (fun k => k = M2 ∨ k = B11) w w1 := Zf.of_gb HG1.out (fun b e => by cases e; exact .inl rfl)
    exact (z1.later g18).set (.inr rfl)
end Go.Proofs.Yteieljkkcnpfmaa
