/-
  Equal, sameObj, EqualFunc, Same.
-/
import Derived.Test.YteieljkkcnpfmaaOwnModel
import Derived.Deep.QuietTactic
import Derived.BigQuiet
namespace Go.Proofs.Yteieljkkcnpfmaa
open Go.ChangeShapes Go.WideShapes Go.ChangeAt Go.RowKit
set_option linter.unusedVariables false

/-- Two lists agree up to k. -/
def Agree {α : Type} (xs ys : List α) (k : Nat) : Prop := xs.take k = ys.take k
theorem Agree.zero {α : Type} (xs ys : List α) : Agree xs ys 0 := by simp [Agree]
theorem Agree.succ {α : Type} {xs ys : List α} {k : Nat} (h : Agree xs ys k) (h1 : k < xs.length) (h2 : k < ys.length) (e : xs[k] = ys[k]) : Agree xs ys (k + 1) := by
  unfold Agree at *
  rw [List.take_succ_eq_append_getElem h1, List.take_succ_eq_append_getElem h2, h, e]
theorem Agree.all {α : Type} {xs ys : List α} {n : Nat} (h : Agree xs ys n) (h1 : xs.length = n) (h2 : ys.length = n) : xs = ys := by
  unfold Agree at h
  rwa [List.take_of_length_le (by omega), List.take_of_length_le (by omega)] at h

set_option maxHeartbeats 1000000 in
theorem eqInts_any (A B : Option Addr) (c d : Nat) (xs ys : List Int) (w : World) (h : Rd w A xs.length xs) (k : Rd w B ys.length ys) :
    Calls Try.prog 33 #[.slice A xs.length c, .slice B ys.length d] w fun e w' => e = .returned (.bool (decide (xs = ys))) ∧ w.grownBy w' none := by
  have hl := h.le
  have hl2 := k.le
  have HA := Lib.hid h
  have HB := Lib.hid k
  clear h k
  obtain ⟨q, hq⟩ : ∃ q, decide (xs = ys) = q := ⟨_, rfl⟩
  rw [hq]
  have HQ := Lib.hid hq
  clear hq
  by_cases hne : xs.length = ys.length
  · have HN := Lib.hid hne
    rw [← hne] at HB ⊢
    have HLY : Hid (ys.length = xs.length) := hne.symm
    clear hne hl2
    go_enter Try.func33, Try.ntmps33
    go_wp2
    go_loopw [13] (fun s wr => ∃ i : Nat, s = .int .i64 i ∧ i ≤ xs.length ∧ Agree xs ys i ∧ w.grownBy wr none) (fun s _ => xs.length - (intOf s).toNat)
    case atStart => exact ⟨0, rfl, Nat.zero_le _, Agree.zero _ _, grownBy_refl _ _⟩
    case round =>
      obtain ⟨i, rfl, hi, hag, hg⟩ := hrel
      by_cases hlt : i < xs.length
      · obtain ⟨b, off, rfl, hb, hc⟩ := Rd.at1 (HA.out.gb hg) i hlt
        obtain ⟨b', off', rfl, hb', hc'⟩ := Rd.at1 (HB.out.gb hg) i hlt
        have hi0 : (0 : Int) ≤ (i : Int) := by omega
        have hi1 : (i : Int) < (xs.length : Int) := by omega
        have hly : i < ys.length := by rw [HLY.out]; exact hlt
        have gx : xs.getD i 0 = xs[i] := by simp [hlt]
        have gy : ys.getD i 0 = ys[i] := by simp [hly]
        by_cases he : xs[i] = ys[i]
        · have hag2 := hag.succ hlt hly he
          rw [gx, he] at hc
          rw [gy] at hc'
          clear gx gy he
          generalize ys[i] = z at *
          go_wp2
          go_quiet (fail)
          go_wp2
          go_roundw
          case rel => exact ⟨i + 1, by go_num, by omega, hag2, grownBy_trans hg (gb_drewN _ _ _)⟩
          case measure => simp [intOf]; omega
        · have HF : Hid (false = q) := by
            unfold Hid; rw [← HQ.out]; symm; rw [decide_eq_false_iff_not]; intro e; subst e; exact he rfl
          rw [gx] at hc
          rw [gy] at hc'
          have tt : (xs[i] != ys[i]) = true := by rw [bne_iff_ne]; exact he
          clear gx gy he
          generalize ys[i] = z at *
          generalize xs[i] = y at *
          go_wp2
          go_quiet (fail)
          go_wp2
          go_ret
          exact ⟨ret_bool HF.out, grownBy_trans hg (gb_drewN _ _ _)⟩
      · have hxs : i = xs.length := by omega
        subst hxs
        have HT : Hid (true = q) := by
          unfold Hid; rw [← HQ.out]; symm; rw [decide_eq_true_iff]; exact hag.all rfl HLY.out
        go_wp2
        go_ret
        exact ⟨ret_bool HT.out, hg⟩
  · have HF : Hid (false = q) := by
      unfold Hid; rw [← HQ.out]; symm; rw [decide_eq_false_iff_not]; intro e; exact hne (by rw [e])
    have tt : ((xs.length : Int) != (ys.length : Int)) = true := by rw [bne_iff_ne]; omega
    clear hne
    go_enter Try.func33, Try.ntmps33
    go_wp2
    go_ret
    exact ⟨ret_bool HF.out, grownBy_refl _ _⟩

theorem its_at {w : World} {A : Option Addr} {Q : List (Int × Int)} (h : Rc w A Q.length 2 (its Q)) (i : Nat) (hi : i < Q.length) : ∃ b off, A = some ⟨b, off, none⟩ ∧ b < w.heap.size ∧ w.cell? ⟨b, off + i * 2, none⟩ = some (.int .i64 Q[i].1) ∧ w.cell? ⟨b, off + i * 2 + 1, none⟩ = some (.int .i64 Q[i].2) := by
  obtain ⟨b, off, hA, hb, hc⟩ := h.at_ (by omega)
  obtain ⟨g1, g2⟩ := its_get Q i hi
  refine ⟨b, off, hA, hb, ?_, ?_⟩
  · rw [hc (i * 2) (by omega), g1]
  · rw [Nat.add_assoc, hc (i * 2 + 1) (by omega), g2]
set_option maxHeartbeats 1000000 in
theorem eqItems_any (A B : Option Addr) (c d : Nat) (xs ys : List (Int × Int)) (w : World) (h : Rc w A xs.length 2 (its xs)) (k : Rc w B ys.length 2 (its ys)) :
    Calls Try.prog 26 #[.slice A xs.length c, .slice B ys.length d] w fun e w' => e = .returned (.bool (decide (xs = ys))) ∧ w.grownBy w' none := by
  have hl := h.le
  have hl2 := k.le
  have HA := Lib.hid h
  have HB := Lib.hid k
  clear h k
  obtain ⟨q, hq⟩ : ∃ q, decide (xs = ys) = q := ⟨_, rfl⟩
  rw [hq]
  have HQ := Lib.hid hq
  clear hq
  by_cases hne : xs.length = ys.length
  · have HLY : Hid (ys.length = xs.length) := hne.symm
    have hlen := hne
    rw [← hne]
    clear hl2
    go_enter Try.func26, Try.ntmps26
    clear hne hlen
    go_wp2
    go_loopw [13] (fun s wr => ∃ i : Nat, s = .int .i64 i ∧ i ≤ xs.length ∧ Agree xs ys i ∧ w.grownBy wr none) (fun s _ => xs.length - (intOf s).toNat)
    case atStart => exact ⟨0, rfl, Nat.zero_le _, Agree.zero _ _, grownBy_refl _ _⟩
    case round =>
      obtain ⟨i, rfl, hi, hag, hg⟩ := hrel
      by_cases hlt : i < xs.length
      · have hly : i < ys.length := by rw [HLY.out]; exact hlt
        obtain ⟨b, off, rfl, hb, hc1, hc2⟩ := its_at (HA.out.gb hg) i hlt
        obtain ⟨b', off', rfl, hb', hd1, hd2⟩ := its_at (HB.out.gb hg) i hly
        have hi0 : (0 : Int) ≤ (i : Int) := by omega
        have hi1 : (i : Int) < (xs.length : Int) := by omega
        by_cases he1 : xs[i].1 = ys[i].1
        · by_cases he2 : xs[i].2 = ys[i].2
          · have hag2 := hag.succ hlt hly (Prod.ext he1 he2)
            rw [he1] at hc1
            rw [he2] at hc2
            clear he1 he2
            generalize ys[i].1 = z1 at *
            generalize ys[i].2 = z2 at *
            go_wp2
            go_quiet (fail)
            go_wp2
            go_roundw
            case rel => exact ⟨i + 1, by go_num, by omega, hag2, grownBy_trans hg (gb_drewN _ _ _)⟩
            case measure => simp [intOf]; omega
          · have HF : Hid (false = q) := by
              unfold Hid; rw [← HQ.out]; symm; rw [decide_eq_false_iff_not]; intro e; subst e; exact he2 rfl
            have tt : (xs[i].2 == ys[i].2) = false := by rw [beq_eq_false_iff_ne]; exact he2
            rw [he1] at hc1
            clear he1 he2
            generalize ys[i].1 = z1 at *
            generalize ys[i].2 = z2 at *
            generalize xs[i].2 = y2 at *
            go_wp2
            go_quiet (fail)
            go_wp2
            go_ret
            exact ⟨ret_bool HF.out, grownBy_trans hg (gb_drewN _ _ _)⟩
        · have HF : Hid (false = q) := by
            unfold Hid; rw [← HQ.out]; symm; rw [decide_eq_false_iff_not]; intro e; subst e; exact he1 rfl
          have tt : (xs[i].1 == ys[i].1) = false := by rw [beq_eq_false_iff_ne]; exact he1
          clear he1
          generalize ys[i].1 = z1 at *
          generalize ys[i].2 = z2 at *
          generalize xs[i].1 = y1 at *
          generalize xs[i].2 = y2 at *
          go_wp2
          go_quiet (fail)
          go_wp2
          go_ret
          exact ⟨ret_bool HF.out, grownBy_trans hg (gb_drewN _ _ _)⟩
      · have hxs : i = xs.length := by omega
        subst hxs
        have HT : Hid (true = q) := by
          unfold Hid; rw [← HQ.out]; symm; rw [decide_eq_true_iff]; exact hag.all rfl HLY.out
        go_wp2
        go_ret
        exact ⟨ret_bool HT.out, hg⟩
  · have HF : Hid (false = q) := by
      unfold Hid; rw [← HQ.out]; symm; rw [decide_eq_false_iff_not]; intro e; exact hne (by rw [e])
    have tt : ((xs.length : Int) != (ys.length : Int)) = true := by rw [bne_iff_ne]; omega
    clear hne
    go_enter Try.func26, Try.ntmps26
    go_wp2
    go_ret
    exact ⟨ret_bool HF.out, grownBy_refl _ _⟩
end Go.Proofs.Yteieljkkcnpfmaa
