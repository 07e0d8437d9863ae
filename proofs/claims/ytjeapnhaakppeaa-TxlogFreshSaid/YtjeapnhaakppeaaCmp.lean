/-
  Contracts of Ints, undos, holds: lists that are the same are told the same.
-/
import Derived.Test.YtjeapnhaakppeaaOps
namespace Go.Proofs.Ytjeapnhaakppeaa
open Go.ChangeShapes Go.WideShapes Go.ChangeAt Go.RowKit Go.Shelf
set_option linter.unusedVariables false

theorem Rd.gb {w w' : World} {A : Option Addr} {n : Nat} {xs : List Int} (h : Rd w A n xs) (g : w.grownBy w' none) : Rd w' A n xs :=
  ⟨h.len, fun i hi => by
    obtain ⟨b, off, hA, hb, hc⟩ := h.at_ i hi
    exact ⟨b, off, hA, Nat.lt_of_lt_of_le hb g.size, (World.cell?_of_block (a := ⟨b, off + i, none⟩) (g.block b hb (by simp))).trans hc⟩⟩

set_option maxHeartbeats 1000000 in
theorem ints_any (A B : Option Addr) (n c d : Nat) (xs : List Int) (w : World) (h : Rd w A n xs) (k : Rd w B n xs) (hn : (n : Int) ≤ 9223372036854775807) :
    Calls Try.prog 12 #[.slice A n c, .slice B n d] w fun e w' => e = .returned (.bool true) ∧ w.grownBy w' none := by
  have HA := Lib.hid h
  have HB := Lib.hid k
  clear h k
  go_enter Try.func12, Try.ntmps12
  go_wp2
  go_loopw [5] (fun s wr => ∃ i : Nat, s = .int .i64 i ∧ i ≤ n ∧ w.grownBy wr none) (fun s _ => n - (intOf s).toNat)
  case atStart => exact ⟨0, rfl, Nat.zero_le _, grownBy_refl _ _⟩
  case round =>
    obtain ⟨i, rfl, hi, hg⟩ := hrel
    by_cases hlt : i < n
    · obtain ⟨b, off, rfl, hb, hc⟩ := (HA.out.gb hg).at_ i hlt
      obtain ⟨b', off', rfl, hb', hc'⟩ := (HB.out.gb hg).at_ i hlt
      generalize xs.getD i 0 = y at *
      go_wp2
      go_still_tail 8, (by kernel_rfl)
      change wpList _ _ _ _ _ wr.drew
      go_wp2
      go_roundw
      case rel => exact ⟨i + 1, by go_num, by omega, grownBy_trans hg (gb_drew wr none)⟩
      case measure => simp [intOf]; omega
    · obtain rfl : n = i := by omega
      go_wp2
      go_ret
      exact ⟨rfl, hg⟩

set_option maxHeartbeats 1000000 in
theorem undos_cmp (A B : Option Addr) (n c d base base' : Nat) (U : List (Int × Int × Int × Int)) (w : World) (h : w.ownsRow base 38 4 (.slice A n c) n (uvs U)) (k : w.ownsRow base' 38 4 (.slice B n d) n (uvs U)) (hU : U.length = n) (hn : n ≤ 200) :
    Calls Try.prog 19 #[.slice A n c, .slice B n d] w fun e w' => e = .returned (.bool true) ∧ w.grownBy w' none := by
  have HA := Lib.hid h
  have HB := Lib.hid k
  clear h k
  go_enter Try.func19, Try.ntmps19
  go_wp2
  go_loopw [5] (fun s wr => ∃ i : Nat, s = .int .i64 i ∧ i ≤ n ∧ w.grownBy wr none) (fun s _ => n - (intOf s).toNat)
  case atStart => exact ⟨0, rfl, Nat.zero_le _, grownBy_refl _ _⟩
  case round =>
    obtain ⟨i, rfl, hi, hg⟩ := hrel
    by_cases hlt : i < n
    · obtain ⟨g, rfl, hc⟩ := own_cells (own_gb0 HA.out hg) (by omega)
      obtain ⟨g', rfl, hc'⟩ := own_cells (own_gb0 HB.out hg) (by omega)
      have e0 := hc (i * 4) (by omega)
      have e1 := hc (i * 4 + 1) (by omega)
      have e2 := hc (i * 4 + 2) (by omega)
      have e3 := hc (i * 4 + 3) (by omega)
      have e0' := hc' (i * 4) (by omega)
      have e1' := hc' (i * 4 + 1) (by omega)
      have e2' := hc' (i * 4 + 2) (by omega)
      have e3' := hc' (i * 4 + 3) (by omega)
      obtain ⟨u0, u1, u2, u3⟩ := uvs_get U i (by omega)
      rw [u0] at e0 e0'
      rw [u1] at e1 e1'
      rw [u2] at e2 e2'
      rw [u3] at e3 e3'
      clear u0 u1 u2 u3 hc hc'
      generalize U[i].1 = y0 at *
      generalize U[i].2.1 = y1 at *
      generalize U[i].2.2.1 = y2 at *
      generalize U[i].2.2.2 = y3 at *
      go_wp2
      go_still_tail 8, (by kernel_rfl)
      change wpList _ _ _ _ _ wr.drew
      go_wp2
      go_roundw
      case rel => exact ⟨i + 1, by go_num, by omega, grownBy_trans hg (gb_drew wr none)⟩
      case measure => simp [intOf]; omega
    · obtain rfl : n = i := by omega
      go_wp2
      go_ret
      exact ⟨rfl, hg⟩

set_option maxHeartbeats 1000000 in
theorem holds_cmp (A B : Option Addr) (n c d base base' : Nat) (H : List (Int × Int)) (w : World) (h : w.ownsRow base 33 2 (.slice A n c) n (hvs H)) (k : w.ownsRow base' 33 2 (.slice B n d) n (hvs H)) (hH : H.length = n) (hn : n ≤ 200) :
    Calls Try.prog 23 #[.slice A n c, .slice B n d] w fun e w' => e = .returned (.bool true) ∧ w.grownBy w' none := by
  have HA := Lib.hid h
  have HB := Lib.hid k
  clear h k
  go_enter Try.func23, Try.ntmps23
  go_wp2
  go_loopw [5] (fun s wr => ∃ i : Nat, s = .int .i64 i ∧ i ≤ n ∧ w.grownBy wr none) (fun s _ => n - (intOf s).toNat)
  case atStart => exact ⟨0, rfl, Nat.zero_le _, grownBy_refl _ _⟩
  case round =>
    obtain ⟨i, rfl, hi, hg⟩ := hrel
    by_cases hlt : i < n
    · obtain ⟨g, rfl, hc⟩ := own_cells (own_gb0 HA.out hg) (by omega)
      obtain ⟨g', rfl, hc'⟩ := own_cells (own_gb0 HB.out hg) (by omega)
      have e0 := hc (i * 2) (by omega)
      have e1 := hc (i * 2 + 1) (by omega)
      have e0' := hc' (i * 2) (by omega)
      have e1' := hc' (i * 2 + 1) (by omega)
      obtain ⟨u0, u1⟩ := hvs_get H i (by omega)
      rw [u0] at e0 e0'
      rw [u1] at e1 e1'
      clear u0 u1 hc hc'
      generalize (H.getD i (0, 0)).1 = y0 at *
      generalize (H.getD i (0, 0)).2 = y1 at *
      go_wp2
      go_still_tail 8, (by kernel_rfl)
      change wpList _ _ _ _ _ wr.drew
      go_wp2
      go_roundw
      case rel => exact ⟨i + 1, by go_num, by omega, grownBy_trans hg (gb_drew wr none)⟩
      case measure => simp [intOf]; omega
    · obtain rfl : n = i := by omega
      go_wp2
      go_ret
      exact ⟨rfl, hg⟩
end Go.Proofs.Ytjeapnhaakppeaa
