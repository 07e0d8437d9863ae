/-
  law15.Fit: of a raw deed, a right one.
-/
import Derived.Test.YteieljkkcnpfmaaHold
namespace Go.Proofs.Yteieljkkcnpfmaa
open Go.ChangeShapes Go.WideShapes Go.ChangeAt Go.RowKit
set_option linter.unusedVariables false

def f15a (k x : Int) : Int := if k = 14 then 0 else pk x 6
def f15b (k x : Int) : Int := if k = 3 ∨ k = 4 ∨ k = 5 ∨ k = 9 ∨ k = 11 ∨ k = 12 then pk x 6 else 0
def f15i (k x : Int) : Int := if k = 1 ∨ k = 2 then pk x 5 else if k = 4 ∨ k = 5 ∨ k = 6 ∨ k = 7 then pk x 8 else 0
def f15n (k x : Int) : Int := if k = 1 ∨ k = 2 then pk x 5 else if k = 7 then pk x 2000001 - 1000000 else 0
def FitP (w : World) (k a b i n : Int) (e : Ending) (w' : World) : Prop := e = .returned (.agg #[.int .i64 k, .int .i64 a, .int .i64 b, .int .i64 i, .int .i64 n]) ∧ w.grownBy w' none
set_option maxHeartbeats 2000000 in
theorem fit15_1 (d0 d1 d2 d3 d4 : Int) (w : World) (hk : pk d0 14 = 0) (h0 : -9223372036854775808 ≤ d0) (h1 : -9223372036854775808 ≤ d1) (h2 : -9223372036854775808 ≤ d2) (h3 : -9223372036854775808 ≤ d3) (h4 : -9223372036854775808 ≤ d4) :
    Calls Try.prog 11 #[.agg #[.int .i64 d0, .int .i64 d1, .int .i64 d2, .int .i64 d3, .int .i64 d4]] w (FitP w 1 (pk d1 6) (0) (pk d3 5) (pk d4 5)) := by
  have HK := Lib.hid hk
  clear hk
  go_enter Try.func11, Try.ntmps11
  go_wp2_with fail
  refine (pick15_any d0 14 _ h0 (by omega)).mono ?_
  rw [HK.out]
  rintro e w2 ⟨rfl, rfl⟩
  go_wp2_with (go_at_call 18; (with_reducible refine (pick15_any _ _ _ (by assumption) (by omega)).mono ?_); rintro e w2 ⟨rfl, rfl⟩)
  refine bodyPost_ret (v := .agg #[.int .i64 1, .int .i64 (pk d1 6), .int .i64 (0), .int .i64 (pk d3 5), .int .i64 (pk d4 5)]) (by simp [results, Try.results11, go_sem]) rfl ⟨rfl, ?_⟩
  exact grownBy_trans (grownBy_trans (World.grownBy_alloc _ _ none) (World.grownBy_alloc _ _ none)) (World.grownBy_alloc _ _ none)
set_option maxHeartbeats 2000000 in
theorem fit15_2 (d0 d1 d2 d3 d4 : Int) (w : World) (hk : pk d0 14 = 1) (h0 : -9223372036854775808 ≤ d0) (h1 : -9223372036854775808 ≤ d1) (h2 : -9223372036854775808 ≤ d2) (h3 : -9223372036854775808 ≤ d3) (h4 : -9223372036854775808 ≤ d4) :
    Calls Try.prog 11 #[.agg #[.int .i64 d0, .int .i64 d1, .int .i64 d2, .int .i64 d3, .int .i64 d4]] w (FitP w 2 (pk d1 6) (0) (pk d3 5) (pk d4 5)) := by
  have HK := Lib.hid hk
  clear hk
  go_enter Try.func11, Try.ntmps11
  go_wp2_with fail
  refine (pick15_any d0 14 _ h0 (by omega)).mono ?_
  rw [HK.out]
  rintro e w2 ⟨rfl, rfl⟩
  go_wp2_with (go_at_call 18; (with_reducible refine (pick15_any _ _ _ (by assumption) (by omega)).mono ?_); rintro e w2 ⟨rfl, rfl⟩)
  refine bodyPost_ret (v := .agg #[.int .i64 2, .int .i64 (pk d1 6), .int .i64 (0), .int .i64 (pk d3 5), .int .i64 (pk d4 5)]) (by simp [results, Try.results11, go_sem]) rfl ⟨rfl, ?_⟩
  exact grownBy_trans (grownBy_trans (World.grownBy_alloc _ _ none) (World.grownBy_alloc _ _ none)) (World.grownBy_alloc _ _ none)
set_option maxHeartbeats 2000000 in
theorem fit15_3 (d0 d1 d2 d3 d4 : Int) (w : World) (hk : pk d0 14 = 2) (h0 : -9223372036854775808 ≤ d0) (h1 : -9223372036854775808 ≤ d1) (h2 : -9223372036854775808 ≤ d2) (h3 : -9223372036854775808 ≤ d3) (h4 : -9223372036854775808 ≤ d4) :
    Calls Try.prog 11 #[.agg #[.int .i64 d0, .int .i64 d1, .int .i64 d2, .int .i64 d3, .int .i64 d4]] w (FitP w 3 (pk d1 6) (pk d2 6) (0) (0)) := by
  have HK := Lib.hid hk
  clear hk
  go_enter Try.func11, Try.ntmps11
  go_wp2_with fail
  refine (pick15_any d0 14 _ h0 (by omega)).mono ?_
  rw [HK.out]
  rintro e w2 ⟨rfl, rfl⟩
  go_wp2_with (go_at_call 18; (with_reducible refine (pick15_any _ _ _ (by assumption) (by omega)).mono ?_); rintro e w2 ⟨rfl, rfl⟩)
  refine bodyPost_ret (v := .agg #[.int .i64 3, .int .i64 (pk d1 6), .int .i64 (pk d2 6), .int .i64 (0), .int .i64 (0)]) (by simp [results, Try.results11, go_sem]) rfl ⟨rfl, ?_⟩
  exact grownBy_trans (grownBy_trans (World.grownBy_alloc _ _ none) (World.grownBy_alloc _ _ none)) (World.grownBy_alloc _ _ none)
set_option maxHeartbeats 2000000 in
theorem fit15_4 (d0 d1 d2 d3 d4 : Int) (w : World) (hk : pk d0 14 = 3) (h0 : -9223372036854775808 ≤ d0) (h1 : -9223372036854775808 ≤ d1) (h2 : -9223372036854775808 ≤ d2) (h3 : -9223372036854775808 ≤ d3) (h4 : -9223372036854775808 ≤ d4) :
    Calls Try.prog 11 #[.agg #[.int .i64 d0, .int .i64 d1, .int .i64 d2, .int .i64 d3, .int .i64 d4]] w (FitP w 4 (pk d1 6) (pk d2 6) (pk d3 8) (0)) := by
  have HK := Lib.hid hk
  clear hk
  go_enter Try.func11, Try.ntmps11
  go_wp2_with fail
  refine (pick15_any d0 14 _ h0 (by omega)).mono ?_
  rw [HK.out]
  rintro e w2 ⟨rfl, rfl⟩
  go_wp2_with (go_at_call 18; (with_reducible refine (pick15_any _ _ _ (by assumption) (by omega)).mono ?_); rintro e w2 ⟨rfl, rfl⟩)
  refine bodyPost_ret (v := .agg #[.int .i64 4, .int .i64 (pk d1 6), .int .i64 (pk d2 6), .int .i64 (pk d3 8), .int .i64 (0)]) (by simp [results, Try.results11, go_sem]) rfl ⟨rfl, ?_⟩
  exact grownBy_trans (grownBy_trans (World.grownBy_alloc _ _ none) (World.grownBy_alloc _ _ none)) (World.grownBy_alloc _ _ none)
set_option maxHeartbeats 2000000 in
theorem fit15_5 (d0 d1 d2 d3 d4 : Int) (w : World) (hk : pk d0 14 = 4) (h0 : -9223372036854775808 ≤ d0) (h1 : -9223372036854775808 ≤ d1) (h2 : -9223372036854775808 ≤ d2) (h3 : -9223372036854775808 ≤ d3) (h4 : -9223372036854775808 ≤ d4) :
    Calls Try.prog 11 #[.agg #[.int .i64 d0, .int .i64 d1, .int .i64 d2, .int .i64 d3, .int .i64 d4]] w (FitP w 5 (pk d1 6) (pk d2 6) (pk d3 8) (0)) := by
  have HK := Lib.hid hk
  clear hk
  go_enter Try.func11, Try.ntmps11
  go_wp2_with fail
  refine (pick15_any d0 14 _ h0 (by omega)).mono ?_
  rw [HK.out]
  rintro e w2 ⟨rfl, rfl⟩
  go_wp2_with (go_at_call 18; (with_reducible refine (pick15_any _ _ _ (by assumption) (by omega)).mono ?_); rintro e w2 ⟨rfl, rfl⟩)
  refine bodyPost_ret (v := .agg #[.int .i64 5, .int .i64 (pk d1 6), .int .i64 (pk d2 6), .int .i64 (pk d3 8), .int .i64 (0)]) (by simp [results, Try.results11, go_sem]) rfl ⟨rfl, ?_⟩
  exact grownBy_trans (grownBy_trans (World.grownBy_alloc _ _ none) (World.grownBy_alloc _ _ none)) (World.grownBy_alloc _ _ none)
set_option maxHeartbeats 2000000 in
theorem fit15_6 (d0 d1 d2 d3 d4 : Int) (w : World) (hk : pk d0 14 = 5) (h0 : -9223372036854775808 ≤ d0) (h1 : -9223372036854775808 ≤ d1) (h2 : -9223372036854775808 ≤ d2) (h3 : -9223372036854775808 ≤ d3) (h4 : -9223372036854775808 ≤ d4) :
    Calls Try.prog 11 #[.agg #[.int .i64 d0, .int .i64 d1, .int .i64 d2, .int .i64 d3, .int .i64 d4]] w (FitP w 6 (pk d1 6) (0) (pk d3 8) (0)) := by
  have HK := Lib.hid hk
  clear hk
  go_enter Try.func11, Try.ntmps11
  go_wp2_with fail
  refine (pick15_any d0 14 _ h0 (by omega)).mono ?_
  rw [HK.out]
  rintro e w2 ⟨rfl, rfl⟩
  go_wp2_with (go_at_call 18; (with_reducible refine (pick15_any _ _ _ (by assumption) (by omega)).mono ?_); rintro e w2 ⟨rfl, rfl⟩)
  refine bodyPost_ret (v := .agg #[.int .i64 6, .int .i64 (pk d1 6), .int .i64 (0), .int .i64 (pk d3 8), .int .i64 (0)]) (by simp [results, Try.results11, go_sem]) rfl ⟨rfl, ?_⟩
  exact grownBy_trans (grownBy_trans (World.grownBy_alloc _ _ none) (World.grownBy_alloc _ _ none)) (World.grownBy_alloc _ _ none)
set_option maxHeartbeats 2000000 in
theorem fit15_7 (d0 d1 d2 d3 d4 : Int) (w : World) (hk : pk d0 14 = 6) (h0 : -9223372036854775808 ≤ d0) (h1 : -9223372036854775808 ≤ d1) (h2 : -9223372036854775808 ≤ d2) (h3 : -9223372036854775808 ≤ d3) (h4 : -9223372036854775808 ≤ d4) :
    Calls Try.prog 11 #[.agg #[.int .i64 d0, .int .i64 d1, .int .i64 d2, .int .i64 d3, .int .i64 d4]] w (FitP w 7 (pk d1 6) (0) (pk d3 8) (pk d4 2000001 - 1000000)) := by
  have HK := Lib.hid hk
  clear hk
  obtain ⟨p1, p2⟩ := pk_range d4 2000001 (by omega)
  go_enter Try.func11, Try.ntmps11
  go_wp2_with fail
  refine (pick15_any d0 14 _ h0 (by omega)).mono ?_
  rw [HK.out]
  rintro e w2 ⟨rfl, rfl⟩
  go_wp2_with (go_at_call 18; (with_reducible refine (pick15_any _ _ _ (by assumption) (by omega)).mono ?_); rintro e w2 ⟨rfl, rfl⟩)
  refine bodyPost_ret (v := .agg #[.int .i64 7, .int .i64 (pk d1 6), .int .i64 (0), .int .i64 (pk d3 8), .int .i64 (pk d4 2000001 - 1000000)]) (by simp [results, Try.results11, go_sem]) rfl ⟨rfl, ?_⟩
  exact grownBy_trans (grownBy_trans (World.grownBy_alloc _ _ none) (World.grownBy_alloc _ _ none)) (World.grownBy_alloc _ _ none)
set_option maxHeartbeats 2000000 in
theorem fit15_8 (d0 d1 d2 d3 d4 : Int) (w : World) (hk : pk d0 14 = 7) (h0 : -9223372036854775808 ≤ d0) (h1 : -9223372036854775808 ≤ d1) (h2 : -9223372036854775808 ≤ d2) (h3 : -9223372036854775808 ≤ d3) (h4 : -9223372036854775808 ≤ d4) :
    Calls Try.prog 11 #[.agg #[.int .i64 d0, .int .i64 d1, .int .i64 d2, .int .i64 d3, .int .i64 d4]] w (FitP w 8 (pk d1 6) (0) (0) (0)) := by
  have HK := Lib.hid hk
  clear hk
  go_enter Try.func11, Try.ntmps11
  go_wp2_with fail
  refine (pick15_any d0 14 _ h0 (by omega)).mono ?_
  rw [HK.out]
  rintro e w2 ⟨rfl, rfl⟩
  go_wp2_with (go_at_call 18; (with_reducible refine (pick15_any _ _ _ (by assumption) (by omega)).mono ?_); rintro e w2 ⟨rfl, rfl⟩)
  refine bodyPost_ret (v := .agg #[.int .i64 8, .int .i64 (pk d1 6), .int .i64 (0), .int .i64 (0), .int .i64 (0)]) (by simp [results, Try.results11, go_sem]) rfl ⟨rfl, ?_⟩
  exact grownBy_trans (grownBy_trans (World.grownBy_alloc _ _ none) (World.grownBy_alloc _ _ none)) (World.grownBy_alloc _ _ none)
set_option maxHeartbeats 2000000 in
theorem fit15_9 (d0 d1 d2 d3 d4 : Int) (w : World) (hk : pk d0 14 = 8) (h0 : -9223372036854775808 ≤ d0) (h1 : -9223372036854775808 ≤ d1) (h2 : -9223372036854775808 ≤ d2) (h3 : -9223372036854775808 ≤ d3) (h4 : -9223372036854775808 ≤ d4) :
    Calls Try.prog 11 #[.agg #[.int .i64 d0, .int .i64 d1, .int .i64 d2, .int .i64 d3, .int .i64 d4]] w (FitP w 9 (pk d1 6) (pk d2 6) (0) (0)) := by
  have HK := Lib.hid hk
  clear hk
  go_enter Try.func11, Try.ntmps11
  go_wp2_with fail
  refine (pick15_any d0 14 _ h0 (by omega)).mono ?_
  rw [HK.out]
  rintro e w2 ⟨rfl, rfl⟩
  go_wp2_with (go_at_call 18; (with_reducible refine (pick15_any _ _ _ (by assumption) (by omega)).mono ?_); rintro e w2 ⟨rfl, rfl⟩)
  refine bodyPost_ret (v := .agg #[.int .i64 9, .int .i64 (pk d1 6), .int .i64 (pk d2 6), .int .i64 (0), .int .i64 (0)]) (by simp [results, Try.results11, go_sem]) rfl ⟨rfl, ?_⟩
  exact grownBy_trans (grownBy_trans (World.grownBy_alloc _ _ none) (World.grownBy_alloc _ _ none)) (World.grownBy_alloc _ _ none)
set_option maxHeartbeats 2000000 in
theorem fit15_10 (d0 d1 d2 d3 d4 : Int) (w : World) (hk : pk d0 14 = 9) (h0 : -9223372036854775808 ≤ d0) (h1 : -9223372036854775808 ≤ d1) (h2 : -9223372036854775808 ≤ d2) (h3 : -9223372036854775808 ≤ d3) (h4 : -9223372036854775808 ≤ d4) :
    Calls Try.prog 11 #[.agg #[.int .i64 d0, .int .i64 d1, .int .i64 d2, .int .i64 d3, .int .i64 d4]] w (FitP w 10 (pk d1 6) (0) (0) (0)) := by
  have HK := Lib.hid hk
  clear hk
  go_enter Try.func11, Try.ntmps11
  go_wp2_with fail
  refine (pick15_any d0 14 _ h0 (by omega)).mono ?_
  rw [HK.out]
  rintro e w2 ⟨rfl, rfl⟩
  go_wp2_with (go_at_call 18; (with_reducible refine (pick15_any _ _ _ (by assumption) (by omega)).mono ?_); rintro e w2 ⟨rfl, rfl⟩)
  refine bodyPost_ret (v := .agg #[.int .i64 10, .int .i64 (pk d1 6), .int .i64 (0), .int .i64 (0), .int .i64 (0)]) (by simp [results, Try.results11, go_sem]) rfl ⟨rfl, ?_⟩
  exact grownBy_trans (grownBy_trans (World.grownBy_alloc _ _ none) (World.grownBy_alloc _ _ none)) (World.grownBy_alloc _ _ none)
set_option maxHeartbeats 2000000 in
theorem fit15_11 (d0 d1 d2 d3 d4 : Int) (w : World) (hk : pk d0 14 = 10) (h0 : -9223372036854775808 ≤ d0) (h1 : -9223372036854775808 ≤ d1) (h2 : -9223372036854775808 ≤ d2) (h3 : -9223372036854775808 ≤ d3) (h4 : -9223372036854775808 ≤ d4) :
    Calls Try.prog 11 #[.agg #[.int .i64 d0, .int .i64 d1, .int .i64 d2, .int .i64 d3, .int .i64 d4]] w (FitP w 11 (pk d1 6) (pk d2 6) (0) (0)) := by
  have HK := Lib.hid hk
  clear hk
  go_enter Try.func11, Try.ntmps11
  go_wp2_with fail
  refine (pick15_any d0 14 _ h0 (by omega)).mono ?_
  rw [HK.out]
  rintro e w2 ⟨rfl, rfl⟩
  go_wp2_with (go_at_call 18; (with_reducible refine (pick15_any _ _ _ (by assumption) (by omega)).mono ?_); rintro e w2 ⟨rfl, rfl⟩)
  refine bodyPost_ret (v := .agg #[.int .i64 11, .int .i64 (pk d1 6), .int .i64 (pk d2 6), .int .i64 (0), .int .i64 (0)]) (by simp [results, Try.results11, go_sem]) rfl ⟨rfl, ?_⟩
  exact grownBy_trans (grownBy_trans (World.grownBy_alloc _ _ none) (World.grownBy_alloc _ _ none)) (World.grownBy_alloc _ _ none)
set_option maxHeartbeats 2000000 in
theorem fit15_12 (d0 d1 d2 d3 d4 : Int) (w : World) (hk : pk d0 14 = 11) (h0 : -9223372036854775808 ≤ d0) (h1 : -9223372036854775808 ≤ d1) (h2 : -9223372036854775808 ≤ d2) (h3 : -9223372036854775808 ≤ d3) (h4 : -9223372036854775808 ≤ d4) :
    Calls Try.prog 11 #[.agg #[.int .i64 d0, .int .i64 d1, .int .i64 d2, .int .i64 d3, .int .i64 d4]] w (FitP w 12 (pk d1 6) (pk d2 6) (0) (0)) := by
  have HK := Lib.hid hk
  clear hk
  go_enter Try.func11, Try.ntmps11
  go_wp2_with fail
  refine (pick15_any d0 14 _ h0 (by omega)).mono ?_
  rw [HK.out]
  rintro e w2 ⟨rfl, rfl⟩
  go_wp2_with (go_at_call 18; (with_reducible refine (pick15_any _ _ _ (by assumption) (by omega)).mono ?_); rintro e w2 ⟨rfl, rfl⟩)
  refine bodyPost_ret (v := .agg #[.int .i64 12, .int .i64 (pk d1 6), .int .i64 (pk d2 6), .int .i64 (0), .int .i64 (0)]) (by simp [results, Try.results11, go_sem]) rfl ⟨rfl, ?_⟩
  exact grownBy_trans (grownBy_trans (World.grownBy_alloc _ _ none) (World.grownBy_alloc _ _ none)) (World.grownBy_alloc _ _ none)
set_option maxHeartbeats 2000000 in
theorem fit15_13 (d0 d1 d2 d3 d4 : Int) (w : World) (hk : pk d0 14 = 12) (h0 : -9223372036854775808 ≤ d0) (h1 : -9223372036854775808 ≤ d1) (h2 : -9223372036854775808 ≤ d2) (h3 : -9223372036854775808 ≤ d3) (h4 : -9223372036854775808 ≤ d4) :
    Calls Try.prog 11 #[.agg #[.int .i64 d0, .int .i64 d1, .int .i64 d2, .int .i64 d3, .int .i64 d4]] w (FitP w 13 (pk d1 6) (0) (0) (0)) := by
  have HK := Lib.hid hk
  clear hk
  go_enter Try.func11, Try.ntmps11
  go_wp2_with fail
  refine (pick15_any d0 14 _ h0 (by omega)).mono ?_
  rw [HK.out]
  rintro e w2 ⟨rfl, rfl⟩
  go_wp2_with (go_at_call 18; (with_reducible refine (pick15_any _ _ _ (by assumption) (by omega)).mono ?_); rintro e w2 ⟨rfl, rfl⟩)
  refine bodyPost_ret (v := .agg #[.int .i64 13, .int .i64 (pk d1 6), .int .i64 (0), .int .i64 (0), .int .i64 (0)]) (by simp [results, Try.results11, go_sem]) rfl ⟨rfl, ?_⟩
  exact grownBy_trans (grownBy_trans (World.grownBy_alloc _ _ none) (World.grownBy_alloc _ _ none)) (World.grownBy_alloc _ _ none)
set_option maxHeartbeats 2000000 in
theorem fit15_14 (d0 d1 d2 d3 d4 : Int) (w : World) (hk : pk d0 14 = 13) (h0 : -9223372036854775808 ≤ d0) (h1 : -9223372036854775808 ≤ d1) (h2 : -9223372036854775808 ≤ d2) (h3 : -9223372036854775808 ≤ d3) (h4 : -9223372036854775808 ≤ d4) :
    Calls Try.prog 11 #[.agg #[.int .i64 d0, .int .i64 d1, .int .i64 d2, .int .i64 d3, .int .i64 d4]] w (FitP w 14 (0) (0) (0) (0)) := by
  have HK := Lib.hid hk
  clear hk
  go_enter Try.func11, Try.ntmps11
  go_wp2_with fail
  refine (pick15_any d0 14 _ h0 (by omega)).mono ?_
  rw [HK.out]
  rintro e w2 ⟨rfl, rfl⟩
  go_wp2_with (go_at_call 18; (with_reducible refine (pick15_any _ _ _ (by assumption) (by omega)).mono ?_); rintro e w2 ⟨rfl, rfl⟩)
  refine bodyPost_ret (v := .agg #[.int .i64 14, .int .i64 (0), .int .i64 (0), .int .i64 (0), .int .i64 (0)]) (by simp [results, Try.results11, go_sem]) rfl ⟨rfl, ?_⟩
  exact grownBy_trans (grownBy_trans (World.grownBy_alloc _ _ none) (World.grownBy_alloc _ _ none)) (World.grownBy_alloc _ _ none)
theorem right_1 (a : Nat) (i : Int) (n : Int) (ha : a < 6) (hi : 0 ≤ i) (hi2 : i ≤ 4) (hn : 0 ≤ n) (hn2 : n ≤ 4) : RightD (dd 1 a (0 : Nat) i n) (parts 1) := by
  refine ⟨fun p hp => ?_, fun j h1 h4 hn => ?_⟩
  · have hp' : p ∈ parts1 := hp
    simp [parts1] at hp'
    rcases hp' with rfl | rfl | rfl <;> simp [dd] <;> omega
  · rcases (by omega : j = 1 ∨ j = 2 ∨ j = 3 ∨ j = 4) with rfl | rfl | rfl | rfl
    · exact absurd rfl (hn ⟨1, 0, 5⟩ (by show _ ∈ parts1; simp [parts1]))
    · rfl
    · exact absurd rfl (hn ⟨3, 0, 4⟩ (by show _ ∈ parts1; simp [parts1]))
    · exact absurd rfl (hn ⟨4, 0, 4⟩ (by show _ ∈ parts1; simp [parts1]))
theorem right_2 (a : Nat) (i : Int) (n : Int) (ha : a < 6) (hi : 0 ≤ i) (hi2 : i ≤ 4) (hn : 0 ≤ n) (hn2 : n ≤ 4) : RightD (dd 2 a (0 : Nat) i n) (parts 2) := by
  refine ⟨fun p hp => ?_, fun j h1 h4 hn => ?_⟩
  · have hp' : p ∈ parts2 := hp
    simp [parts2] at hp'
    rcases hp' with rfl | rfl | rfl <;> simp [dd] <;> omega
  · rcases (by omega : j = 1 ∨ j = 2 ∨ j = 3 ∨ j = 4) with rfl | rfl | rfl | rfl
    · exact absurd rfl (hn ⟨1, 0, 5⟩ (by show _ ∈ parts2; simp [parts2]))
    · rfl
    · exact absurd rfl (hn ⟨3, 0, 4⟩ (by show _ ∈ parts2; simp [parts2]))
    · exact absurd rfl (hn ⟨4, 0, 4⟩ (by show _ ∈ parts2; simp [parts2]))
theorem right_3 (a : Nat) (b : Nat) (ha : a < 6) (hb : b < 6) : RightD (dd 3 a b 0 0) (parts 3) := by
  refine ⟨fun p hp => ?_, fun j h1 h4 hn => ?_⟩
  · have hp' : p ∈ parts3 := hp
    simp [parts3] at hp'
    rcases hp' with rfl | rfl <;> simp [dd] <;> omega
  · rcases (by omega : j = 1 ∨ j = 2 ∨ j = 3 ∨ j = 4) with rfl | rfl | rfl | rfl
    · exact absurd rfl (hn ⟨1, 0, 5⟩ (by show _ ∈ parts3; simp [parts3]))
    · exact absurd rfl (hn ⟨2, 0, 5⟩ (by show _ ∈ parts3; simp [parts3]))
    · rfl
    · rfl
theorem right_4 (a : Nat) (b : Nat) (i : Int) (ha : a < 6) (hb : b < 6) (hi : 0 ≤ i) (hi2 : i ≤ 7) : RightD (dd 4 a b i 0) (parts 4) := by
  refine ⟨fun p hp => ?_, fun j h1 h4 hn => ?_⟩
  · have hp' : p ∈ parts4 := hp
    simp [parts4] at hp'
    rcases hp' with rfl | rfl | rfl <;> simp [dd] <;> omega
  · rcases (by omega : j = 1 ∨ j = 2 ∨ j = 3 ∨ j = 4) with rfl | rfl | rfl | rfl
    · exact absurd rfl (hn ⟨1, 0, 5⟩ (by show _ ∈ parts4; simp [parts4]))
    · exact absurd rfl (hn ⟨2, 0, 5⟩ (by show _ ∈ parts4; simp [parts4]))
    · exact absurd rfl (hn ⟨3, 0, 7⟩ (by show _ ∈ parts4; simp [parts4]))
    · rfl
theorem right_5 (a : Nat) (b : Nat) (i : Int) (ha : a < 6) (hb : b < 6) (hi : 0 ≤ i) (hi2 : i ≤ 7) : RightD (dd 5 a b i 0) (parts 5) := by
  refine ⟨fun p hp => ?_, fun j h1 h4 hn => ?_⟩
  · have hp' : p ∈ parts5 := hp
    simp [parts5] at hp'
    rcases hp' with rfl | rfl | rfl <;> simp [dd] <;> omega
  · rcases (by omega : j = 1 ∨ j = 2 ∨ j = 3 ∨ j = 4) with rfl | rfl | rfl | rfl
    · exact absurd rfl (hn ⟨1, 0, 5⟩ (by show _ ∈ parts5; simp [parts5]))
    · exact absurd rfl (hn ⟨2, 0, 5⟩ (by show _ ∈ parts5; simp [parts5]))
    · exact absurd rfl (hn ⟨3, 0, 7⟩ (by show _ ∈ parts5; simp [parts5]))
    · rfl
theorem right_6 (a : Nat) (i : Int) (ha : a < 6) (hi : 0 ≤ i) (hi2 : i ≤ 7) : RightD (dd 6 a (0 : Nat) i 0) (parts 6) := by
  refine ⟨fun p hp => ?_, fun j h1 h4 hn => ?_⟩
  · have hp' : p ∈ parts6 := hp
    simp [parts6] at hp'
    rcases hp' with rfl | rfl <;> simp [dd] <;> omega
  · rcases (by omega : j = 1 ∨ j = 2 ∨ j = 3 ∨ j = 4) with rfl | rfl | rfl | rfl
    · exact absurd rfl (hn ⟨1, 0, 5⟩ (by show _ ∈ parts6; simp [parts6]))
    · rfl
    · exact absurd rfl (hn ⟨3, 0, 7⟩ (by show _ ∈ parts6; simp [parts6]))
    · rfl
theorem right_7 (a : Nat) (i : Int) (n : Int) (ha : a < 6) (hi : 0 ≤ i) (hi2 : i ≤ 7) (hn : -1000000 ≤ n) (hn2 : n ≤ 1000000) : RightD (dd 7 a (0 : Nat) i n) (parts 7) := by
  refine ⟨fun p hp => ?_, fun j h1 h4 hn => ?_⟩
  · have hp' : p ∈ parts7 := hp
    simp [parts7] at hp'
    rcases hp' with rfl | rfl | rfl <;> simp [dd] <;> omega
  · rcases (by omega : j = 1 ∨ j = 2 ∨ j = 3 ∨ j = 4) with rfl | rfl | rfl | rfl
    · exact absurd rfl (hn ⟨1, 0, 5⟩ (by show _ ∈ parts7; simp [parts7]))
    · rfl
    · exact absurd rfl (hn ⟨3, 0, 7⟩ (by show _ ∈ parts7; simp [parts7]))
    · exact absurd rfl (hn ⟨4, -1000000, 1000000⟩ (by show _ ∈ parts7; simp [parts7]))
theorem right_8 (a : Nat) (ha : a < 6) : RightD (dd 8 a (0 : Nat) 0 0) (parts 8) := by
  refine ⟨fun p hp => ?_, fun j h1 h4 hn => ?_⟩
  · have hp' : p ∈ parts8 := hp
    simp [parts8] at hp'
    subst hp'
    simp [dd]
    omega
  · rcases (by omega : j = 1 ∨ j = 2 ∨ j = 3 ∨ j = 4) with rfl | rfl | rfl | rfl
    · exact absurd rfl (hn ⟨1, 0, 5⟩ (by show _ ∈ parts8; simp [parts8]))
    · rfl
    · rfl
    · rfl
theorem right_9 (a : Nat) (b : Nat) (ha : a < 6) (hb : b < 6) : RightD (dd 9 a b 0 0) (parts 9) := by
  refine ⟨fun p hp => ?_, fun j h1 h4 hn => ?_⟩
  · have hp' : p ∈ parts9 := hp
    simp [parts9] at hp'
    rcases hp' with rfl | rfl <;> simp [dd] <;> omega
  · rcases (by omega : j = 1 ∨ j = 2 ∨ j = 3 ∨ j = 4) with rfl | rfl | rfl | rfl
    · exact absurd rfl (hn ⟨1, 0, 5⟩ (by show _ ∈ parts9; simp [parts9]))
    · exact absurd rfl (hn ⟨2, 0, 5⟩ (by show _ ∈ parts9; simp [parts9]))
    · rfl
    · rfl
theorem right_10 (a : Nat) (ha : a < 6) : RightD (dd 10 a (0 : Nat) 0 0) (parts 10) := by
  refine ⟨fun p hp => ?_, fun j h1 h4 hn => ?_⟩
  · have hp' : p ∈ parts10 := hp
    simp [parts10] at hp'
    subst hp'
    simp [dd]
    omega
  · rcases (by omega : j = 1 ∨ j = 2 ∨ j = 3 ∨ j = 4) with rfl | rfl | rfl | rfl
    · exact absurd rfl (hn ⟨1, 0, 5⟩ (by show _ ∈ parts10; simp [parts10]))
    · rfl
    · rfl
    · rfl
theorem right_11 (a : Nat) (b : Nat) (ha : a < 6) (hb : b < 6) : RightD (dd 11 a b 0 0) (parts 11) := by
  refine ⟨fun p hp => ?_, fun j h1 h4 hn => ?_⟩
  · have hp' : p ∈ parts11 := hp
    simp [parts11] at hp'
    rcases hp' with rfl | rfl <;> simp [dd] <;> omega
  · rcases (by omega : j = 1 ∨ j = 2 ∨ j = 3 ∨ j = 4) with rfl | rfl | rfl | rfl
    · exact absurd rfl (hn ⟨1, 0, 5⟩ (by show _ ∈ parts11; simp [parts11]))
    · exact absurd rfl (hn ⟨2, 0, 5⟩ (by show _ ∈ parts11; simp [parts11]))
    · rfl
    · rfl
theorem right_12 (a : Nat) (b : Nat) (ha : a < 6) (hb : b < 6) : RightD (dd 12 a b 0 0) (parts 12) := by
  refine ⟨fun p hp => ?_, fun j h1 h4 hn => ?_⟩
  · have hp' : p ∈ parts12 := hp
    simp [parts12] at hp'
    rcases hp' with rfl | rfl <;> simp [dd] <;> omega
  · rcases (by omega : j = 1 ∨ j = 2 ∨ j = 3 ∨ j = 4) with rfl | rfl | rfl | rfl
    · exact absurd rfl (hn ⟨1, 0, 5⟩ (by show _ ∈ parts12; simp [parts12]))
    · exact absurd rfl (hn ⟨2, 0, 5⟩ (by show _ ∈ parts12; simp [parts12]))
    · rfl
    · rfl
theorem right_13 (a : Nat) (ha : a < 6) : RightD (dd 13 a (0 : Nat) 0 0) (parts 13) := by
  refine ⟨fun p hp => ?_, fun j h1 h4 hn => ?_⟩
  · have hp' : p ∈ parts13 := hp
    simp [parts13] at hp'
    subst hp'
    simp [dd]
    omega
  · rcases (by omega : j = 1 ∨ j = 2 ∨ j = 3 ∨ j = 4) with rfl | rfl | rfl | rfl
    · exact absurd rfl (hn ⟨1, 0, 5⟩ (by show _ ∈ parts13; simp [parts13]))
    · rfl
    · rfl
    · rfl
theorem right_14  : RightD (dd 14 (0 : Nat) (0 : Nat) 0 0) (parts 14) := by
  refine ⟨fun p hp => ?_, fun j h1 h4 hn => ?_⟩
  · have hp' : p ∈ parts14 := hp
    simp [parts14] at hp'
  · rcases (by omega : j = 1 ∨ j = 2 ∨ j = 3 ∨ j = 4) with rfl | rfl | rfl | rfl
    · rfl
    · rfl
    · rfl
    · rfl
/-- A right deed, of whatever raw one. -/
def F15 (w : World) (d0 d1 d2 d3 d4 : Int) : Prop := ∃ (k : Int) (a b : Nat) (i n : Int), k = 1 + pk d0 14 ∧ 1 ≤ k ∧ k ≤ 14 ∧ a < 6 ∧ b < 6 ∧ 0 ≤ i ∧ -1000000 ≤ n ∧ RightD (dd k a b i n) (parts k) ∧
  ∀ w : World, Calls Try.prog 11 #[.agg #[.int .i64 d0, .int .i64 d1, .int .i64 d2, .int .i64 d3, .int .i64 d4]] w (FitP w k a b i n)
theorem fit15_any (d0 d1 d2 d3 d4 : Int) (w : World) (h0 : -9223372036854775808 ≤ d0) (h1 : -9223372036854775808 ≤ d1) (h2 : -9223372036854775808 ≤ d2) (h3 : -9223372036854775808 ≤ d3) (h4 : -9223372036854775808 ≤ d4) : F15 w d0 d1 d2 d3 d4 := by
  obtain ⟨p0, p1⟩ := pk_range d0 14 (by omega)
  obtain ⟨a, ha, ha6⟩ := pk_nat d1 6 (by omega)
  obtain ⟨b, hb, hb6⟩ := pk_nat d2 6 (by omega)
  obtain ⟨i0, i1⟩ := pk_range d3 5 (by omega)
  obtain ⟨j0, j1⟩ := pk_range d3 8 (by omega)
  obtain ⟨n0, n1⟩ := pk_range d4 5 (by omega)
  obtain ⟨m0, m1⟩ := pk_range d4 2000001 (by omega)
  have ha : pk d1 6 = (a : Int) := ha
  have hb : pk d2 6 = (b : Int) := hb
  rcases (by omega : pk d0 14 = 0 ∨ pk d0 14 = 1 ∨ pk d0 14 = 2 ∨ pk d0 14 = 3 ∨ pk d0 14 = 4 ∨ pk d0 14 = 5 ∨ pk d0 14 = 6 ∨ pk d0 14 = 7 ∨ pk d0 14 = 8 ∨ pk d0 14 = 9 ∨ pk d0 14 = 10 ∨ pk d0 14 = 11 ∨ pk d0 14 = 12 ∨ pk d0 14 = 13) with hk | hk | hk | hk | hk | hk | hk | hk | hk | hk | hk | hk | hk | hk
  · refine ⟨1, a, 0, (pk d3 5), (pk d4 5), by omega, by omega, by omega, by omega, by omega, by omega, by omega, right_1 a (pk d3 5) (pk d4 5) ha6 (by omega) (by omega) (by omega) (by omega), fun w => ?_⟩
    have := fit15_1 d0 d1 d2 d3 d4 w hk h0 h1 h2 h3 h4
    rw [ha] at this
    exact this
  · refine ⟨2, a, 0, (pk d3 5), (pk d4 5), by omega, by omega, by omega, by omega, by omega, by omega, by omega, right_2 a (pk d3 5) (pk d4 5) ha6 (by omega) (by omega) (by omega) (by omega), fun w => ?_⟩
    have := fit15_2 d0 d1 d2 d3 d4 w hk h0 h1 h2 h3 h4
    rw [ha] at this
    exact this
  · refine ⟨3, a, b, 0, 0, by omega, by omega, by omega, by omega, by omega, by omega, by omega, right_3 a b ha6 hb6, fun w => ?_⟩
    have := fit15_3 d0 d1 d2 d3 d4 w hk h0 h1 h2 h3 h4
    rw [ha, hb] at this
    exact this
  · refine ⟨4, a, b, (pk d3 8), 0, by omega, by omega, by omega, by omega, by omega, by omega, by omega, right_4 a b (pk d3 8) ha6 hb6 (by omega) (by omega), fun w => ?_⟩
    have := fit15_4 d0 d1 d2 d3 d4 w hk h0 h1 h2 h3 h4
    rw [ha, hb] at this
    exact this
  · refine ⟨5, a, b, (pk d3 8), 0, by omega, by omega, by omega, by omega, by omega, by omega, by omega, right_5 a b (pk d3 8) ha6 hb6 (by omega) (by omega), fun w => ?_⟩
    have := fit15_5 d0 d1 d2 d3 d4 w hk h0 h1 h2 h3 h4
    rw [ha, hb] at this
    exact this
  · refine ⟨6, a, 0, (pk d3 8), 0, by omega, by omega, by omega, by omega, by omega, by omega, by omega, right_6 a (pk d3 8) ha6 (by omega) (by omega), fun w => ?_⟩
    have := fit15_6 d0 d1 d2 d3 d4 w hk h0 h1 h2 h3 h4
    rw [ha] at this
    exact this
  · refine ⟨7, a, 0, (pk d3 8), (pk d4 2000001 - 1000000), by omega, by omega, by omega, by omega, by omega, by omega, by omega, right_7 a (pk d3 8) (pk d4 2000001 - 1000000) ha6 (by omega) (by omega) (by omega) (by omega), fun w => ?_⟩
    have := fit15_7 d0 d1 d2 d3 d4 w hk h0 h1 h2 h3 h4
    rw [ha] at this
    exact this
  · refine ⟨8, a, 0, 0, 0, by omega, by omega, by omega, by omega, by omega, by omega, by omega, right_8 a ha6, fun w => ?_⟩
    have := fit15_8 d0 d1 d2 d3 d4 w hk h0 h1 h2 h3 h4
    rw [ha] at this
    exact this
  · refine ⟨9, a, b, 0, 0, by omega, by omega, by omega, by omega, by omega, by omega, by omega, right_9 a b ha6 hb6, fun w => ?_⟩
    have := fit15_9 d0 d1 d2 d3 d4 w hk h0 h1 h2 h3 h4
    rw [ha, hb] at this
    exact this
  · refine ⟨10, a, 0, 0, 0, by omega, by omega, by omega, by omega, by omega, by omega, by omega, right_10 a ha6, fun w => ?_⟩
    have := fit15_10 d0 d1 d2 d3 d4 w hk h0 h1 h2 h3 h4
    rw [ha] at this
    exact this
  · refine ⟨11, a, b, 0, 0, by omega, by omega, by omega, by omega, by omega, by omega, by omega, right_11 a b ha6 hb6, fun w => ?_⟩
    have := fit15_11 d0 d1 d2 d3 d4 w hk h0 h1 h2 h3 h4
    rw [ha, hb] at this
    exact this
  · refine ⟨12, a, b, 0, 0, by omega, by omega, by omega, by omega, by omega, by omega, by omega, right_12 a b ha6 hb6, fun w => ?_⟩
    have := fit15_12 d0 d1 d2 d3 d4 w hk h0 h1 h2 h3 h4
    rw [ha, hb] at this
    exact this
  · refine ⟨13, a, 0, 0, 0, by omega, by omega, by omega, by omega, by omega, by omega, by omega, right_13 a ha6, fun w => ?_⟩
    have := fit15_13 d0 d1 d2 d3 d4 w hk h0 h1 h2 h3 h4
    rw [ha] at this
    exact this
  · refine ⟨14, 0, 0, 0, 0, by omega, by omega, by omega, by omega, by omega, by omega, by omega, right_14 , fun w => ?_⟩
    have := fit15_14 d0 d1 d2 d3 d4 w hk h0 h1 h2 h3 h4
    
    exact this
end Go.Proofs.Yteieljkkcnpfmaa
