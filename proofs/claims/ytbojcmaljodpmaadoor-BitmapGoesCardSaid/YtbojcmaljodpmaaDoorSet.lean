/-
  The bitmap's contracts over the set that it holds, and the contract of 'awake'.
-/
import Derived.Test.YtbojcmaljodpmaaDoorNext
namespace Go.Proofs.YtbojcmaljodpmaaDoor
open Go.ChangeShapes Go.WideShapes Go.ChangeAt Go.RowKit
set_option linter.unusedVariables false

def upd (S : Nat → Bool) (x : Nat) (b : Bool) : Nat → Bool := fun j => if j = x then b else S j

/-- In world 'w', which has grown out of 'w0', a bitmap (new since w0) holds the set 'S'; the library's table lies. -/
structure Sta (w0 w : World) (bp bw bound : Nat) (S : Nat → Bool) : Prop where
  bs : ∃ ws, Bm w bp bw bound ws ∧ ∀ j, bitAt ws j = S j
  tab : Tab w
  gr : w0.grownBy w none
  nw : w0.heap.size ≤ bw
  nz : 0 < w0.heap.size

section
variable {w0 w w' : World} {bp bw bound : Nat} {S : Nat → Bool}
theorem Sta.top (h : Sta w0 w bp bw bound S) (j : Nat) (hj : bound ≤ j) : S j = false := by
  obtain ⟨ws, hB, hS⟩ := h.bs
  rw [← hS]; exact hB.top j hj
theorem Sta.later {w1 : World} (h : Sta w0 w bp bw bound S) (hg : w1.grownBy w none) (hn : w1.heap.size ≤ bw) (hz : 0 < w1.heap.size) : Sta w1 w bp bw bound S := ⟨h.bs, h.tab, hg, hn, hz⟩
theorem Sta.kept {r : Option Nat} (h : Sta w0 w bp bw bound S) (hg : w.grownBy w' r) (h1 : some bp ≠ r) (h2 : some bw ≠ r) (h3 : ∀ g, r = some g → w0.heap.size ≤ g) : Sta w0 w' bp bw bound S := by
  obtain ⟨ws, hB, hS⟩ := h.bs
  refine ⟨⟨ws, hB.kept hg h1 h2, hS⟩, h.tab.kept hg h.tab.pos (fun e => ?_), gb_new h.gr hg h3, h.nw, h.nz⟩
  have := h3 0 e.symm; have := h.nz; omega
theorem Sta.ltP (h : Sta w0 w bp bw bound S) : bp < w.heap.size := by obtain ⟨ws, hB, hS⟩ := h.bs; exact hB.ltP
theorem Sta.ltW (h : Sta w0 w bp bw bound S) : bw < w.heap.size := by obtain ⟨ws, hB, hS⟩ := h.bs; exact hB.ltW
theorem Sta.eqv {T : Nat → Bool} (h : Sta w0 w bp bw bound S) (e : ∀ j, S j = T j) : Sta w0 w bp bw bound T := by
  obtain ⟨ws, hB, hS⟩ := h.bs
  exact ⟨⟨ws, hB, fun j => (hS j).trans (e j)⟩, h.tab, h.gr, h.nw, h.nz⟩

theorem mem_congr {S T : Nat → Bool} (e : ∀ j, S j = T j) (a i : Nat) : mem S a i = mem T a i := by
  unfold mem
  exact List.filter_congr (fun j _ => by rw [e j])

theorem s_has (x : Nat) (h : Sta w0 w bp bw bound S) :
    Calls Tryd.prog 14 #[.pointer (some ⟨bp, 0, none⟩), .int .i64 x] w fun e w' => e = .returned (.bool (S x)) ∧ w = w' := by
  obtain ⟨ws, hB, hS⟩ := h.bs
  have := has_any bp bw bound ws x w hB
  have e : hasB ws x = S x := by simp [hasB, hS]
  rwa [e] at this

theorem s_has_int (i : Int) (h : Sta w0 w bp bw bound S) :
    Calls Tryd.prog 14 #[.pointer (some ⟨bp, 0, none⟩), .int .i64 i] w fun e w' => e = .returned (.bool (decide (0 ≤ i) && S i.toNat)) ∧ w = w' := by
  obtain ⟨ws, hB, hS⟩ := h.bs
  have := has_any bp bw bound ws i w hB
  have e : hasB ws i = (decide (0 ≤ i) && S i.toNat) := by simp [hasB, hS]
  rwa [e] at this

theorem s_set (x : Nat) (hx : x < bound) (h : Sta w0 w bp bw bound S) :
    Calls Tryd.prog 12 #[.pointer (some ⟨bp, 0, none⟩), .int .i64 x] w fun e w' => e = .returned (.bool (!S x)) ∧ Sta w0 w' bp bw bound (upd S x true) ∧ w.grownBy w' (some bw) := by
  obtain ⟨ws, hB, hS⟩ := h.bs
  have hnz := h.nz
  have hnw := h.nw
  have hne : some 0 ≠ some bw := by simp; omega
  cases hx' : S x
  · refine (set_in bp bw bound ws x w hB hx (by rw [hS]; exact hx')).mono ?_
    rintro e w' ⟨rfl, h1, h2⟩
    refine ⟨rfl, ⟨⟨_, h1, fun j => ?_⟩, h.tab.kept h2 h.tab.pos hne, gb_new h.gr h2 (by simp; exact hnw), hnw, hnz⟩, h2⟩
    rw [bitAt_set ws x j (by have := hB.len; omega), hS, upd]
    by_cases e : j = x <;> simp [e]
  · refine (set_not bp bw bound ws x w hB (by simp [hasB, hS, hx'])).mono ?_
    rintro e w' ⟨rfl, rfl⟩
    refine ⟨rfl, h.eqv (fun j => ?_), grownBy_refl _ _⟩
    unfold upd
    split
    · next e => rw [e]; exact hx'
    · rfl

theorem s_set_out (i : Int) (hi : i < 0 ∨ bound ≤ i) (h : Sta w0 w bp bw bound S) :
    Calls Tryd.prog 12 #[.pointer (some ⟨bp, 0, none⟩), .int .i64 i] w fun e w' => e = .returned (.bool false) ∧ w = w' := by
  obtain ⟨ws, hB, hS⟩ := h.bs
  exact set_not bp bw bound ws i w hB (by rw [show mayB bound i = false from decide_eq_false (by omega)]; rfl)

theorem s_clear (x : Nat) (h : Sta w0 w bp bw bound S) :
    Calls Tryd.prog 11 #[.pointer (some ⟨bp, 0, none⟩), .int .i64 x] w fun e w' => e = .returned (.bool (S x)) ∧ Sta w0 w' bp bw bound (upd S x false) ∧ w.grownBy w' (some bw) := by
  obtain ⟨ws, hB, hS⟩ := h.bs
  have hnz := h.nz
  have hnw := h.nw
  have hne : some 0 ≠ some bw := by simp; omega
  cases hx' : S x
  · refine (clear_not bp bw bound ws x w hB (by simp [hasB, hS, hx'])).mono ?_
    rintro e w' ⟨rfl, rfl⟩
    refine ⟨rfl, h.eqv (fun j => ?_), grownBy_refl _ _⟩
    unfold upd
    split
    · next e => rw [e]; exact hx'
    · rfl
  · have hx : x < bound := by
      rcases Nat.lt_or_ge x bound with h1 | h1
      · exact h1
      · rw [h.top x h1] at hx'; cases hx'
    refine (clear_in bp bw bound ws x w hB hx (by rw [hS]; exact hx')).mono ?_
    rintro e w' ⟨rfl, h1, h2⟩
    refine ⟨rfl, ⟨⟨_, h1, fun j => ?_⟩, h.tab.kept h2 h.tab.pos hne, gb_new h.gr h2 (by simp; exact hnw), hnw, hnz⟩, h2⟩
    rw [bitAt_clear ws x j (by have := hB.len; omega) (hB.lt _), hS, upd]
    by_cases e : j = x <;> simp [e]

theorem s_next (i : Int) (hlo : -9223372036854775808 ≤ i) (hhi : i ≤ 9223372036854775807) (h : Sta w0 w bp bw bound S) :
    Calls Tryd.prog 13 #[.pointer (some ⟨bp, 0, none⟩), .int .i64 i] w fun e W' => e = .returned (nxV (mem S i.toNat bound)) ∧ Sta w0 W' bp bw bound S ∧ w.grownBy W' none := by
  obtain ⟨ws, hB, hS⟩ := h.bs
  refine (next_any bp bw bound ws i w hB h.tab hlo hhi).mono ?_
  rintro e w' ⟨rfl, h1⟩
  rw [mem_congr hS]
  exact ⟨rfl, h.kept h1 (by simp) (by simp) (by simp), h1⟩

theorem s_count (i to : Int) (hlo : -9223372036854775808 ≤ i) (hhi : i ≤ 9223372036854775807) (h : Sta w0 w bp bw bound S) :
    Calls Tryd.prog 15 #[.pointer (some ⟨bp, 0, none⟩), .int .i64 i, .int .i64 to] w fun e W' => e = .returned (.int .i64 (cnt (mem S i.toNat bound) to : Nat)) ∧ Sta w0 W' bp bw bound S ∧ w.grownBy W' none := by
  obtain ⟨ws, hB, hS⟩ := h.bs
  refine (count_any bp bw bound ws i to w hB h.tab hlo hhi).mono ?_
  rintro e w' ⟨rfl, h1⟩
  rw [mem_congr hS]
  exact ⟨rfl, h.kept h1 (by simp) (by simp) (by simp), h1⟩
end

theorem s_new (b : Nat) (hb : b ≤ 65536) (w : World) (hT : Tab w) :
    Calls Tryd.prog 9 #[.int .i64 b] w fun e w' => e = .returned (.pointer (some ⟨w.heap.size + 1, 0, none⟩)) ∧ Sta w w' (w.heap.size + 1) w.heap.size b (fun _ => false) ∧ w.grownBy w' none ∧ w'.heap.size = w.heap.size + 2 := by
  refine (new_mid b w hb).mono ?_
  rintro e w' ⟨rfl, h1, h2, h3⟩
  exact ⟨rfl, ⟨⟨_, h1, fun j => bitAt_zero _ _⟩, hT.kept h2 hT.pos (by simp), h2, Nat.le_refl _, hT.pos⟩, h2, h3⟩

set_option maxRecDepth 100000 in
theorem awake_any (w : World) (hT : Tab w) : Calls Tryd.prog 8 #[] w fun e w' => e = .returned (.bool true) ∧ w.grownBy w' none ∧ Tab w' := by
  have HT := Lib.hid hT
  clear hT
  go_enter Tryd.func8, Tryd.ntmps8
  go_wp2_with fail
  refine (s_new 100 (by omega) w HT.out).mono ?_
  rintro e w1 ⟨rfl, hA, _, hsz⟩
  have HS := Lib.hid hsz
  clear hsz
  go_wp2_with fail
  refine (s_set 3 (by omega) hA).mono ?_
  rintro e w2 ⟨rfl, hA2, _⟩
  simp only [Bool.not_false]
  go_wp2_with fail
  refine (s_set 70 (by omega) hA2).mono ?_
  rw [show upd (fun _ => false) 3 true 70 = false by decide]
  rintro e w3 ⟨rfl, hA3, _⟩
  simp only [Bool.not_false]
  go_wp2_with fail
  refine (s_set 70 (by omega) hA3).mono ?_
  rw [show upd (upd (fun _ => false) 3 true) 70 true 70 = true by decide]
  rintro e w4 ⟨rfl, hA4', _⟩
  have hA4 := hA4'.eqv (T := upd (upd (fun _ => false) 3 true) 70 true) (fun j => by unfold upd; split <;> rfl)
  clear hA4'
  simp only [Bool.not_true]
  go_wp2_with fail
  refine (s_next 4 (by omega) (by omega) hA4).mono ?_
  rw [show mem (upd (upd (fun _ => false) 3 true) 70 true) (4 : Int).toNat 100 = [70] by decide +kernel, show nxV [70] = .tuple #[.int .i64 70, .bool true] from rfl]
  rintro e w5 ⟨rfl, hA5, _⟩
  go_wp2_with fail
  refine (s_count 0 70 (by omega) (by omega) hA5).mono ?_
  rw [show cnt (mem (upd (upd (fun _ => false) 3 true) 70 true) (0 : Int).toNat 100) 70 = 1 by decide +kernel]
  rintro e w6 ⟨rfl, hA6, _⟩
  go_wp2_with fail
  refine (s_has 3 hA6).mono ?_
  rw [show upd (upd (fun _ => false) 3 true) 70 true 3 = true by decide]
  rintro e w7 ⟨rfl, rfl⟩
  go_wp2_with fail
  refine (s_clear 3 hA6).mono ?_
  rw [show upd (upd (fun _ => false) 3 true) 70 true 3 = true by decide]
  rintro e w7 ⟨rfl, hA7, _⟩
  go_wp2_with fail
  refine (s_has 3 hA7).mono ?_
  rw [show upd (upd (upd (fun _ => false) 3 true) 70 true) 3 false 3 = false by decide]
  rintro e w8 ⟨rfl, rfl⟩
  go_wp2_with fail
  go_ret
  exact ⟨rfl, hA7.gr, hA7.tab⟩

end Go.Proofs.YtbojcmaljodpmaaDoor
