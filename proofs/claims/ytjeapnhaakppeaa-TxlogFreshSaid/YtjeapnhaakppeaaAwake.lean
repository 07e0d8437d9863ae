/-
  Contract of awake.
-/
import Derived.Test.YtjeapnhaakppeaaRepl
namespace Go.Proofs.Ytjeapnhaakppeaa
open Go.ChangeShapes Go.WideShapes Go.ChangeAt Go.RowKit Go.Shelf
set_option linter.unusedVariables false

/-- A log whose blocks are all newer than w; nothing that lay in w has turned. -/
def Fr (w w1 : World) (bp : Nat) (mr mu : Nat) (R K : List Int) (H : List (Int × Int)) (U : List (Int × Int × Int × Int)) : Prop :=
  ∃ Z, Lg w1 bp Z mr mu R K H U ∧ (∀ k, Z k → w.heap.size ≤ k) ∧ w.grownBy w1 none

section
variable {w w1 w2 : World} {bp : Nat} {Z : Nat → Prop} {mr mu : Nat} {R K R' K' : List Int} {H H' : List (Int × Int)} {U U' : List (Int × Int × Int × Int)}
theorem Fr.step (hz : ∀ k, Z k → w.heap.size ≤ k) (hg : w.grownBy w1 none) (h : Lg w2 bp (zx Z w1 w2) mr mu R' K' H' U') (hf : Zf Z w1 w2) : Fr w w2 bp mr mu R' K' H' U' :=
  ⟨_, h, fun k hk => by
    rcases hk with x | x
    · exact hz k x
    · exact Nat.le_trans hg.size x.1, Zf.gb hg hf hz⟩
theorem Fr.gb (h : Fr w w1 bp mr mu R K H U) (g : w1.grownBy w2 none) : Fr w w2 bp mr mu R K H U := by
  obtain ⟨Z, h, hz, hg⟩ := h
  exact ⟨Z, h.gb g (by simp), hz, grownBy_trans hg g⟩
theorem read_fr (h : Fr w w1 bp mr mu R K H U) (a : Int) : Calls Try.prog 15 #[.pointer (some ⟨bp, 0, none⟩), .int .i64 a] w1 fun e w2 => e = .returned (.bool (noteB R a mr)) ∧ Fr w w2 bp mr mu (noteL R a mr) K H U := by
  obtain ⟨Z, h, hz, hg⟩ := h
  exact (read_any bp Z mr mu R K H U a w1 h).mono fun e w2 hh => ⟨hh.1, Fr.step hz hg hh.2.1 hh.2.2⟩
theorem keep_fr (h : Fr w w1 bp mr mu R K H U) (a : Int) : Calls Try.prog 11 #[.pointer (some ⟨bp, 0, none⟩), .int .i64 a] w1 fun e w2 => e = .returned (.bool (noteB K a mr)) ∧ Fr w w2 bp mr mu R (noteL K a mr) H U := by
  obtain ⟨Z, h, hz, hg⟩ := h
  exact (keep_any bp Z mr mu R K H U a w1 h).mono fun e w2 hh => ⟨hh.1, Fr.step hz hg hh.2.1 hh.2.2⟩
theorem undo_fr (h : Fr w w1 bp mr mu R K H U) (a b c d : Int) : Calls Try.prog 18 #[.pointer (some ⟨bp, 0, none⟩), .agg #[.int .i64 a, .int .i64 b, .int .i64 c, .int .i64 d]] w1 fun e w2 => e = .returned (.bool (undoB U mu)) ∧ Fr w w2 bp mr mu R K H (undoL U (a, b, c, d) mu) := by
  obtain ⟨Z, h, hz, hg⟩ := h
  exact (undo_any bp Z mr mu R K H U (a, b, c, d) w1 h).mono fun e w2 hh => ⟨hh.1, Fr.step hz hg hh.2.1 hh.2.2⟩
theorem roots_fr (h : Fr w w1 bp mr mu R K H U) : Calls Try.prog 13 #[.pointer (some ⟨bp, 0, none⟩)] w1 fun e w2 => (∃ A c, e = .returned (.slice A (rootsL R K H U).length c) ∧ Rd w2 A (rootsL R K H U).length (rootsL R K H U)) ∧ Fr w w2 bp mr mu R K H U := by
  have hF := h
  obtain ⟨Z, h, hz, hg⟩ := h
  refine (roots_any bp Z mr mu R K H U w1 h).mono fun e w2 hh => ?_
  obtain ⟨⟨v, rfl, ho⟩, hg2⟩ := hh
  obtain ⟨A, c, rfl, hrd, _, _⟩ := Rd.of_own ho
  exact ⟨⟨A, c, rfl, hrd⟩, hF.gb hg2⟩
end

theorem Rd.lit {w : World} {g : Nat} {x y z : Int} (hb : Blk w g 3 #[.int .i64 x, .int .i64 y, .int .i64 z]) : Rd w (some ⟨g, 0, none⟩) 3 [x, y, z] :=
  ⟨rfl, fun i hi => ⟨g, 0, rfl, hb.lt, by
    rw [hb.cell]
    rcases (by omega : i = 0 ∨ i = 1 ∨ i = 2) with rfl | rfl | rfl <;> rfl⟩⟩

theorem replace_yes_fr {w w1 : World} {bp : Nat} {a0 a1 a2 q : Int} (h : Fr w w1 bp 1 1 [a0] [] [] [(1, a1, q, a2)]) (x y z : Int) :
    Calls Try.prog 24 #[.pointer (some ⟨bp, 0, none⟩), .slice (some ⟨w1.heap.size, 0, none⟩) 3 3] (w1.alloc (.cells #[.int .i64 x, .int .i64 y, .int .i64 z] 3)) fun e w2 => e = .returned (.bool true) ∧ Fr w w2 bp 1 1 [x] [] [] [(1, y, q, z)] := by
  obtain ⟨Z, h, hz, hg⟩ := h
  have hzl := h.zl'
  have h2 : Lg (w1.alloc (.cells #[.int .i64 x, .int .i64 y, .int .i64 z] 3)) bp Z 1 1 [a0] [] [] [(1, a1, q, a2)] := h.gb (World.grownBy_alloc w1 _ none) (by simp)
  refine (replace_yes bp Z a0 a1 a2 q _ 3 x y z _ h2 (Rd.lit (heap_alloc_new w1 _)) (fun b off e hb => ?_)).mono fun e w2 hh => ⟨hh.1, Z, hh.2.1, hz, Zf.gb (grownBy_trans hg (World.grownBy_alloc w1 _ none)) hh.2.2 hz⟩
  have := hzl b hb
  injection e with e
  injection e with e _ _
  omega

theorem replace_nil_fr {w w1 : World} {bp : Nat} {a0 a1 a2 q : Int} (h : Fr w w1 bp 1 1 [a0] [] [] [(1, a1, q, a2)]) :
    Calls Try.prog 24 #[.pointer (some ⟨bp, 0, none⟩), .slice none 0 0] w1 fun e w2 => e = .returned (.bool false) ∧ Fr w w2 bp 1 1 [a0] [] [] [(1, a1, q, a2)] := by
  obtain ⟨Z, h, hz, hg⟩ := h
  exact (replace_nil bp Z a0 a1 a2 q w1 h).mono fun e w2 hh => ⟨hh.1, Z, hh.2.1, hz, Zf.gb hg hh.2.2 hz⟩

set_option maxRecDepth 100000 in
set_option maxHeartbeats 4000000 in
theorem awake_any (w : World) : Calls Try.prog 8 #[] w fun e w' => e = .returned (.bool true) ∧ w.grownBy w' none := by
  go_enter Try.func8, Try.ntmps8
  go_wp2_with fail
  refine (new_any 1 1 (by omega) (by omega) w).mono ?_
  rintro e w1 ⟨rfl, hL, hg⟩
  have F0 : Fr w w1 w.heap.size 1 1 [] [] [] [] := ⟨_, hL, fun k hk => by omega, hg⟩
  clear hL hg
  have F0 := Lib.hid F0
  go_wp2_with fail
  refine (read_fr F0.out 5).mono ?_
  rintro e w2 ⟨rfl, F1⟩
  have F1 : Hid (Fr w w2 w.heap.size 1 1 [5] [] [] []) := F1
  rw [show noteB [] 5 1 = true from rfl]
  go_wp2_with fail
  refine (read_fr F1.out 5).mono ?_
  rintro e w3 ⟨rfl, F2⟩
  have F2 : Hid (Fr w w3 w.heap.size 1 1 [5] [] [] []) := F2
  rw [show noteB [5] 5 1 = true from rfl]
  go_wp2_with fail
  refine (read_fr F2.out 6).mono ?_
  rintro e w4 ⟨rfl, F3⟩
  have F3 : Hid (Fr w w4 w.heap.size 1 1 [5] [] [] []) := F3
  rw [show noteB [5] 6 1 = false from rfl]
  go_wp2_with fail
  refine (undo_fr F3.out 1 7 0 8).mono ?_
  rintro e w5 ⟨rfl, F4⟩
  have F4 : Hid (Fr w w5 w.heap.size 1 1 [5] [] [] [(1, 7, 0, 8)]) := F4
  rw [show undoB [] 1 = true from rfl]
  go_wp2_with fail
  refine (undo_fr F4.out 0 0 0 0).mono ?_
  rintro e w6 ⟨rfl, F5⟩
  have F5 : Hid (Fr w w6 w.heap.size 1 1 [5] [] [] [(1, 7, 0, 8)]) := F5
  rw [show undoB [(1, 7, 0, 8)] 1 = false from rfl]
  go_wp2_with fail
  refine (roots_fr F5.out).mono ?_
  rintro e w7 ⟨⟨A, c, rfl, hrd⟩, F6⟩
  have HR : Hid (Rd w7 A 3 [5, 7, 8]) := hrd
  have F6 := Lib.hid F6
  clear hrd
  rw [show (rootsL [5] [] [] [(1, 7, 0, 8)]).length = 3 from rfl]
  go_wp2_with fail
  refine (ints_any A _ 3 c _ [5, 7, 8] _ (HR.out.gb (World.grownBy_alloc w7 _ none)) (Rd.lit (heap_alloc_new w7 _)) (by omega)).mono ?_
  rintro e w8 ⟨rfl, hg8⟩
  have F7 := Lib.hid (F6.out.gb (grownBy_trans (World.grownBy_alloc w7 _ none) hg8))
  clear hg8
  go_wp2_with fail
  refine (replace_yes_fr F7.out 1 2 3).mono ?_
  rintro e w9 ⟨rfl, F8⟩
  have F8 := Lib.hid F8
  go_wp2_with fail
  refine (replace_nil_fr F8.out).mono ?_
  rintro e w10 ⟨rfl, F9⟩
  have F9 := Lib.hid F9
  go_wp2_with fail
  refine (roots_fr F9.out).mono ?_
  rintro e w11 ⟨⟨B, d, rfl, hrd⟩, F10⟩
  have HR2 : Hid (Rd w11 B 3 [1, 2, 3]) := hrd
  have F10 := Lib.hid F10
  clear hrd
  rw [show (rootsL [1] [] [] [(1, 2, 0, 3)]).length = 3 from rfl]
  go_wp2_with fail
  refine (ints_any B _ 3 d _ [1, 2, 3] _ (HR2.out.gb (World.grownBy_alloc w11 _ none)) (Rd.lit (heap_alloc_new w11 _)) (by omega)).mono ?_
  rintro e w12 ⟨rfl, hg12⟩
  have F11 := Lib.hid (F10.out.gb (grownBy_trans (World.grownBy_alloc w11 _ none) hg12))
  clear hg12
  go_wp2_with fail
  refine (keep_fr F11.out 4).mono ?_
  rintro e w13 ⟨rfl, F12⟩
  have F12 := Lib.hid F12
  rw [show noteB [] 4 1 = true from rfl]
  go_wp2_with fail
  go_ret
  obtain ⟨_, _, _, hg⟩ := F12.out
  exact ⟨rfl, hg⟩
end Go.Proofs.Ytjeapnhaakppeaa
