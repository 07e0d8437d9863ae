/-
  Small words for the laws: what was met in the first k of a list; draws; an append beside the log.
-/
import Derived.Test.YtjeapnhaakppeaaSz
import Derived.Deep.QuietTactic
import Derived.BigQuiet
namespace Go.Proofs.Ytjeapnhaakppeaa
open Go.ChangeShapes Go.WideShapes Go.ChangeAt Go.RowKit Go.Shelf
set_option linter.unusedVariables false

theorem gb_drewN (w : World) (n : Nat) (r : Option Nat) : w.grownBy (w.drewN n) r := ⟨rfl, rfl, rfl, Nat.le_refl _, fun _ _ _ => rfl⟩

/-- b tells whether p is among the first k of xs. -/
def Ink (b : Bool) (p : Int) (xs : List Int) (k : Nat) : Prop := b = true ↔ p ∈ xs.take k
theorem Ink.zero (p : Int) (xs : List Int) : Ink false p xs 0 := by simp [Ink]
theorem ink_succ {p : Int} {xs : List Int} {k : Nat} (h : k < xs.length) : p ∈ xs.take (k + 1) ↔ p ∈ xs.take k ∨ xs.getD k 0 = p := by
  rw [List.take_succ_eq_append_getElem h, List.mem_append, List.mem_singleton]
  have : xs.getD k 0 = xs[k] := by simp [h]
  rw [this]
  exact ⟨fun x => x.imp id Eq.symm, fun x => x.imp id Eq.symm⟩
theorem Ink.stays {p : Int} {xs : List Int} {k : Nat} (h : Ink true p xs k) (hk : k < xs.length) : Ink true p xs (k + 1) := by
  unfold Ink at *; rw [ink_succ hk]; exact ⟨fun _ => .inl (h.1 rfl), fun _ => rfl⟩
theorem Ink.hit {b : Bool} {p : Int} {xs : List Int} {k : Nat} (hk : k < xs.length) (e : xs.getD k 0 = p) : Ink true p xs (k + 1) := by
  unfold Ink; rw [ink_succ hk]; exact ⟨fun _ => .inr e, fun _ => rfl⟩
theorem Ink.miss {p : Int} {xs : List Int} {k : Nat} (h : Ink false p xs k) (hk : k < xs.length) (e : xs.getD k 0 ≠ p) : Ink false p xs (k + 1) := by
  unfold Ink at *; rw [ink_succ hk]
  exact ⟨(fun x => nomatch x), fun x => x.elim (fun y => h.2 y) (fun y => absurd y e)⟩
theorem Ink.yes {p : Int} {xs : List Int} (h : Ink true p xs xs.length) : p ∈ xs := by
  have := h.1 rfl; rwa [List.take_length] at this
theorem Ink.no {p : Int} {xs : List Int} (h : Ink false p xs xs.length) : ¬ p ∈ xs := fun m => by
  have q := h.2 (by rwa [List.take_length]); nomatch q

theorem note_in {xs : List Int} {a : Int} {m : Nat} (h : a ∈ xs) : noteB xs a m = true ∧ noteL xs a m = xs := ⟨by simp [noteB, h], if_pos h⟩
theorem note_fits {xs : List Int} {a : Int} {m : Nat} (h : ¬ a ∈ xs) (k : xs.length < m) : noteB xs a m = true ∧ noteL xs a m = xs ++ [a] := ⟨by simp [noteB, k], by unfold noteL; rw [if_neg h, if_pos k]⟩
theorem note_full {xs : List Int} {a : Int} {m : Nat} (h : ¬ a ∈ xs) (k : ¬ xs.length < m) : noteB xs a m = false ∧ noteL xs a m = xs := ⟨by simp [noteB, h]; omega, by unfold noteL; rw [if_neg h, if_neg k]⟩

theorem ints_snoc (xs : List Int) (a : Int) : ints (xs ++ [a]) = ints xs ++ [.int .i64 a] := by simp [ints]

/-- What the loop over the places carries. -/
def Wl (w wr : World) (bp n m : Nat) (R K : List Int) (H : List (Int × Int)) (U : List (Int × Int × Int × Int)) (s : Value) (want : List Int) : Prop :=
  ∃ Z, Sz w wr Z bp n m R K H U ∧ Ow w wr Z 3 1 s want.length (ints want)
section
variable {w wr w2 w4 : World} {bp n m : Nat} {R K R' K' : List Int} {H H' : List (Int × Int)} {U U' : List (Int × Int × Int × Int)} {s : Value} {want : List Int} {Z : Nat → Prop}
theorem Wl.gb (h : Wl w wr bp n m R K H U s want) (g : wr.grownBy w2 none) : Wl w w2 bp n m R K H U s want := by
  obtain ⟨Z, a, b⟩ := h
  exact ⟨Z, a.gb g, b.gb g⟩
theorem Wl.gr (h : Wl w wr bp n m R K H U s want) : w.grownBy wr none := by
  obtain ⟨Z, a, b⟩ := h
  exact a.gr
theorem Wl.rd (h : Wl w wr bp n m R K H U s want) : ∃ A c, s = .slice A want.length c ∧ Rd wr A want.length want ∧ want.length ≤ c ∧ c ≤ 9223372036854775807 := by
  obtain ⟨Z, a, b⟩ := h
  exact Rd.of_own b.1
theorem Wl.start (h : Sz w wr Z bp n m R K H U) : Wl w wr bp n m R K H U (.slice none 0 0) [] :=
  ⟨Z, h, World.ownsRow_nil _ _ _ _, by simp [Value.ownBlock]⟩
theorem Wl.read (h : Wl w wr bp n m R K H U s want) (a : Int) : Calls Try.prog 15 #[.pointer (some ⟨bp, 0, none⟩), .int .i64 a] wr fun e w2 => e = .returned (.bool (noteB R a n)) ∧ Wl w w2 bp n m (noteL R a n) K H U s want := by
  obtain ⟨Z, x, y⟩ := h
  exact (read_sz x a).mono fun e w2 hh => ⟨hh.1, _, hh.2.1, y.zf hh.2.2⟩
theorem Wl.keep (h : Wl w wr bp n m R K H U s want) (a : Int) : Calls Try.prog 11 #[.pointer (some ⟨bp, 0, none⟩), .int .i64 a] wr fun e w2 => e = .returned (.bool (noteB K a n)) ∧ Wl w w2 bp n m R (noteL K a n) H U s want := by
  obtain ⟨Z, x, y⟩ := h
  exact (keep_sz x a).mono fun e w2 hh => ⟨hh.1, _, hh.2.1, y.zf hh.2.2⟩
theorem Wl.hold (h : Wl w wr bp n m R K H U s want) (a b : Int) : Calls Try.prog 16 #[.pointer (some ⟨bp, 0, none⟩), .agg #[.int .i64 a, .int .i64 b]] wr fun e w2 => e = .returned (.bool (holdB H (a, b) m)) ∧ Wl w w2 bp n m R K (holdL H (a, b) m) U s want := by
  obtain ⟨Z, x, y⟩ := h
  exact (hold_sz x a b).mono fun e w2 hh => ⟨hh.1, _, hh.2.1, y.zf hh.2.2⟩
theorem Wl.roots (h : Wl w wr bp n m R K H U s want) : Calls Try.prog 13 #[.pointer (some ⟨bp, 0, none⟩)] wr fun e w2 => (∃ A c, e = .returned (.slice A (rootsL R K H U).length c) ∧ Rd w2 A (rootsL R K H U).length (rootsL R K H U)) ∧ Wl w w2 bp n m R K H U s want := by
  obtain ⟨Z, x, y⟩ := h
  exact (roots_sz x).mono fun e w2 hh => ⟨hh.1, Z, x.gb hh.2, y.gb hh.2⟩
theorem Wl.reads (h : Wl w wr bp n m R K H U s want) : Calls Try.prog 14 #[.pointer (some ⟨bp, 0, none⟩)] wr fun e w2 => (∃ A c, e = .returned (.slice A R.length c) ∧ Rd w2 A R.length R) ∧ Wl w w2 bp n m R K H U s want := by
  obtain ⟨Z, x, y⟩ := h
  exact (reads_sz x).mono fun e w2 hh => ⟨hh.1, Z, x.gb hh.2, y.gb hh.2⟩
theorem Wl.holds (h : Wl w wr bp n m R K H U s want) : Calls Try.prog 17 #[.pointer (some ⟨bp, 0, none⟩)] wr fun e w2 => (∃ A c base, e = .returned (.slice A H.length c) ∧ w2.ownsRow base 33 2 (.slice A H.length c) H.length (hvs H)) ∧ Wl w w2 bp n m R K H U s want := by
  obtain ⟨Z, x, y⟩ := h
  exact (holds_sz x).mono fun e w2 hh => ⟨hh.1, Z, x.gb hh.2, y.gb hh.2⟩
end

/-- The law of an append to the row beside the log. -/
theorem Wl.app {w wr w4 : World} {bp n m g cap k : Nat} {R K : List Int} {H : List (Int × Int)} {U : List (Int × Int × Int × Int)} {s : Value} {want : List Int} {Z : Nat → Prop} {a : Int} {o : Obj} (h : Sz w wr Z bp n m R K H U) (ho : Ow w wr Z 3 1 s want.length (ints want))
    (hown : w4.ownsRow w.heap.size 3 1 (.slice (some ⟨g, 0, none⟩) (want.length + 1) cap) (want.length + 1) (ints want ++ [.int .i64 a])) (hg : (wr.alloc o).grownBy w4 s.ownBlock) (hat : s.ownBlock = some g ∨ g = wr.heap.size + 1) :
    Wl w w4 bp n m R K H U (.slice (some ⟨g, 0, none⟩) (want.length + 1) cap) (want ++ [a]) := by
  obtain ⟨x, y⟩ := appended h ho hown hg hat
  refine ⟨Z, x, ?_⟩
  rw [ints_snoc, List.length_append, List.length_singleton]
  exact y
end Go.Proofs.Ytjeapnhaakppeaa
