/-
  The log's contracts over a world in which nothing old has turned; rows beside the log.
-/
import Derived.Test.YtjeapnhaakppeaaAwake
namespace Go.Proofs.Ytjeapnhaakppeaa
open Go.ChangeShapes Go.WideShapes Go.ChangeAt Go.RowKit Go.Shelf
set_option linter.unusedVariables false

/-- A log in the zone Z, all of it newer than w; nothing that lay in w has turned. -/
def Sz (w wr : World) (Z : Nat → Prop) (bp mr mu : Nat) (R K : List Int) (H : List (Int × Int)) (U : List (Int × Int × Int × Int)) : Prop :=
  Lg wr bp Z mr mu R K H U ∧ (∀ k, Z k → w.heap.size ≤ k) ∧ w.grownBy wr none

/-- A row that is owned, newer than w, outside the zone. -/
def Ow (w wr : World) (Z : Nat → Prop) (e : TypeId) (size : Nat) (v : Value) (n : Nat) (xs : List Value) : Prop :=
  wr.ownsRow w.heap.size e size v n xs ∧ ∀ g, v.ownBlock = some g → ¬ Z g

section
variable {w wr w2 : World} {bp : Nat} {Z : Nat → Prop} {mr mu : Nat} {R K : List Int} {H : List (Int × Int)} {U : List (Int × Int × Int × Int)} {e : TypeId} {size n : Nat} {v : Value} {xs : List Value}
theorem Sz.gr (h : Sz w wr Z bp mr mu R K H U) : w.grownBy wr none := h.2.2
theorem Sz.gb (h : Sz w wr Z bp mr mu R K H U) (g : wr.grownBy w2 none) : Sz w w2 Z bp mr mu R K H U := ⟨h.1.gb g (by simp), h.2.1, grownBy_trans h.2.2 g⟩
theorem Sz.gbr {r : Option Nat} (h : Sz w wr Z bp mr mu R K H U) (g : wr.grownBy w2 r) (hr : ∀ b, r = some b → ¬ Z b ∧ w.heap.size ≤ b) : Sz w w2 Z bp mr mu R K H U :=
  ⟨h.1.gb g (fun b e => (hr b e).1), h.2.1, gb_new h.2.2 g (fun b e => (hr b e).2)⟩
theorem Ow.gb (h : Ow w wr Z e size v n xs) (g : wr.grownBy w2 none) : Ow w w2 Z e size v n xs := ⟨own_gb0 h.1 g, h.2⟩
theorem Ow.gbr {r : Option Nat} (h : Ow w wr Z e size v n xs) (g : wr.grownBy w2 r) (hr : ∀ b, r = some b → v.ownBlock ≠ some b) : Ow w w2 Z e size v n xs :=
  ⟨own_zf h.1 (Zf.of_gb (Z := fun k => r = some k) g (fun b e => e)) (fun b e x => hr b x e), h.2⟩
theorem Ow.zf (h : Ow w wr Z e size v n xs) (f : Zf Z wr w2) : Ow w w2 (zx Z wr w2) e size v n xs :=
  ⟨own_zf h.1 f h.2, fun g e x => by
    rcases x with x | x
    · exact h.2 g e x
    · have := own_lt h.1 e; omega⟩
theorem Sz.step {R' K' : List Int} {H' : List (Int × Int)} {U' : List (Int × Int × Int × Int)} (h : Sz w wr Z bp mr mu R K H U) (h2 : Lg w2 bp (zx Z wr w2) mr mu R' K' H' U') (hf : Zf Z wr w2) : Sz w w2 (zx Z wr w2) bp mr mu R' K' H' U' :=
  ⟨h2, fun k hk => by
    rcases hk with x | x
    · exact h.2.1 k x
    · exact Nat.le_trans h.2.2.size x.1, Zf.gb h.2.2 hf h.2.1⟩

theorem read_sz (h : Sz w wr Z bp mr mu R K H U) (a : Int) : Calls Try.prog 15 #[.pointer (some ⟨bp, 0, none⟩), .int .i64 a] wr fun e w2 => e = .returned (.bool (noteB R a mr)) ∧ Sz w w2 (zx Z wr w2) bp mr mu (noteL R a mr) K H U ∧ Zf Z wr w2 :=
  (read_any bp Z mr mu R K H U a wr h.1).mono fun e w2 hh => ⟨hh.1, h.step hh.2.1 hh.2.2, hh.2.2⟩
theorem keep_sz (h : Sz w wr Z bp mr mu R K H U) (a : Int) : Calls Try.prog 11 #[.pointer (some ⟨bp, 0, none⟩), .int .i64 a] wr fun e w2 => e = .returned (.bool (noteB K a mr)) ∧ Sz w w2 (zx Z wr w2) bp mr mu R (noteL K a mr) H U ∧ Zf Z wr w2 :=
  (keep_any bp Z mr mu R K H U a wr h.1).mono fun e w2 hh => ⟨hh.1, h.step hh.2.1 hh.2.2, hh.2.2⟩
theorem undo_sz (h : Sz w wr Z bp mr mu R K H U) (a b c d : Int) : Calls Try.prog 18 #[.pointer (some ⟨bp, 0, none⟩), .agg #[.int .i64 a, .int .i64 b, .int .i64 c, .int .i64 d]] wr fun e w2 => e = .returned (.bool (undoB U mu)) ∧ Sz w w2 (zx Z wr w2) bp mr mu R K H (undoL U (a, b, c, d) mu) ∧ Zf Z wr w2 :=
  (undo_any bp Z mr mu R K H U (a, b, c, d) wr h.1).mono fun e w2 hh => ⟨hh.1, h.step hh.2.1 hh.2.2, hh.2.2⟩
theorem hold_sz (h : Sz w wr Z bp mr mu R K H U) (a b : Int) : Calls Try.prog 16 #[.pointer (some ⟨bp, 0, none⟩), .agg #[.int .i64 a, .int .i64 b]] wr fun e w2 => e = .returned (.bool (holdB H (a, b) mu)) ∧ Sz w w2 (zx Z wr w2) bp mr mu R K (holdL H (a, b) mu) U ∧ Zf Z wr w2 :=
  (hold_any bp Z mr mu R K H U a b wr h.1).mono fun e w2 hh => ⟨hh.1, h.step hh.2.1 hh.2.2, hh.2.2⟩
theorem roots_sz (h : Sz w wr Z bp mr mu R K H U) : Calls Try.prog 13 #[.pointer (some ⟨bp, 0, none⟩)] wr fun e w2 => (∃ A c, e = .returned (.slice A (rootsL R K H U).length c) ∧ Rd w2 A (rootsL R K H U).length (rootsL R K H U)) ∧ wr.grownBy w2 none := by
  refine (roots_any bp Z mr mu R K H U wr h.1).mono fun e w2 hh => ?_
  obtain ⟨⟨v, rfl, ho⟩, hg2⟩ := hh
  obtain ⟨A, c, rfl, hrd, _, _⟩ := Rd.of_own ho
  exact ⟨⟨A, c, rfl, hrd⟩, hg2⟩
theorem reads_sz (h : Sz w wr Z bp mr mu R K H U) : Calls Try.prog 14 #[.pointer (some ⟨bp, 0, none⟩)] wr fun e w2 => (∃ A c, e = .returned (.slice A R.length c) ∧ Rd w2 A R.length R) ∧ wr.grownBy w2 none := by
  refine (reads_any bp Z mr mu R K H U wr h.1).mono fun e w2 hh => ?_
  obtain ⟨⟨v, rfl, ho⟩, hg2⟩ := hh
  obtain ⟨A, c, rfl, hrd, _, _⟩ := Rd.of_own ho
  exact ⟨⟨A, c, rfl, hrd⟩, hg2⟩
theorem holds_sz (h : Sz w wr Z bp mr mu R K H U) : Calls Try.prog 17 #[.pointer (some ⟨bp, 0, none⟩)] wr fun e w2 => (∃ A c base, e = .returned (.slice A H.length c) ∧ w2.ownsRow base 33 2 (.slice A H.length c) H.length (hvs H)) ∧ wr.grownBy w2 none := by
  refine (holds__any bp Z mr mu R K H U wr h.1).mono fun e w2 hh => ?_
  obtain ⟨⟨v, rfl, ho⟩, hg2⟩ := hh
  have ho0 : w2.ownsRow 0 33 2 v H.length (hvs H) := ⟨ho.1, ho.2.imp id (fun ⟨g, cap, cur, a, _, b⟩ => ⟨g, cap, cur, a, Nat.zero_le _, b⟩)⟩
  obtain ⟨A, c, rfl, _, _⟩ := own_form ho0
  exact ⟨⟨A, c, _, rfl, ho⟩, hg2⟩
theorem undos_sz (h : Sz w wr Z bp mr mu R K H U) : Calls Try.prog 20 #[.pointer (some ⟨bp, 0, none⟩)] wr fun e w2 => (∃ A c base, e = .returned (.slice A U.length c) ∧ w2.ownsRow base 38 4 (.slice A U.length c) U.length (uvs U)) ∧ wr.grownBy w2 none := by
  refine (undos__any bp Z mr mu R K H U wr h.1).mono fun e w2 hh => ?_
  obtain ⟨⟨v, rfl, ho⟩, hg2⟩ := hh
  have ho0 : w2.ownsRow 0 38 4 v U.length (uvs U) := ⟨ho.1, ho.2.imp id (fun ⟨g, cap, cur, a, _, b⟩ => ⟨g, cap, cur, a, Nat.zero_le _, b⟩)⟩
  obtain ⟨A, c, rfl, _, _⟩ := own_form ho0
  exact ⟨⟨A, c, _, rfl, ho⟩, hg2⟩
theorem reset_sz (h : Sz w wr Z bp mr mu R K H U) : Calls Try.prog 21 #[.pointer (some ⟨bp, 0, none⟩)] wr fun e w2 => (∃ v, e = .returned v) ∧ Sz w w2 Z bp mr mu [] [] [] [] ∧ Zf Z wr w2 :=
  (reset_any bp Z mr mu R K H U wr h.1).mono fun e w2 hh => ⟨hh.1, ⟨hh.2.1, h.2.1, Zf.gb h.2.2 hh.2.2 h.2.1⟩, hh.2.2⟩
end
theorem new_sz (mr mu : Nat) (hr : mr ≤ 200) (hu : mu ≤ 200) (w wr : World) (hg : w.grownBy wr none) :
    Calls Try.prog 10 #[.int .i64 mr, .int .i64 mu] wr fun e w2 => e = .returned (.pointer (some ⟨wr.heap.size, 0, none⟩)) ∧ Sz w w2 (fun k => k = wr.heap.size) wr.heap.size mr mu [] [] [] [] ∧ wr.grownBy w2 none :=
  (new_any mr mu hr hu wr).mono fun e w2 hh => ⟨hh.1, ⟨hh.2.1, fun k hk => by rw [hk]; exact hg.size, grownBy_trans hg hh.2.2⟩, hh.2.2⟩

/-- An append to a row beside the log. -/
theorem appended {w wr w4 : World} {bp : Nat} {Z : Nat → Prop} {mr mu : Nat} {R K : List Int} {H : List (Int × Int)} {U : List (Int × Int × Int × Int)} {e : TypeId} {size n m g cap : Nat} {v : Value} {xs ys : List Value} {o : Obj}
    (h : Sz w wr Z bp mr mu R K H U) (ho : Ow w wr Z e size v n xs) (hown : w4.ownsRow w.heap.size e size (.slice (some ⟨g, 0, none⟩) m cap) m ys) (hg : (wr.alloc o).grownBy w4 v.ownBlock) (hat : v.ownBlock = some g ∨ g = wr.heap.size + 1) :
    Sz w w4 Z bp mr mu R K H U ∧ Ow w w4 Z e size (.slice (some ⟨g, 0, none⟩) m cap) m ys := by
  refine ⟨(h.gb (World.grownBy_alloc wr o none)).gbr hg (fun b eb => ⟨ho.2 b eb, (ho.1.lt b eb).1⟩), hown, fun b eb => ?_⟩
  have eb : g = b := by simpa [Value.ownBlock] using eb
  subst eb
  rcases hat with x | x
  · exact ho.2 g x
  · intro hz; have := h.1.zl' g hz; omega
end Go.Proofs.Ytjeapnhaakppeaa
