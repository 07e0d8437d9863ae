/-
  Contracts: pick, bound, New, Index, Contains, note. What a log is in memory.
-/
import Derived.Test.YtjeapnhaakppeaaRows
import Derived.WalkKit
import Derived.ProofKit
import Derived.Below
import Derived.Lib.Hide
import Derived.Outline
import Derived.Laws.Rows
import Derived.IntWalk
import Derived.StillTailTactics
import Derived.RegionTactic
import Derived.Deep.AppendLies
import Derived.Deep.DeepMust
namespace Go.Proofs.Ytjeapnhaakppeaa
open Go.ChangeShapes Go.WideShapes Go.ChangeAt Go.RowKit
set_option linter.unusedVariables false

theorem ret_bool {b c : Bool} (h : b = c) : Ending.returned (.bool b) = .returned (.bool c) := by rw [h]
theorem ret_int {k : IntKind} {a b : Int} (h : a = b) : Ending.returned (.int k a) = .returned (.int k b) := by rw [h]
theorem grownBy_refl (w : World) (r : Option Nat) : w.grownBy w r := ⟨rfl, rfl, rfl, Nat.le_refl _, fun _ _ _ => rfl⟩
theorem grownBy_trans {a b c : World} {r : Option Nat} (h : a.grownBy b r) (k : b.grownBy c r) : a.grownBy c r :=
  ⟨k.os.trans h.os, k.tape.trans h.tape, k.output.trans h.output, Nat.le_trans h.size k.size, fun i hi hn => (k.block i (Nat.lt_of_lt_of_le hi h.size) hn).trans (h.block i hi hn)⟩
theorem gb_new {a b c : World} {r : Option Nat} (h : a.grownBy b none) (k : b.grownBy c r) (hg : ∀ g, r = some g → a.heap.size ≤ g) : a.grownBy c none :=
  ⟨k.os.trans h.os, k.tape.trans h.tape, k.output.trans h.output, Nat.le_trans h.size k.size, fun i hi hn => (k.block i (Nat.lt_of_lt_of_le hi h.size) (fun e => by have := hg i e.symm; omega)).trans (h.block i hi hn)⟩
theorem gb_drew (w : World) (r : Option Nat) : w.grownBy w.drew r := ⟨rfl, rfl, rfl, Nat.le_refl _, fun _ _ _ => rfl⟩
theorem below_of {w w' : World} (h : w.grownBy w' none) : Below w.heap.size w w' := ⟨h.os, h.tape, h.output, h.size, fun k hk => h.block k hk (by simp)⟩
theorem of_below {w w' : World} (h : Below w.heap.size w w') : w.grownBy w' none := ⟨h.os, h.tape, h.output, h.size, fun k hk _ => h.block k hk⟩

/-- Only blocks of the zone Z, and new ones, have turned. -/
structure Zf (Z : Nat → Prop) (w w' : World) : Prop where
  os : w'.os = w.os
  tape : w'.tape = w.tape
  output : w'.output = w.output
  size : w.heap.size ≤ w'.heap.size
  block : ∀ k, k < w.heap.size → ¬ Z k → w'.heap[k]? = w.heap[k]?

theorem Zf.refl (Z : Nat → Prop) (w : World) : Zf Z w w := ⟨rfl, rfl, rfl, Nat.le_refl _, fun _ _ _ => rfl⟩
theorem Zf.trans {Z : Nat → Prop} {a b c : World} (h : Zf Z a b) (k : Zf Z b c) : Zf Z a c :=
  ⟨k.os.trans h.os, k.tape.trans h.tape, k.output.trans h.output, Nat.le_trans h.size k.size, fun i hi hn => (k.block i (Nat.lt_of_lt_of_le hi h.size) hn).trans (h.block i hi hn)⟩
/-- The zone may have grown in between by new blocks. -/
theorem Zf.trans' {Z Z' : Nat → Prop} {a b c : World} (h : Zf Z a b) (k : Zf Z' b c) (hz : ∀ i, i < a.heap.size → Z' i → Z i) : Zf Z a c :=
  ⟨k.os.trans h.os, k.tape.trans h.tape, k.output.trans h.output, Nat.le_trans h.size k.size, fun i hi hn => (k.block i (Nat.lt_of_lt_of_le hi h.size) (fun z => hn (hz i hi z))).trans (h.block i hi hn)⟩
theorem Zf.of_gb {Z : Nat → Prop} {a b : World} {r : Option Nat} (h : a.grownBy b r) (hr : ∀ g, r = some g → Z g) : Zf Z a b :=
  ⟨h.os, h.tape, h.output, h.size, fun i hi hn => h.block i hi (fun e => hn (hr i e.symm))⟩
theorem Zf.gb {Z : Nat → Prop} {a b c : World} (h : a.grownBy b none) (k : Zf Z b c) (hz : ∀ i, Z i → a.heap.size ≤ i) : a.grownBy c none :=
  ⟨k.os.trans h.os, k.tape.trans h.tape, k.output.trans h.output, Nat.le_trans h.size k.size, fun i hi hn => (k.block i (Nat.lt_of_lt_of_le hi h.size) (fun z => by have := hz i z; omega)).trans (h.block i hi hn)⟩

/-! ### pick, bound -/
def pk (c n : Int) : Int := (if c < 0 then -(c + 1) else c) % n
theorem pk_range (c n : Int) (hn : 0 < n) : 0 ≤ pk c n ∧ pk c n < n := by
  unfold pk; exact ⟨Int.emod_nonneg _ (by omega), Int.emod_lt_of_pos _ hn⟩

theorem pick_any (c n : Int) (w : World) (hc : -9223372036854775808 ≤ c) (hn : 0 < n) :
    Calls Try.prog 9 #[.int .i64 c, .int .i64 n] w fun e w' => e = .returned (.int .i64 (pk c n)) ∧ w = w' := by
  by_cases h : c < 0
  · have HP : Hid (pk c n = -(c + 1) % n) := by unfold Hid pk; rw [if_pos h]
    rw [HP.out]
    clear HP
    go_enter Try.func9, Try.ntmps9
    go_wp2
    go_ret
    exact ⟨ret_int (by rw [← Int.neg_tmod, Int.tmod_eq_emod_of_nonneg (by omega)]), rfl⟩
  · have HP : Hid (pk c n = c % n) := by unfold Hid pk; rw [if_neg h]
    rw [HP.out]
    clear HP
    go_enter Try.func9, Try.ntmps9
    go_wp2
    go_ret
    exact ⟨rfl, rfl⟩

theorem bound_any (n : Nat) (h : n ≤ 200) (w : World) :
    Calls Try.prog 25 #[.int .i64 n] w fun e w' => e = .returned (.int .i64 n) ∧ w = w' := by
  go_enter Try.func25, Try.ntmps25
  go_wp2
  go_ret
  exact ⟨rfl, rfl⟩

/-! ### slices of integers that are read -/
def ints (xs : List Int) : List Value := xs.map (Value.int .i64)
theorem ints_length (xs : List Int) : (ints xs).length = xs.length := by simp [ints]

/-- The slice value '.slice A n c' reads as xs. -/
structure Rd (w : World) (A : Option Addr) (n : Nat) (xs : List Int) : Prop where
  len : xs.length = n
  at_ : ∀ i, i < n → ∃ b off, A = some ⟨b, off, none⟩ ∧ b < w.heap.size ∧ w.cell? ⟨b, off + i, none⟩ = some (.int .i64 (xs.getD i 0))

theorem Rd.keep {w w' : World} {A : Option Addr} {n : Nat} {xs : List Int} (h : Rd w A n xs) (hs : w.heap.size ≤ w'.heap.size) (hk : ∀ b off, A = some ⟨b, off, none⟩ → w'.heap[b]? = w.heap[b]?) : Rd w' A n xs :=
  ⟨h.len, fun i hi => by
    obtain ⟨b, off, hA, hb, hc⟩ := h.at_ i hi
    exact ⟨b, off, hA, by omega, (World.cell?_of_block (a := ⟨b, off + i, none⟩) (hk b off hA)).trans hc⟩⟩

theorem Rd.of_own {w : World} {base : Nat} {v : Value} {n : Nat} {xs : List Int} (h : w.ownsRow base 3 1 v n (ints xs)) : ∃ A c, v = .slice A n c ∧ Rd w A n xs ∧ n ≤ c ∧ c ≤ 9223372036854775807 := by
  have hl : xs.length = n := by have := h.1; rw [ints_length] at this; omega
  rcases h.2 with ⟨rfl, rfl⟩ | ⟨g, cap, cur, rfl, _, hg, hn, hm, _, _⟩
  · exact ⟨none, 0, rfl, ⟨hl, fun i hi => by omega⟩, Nat.le_refl _, by omega⟩
  · refine ⟨some ⟨g, 0, none⟩, cap, rfl, ⟨hl, fun i hi => ⟨g, 0, rfl, (Array.getElem?_eq_some_iff.1 hg).1, ?_⟩⟩, hn, by unfold maxLen at hm; omega⟩
    have := h.cellAt i (by omega)
    rw [Nat.zero_add, this]
    simp [ints, show i < xs.length by omega]

theorem Rd.block {w : World} {base : Nat} {A : Option Addr} {n c : Nat} {xs : List Value} {b off : Nat} (h : w.ownsRow base 3 1 (.slice A n c) n xs) (hA : A = some ⟨b, off, none⟩) : (Value.slice A n c).ownBlock = some b := by
  subst hA; rfl

/-- Index tells a place, or -1, as the number is in. -/
theorem index_any (A : Option Addr) (n c : Nat) (xs : List Int) (v : Int) (w : World) (h : Rd w A n xs) (hn : (n : Int) ≤ 9223372036854775807) :
    Calls Try.prog 33 #[.slice A n c, .int .i64 v] w fun e w' => (∃ r : Int, e = .returned (.int .i64 r) ∧ (0 ≤ r ↔ v ∈ xs)) ∧ w = w' := by
  have hl := h.len
  have HL := Lib.hid hl
  clear hl
  go_enter Try.func33, Try.ntmps33
  go_wp2
  go_loop [8] (fun i => ∃ k : Nat, k ≤ n ∧ i = .int .i64 k ∧ Hid (∀ j, j < k → xs.getD j 0 ≠ v)) (fun i => n - (intOf i).toNat)
  case atStart => exact ⟨0, Nat.zero_le _, rfl, fun j hj => by omega⟩
  case round =>
    obtain ⟨k, hk, rfl, Hno⟩ := hrel
    by_cases hlt : k < n
    · obtain ⟨b, off, rfl, hb, hc⟩ := h.at_ k hlt
      by_cases hv : xs.getD k 0 = v
      · have HM : Hid (v ∈ xs) := by
          have hk' : k < xs.length := by rw [HL.out]; exact hlt
          have : xs.getD k 0 = xs[k] := by simp [hk']
          unfold Hid; rw [← hv, this]; exact List.getElem_mem _
        rw [hv] at hc
        clear hv
        go_wp2
        go_ret
        exact ⟨⟨k, rfl, by simp [HM.out]⟩, rfl⟩
      · have ht : (v == xs.getD k 0) = false := by rw [beq_eq_false_iff_ne]; exact fun e => hv e.symm
        have Hno2 : Hid (∀ j, j < k + 1 → xs.getD j 0 ≠ v) := fun j hj => by
          by_cases e : j = k
          · rw [e]; exact hv
          · exact Hno.out j (by omega)
        clear hv
        generalize xs.getD k 0 = y at *
        go_wp2
        go_round
        case rel => exact ⟨k + 1, by omega, by go_num, Hno2⟩
        case measure => simp [intOf]; omega
    · obtain rfl : k = n := by omega
      go_wp2
      go_ret
      refine ⟨⟨-1, rfl, ?_⟩, rfl⟩
      constructor
      · intro h0; omega
      · intro hm
        obtain ⟨j, hj, e⟩ := List.getElem_of_mem hm
        exact absurd (by simp [hj, e]) (Hno.out j (by rw [← HL.out]; exact hj))

theorem contains_any (A : Option Addr) (n c : Nat) (xs : List Int) (v : Int) (w : World) (h : Rd w A n xs) (hn : (n : Int) ≤ 9223372036854775807) :
    Calls Try.prog 31 #[.slice A n c, .int .i64 v] w fun e w' => e = .returned (.bool (decide (v ∈ xs))) ∧ w = w' := by
  obtain ⟨b, hb⟩ : ∃ b, decide (v ∈ xs) = b := ⟨_, rfl⟩
  rw [hb]
  have HB := Lib.hid hb
  clear hb
  go_enter Try.func31, Try.ntmps31
  go_wp2_with fail
  refine (index_any A n c xs v w h hn).mono ?_
  rintro e w' ⟨⟨r, rfl, hr⟩, rfl⟩
  have hb2 : decide (0 ≤ r) = b := by rw [← HB.out, decide_eq_decide]; exact hr
  have HB2 := Lib.hid hb2
  clear hb2 hr
  go_wp2_with fail
  go_ret
  exact ⟨ret_bool HB2.out, rfl⟩
end Go.Proofs.Ytjeapnhaakppeaa
