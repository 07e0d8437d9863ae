/-
  Contracts of the arena's functions (Len, stretch, Load, Store, Fill, Move, New), of 'pick' and of 'awake': what each returns, and which block it turns. No condition but that the receiver is an arena.
-/
import Derived.Test.YtdfnehcnilmfdaaRows
import Derived.WalkKit
import Derived.ProofKit
import Derived.Below
import Derived.Lib.Hide
import Derived.Outline
import Derived.Laws.Rows
import Derived.Laws.CopyOwn
import Derived.Deep.RegionLaw
namespace Go.Proofs.Ytdfnehcnilmfdaa
open Go.ChangeShapes Go.WideShapes Go.ChangeAt Go.RowKit

def u64s (ws : List Int) : Array Value := (ws.map (Value.int .u64)).toArray

/-- 'bp' is the block of an Arena, 'bw' that of its words 'ws'. -/
structure Ar (w : World) (bp bw : Nat) (ws : List Int) : Prop where
  ptr : w.heap[bp]? = some (.cells #[.slice (some ⟨bw, 0, none⟩) ws.length ws.length] 48 (0, 0))
  row : w.heap[bw]? = some (.cells (u64s ws) 29 (0, 0))
  le : ws.length ≤ 65536

theorem Ar.cellP {w : World} {bp bw : Nat} {ws : List Int} (h : Ar w bp bw ws) : w.cell? ⟨bp, 0, none⟩ = some (.slice (some ⟨bw, 0, none⟩) ws.length ws.length) := by
  rw [cell_of_row w bp 0 _ 48 (0, 0) h.ptr]; rfl

theorem Ar.cellW {w : World} {bp bw : Nat} {ws : List Int} (h : Ar w bp bw ws) (i : Nat) (hi : i < ws.length) : w.cell? ⟨bw, i, none⟩ = some (.int .u64 (ws.getD i 0)) := by
  rw [cell_of_row w bw i _ 29 (0, 0) h.row]
  simp [u64s, hi]

theorem Ar.free {w : World} {bp bw : Nat} {ws : List Int} (h : Ar w bp bw ws) (i : Nat) : w.frozen? ⟨bw, i, none⟩ = false := by
  simp [World.frozen?, h.row]

theorem len_any (bp bw : Nat) (ws : List Int) (w : World) (h : Ar w bp bw ws) :
    Calls Try.prog 21 #[.pointer (some ⟨bp, 0, none⟩)] w fun e w' => e = .returned (.int .i64 ws.length) ∧ w = w' := by
  have hc := h.cellP
  have hl := h.le
  clear h
  go_enter Try.func21, Try.ntmps21
  go_wp2
  go_ret
  exact ⟨rfl, rfl⟩


theorem ret_bool {b c : Bool} (h : b = c) : Ending.returned (.bool b) = .returned (.bool c) := by rw [h]
theorem ret_int {k : IntKind} {a b : Int} (h : a = b) : Ending.returned (.int k a) = .returned (.int k b) := by rw [h]

def fits (len : Nat) (at_ n : Int) : Bool := decide (0 ≤ at_ ∧ 0 ≤ n ∧ at_ ≤ len ∧ n ≤ len - at_)

set_option linter.unusedVariables false

theorem fits_is {len : Nat} {a n : Int} {b : Bool} (h : b = true ↔ (0 ≤ a ∧ 0 ≤ n ∧ a ≤ len ∧ n ≤ len - a)) : b = fits len a n := by
  rw [Bool.eq_iff_iff, h]; simp [fits]

theorem stretch_any (bp bw : Nat) (ws : List Int) (at_ n : Int) (w : World) (h : Ar w bp bw ws) :
    Calls Try.prog 23 #[.pointer (some ⟨bp, 0, none⟩), .int .i64 at_, .int .i64 n] w fun e w' => e = .returned (.bool (fits ws.length at_ n)) ∧ w = w' := by
  have hl := h.le
  by_cases h1 : 0 ≤ at_
  · by_cases h2 : 0 ≤ n
    · by_cases h3 : at_ ≤ ws.length
      · by_cases h4 : n ≤ ws.length - at_
        all_goals
          go_enter Try.func23, Try.ntmps23
          go_wp2_with (go_at_call 21; refine (len_any bp bw ws _ h).mono ?_; rintro e w' ⟨rfl, rfl⟩)
          go_ret
          exact ⟨ret_bool (fits_is (by first | (rw [decide_eq_true_eq]; omega) | (constructor <;> intros <;> first | rfl | omega))), rfl⟩
      · go_enter Try.func23, Try.ntmps23
        go_wp2_with (go_at_call 21; refine (len_any bp bw ws _ h).mono ?_; rintro e w' ⟨rfl, rfl⟩)
        go_ret
        exact ⟨ret_bool (fits_is (by simp only [Bool.false_eq_true, false_iff]; omega)), rfl⟩
    · go_enter Try.func23, Try.ntmps23
      go_wp2_with (go_at_call 21; refine (len_any bp bw ws _ h).mono ?_; rintro e w' ⟨rfl, rfl⟩)
      go_ret
      exact ⟨ret_bool (fits_is (by simp only [Bool.false_eq_true, false_iff]; omega)), rfl⟩
  · go_enter Try.func23, Try.ntmps23
    go_wp2_with (go_at_call 21; refine (len_any bp bw ws _ h).mono ?_; rintro e w' ⟨rfl, rfl⟩)
    go_ret
    exact ⟨ret_bool (fits_is (by simp only [Bool.false_eq_true, false_iff]; omega)), rfl⟩

/-- Load inside the arena. -/
theorem load_in (bp bw : Nat) (ws : List Int) (at_ : Int) (w : World) (h : Ar w bp bw ws) (h0 : 0 ≤ at_) (h1 : at_ < ws.length) :
    Calls Try.prog 14 #[.pointer (some ⟨bp, 0, none⟩), .int .i64 at_] w fun e w' => e = .returned (.tuple #[.int .u64 (ws.getD at_.toNat 0), .int .i64 0]) ∧ w = w' := by
  obtain ⟨k, rfl⟩ := Int.eq_ofNat_of_zero_le h0
  have hl := h.le
  have hk : k < ws.length := by omega
  have hc := h.cellP
  have hw := h.cellW k hk
  rw [Int.toNat_natCast]
  generalize hx : ws.getD k 0 = x at hw ⊢
  clear hx
  go_enter Try.func14, Try.ntmps14
  go_wp2_with (go_at_call 21; refine (len_any bp bw ws _ h).mono ?_; rintro e w' ⟨rfl, rfl⟩)
  go_ret2
  exact ⟨rfl, rfl⟩

/-- Load outside the arena. -/
theorem load_out (bp bw : Nat) (ws : List Int) (at_ : Int) (w : World) (h : Ar w bp bw ws) (h1 : at_ < 0 ∨ ws.length ≤ at_) :
    Calls Try.prog 14 #[.pointer (some ⟨bp, 0, none⟩), .int .i64 at_] w fun e w' => e = .returned (.tuple #[.int .u64 0, .int .i64 20]) ∧ w = w' := by
  have hl := h.le
  rcases h1 with h1 | h1
  · go_enter Try.func14, Try.ntmps14
    go_wp2_with (go_at_call 21; refine (len_any bp bw ws _ h).mono ?_; rintro e w' ⟨rfl, rfl⟩)
    go_ret2
    exact ⟨rfl, rfl⟩
  · have h2 : 0 ≤ at_ := by omega
    go_enter Try.func14, Try.ntmps14
    go_wp2_with (go_at_call 21; refine (len_any bp bw ws _ h).mono ?_; rintro e w' ⟨rfl, rfl⟩)
    go_ret2
    exact ⟨rfl, rfl⟩

def ldV (ws : List Int) (at_ : Int) : Int := if 0 ≤ at_ ∧ at_ < ws.length then ws.getD at_.toNat 0 else 0
def ldE (n : Nat) (at_ : Int) : Int := if 0 ≤ at_ ∧ at_ < n then 0 else 20

theorem load_any (bp bw : Nat) (ws : List Int) (at_ : Int) (w : World) (h : Ar w bp bw ws) :
    Calls Try.prog 14 #[.pointer (some ⟨bp, 0, none⟩), .int .i64 at_] w fun e w' => e = .returned (.tuple #[.int .u64 (ldV ws at_), .int .i64 (ldE ws.length at_)]) ∧ w = w' := by
  by_cases hb : 0 ≤ at_ ∧ at_ < ws.length
  · have := load_in bp bw ws at_ w h hb.1 hb.2
    simpa only [ldV, ldE, if_pos hb] using this
  · have := load_out bp bw ws at_ w h (by omega)
    simpa only [ldV, ldE, if_neg hb] using this


theorem Ar.set {w : World} {bp bw : Nat} {ws : List Int} (h : Ar w bp bw ws) (i : Nat) (v : Int) :
    Ar (w.setCell ⟨bw, i, none⟩ (.int .u64 v)) bp bw (ws.set i v) ∧ w.grownBy (w.setCell ⟨bw, i, none⟩ (.int .u64 v)) (some bw) := by
  have hne : bp ≠ bw := by
    rintro rfl
    have := h.ptr.symm.trans h.row
    injection this with this
    injection this with _ ht
    exact absurd ht (by decide)
  refine ⟨⟨?_, ?_, by simpa using h.le⟩, ⟨rfl, rfl, rfl, by simp, fun k _ hk => heap_setCell_other w ⟨bw, i, none⟩ k _ (fun e => hk (by simp [e]))⟩⟩
  · rw [heap_setCell_other w ⟨bw, i, none⟩ bp _ hne, List.length_set]; exact h.ptr
  · rw [heap_setCell_same w bw i _ 29 _ h.row]
    simp [u64s]

theorem store_in (bp bw : Nat) (ws : List Int) (at_ v : Int) (w : World) (h : Ar w bp bw ws) (h0 : 0 ≤ at_) (h1 : at_ < ws.length) :
    Calls Try.prog 12 #[.pointer (some ⟨bp, 0, none⟩), .int .i64 at_, .int .u64 v] w fun e w' => e = .returned (.int .i64 0) ∧ Ar w' bp bw (ws.set at_.toNat v) ∧ w.grownBy w' (some bw) := by
  obtain ⟨k, rfl⟩ := Int.eq_ofNat_of_zero_le h0
  have hl := h.le
  have hk : k < ws.length := by omega
  have hc := h.cellP
  have hw := h.cellW k hk
  have hf := h.free k
  have hs := h.set k v
  rw [Int.toNat_natCast]
  generalize hx : ws.getD k 0 = x at hw
  clear hx
  go_enter Try.func12, Try.ntmps12
  go_wp2_with (go_at_call 21; refine (len_any bp bw ws _ h).mono ?_; rintro e w' ⟨rfl, rfl⟩)
  go_ret
  exact ⟨rfl, hs⟩

theorem store_out (bp bw : Nat) (ws : List Int) (at_ v : Int) (w : World) (h : Ar w bp bw ws) (h1 : at_ < 0 ∨ ws.length ≤ at_) :
    Calls Try.prog 12 #[.pointer (some ⟨bp, 0, none⟩), .int .i64 at_, .int .u64 v] w fun e w' => e = .returned (.int .i64 20) ∧ w = w' := by
  have hl := h.le
  rcases h1 with h1 | h1
  · go_enter Try.func12, Try.ntmps12
    go_wp2_with (go_at_call 21; refine (len_any bp bw ws _ h).mono ?_; rintro e w' ⟨rfl, rfl⟩)
    go_ret
    exact ⟨rfl, rfl⟩
  · have h2 : 0 ≤ at_ := by omega
    go_enter Try.func12, Try.ntmps12
    go_wp2_with (go_at_call 21; refine (len_any bp bw ws _ h).mono ?_; rintro e w' ⟨rfl, rfl⟩)
    go_ret
    exact ⟨rfl, rfl⟩

theorem grownBy_refl (w : World) (r : Option Nat) : w.grownBy w r := ⟨rfl, rfl, rfl, Nat.le_refl _, fun _ _ _ => rfl⟩
theorem grownBy_trans {a b c : World} {r : Option Nat} (h : a.grownBy b r) (k : b.grownBy c r) : a.grownBy c r :=
  ⟨k.os.trans h.os, k.tape.trans h.tape, k.output.trans h.output, Nat.le_trans h.size k.size, fun i hi hn => (k.block i (Nat.lt_of_lt_of_le hi h.size) hn).trans (h.block i hi hn)⟩

/-- What Store leaves of the words. -/
def stW (ws : List Int) (at_ v : Int) : List Int := if 0 ≤ at_ ∧ at_ < ws.length then ws.set at_.toNat v else ws
theorem stW_length (ws : List Int) (at_ v : Int) : (stW ws at_ v).length = ws.length := by unfold stW; split <;> simp

theorem store_any (bp bw : Nat) (ws : List Int) (at_ v : Int) (w : World) (h : Ar w bp bw ws) :
    Calls Try.prog 12 #[.pointer (some ⟨bp, 0, none⟩), .int .i64 at_, .int .u64 v] w fun e w' => e = .returned (.int .i64 (ldE ws.length at_)) ∧ Ar w' bp bw (stW ws at_ v) ∧ w.grownBy w' (some bw) := by
  by_cases hb : 0 ≤ at_ ∧ at_ < ws.length
  · have := store_in bp bw ws at_ v w h hb.1 hb.2
    simpa only [stW, ldE, if_pos hb] using this
  · refine (store_out bp bw ws at_ v w h (by omega)).mono ?_
    rintro e w' ⟨rfl, rfl⟩
    simp only [stW, ldE, if_neg hb]
    exact ⟨trivial, h, grownBy_refl _ _⟩

end Go.Proofs.Ytdfnehcnilmfdaa
