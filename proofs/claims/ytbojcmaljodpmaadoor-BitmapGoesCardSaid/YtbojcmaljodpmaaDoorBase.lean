/-
  Contracts of the bitmap's plain functions (may, Has, Set, Clear, New), of 'pick' and of TrailingZeros64: what each returns, and which block it turns.
-/
import Derived.Test.YtbojcmaljodpmaaDoorRows
import Derived.Test.YtbojcmaljodpmaaDoorPlain
import Derived.WalkKit
import Derived.ProofKit
import Derived.Below
import Derived.Lib.Hide
import Derived.Outline
import Derived.Laws.Rows
import Derived.Laws.Bits64b
import Derived.Laws.BitsAllLaws
import Derived.IntWalk
import Derived.StillTailTactics
import Derived.RegionTactic
namespace Go.Proofs.YtbojcmaljodpmaaDoor
open Go.ChangeShapes Go.WideShapes Go.ChangeAt Go.RowKit
set_option linter.unusedVariables false

def u64s (ws : List Nat) : Array Value := (ws.map (fun x => Value.int .u64 (x : Nat))).toArray

/-- 'bp' is the block of a Bitmap of numbers below 'bound', 'bw' that of its words 'ws'. -/
structure Bm (w : World) (bp bw bound : Nat) (ws : List Nat) : Prop where
  ptr : w.heap[bp]? = some (.cells #[.int .i64 bound, .slice (some ⟨bw, 0, none⟩) ws.length ws.length] 39 (0, 0))
  row : w.heap[bw]? = some (.cells (u64s ws) 40 (0, 0))
  len : ws.length = (bound + 63) / 64
  lt : ∀ j, ws.getD j 0 < 18446744073709551616
  top : ∀ j, bound ≤ j → bitAt ws j = false
  le : bound ≤ 65536

section
variable {w w' : World} {bp bw bound : Nat} {ws : List Nat}
theorem Bm.cell0 (h : Bm w bp bw bound ws) : w.cell? ⟨bp, 0, none⟩ = some (.int .i64 bound) := by
  rw [cell_of_row w bp 0 _ 39 (0, 0) h.ptr]; rfl
theorem Bm.cell1 (h : Bm w bp bw bound ws) : w.cell? ⟨bp, 1, none⟩ = some (.slice (some ⟨bw, 0, none⟩) ws.length ws.length) := by
  rw [cell_of_row w bp 1 _ 39 (0, 0) h.ptr]; rfl
theorem Bm.cellW (h : Bm w bp bw bound ws) (i : Nat) (hi : i < ws.length) : w.cell? ⟨bw, i, none⟩ = some (.int .u64 (ws.getD i 0 : Nat)) := by
  rw [cell_of_row w bw i _ 40 (0, 0) h.row]
  simp [u64s, hi]
theorem Bm.free (h : Bm w bp bw bound ws) (i : Nat) : w.frozen? ⟨bw, i, none⟩ = false := by
  simp [World.frozen?, h.row]
theorem Bm.ltP (h : Bm w bp bw bound ws) : bp < w.heap.size := (Array.getElem?_eq_some_iff.1 h.ptr).1
theorem Bm.ltW (h : Bm w bp bw bound ws) : bw < w.heap.size := (Array.getElem?_eq_some_iff.1 h.row).1
theorem Bm.ne (h : Bm w bp bw bound ws) : bp ≠ bw := by
  rintro rfl
  have := h.ptr.symm.trans h.row
  injection this with this
  injection this with _ ht
  exact absurd ht (by decide)
theorem Bm.kept {r : Option Nat} (h : Bm w bp bw bound ws) (hg : w.grownBy w' r) (h1 : some bp ≠ r) (h2 : some bw ≠ r) : Bm w' bp bw bound ws :=
  ⟨(hg.block bp h.ltP h1).trans h.ptr, (hg.block bw h.ltW h2).trans h.row, h.len, h.lt, h.top, h.le⟩
theorem Bm.below {B : Nat} (h : Bm w bp bw bound ws) (hg : Below B w w') (h1 : bp < B) (h2 : bw < B) : Bm w' bp bw bound ws :=
  ⟨(hg.block bp h1).trans h.ptr, (hg.block bw h2).trans h.row, h.len, h.lt, h.top, h.le⟩
theorem Bm.drew (h : Bm w bp bw bound ws) : Bm w.drew bp bw bound ws := ⟨h.ptr, h.row, h.len, h.lt, h.top, h.le⟩
theorem Bm.set (h : Bm w bp bw bound ws) (i v : Nat) (hv : v < 18446744073709551616) (ht : ∀ j, bound ≤ j → bitAt (ws.set i v) j = false) :
    Bm (w.setCell ⟨bw, i, none⟩ (.int .u64 (v : Nat))) bp bw bound (ws.set i v) ∧ w.grownBy (w.setCell ⟨bw, i, none⟩ (.int .u64 (v : Nat))) (some bw) := by
  refine ⟨⟨?_, ?_, by simpa using h.len, ?_, ht, h.le⟩, ⟨rfl, rfl, rfl, by simp, fun k _ hk => heap_setCell_other w ⟨bw, i, none⟩ k _ (fun e => hk (by simp [e]))⟩⟩
  · rw [heap_setCell_other w ⟨bw, i, none⟩ bp _ h.ne, List.length_set]; exact h.ptr
  · rw [heap_setCell_same w bw i _ 40 _ h.row]
    simp [u64s]
  · intro j
    by_cases hi : i < ws.length
    · rw [getD_set _ _ _ _ hi]
      split
      · exact hv
      · exact h.lt j
    · rw [List.set_eq_of_length_le (by omega)]; exact h.lt j
end

theorem ret_bool {b c : Bool} (h : b = c) : Ending.returned (.bool b) = .returned (.bool c) := by rw [h]
theorem ret_int {k : IntKind} {a b : Int} (h : a = b) : Ending.returned (.int k a) = .returned (.int k b) := by rw [h]
theorem grownBy_refl (w : World) (r : Option Nat) : w.grownBy w r := ⟨rfl, rfl, rfl, Nat.le_refl _, fun _ _ _ => rfl⟩
theorem grownBy_trans {a b c : World} {r : Option Nat} (h : a.grownBy b r) (k : b.grownBy c r) : a.grownBy c r :=
  ⟨k.os.trans h.os, k.tape.trans h.tape, k.output.trans h.output, Nat.le_trans h.size k.size, fun i hi hn => (k.block i (Nat.lt_of_lt_of_le hi h.size) hn).trans (h.block i hi hn)⟩
theorem gb_new {a b c : World} {r : Option Nat} (h : a.grownBy b none) (k : b.grownBy c r) (hg : ∀ g, r = some g → a.heap.size ≤ g) : a.grownBy c none :=
  ⟨k.os.trans h.os, k.tape.trans h.tape, k.output.trans h.output, Nat.le_trans h.size k.size, fun i hi hn => (k.block i (Nat.lt_of_lt_of_le hi h.size) (fun e => by have := hg i e.symm; omega)).trans (h.block i hi hn)⟩
theorem gb_drew (w : World) (r : Option Nat) : w.grownBy w.drew r := ⟨rfl, rfl, rfl, Nat.le_refl _, fun _ _ _ => rfl⟩
theorem gb_some {a b : World} (h : a.grownBy b none) (r : Option Nat) : a.grownBy b r := ⟨h.os, h.tape, h.output, h.size, fun i hi _ => h.block i hi (by simp)⟩
theorem below_of {w w' : World} (h : w.grownBy w' none) : Below w.heap.size w w' := ⟨h.os, h.tape, h.output, h.size, fun k hk => h.block k hk (by simp)⟩
theorem of_below {w w' : World} (h : Below w.heap.size w w') : w.grownBy w' none := ⟨h.os, h.tape, h.output, h.size, fun k hk _ => h.block k hk⟩

/-! ### pick -/
def pk (c n : Int) : Int := (if c < 0 then -(c + 1) else c) % n
theorem pk_range (c n : Int) (hn : 0 < n) : 0 ≤ pk c n ∧ pk c n < n := by
  unfold pk; exact ⟨Int.emod_nonneg _ (by omega), Int.emod_lt_of_pos _ hn⟩

theorem pick_any (c n : Int) (w : World) (hc : -9223372036854775808 ≤ c) (hn : 0 < n) :
    Calls Tryd.prog 10 #[.int .i64 c, .int .i64 n] w fun e w' => e = .returned (.int .i64 (pk c n)) ∧ w = w' := by
  by_cases h : c < 0
  · have HP : Hid (pk c n = -(c + 1) % n) := by unfold Hid pk; rw [if_pos h]
    rw [HP.out]
    clear HP
    go_enter Tryd.func10, Tryd.ntmps10
    go_wp2
    go_ret
    exact ⟨ret_int (by rw [← Int.neg_tmod, Int.tmod_eq_emod_of_nonneg (by omega)]), rfl⟩
  · have HP : Hid (pk c n = c % n) := by unfold Hid pk; rw [if_neg h]
    rw [HP.out]
    clear HP
    go_enter Tryd.func10, Tryd.ntmps10
    go_wp2
    go_ret
    exact ⟨rfl, rfl⟩

/-! ### may, Has -/
def mayB (bound : Nat) (i : Int) : Bool := decide (0 ≤ i ∧ i < bound)

theorem may_any (bp bw bound : Nat) (ws : List Nat) (i : Int) (w : World) (h : Bm w bp bw bound ws) :
    Calls Tryd.prog 16 #[.pointer (some ⟨bp, 0, none⟩), .int .i64 i] w fun e w' => e = .returned (.bool (mayB bound i)) ∧ w = w' := by
  have hc := h.cell0
  clear h
  by_cases h1 : 0 ≤ i
  · by_cases h2 : i < bound
    · have HE : Hid (true = mayB bound i) := (decide_eq_true ⟨h1, h2⟩).symm
      go_enter Tryd.func16, Tryd.ntmps16
      go_wp2
      go_ret
      exact ⟨ret_bool HE.out, rfl⟩
    · have HE : Hid (false = mayB bound i) := (decide_eq_false (fun e => h2 e.2)).symm
      have h3 : decide (i < bound) = false := decide_eq_false h2
      go_enter Tryd.func16, Tryd.ntmps16
      go_wp2
      go_ret
      exact ⟨ret_bool HE.out, rfl⟩
  · have HE : Hid (false = mayB bound i) := (decide_eq_false (fun e => h1 e.1)).symm
    go_enter Tryd.func16, Tryd.ntmps16
    go_wp2
    go_ret
    exact ⟨ret_bool HE.out, rfl⟩

theorem div_pow (x k : Nat) : (x : Int) / 2 ^ k = ((x / 2 ^ k : Nat) : Int) := by
  rw [Int.natCast_ediv, Int.natCast_pow]; rfl

theorem has_key (x k : Nat) (hx : x < 18446744073709551616) : (bits BinOp.and IntKind.u64 ((x : Int) / 2 ^ k) 1 == 1) = x.testBit k := by
  have h1 : x / 2 ^ k < 18446744073709551616 := Nat.lt_of_le_of_lt (Nat.div_le_self _ _) hx
  have h := bits_and_u64_nat (x / 2 ^ k) 1 h1 (by omega)
  rw [div_pow]
  rw [show ((1 : Nat) : Int) = 1 from rfl] at h
  rw [h, has_bit]
  cases x.testBit k <;> rfl

theorem has_in (bp bw bound : Nat) (ws : List Nat) (i : Nat) (w : World) (h : Bm w bp bw bound ws) (hi : i < bound) :
    Calls Tryd.prog 14 #[.pointer (some ⟨bp, 0, none⟩), .int .i64 i] w fun e w' => e = .returned (.bool (bitAt ws i)) ∧ w = w' := by
  have hl := h.le
  have hlen := h.len
  have hq : i / 64 < ws.length := by omega
  have hc1 := h.cell1
  have hcw := h.cellW (i / 64) hq
  have hlt := h.lt (i / 64)
  have HB : Hid (bitAt ws i = (ws.getD (i / 64) 0).testBit (i % 64)) := rfl
  have HM : Hid (mayB bound i = true) := decide_eq_true (by omega)
  generalize ws.getD (i / 64) 0 = x at *
  have HL := Lib.hid hlen
  clear hlen
  have HK := Lib.hid (has_key x (i % 64) hlt)
  go_enter Tryd.func14, Tryd.ntmps14
  go_wp2_with (go_at_call 16; refine (may_any bp bw bound ws _ _ h).mono ?_; rw [HM.out]; rintro e w' ⟨rfl, rfl⟩)
  go_ret
  exact ⟨ret_bool (HK.out.trans HB.out.symm), rfl⟩

theorem has_out (bp bw bound : Nat) (ws : List Nat) (i : Int) (w : World) (h : Bm w bp bw bound ws) (hi : i < 0 ∨ bound ≤ i) :
    Calls Tryd.prog 14 #[.pointer (some ⟨bp, 0, none⟩), .int .i64 i] w fun e w' => e = .returned (.bool false) ∧ w = w' := by
  have HM : Hid (mayB bound i = false) := decide_eq_false (by omega)
  clear hi
  go_enter Tryd.func14, Tryd.ntmps14
  go_wp2_with (go_at_call 16; refine (may_any bp bw bound ws _ _ h).mono ?_; rw [HM.out]; rintro e w' ⟨rfl, rfl⟩)
  go_ret
  exact ⟨rfl, rfl⟩

/-- Is it in, by whatever number? -/
def hasB (ws : List Nat) (i : Int) : Bool := decide (0 ≤ i) && bitAt ws i.toNat

theorem has_any (bp bw bound : Nat) (ws : List Nat) (i : Int) (w : World) (h : Bm w bp bw bound ws) :
    Calls Tryd.prog 14 #[.pointer (some ⟨bp, 0, none⟩), .int .i64 i] w fun e w' => e = .returned (.bool (hasB ws i)) ∧ w = w' := by
  by_cases h0 : 0 ≤ i
  · obtain ⟨k, rfl⟩ := Int.eq_ofNat_of_zero_le h0
    have e : hasB ws k = bitAt ws k := by simp [hasB]
    rw [e]
    by_cases hk : k < bound
    · exact has_in bp bw bound ws k w h hk
    · rw [h.top k (by omega)]
      exact has_out bp bw bound ws k w h (by omega)
  · have e : hasB ws i = false := by simp [hasB, h0]
    rw [e]
    exact has_out bp bw bound ws i w h (by omega)

/-! ### Set, Clear -/
theorem or_key (x k : Nat) (hx : x < 18446744073709551616) (hk : k < 64) : bits BinOp.or IntKind.u64 (x : Int) (IntKind.u64.wrap (2 ^ k)) = ((x ||| 2 ^ k : Nat) : Int) := by
  have hp : 2 ^ k < 18446744073709551616 := Nat.pow_lt_pow_right (m := k) (n := 64) (by omega) hk
  have e : IntKind.u64.wrap ((2 : Int) ^ k) = ((2 ^ k : Nat) : Int) := by
    rw [IntKind.wrap_u64, Int.natCast_pow]
    have : ((2 ^ k : Nat) : Int) < 18446744073709551616 := by omega
    rw [Int.natCast_pow] at this
    exact Int.emod_eq_of_lt (Int.pow_nonneg (by omega)) this
  rw [e]
  exact bits_or_u64_nat x (2 ^ k) hx hp

theorem andNot_key (x k : Nat) (hx : x < 18446744073709551616) (hk : k < 64) : bits BinOp.andNot IntKind.u64 (x : Int) (IntKind.u64.wrap (2 ^ k)) = ((x &&& (18446744073709551615 - 2 ^ k) : Nat) : Int) := by
  have hp : 2 ^ k < 18446744073709551616 := Nat.pow_lt_pow_right (m := k) (n := 64) (by omega) hk
  have e : IntKind.u64.wrap ((2 : Int) ^ k) = ((2 ^ k : Nat) : Int) := by
    rw [IntKind.wrap_u64, Int.natCast_pow]
    have : ((2 ^ k : Nat) : Int) < 18446744073709551616 := by omega
    rw [Int.natCast_pow] at this
    exact Int.emod_eq_of_lt (Int.pow_nonneg (by omega)) this
  rw [e]
  exact u64_andNot_nat x (2 ^ k) hx hp

theorem set_in (bp bw bound : Nat) (ws : List Nat) (i : Nat) (w : World) (h : Bm w bp bw bound ws) (hi : i < bound) (hb : bitAt ws i = false) :
    Calls Tryd.prog 12 #[.pointer (some ⟨bp, 0, none⟩), .int .i64 i] w fun e w' => e = .returned (.bool true) ∧ Bm w' bp bw bound (ws.set (i / 64) (ws.getD (i / 64) 0 ||| 2 ^ (i % 64))) ∧ w.grownBy w' (some bw) := by
  have hl := h.le
  have hlen := h.len
  have hq : i / 64 < ws.length := by omega
  have hc1 := h.cell1
  have hcw := h.cellW (i / 64) hq
  have hlt := h.lt (i / 64)
  have hfz := h.free (i / 64)
  have HB := Lib.hid hb
  have HM : Hid (mayB bound i = true) := decide_eq_true (by omega)
  have HL := Lib.hid hlen
  have hfin := h.set (i / 64) (ws.getD (i / 64) 0 ||| 2 ^ (i % 64)) (Nat.or_lt_two_pow (n := 64) hlt (Nat.pow_lt_pow_right (by omega) (Nat.mod_lt _ (by omega))))
    (fun j hj => by rw [bitAt_set ws i j hq, h.top j hj]; simp; omega)
  clear hlen hb
  have HOR := Lib.hid (or_key (ws.getD (i / 64) 0) (i % 64) hlt (Nat.mod_lt _ (by omega)))
  generalize ws.getD (i / 64) 0 ||| 2 ^ (i % 64) = y at *
  generalize ws.getD (i / 64) 0 = x at *
  go_enter Tryd.func12, Tryd.ntmps12
  go_wp2_with (first
    | (go_at_call 16; refine (may_any bp bw bound ws _ _ h).mono ?_; rw [HM.out]; rintro e w' ⟨rfl, rfl⟩)
    | (go_at_call 14; refine (has_in bp bw bound ws i _ h hi).mono ?_; rw [HB.out]; rintro e w' ⟨rfl, rfl⟩))
  have e0 : (0 : Int) ≤ (i : Int) / 64 := by omega
  have e1 : (i : Int) / 64 < ws.length := by omega
  have e2 : ((i : Int) / 64).toNat = i / 64 := by omega
  have e3 : (0 : Int) ≤ (i : Int) % 64 := by omega
  have e4 : (i : Int) % 64 ≤ 64 := by omega
  have e5 : ((i : Int) % 64).toNat = i % 64 := by omega
  have e7 : (i : Int).tmod 64 = (i : Int) % 64 := Int.tmod_eq_emod_of_nonneg (by omega)
  have e6 : IntKind.i64.wrap ((i : Int) / 64) = (i : Int) / 64 := IntWalk.i64_in _ (by omega)
  go_still_tail 13, (by kernel_rfl)
  rw [HOR.out]
  change wpList _ _ _ _ _ w.drew
  clear e0 e1 e2 e3 e4 e5 e6 e7
  obtain ⟨f1, f2⟩ := hfin
  go_wp2
  go_ret
  exact ⟨rfl, f1.drew, grownBy_trans f2 (gb_drew _ _)⟩

theorem clear_in (bp bw bound : Nat) (ws : List Nat) (i : Nat) (w : World) (h : Bm w bp bw bound ws) (hi : i < bound) (hb : bitAt ws i = true) :
    Calls Tryd.prog 11 #[.pointer (some ⟨bp, 0, none⟩), .int .i64 i] w fun e w' => e = .returned (.bool true) ∧ Bm w' bp bw bound (ws.set (i / 64) (ws.getD (i / 64) 0 &&& (18446744073709551615 - 2 ^ (i % 64)))) ∧ w.grownBy w' (some bw) := by
  have hl := h.le
  have hlen := h.len
  have hq : i / 64 < ws.length := by omega
  have hc1 := h.cell1
  have hcw := h.cellW (i / 64) hq
  have hlt := h.lt (i / 64)
  have hfz := h.free (i / 64)
  have HB := Lib.hid hb
  have HL := Lib.hid hlen
  have hfin := h.set (i / 64) (ws.getD (i / 64) 0 &&& (18446744073709551615 - 2 ^ (i % 64))) (Nat.lt_of_le_of_lt Nat.and_le_left hlt)
    (fun j hj => by rw [bitAt_clear ws i j hq hlt, h.top j hj]; simp)
  clear hlen hb
  have HOR := Lib.hid (andNot_key (ws.getD (i / 64) 0) (i % 64) hlt (Nat.mod_lt _ (by omega)))
  generalize ws.getD (i / 64) 0 &&& (18446744073709551615 - 2 ^ (i % 64)) = y at *
  generalize ws.getD (i / 64) 0 = x at *
  go_enter Tryd.func11, Tryd.ntmps11
  go_wp2_with (go_at_call 14; refine (has_in bp bw bound ws i _ h hi).mono ?_; rw [HB.out]; rintro e w' ⟨rfl, rfl⟩)
  have e0 : (0 : Int) ≤ (i : Int) / 64 := by omega
  have e1 : (i : Int) / 64 < ws.length := by omega
  have e2 : ((i : Int) / 64).toNat = i / 64 := by omega
  have e3 : (0 : Int) ≤ (i : Int) % 64 := by omega
  have e4 : (i : Int) % 64 ≤ 64 := by omega
  have e5 : ((i : Int) % 64).toNat = i % 64 := by omega
  have e7 : (i : Int).tmod 64 = (i : Int) % 64 := Int.tmod_eq_emod_of_nonneg (by omega)
  have e6 : IntKind.i64.wrap ((i : Int) / 64) = (i : Int) / 64 := IntWalk.i64_in _ (by omega)
  go_still_tail 13, (by kernel_rfl)
  rw [HOR.out]
  change wpList _ _ _ _ _ w.drew
  clear e0 e1 e2 e3 e4 e5 e6 e7
  obtain ⟨f1, f2⟩ := hfin
  go_wp2
  go_ret
  exact ⟨rfl, f1.drew, grownBy_trans f2 (gb_drew _ _)⟩

theorem set_not (bp bw bound : Nat) (ws : List Nat) (i : Int) (w : World) (h : Bm w bp bw bound ws) (hb : (mayB bound i && !hasB ws i) = false) :
    Calls Tryd.prog 12 #[.pointer (some ⟨bp, 0, none⟩), .int .i64 i] w fun e w' => e = .returned (.bool false) ∧ w = w' := by
  cases hm : mayB bound i
  · have HM := Lib.hid hm
    clear hm hb
    go_enter Tryd.func12, Tryd.ntmps12
    go_wp2_with (go_at_call 16; refine (may_any bp bw bound ws _ _ h).mono ?_; rw [HM.out]; rintro e w' ⟨rfl, rfl⟩)
    go_ret
    exact ⟨rfl, rfl⟩
  · have HM := Lib.hid hm
    rw [hm] at hb
    have HH : Hid (hasB ws i = true) := by cases hh : hasB ws i <;> simp_all [Hid]
    clear hm hb
    go_enter Tryd.func12, Tryd.ntmps12
    go_wp2_with (first
      | (go_at_call 16; refine (may_any bp bw bound ws _ _ h).mono ?_; rw [HM.out]; rintro e w' ⟨rfl, rfl⟩)
      | (go_at_call 14; refine (has_any bp bw bound ws _ _ h).mono ?_; rw [HH.out]; rintro e w' ⟨rfl, rfl⟩))
    go_ret
    exact ⟨rfl, rfl⟩

theorem clear_not (bp bw bound : Nat) (ws : List Nat) (i : Int) (w : World) (h : Bm w bp bw bound ws) (hb : hasB ws i = false) :
    Calls Tryd.prog 11 #[.pointer (some ⟨bp, 0, none⟩), .int .i64 i] w fun e w' => e = .returned (.bool false) ∧ w = w' := by
  have HH := Lib.hid hb
  clear hb
  go_enter Tryd.func11, Tryd.ntmps11
  go_wp2_with (go_at_call 14; refine (has_any bp bw bound ws _ _ h).mono ?_; rw [HH.out]; rintro e w' ⟨rfl, rfl⟩)
  go_ret
  exact ⟨rfl, rfl⟩

/-! ### New -/
theorem info40 : (Tryd.prog.info? 40).map (fun i => (i.zero, i.size, i.bytes)) = some (some (.int .u64 0), 1, 8) := by kernel_rfl

theorem made_u64 (n : Nat) : madeCells (Value.cells (.int .u64 0)) n = u64s (List.replicate n 0) := by
  apply Array.ext
  · simp [madeCells, u64s]
  · intro i h1 h2
    simp [madeCells, u64s, Value.cells, Nat.mod_one]

theorem bitAt_zero (n j : Nat) : bitAt (List.replicate n 0) j = false := by
  unfold bitAt
  have : (List.replicate n 0).getD (j / 64) 0 = 0 := by
    rw [List.getD_eq_getElem?_getD, List.getElem?_replicate]
    split <;> rfl
  rw [this]; simp

def bd (n : Int) : Nat := (min (max n 0) 65536).toNat

theorem make_any (m : Nat) (hm : m ≤ 65536) (W : World) : (Instr.makeSlice 37 (.int .i64 (m : Int)) (.int .i64 (m : Int))).run Tryd.prog W = .ok (.slice (some ⟨W.heap.size, 0, none⟩) m m) (W.alloc (.cells (u64s (List.replicate m 0)) 40)) := by
  obtain ⟨i0, hi, hz0, hz1, hz2⟩ := info_parts info40
  have hr := run_make (P := Tryd.prog) W 37 40 i0 (.int .u64 0) Tryd.underlying37 hi hz0 .i64 .i64 m m (by omega) (by omega) (by rw [hz2]; omega) (by omega)
  rw [hz1, made_u64] at hr
  simpa using hr

theorem Bm_new (b m : Nat) (hb : b ≤ 65536) (hm : m = (b + 63) / 64) (w : World) :
    Bm ((w.alloc (.cells (u64s (List.replicate m 0)) 40)).alloc (.cells #[.int .i64 b, .slice (some ⟨w.heap.size, 0, none⟩) m m] 39)) (w.heap.size + 1) w.heap.size b (List.replicate m 0) := by
  refine ⟨?_, ?_, by simpa using hm, ?_, fun j _ => bitAt_zero _ _, hb⟩
  · have := heap_alloc_new (w.alloc (.cells (u64s (List.replicate m 0)) 40)) (.cells #[.int .i64 b, .slice (some ⟨w.heap.size, 0, none⟩) m m] 39)
    simpa using this
  · rw [Below.heap_alloc _ _ _ (by simp)]
    exact heap_alloc_new w _
  · intro j
    rw [List.getD_eq_getElem?_getD, List.getElem?_replicate]
    split <;> simp

theorem gb_two (w : World) (o p : Obj) : w.grownBy ((w.alloc o).alloc p) none :=
  ⟨rfl, rfl, rfl, by simp; omega, fun k hk _ => by rw [Below.heap_alloc _ _ _ (by simp; omega), Below.heap_alloc _ _ _ hk]⟩

/-- What New leaves. -/
def NewPost (w : World) (b m : Nat) (e : Ending) (w' : World) : Prop :=
  e = .returned (.pointer (some ⟨w.heap.size + 1, 0, none⟩)) ∧ Bm w' (w.heap.size + 1) w.heap.size b (List.replicate m 0) ∧ w.grownBy w' none ∧ w'.heap.size = w.heap.size + 2

theorem new_mid (b : Nat) (w : World) (h : b ≤ 65536) : Calls Tryd.prog 9 #[.int .i64 b] w (NewPost w b ((b + 63) / 64)) := by
  obtain ⟨m, hm⟩ : ∃ m : Nat, m = (b + 63) / 64 := ⟨_, rfl⟩
  have hmi : ((b : Int) + 64 - 1) / 64 = m := by omega
  have hmk := make_any m (by omega)
  have hfin := Lib.hid (Bm_new b m h hm w)
  generalize hZ : u64s (List.replicate m 0) = Z at hmk hfin
  clear hZ
  rw [← hm]
  have HM := Lib.hid hm
  clear hm
  go_enter Tryd.func9, Tryd.ntmps9
  go_wp2
  go_ret
  exact ⟨rfl, hfin.out, gb_two _ _ _, by simp⟩

/-! ### TrailingZeros64 -/
/-- The library's table lies in its variable. -/
def Tab (w : World) : Prop := ∀ j, j < 64 → w.cell? ⟨0, j, none⟩ = some (.int .u8 (Lib.deBruijn64tab.getD j 0 : Nat))
theorem Tab.kept {w w' : World} {r : Option Nat} (h : Tab w) (hg : w.grownBy w' r) (h0 : 0 < w.heap.size) (hr : some 0 ≠ r) : Tab w' := fun j hj =>
  (World.cell?_of_block (a := ⟨0, j, none⟩) (hg.block 0 h0 hr)).trans (h j hj)
theorem Tab.below {w w' : World} {B : Nat} (h : Tab w) (hg : Below B w w') (h0 : 0 < B) : Tab w' := fun j hj => (hg.cell (p := ⟨0, j, none⟩) h0).trans (h j hj)
theorem Tab.pos {w : World} (h : Tab w) : 0 < w.heap.size := World.block_lt_of_cell? w _ (h 0 (by omega))

theorem tz_key (x a : Nat) (hx : x < 18446744073709551616) (hx0 : x ≠ 0) (hlow : x &&& (18446744073709551616 - x) = a) :
    IntKind.u64.wrap (bits BinOp.and IntKind.u64 (x : Int) (IntKind.u64.wrap (-(x : Int))) * 285870213051353865) / 288230376151711744 = ((a * 285870213051353865 % 18446744073709551616 / 288230376151711744 : Nat) : Int) := by
  have e1 : IntKind.u64.wrap (-(x : Int)) = ((18446744073709551616 - x : Nat) : Int) := by rw [IntKind.wrap_u64]; omega
  rw [e1, bits_and_u64_nat x _ hx (by omega), hlow, IntKind.wrap_u64]
  omega

set_option maxHeartbeats 1000000 in
theorem tz_core (x k idx : Nat) (w : World) (hx0 : ((x : Int) == 0) = false)
    (key : IntKind.u64.wrap (bits BinOp.and IntKind.u64 (x : Int) (IntKind.u64.wrap (-(x : Int))) * 285870213051353865) / 288230376151711744 = (idx : Int))
    (hi : idx < 64) (hk : k < 64) (hcell : w.cell? ⟨0, idx, none⟩ = some (.int .u8 k)) :
    Calls Tryd.prog 19 #[.int .u64 x] w fun e w' => e = .returned (.int .i64 k) ∧ w = w' := by
  go_enter Tryd.func19, Tryd.ntmps19
  go_wp2_with (simp only [key])
  go_ret
  exact ⟨rfl, rfl⟩

theorem tz_any (x : Nat) (hx : x < 18446744073709551616) (hx0 : x ≠ 0) (w : World) (hT : Tab w) :
    Calls Tryd.prog 19 #[.int .u64 x] w fun e w' => e = .returned (.int .i64 (Lib.ctz 64 x)) ∧ w = w' := by
  obtain ⟨hlow, hk⟩ := Lib.lowest_bit 64 x hx0 hx
  obtain ⟨hi, htab⟩ := Lib.deBruijn64_at _ hk
  have hcell := hT _ hi
  rw [htab] at hcell
  exact tz_core x _ _ w (by simp; omega) (tz_key x _ hx hx0 hlow) hi hk hcell
end Go.Proofs.YtbojcmaljodpmaaDoor
