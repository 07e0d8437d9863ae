/-
  Contracts of the document's own arena (middenheapref02: New, Len, has, Load, Store, Fill, Move): the same words as the arena's.
-/
import Derived.Test.YtdfnehcnilmfdaaOps
import Derived.Deep.DeepMust
namespace Go.Proofs.Ytdfnehcnilmfdaa
open Go.ChangeShapes Go.WideShapes Go.ChangeAt Go.RowKit
set_option linter.unusedVariables false

/-- 'bp' is the block of a reference Arena, 'bw' that of its words 'ws'. -/
structure Rr (w : World) (bp bw : Nat) (ws : List Int) : Prop where
  ptr : w.heap[bp]? = some (.cells #[.slice (some ⟨bw, 0, none⟩) ws.length ws.length] 51 (0, 0))
  row : w.heap[bw]? = some (.cells (u64s ws) 29 (0, 0))
  le : ws.length ≤ 65536

section
variable {w w' : World} {bp bw : Nat} {ws : List Int}
theorem Rr.cellP (h : Rr w bp bw ws) : w.cell? ⟨bp, 0, none⟩ = some (.slice (some ⟨bw, 0, none⟩) ws.length ws.length) := by
  rw [cell_of_row w bp 0 _ 51 (0, 0) h.ptr]; rfl
theorem Rr.cellW (h : Rr w bp bw ws) (i : Nat) (hi : i < ws.length) : w.cell? ⟨bw, i, none⟩ = some (.int .u64 (ws.getD i 0)) := by
  rw [cell_of_row w bw i _ 29 (0, 0) h.row]
  simp [u64s, hi]
theorem Rr.free (h : Rr w bp bw ws) (i : Nat) : w.frozen? ⟨bw, i, none⟩ = false := by
  simp [World.frozen?, h.row]
theorem Rr.ne (h : Rr w bp bw ws) : bp ≠ bw := by
  rintro rfl
  have := h.ptr.symm.trans h.row
  injection this with this
  injection this with _ ht
  exact absurd ht (by decide)
theorem Rr.set (h : Rr w bp bw ws) (i : Nat) (v : Int) :
    Rr (w.setCell ⟨bw, i, none⟩ (.int .u64 v)) bp bw (ws.set i v) ∧ w.grownBy (w.setCell ⟨bw, i, none⟩ (.int .u64 v)) (some bw) := by
  have hne := h.ne
  refine ⟨⟨?_, ?_, by simpa using h.le⟩, ⟨rfl, rfl, rfl, by simp, fun k _ hk => heap_setCell_other w ⟨bw, i, none⟩ k _ (fun e => hk (by simp [e]))⟩⟩
  · rw [heap_setCell_other w ⟨bw, i, none⟩ bp _ hne, List.length_set]; exact h.ptr
  · rw [heap_setCell_same w bw i _ 29 _ h.row]
    simp [u64s]
theorem Rr.kept {r : Option Nat} (h : Rr w bp bw ws) (hg : w.grownBy w' r) (h1 : some bp ≠ r) (h2 : some bw ≠ r) : Rr w' bp bw ws := by
  have lt : ∀ {b : Nat} {o : Obj}, w.heap[b]? = some o → b < w.heap.size := fun {b o} e => (Array.getElem?_eq_some_iff.1 e).1
  exact ⟨(hg.block bp (lt h.ptr) h1).trans h.ptr, (hg.block bw (lt h.row) h2).trans h.row, h.le⟩
theorem Rr.drew (h : Rr w bp bw ws) : Rr w.drew bp bw ws := ⟨h.ptr, h.row, h.le⟩
end

theorem rlen_any (bp bw : Nat) (ws : List Int) (w : World) (h : Rr w bp bw ws) :
    Calls Try.prog 22 #[.pointer (some ⟨bp, 0, none⟩)] w fun e w' => e = .returned (.int .i64 ws.length) ∧ w = w' := by
  have hc := h.cellP
  have hl := h.le
  clear h
  go_enter Try.func22, Try.ntmps22
  go_wp2
  go_ret
  exact ⟨rfl, rfl⟩

theorem has_any (bp bw : Nat) (ws : List Int) (at_ n : Int) (w : World) (h : Rr w bp bw ws) :
    Calls Try.prog 24 #[.pointer (some ⟨bp, 0, none⟩), .int .i64 at_, .int .i64 n] w fun e w' => e = .returned (.bool (fits ws.length at_ n)) ∧ w = w' := by
  have hl := h.le
  have hc := h.cellP
  clear h
  by_cases h1 : 0 ≤ at_
  · by_cases h2 : 0 ≤ n
    · by_cases h3 : at_ ≤ ws.length
      · by_cases h4 : n ≤ ws.length - at_
        all_goals
          go_enter Try.func24, Try.ntmps24
          go_wp2
          go_ret
          exact ⟨ret_bool (fits_is (by first | (rw [decide_eq_true_eq]; omega) | (simp only [Bool.false_eq_true, false_iff]; omega) | (constructor <;> intros <;> first | rfl | omega))), rfl⟩
      · go_enter Try.func24, Try.ntmps24
        go_wp2
        go_ret
        exact ⟨ret_bool (fits_is (by simp only [Bool.false_eq_true, false_iff]; omega)), rfl⟩
    · go_enter Try.func24, Try.ntmps24
      go_wp2
      go_ret
      exact ⟨ret_bool (fits_is (by simp only [Bool.false_eq_true, false_iff]; omega)), rfl⟩
  · go_enter Try.func24, Try.ntmps24
    go_wp2
    go_ret
    exact ⟨ret_bool (fits_is (by simp only [Bool.false_eq_true, false_iff]; omega)), rfl⟩

theorem rload_any (bp bw : Nat) (ws : List Int) (at_ : Int) (w : World) (h : Rr w bp bw ws) :
    Calls Try.prog 20 #[.pointer (some ⟨bp, 0, none⟩), .int .i64 at_] w fun e w' => e = .returned (.tuple #[.int .u64 (ldV ws at_), .int .i64 (ldE ws.length at_)]) ∧ w = w' := by
  by_cases hb : 0 ≤ at_ ∧ at_ < ws.length
  · have e1 : ldV ws at_ = ws.getD at_.toNat 0 := if_pos hb
    have e2 : ldE ws.length at_ = 0 := if_pos hb
    rw [e1, e2]
    clear e1 e2
    obtain ⟨k, rfl⟩ := Int.eq_ofNat_of_zero_le hb.1
    have hk : k < ws.length := by omega
    have hl := h.le
    have HF : Hid (fits ws.length k 1 = true) := by simp only [Hid, fits, decide_eq_true_eq]; omega
    have hc := h.cellP
    have hw := h.cellW k hk
    clear hb
    rw [Int.toNat_natCast]
    generalize ws.getD k 0 = x at hw ⊢
    go_enter Try.func20, Try.ntmps20
    go_wp2_with (go_at_call 24; refine (has_any bp bw ws _ _ _ h).mono ?_; rw [HF.out]; rintro e w' ⟨rfl, rfl⟩)
    go_ret2
    exact ⟨rfl, rfl⟩
  · have e1 : ldV ws at_ = 0 := if_neg hb
    have e2 : ldE ws.length at_ = 20 := if_neg hb
    rw [e1, e2]
    have HF : Hid (fits ws.length at_ 1 = false) := by simp only [Hid, fits, decide_eq_false_iff_not]; omega
    clear e1 e2 hb
    go_enter Try.func20, Try.ntmps20
    go_wp2_with (go_at_call 24; refine (has_any bp bw ws _ _ _ h).mono ?_; rw [HF.out]; rintro e w' ⟨rfl, rfl⟩)
    go_ret2
    exact ⟨rfl, rfl⟩

theorem rfill_in (bp bw : Nat) (ws : List Int) (at_ n v : Int) (w : World) (h : Rr w bp bw ws) (hf : fits ws.length at_ n = true) :
    Calls Try.prog 18 #[.pointer (some ⟨bp, 0, none⟩), .int .i64 at_, .int .i64 n, .int .u64 v] w fun e w' => e = .returned (.int .i64 0) ∧ Rr w' bp bw (flW ws at_.toNat v n.toNat) ∧ w.grownBy w' (some bw) := by
  have hb : 0 ≤ at_ ∧ 0 ≤ n ∧ at_ ≤ ws.length ∧ n ≤ ws.length - at_ := by simpa [fits] using hf
  obtain ⟨b1, b2, b3, b4⟩ := hb
  obtain ⟨a, rfl⟩ := Int.eq_ofNat_of_zero_le b1
  obtain ⟨m, rfl⟩ := Int.eq_ofNat_of_zero_le b2
  rw [Int.toNat_natCast, Int.toNat_natCast]
  have hl := h.le
  have HF := Lib.hid hf
  clear hf
  go_enter Try.func18, Try.ntmps18
  go_wp2_with (go_at_call 24; refine (has_any bp bw ws a m w h).mono ?_; rw [HF.out]; rintro e w' ⟨rfl, rfl⟩)
  go_loopw [10] (fun i wr => ∃ k : Nat, k ≤ m ∧ i = .int .i64 k ∧ Rr wr bp bw (flW ws a v k) ∧ w.grownBy wr (some bw)) (fun i _ => m - (intOf i).toNat)
  case atStart => exact ⟨0, Nat.zero_le _, rfl, h, grownBy_refl _ _⟩
  case round =>
    obtain ⟨k, hk, rfl, hA, hg⟩ := hrel
    by_cases hlt : k < m
    · have hc := hA.cellP
      rw [flW_length] at hc
      have hw := hA.cellW (a + k) (by rw [flW_length]; omega)
      have hfz := hA.free (a + k)
      have hs := hA.set (a + k) v
      generalize (flW ws a v k).getD (a + k) 0 = x at hw
      go_wp2
      go_roundw
      case rel => exact ⟨k + 1, by omega, by go_num, hs.1, grownBy_trans hg hs.2⟩
      case measure => simp [intOf]; omega
    · obtain rfl : k = m := by omega
      go_wp2
      go_ret
      exact ⟨rfl, hA, hg⟩

theorem rfill_out (bp bw : Nat) (ws : List Int) (at_ n v : Int) (w : World) (h : Rr w bp bw ws) (hf : fits ws.length at_ n = false) :
    Calls Try.prog 18 #[.pointer (some ⟨bp, 0, none⟩), .int .i64 at_, .int .i64 n, .int .u64 v] w fun e w' => e = .returned (.int .i64 20) ∧ w = w' := by
  have HF := Lib.hid hf
  clear hf
  go_enter Try.func18, Try.ntmps18
  go_wp2_with (go_at_call 24; refine (has_any bp bw ws at_ n w h).mono ?_; rw [HF.out]; rintro e w' ⟨rfl, rfl⟩)
  go_ret
  exact ⟨rfl, rfl⟩

theorem rfill_any (bp bw : Nat) (ws : List Int) (at_ n v : Int) (w : World) (h : Rr w bp bw ws) :
    Calls Try.prog 18 #[.pointer (some ⟨bp, 0, none⟩), .int .i64 at_, .int .i64 n, .int .u64 v] w fun e w' => e = .returned (.int .i64 (erE (fits ws.length at_ n))) ∧ Rr w' bp bw (fillW ws at_ n v) ∧ w.grownBy w' (some bw) := by
  cases hf : fits ws.length at_ n
  · refine (rfill_out bp bw ws at_ n v w h hf).mono ?_
    rintro e w' ⟨rfl, rfl⟩
    simp only [fillW, hf]
    exact ⟨rfl, h, grownBy_refl _ _⟩
  · refine (rfill_in bp bw ws at_ n v w h hf).mono ?_
    rintro e w' ⟨rfl, h1⟩
    simp only [fillW, hf]
    exact ⟨rfl, h1⟩

theorem fits_one (n : Nat) (a : Int) : fits n a 1 = decide (0 ≤ a ∧ a < n) := by
  rw [Bool.eq_iff_iff]; simp only [fits, decide_eq_true_eq]; omega

theorem rstore_any (bp bw : Nat) (ws : List Int) (at_ v : Int) (w : World) (h : Rr w bp bw ws) :
    Calls Try.prog 16 #[.pointer (some ⟨bp, 0, none⟩), .int .i64 at_, .int .u64 v] w fun e w' => e = .returned (.int .i64 (ldE ws.length at_)) ∧ Rr w' bp bw (stW ws at_ v) ∧ w.grownBy w' (some bw) := by
  have HE : Hid (erE (fits ws.length at_ 1) = ldE ws.length at_ ∧ fillW ws at_ 1 v = stW ws at_ v) := by
    unfold Hid
    rw [fits_one]
    by_cases hb : 0 ≤ at_ ∧ at_ < ws.length
    · unfold fillW ldE stW
      rw [fits_one, decide_eq_true hb, if_pos hb, if_pos hb]
      exact ⟨rfl, rfl⟩
    · unfold fillW ldE stW
      rw [fits_one, decide_eq_false hb, if_neg hb, if_neg hb]
      exact ⟨rfl, rfl⟩
  go_enter Try.func16, Try.ntmps16
  go_wp2_with (go_at_call 18; refine (rfill_any bp bw ws at_ 1 v w h).mono ?_; rw [HE.out.1, HE.out.2]; rintro e w' ⟨rfl, h1, h2⟩)
  go_ret
  exact ⟨rfl, h1, h2⟩

theorem rnew_in (n : Int) (w : World) (h1 : 1 ≤ n) (h2 : n ≤ 65536) :
    Calls Try.prog 15 #[.int .i64 n] w fun e w' => e = .returned (.tuple #[.pointer (some ⟨w.heap.size + 1, 0, none⟩), .int .i64 0]) ∧ Rr w' (w.heap.size + 1) w.heap.size (List.replicate n.toNat 0) ∧ w.grownBy w' none ∧ w'.heap.size = w.heap.size + 2 := by
  obtain ⟨m, rfl⟩ := Int.eq_ofNat_of_zero_le (show 0 ≤ n by omega)
  rw [Int.toNat_natCast]
  obtain ⟨i0, hi, hz0, hz1, hz2⟩ := info_parts info29
  have hmk : ∀ W : World, (Instr.makeSlice 22 (.int .i64 (m : Int)) (.int .i64 (m : Int))).run Try.prog W = .ok (.slice (some ⟨W.heap.size, 0, none⟩) m m) (W.alloc (.cells (u64s (List.replicate m 0)) 29)) := by
    intro W
    have hr := run_make (P := Try.prog) W 22 29 i0 (.int .u64 0) Try.underlying22 hi hz0 .i64 .i64 m m (by omega) (by omega) (by rw [hz2]; omega) (by omega)
    rw [hz1, made_u64] at hr
    simpa using hr
  clear hi hz0 hz1 hz2
  have hfin : Hid (Rr ((w.alloc (.cells (u64s (List.replicate m 0)) 29)).alloc (.cells #[.slice (some ⟨w.heap.size, 0, none⟩) m m] 51)) (w.heap.size + 1) w.heap.size (List.replicate m 0)) := by
    refine ⟨?_, ?_, by simp; omega⟩
    · have := heap_alloc_new (w.alloc (.cells (u64s (List.replicate m 0)) 29)) (.cells #[.slice (some ⟨w.heap.size, 0, none⟩) m m] 51)
      simpa using this
    · rw [Below.heap_alloc _ _ _ (by simp)]
      exact heap_alloc_new w _
  generalize u64s (List.replicate m 0) = Z at hmk hfin
  go_enter Try.func15, Try.ntmps15
  go_wp2
  go_ret2
  refine ⟨rfl, hfin.out, ⟨rfl, rfl, rfl, by simp; omega, fun k hk _ => ?_⟩, by simp⟩
  rw [Below.heap_alloc _ _ _ (by simp; omega), Below.heap_alloc _ _ _ hk]

theorem rnew_out (n : Int) (w : World) (h : n < 1 ∨ 65536 < n) :
    Calls Try.prog 15 #[.int .i64 n] w fun e w' => e = .returned (.tuple #[.pointer none, .int .i64 1]) ∧ w = w' := by
  rcases h with h | h
  · go_enter Try.func15, Try.ntmps15
    go_wp2
    go_ret2
    exact ⟨rfl, rfl⟩
  · have h2 : 1 ≤ n := by omega
    go_enter Try.func15, Try.ntmps15
    go_wp2
    go_ret2
    exact ⟨rfl, rfl⟩


theorem mvW_get (ws : List Int) (p q m i : Nat) (hp : p + m ≤ ws.length) (hq : q + m ≤ ws.length) :
    (mvW ws p q m)[i]? = if q ≤ i ∧ i < q + m then ws[p + i - q]? else ws[i]? := by
  unfold mvW
  by_cases h1 : i < q
  · rw [if_neg (by omega), List.getElem?_append_left (by simp; omega), List.getElem?_take, if_pos h1]
  · rw [List.getElem?_append_right (by simp; omega)]
    have e : (ws.take q).length = q := by simp; omega
    rw [e]
    by_cases h2 : i < q + m
    · rw [if_pos (by omega), List.getElem?_append_left (by simp; omega), List.getElem?_take, if_pos (by omega), List.getElem?_drop, show p + (i - q) = p + i - q by omega]
    · rw [if_neg (by omega), List.getElem?_append_right (by simp; omega)]
      have e2 : ((ws.drop p).take m).length = m := by simp; omega
      rw [e2, List.getElem?_drop, show q + m + (i - q - m) = i by omega]

theorem mvW_succ (ws : List Int) (p q i : Nat) (hp : p + i < ws.length) (hq : q + i < ws.length) : (mvW ws p q i).set (q + i) (ws.getD (p + i) 0) = mvW ws p q (i + 1) := by
  apply List.ext_getElem?
  intro j
  have hl1 : (mvW ws p q i).length = ws.length := mvW_length ws p q i (by omega) (by omega)
  have e0 : ws.getD (p + i) 0 = ws[p + i] := by simp [hp]
  rw [List.getElem?_set, hl1, e0, mvW_get ws p q (i + 1) j (by omega) (by omega), mvW_get ws p q i j (by omega) (by omega)]
  by_cases h0 : q + i = j
  · subst h0
    rw [if_pos rfl, if_pos hq, if_pos (by omega), show p + (q + i) - q = p + i by omega, List.getElem?_eq_getElem hp]
  · rw [if_neg h0]
    by_cases h1 : q ≤ j ∧ j < q + i
    · rw [if_pos h1, if_pos (by omega)]
    · rw [if_neg h1, if_neg (by omega)]

theorem rmove_out (bp bw : Nat) (ws : List Int) (p q n : Int) (w : World) (h : Rr w bp bw ws) (hf : (fits ws.length p n && fits ws.length q n) = false) :
    Calls Try.prog 19 #[.pointer (some ⟨bp, 0, none⟩), .int .i64 p, .int .i64 q, .int .i64 n] w fun e w' => e = .returned (.int .i64 20) ∧ w = w' := by
  cases h1 : fits ws.length p n <;> cases h2 : fits ws.length q n
  · have H1 := Lib.hid h1
    have H2 := Lib.hid h2
    clear h1 hf h2
    go_enter Try.func19, Try.ntmps19
    go_wp2_with (go_at_call 24; refine (has_any bp bw ws _ _ w h).mono ?_; (first | rw [H1.out] | rw [H2.out]); rintro e w' ⟨rfl, rfl⟩)
    go_ret
    exact ⟨rfl, rfl⟩
  · have H1 := Lib.hid h1
    have H2 := Lib.hid h2
    clear h1 hf h2
    go_enter Try.func19, Try.ntmps19
    go_wp2_with (go_at_call 24; refine (has_any bp bw ws _ _ w h).mono ?_; (first | rw [H1.out] | rw [H2.out]); rintro e w' ⟨rfl, rfl⟩)
    go_ret
    exact ⟨rfl, rfl⟩
  · have H1 := Lib.hid h1
    have H2 := Lib.hid h2
    clear h1 hf h2
    go_enter Try.func19, Try.ntmps19
    go_wp2_with (go_at_call 24; refine (has_any bp bw ws _ _ w h).mono ?_; (first | rw [H1.out] | rw [H2.out]); rintro e w' ⟨rfl, rfl⟩)
    go_ret
    exact ⟨rfl, rfl⟩
  · rw [h1, h2] at hf; cases hf

set_option maxHeartbeats 1000000 in
theorem rmove_in (bp bw : Nat) (ws : List Int) (p q n : Int) (w : World) (h : Rr w bp bw ws) (hf : fits ws.length p n = true) (hf2 : fits ws.length q n = true) :
    Calls Try.prog 19 #[.pointer (some ⟨bp, 0, none⟩), .int .i64 p, .int .i64 q, .int .i64 n] w fun e w' => e = .returned (.int .i64 0) ∧ Rr w' bp bw (mvW ws p.toNat q.toNat n.toNat) ∧ w.grownBy w' (some bw) := by
  have hb : 0 ≤ p ∧ 0 ≤ n ∧ p ≤ ws.length ∧ n ≤ ws.length - p := by simpa [fits] using hf
  have hb2 : 0 ≤ q ∧ 0 ≤ n ∧ q ≤ ws.length ∧ n ≤ ws.length - q := by simpa [fits] using hf2
  obtain ⟨b1, b2, b3, b4⟩ := hb
  obtain ⟨c1, c2, c3, c4⟩ := hb2
  obtain ⟨a, rfl⟩ := Int.eq_ofNat_of_zero_le b1
  obtain ⟨m, rfl⟩ := Int.eq_ofNat_of_zero_le b2
  obtain ⟨b, rfl⟩ := Int.eq_ofNat_of_zero_le c1
  rw [Int.toNat_natCast, Int.toNat_natCast, Int.toNat_natCast]
  have hl := h.le
  have HF := Lib.hid hf
  have HF2 := Lib.hid hf2
  clear hf hf2
  obtain ⟨i0, hi, hz0, hz1, hz2⟩ := info_parts info29
  have HI := Lib.hid hi; have HZ0 := Lib.hid hz0; have HZ1 := Lib.hid hz1; have HZ2 := Lib.hid hz2
  clear hi hz0 hz1 hz2
  have hc := h.cellP
  have lt : bp < w.heap.size ∧ bw < w.heap.size := ⟨(Array.getElem?_eq_some_iff.1 h.ptr).1, (Array.getElem?_eq_some_iff.1 h.row).1⟩
  obtain ⟨lt1, lt2⟩ := lt
  have hsrc : ∀ j v, (((ws.drop a).take m).map (Value.int .u64))[j]? = some v → w.cell? ((⟨bw, a, none⟩ : Addr).add j) = some v := by
    intro j v hj
    have hjm : j < m := by
      have := (List.getElem?_eq_some_iff.1 hj).1
      simp at this; omega
    have := h.cellW (a + j) (by omega)
    rw [Addr.add_lit, this]
    rw [← hj]
    have hal : a + j < ws.length := by omega
    simp [hjm, hal]
  have hsrc0 : ws.length ≤ a → ∀ j v, (((ws.drop a).take m).map (Value.int .u64))[j]? = some v → w.cell? ((⟨bw, 0, none⟩ : Addr).add j) = some v := by
    intro hla j v hj
    have := (List.getElem?_eq_some_iff.1 hj).1
    simp at this; omega
  have Hsrc := Lib.hid hsrc
  have Hsrc0 := Lib.hid hsrc0
  have Hlen : Hid ((((ws.drop a).take m).map (Value.int .u64)).length = m * 1) := by simp [Hid]; omega
  have Hone := Lib.hid (show ∀ v ∈ ((ws.drop a).take m).map (Value.int .u64), v.oneCell' = true by
    intro v hv
    obtain ⟨x, _, rfl⟩ := List.mem_map.1 hv
    rfl)
  have b5 : (a : Int) + m ≤ ws.length := by omega
  have Hnw : Hid (∀ i, i < m → (((ws.drop a).take m).map (Value.int .u64))[i]? = some (.int .u64 (ws.getD (a + i) 0))) := by
    intro i hi
    have : a + i < ws.length := by omega
    simp [hi, this]
  clear hsrc hsrc0
  generalize ((ws.drop a).take m).map (Value.int .u64) = news at *
  have Hset : Hid (∀ i, i < m → (mvW ws a b i).set (b + i) (ws.getD (a + i) 0) = mvW ws a b (i + 1)) := fun i hi => mvW_succ ws a b i (by omega) (by omega)
  have Hmz : Hid (mvW ws a b 0 = ws) := by simp [Hid, mvW]
  have Hml : Hid (∀ i, i ≤ m → (mvW ws a b i).length = ws.length) := fun i hi => mvW_length ws a b i (by omega) (by omega)
  have hcase : a = ws.length ∨ ¬ ws.length = a := by omega
  have Hlen2 : Hid (news.length = (a + m - a) * 1) := by unfold Hid; rw [Hlen.out]; omega
  have hm47 : (a + m - a) * 8 ≤ 140737488355328 := by omega
  have hmx : a + m - a ≤ 65536 := by omega
  rcases hcase with hal | hal
  · subst hal
    have hs0 := Lib.hid (Hsrc0.out (Nat.le_refl _))
    clear Hsrc0
    have hm0 : m ≤ 0 := by omega
    have Hlen0 : Hid (news.length = 0 * 1) := by unfold Hid; rw [Hlen.out]; omega
    have HE : Hid (mvW ws ws.length b m = ws) := by
      have e : m = 0 := by omega
      subst e; exact Hmz.out
    go_enter Try.func19, Try.ntmps19
    go_wp2_with (first
      | (go_at_call 24; refine (has_any bp bw ws _ _ w h).mono ?_; (first | rw [HF.out] | rw [HF2.out]); rintro e w' ⟨rfl, rfl⟩)
      | (at_builtin; go_must (refine wpList_append_own _ rfl _ _ 22 rfl w.heap.size 29 i0 (.int .u64 0) 1 8 Try.underlying22 HI.out HZ0.out HZ1.out HZ2.out rfl (by decide) (.slice none 0 0) 0 [] rfl (World.ownsRow_nil _ _ _ _) ⟨bw, 0, none⟩ 0 0 news rfl Hlen0.out hs0.out Hone.out (by unfold maxLen; omega) (by omega) (Nat.le_refl _) ?_); intro v' w4 hown4 g4 _))
    have hown4 : w4.ownsRow w.heap.size 29 1 v' m news := by
      have e : m = 0 := by omega
      simpa [e] using hown4
    have hR4 : Rr w4 bp bw (mvW ws ws.length b 0) := by rw [Hmz.out]; exact h.kept g4 (by simp [Value.ownBlock]) (by simp [Value.ownBlock])
    have g5 : w.grownBy w4 (some bw) := ⟨g4.os, g4.tape, g4.output, g4.size, fun i hi _ => g4.block i hi (by simp [Value.ownBlock])⟩
    clear g4 h hc
    go_loopw [12] (fun i wr => ∃ k : Nat, k ≤ m ∧ i = .int .i64 k ∧ Rr wr bp bw (mvW ws ws.length b k) ∧ wr.ownsRow w.heap.size 29 1 v' m news ∧ w.grownBy wr (some bw)) (fun i _ => m - (intOf i).toNat)
    case atStart => exact ⟨0, Nat.zero_le _, rfl, hR4, hown4, g5⟩
    case round =>
      obtain ⟨k, hk, rfl, hRr, hown, hgr⟩ := hrel
      clear hR4 hown4 g5
      obtain rfl : k = m := by omega
      go_wp2
      go_ret
      exact ⟨rfl, hRr, hgr⟩
  · go_enter Try.func19, Try.ntmps19
    go_wp2_with (first
      | (go_at_call 24; refine (has_any bp bw ws _ _ w h).mono ?_; (first | rw [HF.out] | rw [HF2.out]); rintro e w' ⟨rfl, rfl⟩)
      | (at_builtin; go_must (refine wpList_append_own _ rfl _ _ 22 rfl w.heap.size 29 i0 (.int .u64 0) 1 8 Try.underlying22 HI.out HZ0.out HZ1.out HZ2.out rfl (by decide) (.slice none 0 0) 0 [] rfl (World.ownsRow_nil _ _ _ _) ⟨bw, a, none⟩ (a + m - a) (ws.length - a) news rfl Hlen2.out Hsrc.out Hone.out (by unfold maxLen; omega) (by omega) (Nat.le_refl _) ?_); intro v' w4 hown4 g4 _))
    have hown4 : w4.ownsRow w.heap.size 29 1 v' m news := by
      have e : a + m - a = m := by omega
      simpa [e] using hown4
    have hR4 : Rr w4 bp bw (mvW ws a b 0) := by rw [Hmz.out]; exact h.kept g4 (by simp [Value.ownBlock]) (by simp [Value.ownBlock])
    have g5 : w.grownBy w4 (some bw) := ⟨g4.os, g4.tape, g4.output, g4.size, fun i hi _ => g4.block i hi (by simp [Value.ownBlock])⟩
    clear g4 h hc
    go_loopw [12] (fun i wr => ∃ k : Nat, k ≤ m ∧ i = .int .i64 k ∧ Rr wr bp bw (mvW ws a b k) ∧ wr.ownsRow w.heap.size 29 1 v' m news ∧ w.grownBy wr (some bw)) (fun i _ => m - (intOf i).toNat)
    case atStart => exact ⟨0, Nat.zero_le _, rfl, hR4, hown4, g5⟩
    case round =>
      obtain ⟨k, hk, rfl, hRr, hown, hgr⟩ := hrel
      clear hR4 hown4 g5
      by_cases hlt : k < m
      · obtain ⟨g, cap, rfl, hbg, hlg⟩ := hown.form (by omega)
        have hld := hown.cellAt k (by omega)
        rw [Hnw.out k hlt] at hld
        have hc := hRr.cellP
        rw [Hml.out k hk] at hc
        have hw := hRr.cellW (b + k) (by rw [Hml.out k hk]; omega)
        have hfz := hRr.free (b + k)
        have hs := hRr.drew.set (b + k) (ws.getD (a + k) 0)
        rw [Hset.out k hlt] at hs
        have hown5 := hown.drew.kept hs.2 (.inr (by simp [Value.ownBlock]; omega))
        have g6 := grownBy_trans (grownBy_trans hgr (gb_drew wr _)) hs.2
        generalize (mvW ws a b k).getD (b + k) 0 = x at hw
        generalize ws.getD (a + k) 0 = y at *
        obtain ⟨hs1, hs2⟩ := hs
        clear hown hgr hRr
        go_wp2_with fail
        have e0 : (k : Int) < m := by omega
        have e9 : (b : Int) + k < ws.length := by omega
        have e3 : (0 : Int) ≤ (b : Int) + k := by omega
        have e5 : ((b : Int) + k).toNat = b + k := by omega
        have e1 : IntKind.i64.wrap (↑b + ↑k) = (b : Int) + k := IntWalk.i64_in _ (by omega)
        go_still_tail 12, (by kernel_rfl)
        clear e1 e3 e5 e0 e9
        change wpList _ _ _ _ _ wr.drew
        go_wp2_with fail
        go_roundw
        case rel => exact ⟨k + 1, by omega, by go_num, hs1, hown5, g6⟩
        case measure => simp [intOf]; omega
      · obtain rfl : k = m := by omega
        go_wp2
        go_ret
        exact ⟨rfl, hRr, hgr⟩

theorem rmove_any (bp bw : Nat) (ws : List Int) (p q n : Int) (w : World) (h : Rr w bp bw ws) :
    Calls Try.prog 19 #[.pointer (some ⟨bp, 0, none⟩), .int .i64 p, .int .i64 q, .int .i64 n] w fun e w' => e = .returned (.int .i64 (erE (fits ws.length p n && fits ws.length q n))) ∧ Rr w' bp bw (moveW ws p q n) ∧ w.grownBy w' (some bw) := by
  cases hf : fits ws.length p n && fits ws.length q n
  · refine (rmove_out bp bw ws p q n w h hf).mono ?_
    rintro e w' ⟨rfl, rfl⟩
    simp only [moveW, hf]
    exact ⟨rfl, h, grownBy_refl _ _⟩
  · have hf' := hf
    rw [Bool.and_eq_true] at hf'
    refine (rmove_in bp bw ws p q n w h hf'.1 hf'.2).mono ?_
    rintro e w' ⟨rfl, h1⟩
    simp only [moveW, hf]
    exact ⟨rfl, h1⟩

end Go.Proofs.Ytdfnehcnilmfdaa
