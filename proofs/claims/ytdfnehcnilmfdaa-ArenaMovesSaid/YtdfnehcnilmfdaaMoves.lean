/-
  PROVED: middenheaplaw02.ArenaMoves returns true for every input (a raw size, any words, any places), and turns nothing that was there. No condition.
-/
import Derived.Test.YtdfnehcnilmfdaaMore
namespace Go.Proofs.Ytdfnehcnilmfdaa.arenaMoves
open Go.ChangeShapes Go.WideShapes Go.ChangeAt Go.RowKit
open Go.ChangeMaps (open_string shut_string)
set_option linter.unusedVariables false

def val (len : Nat) (zs : List Int) (i : Nat) : Int := if i < len then zs.getD i 0 else i
def vals (len : Nat) (zs : List Int) (j : Nat) : List Int := (List.range j).map (val len zs)
def pre (len : Nat) (zs : List Int) (n j : Nat) : List Int := vals len zs j ++ List.replicate (n - j) 0

theorem vals_length (len : Nat) (zs : List Int) (j : Nat) : (vals len zs j).length = j := by simp [vals]
theorem vals_succ (len : Nat) (zs : List Int) (j : Nat) : vals len zs (j + 1) = vals len zs j ++ [val len zs j] := by simp [vals, List.range_succ]
theorem pre_length (len : Nat) (zs : List Int) (n j : Nat) (h : j ≤ n) : (pre len zs n j).length = n := by simp [pre, vals]; omega
theorem pre_zero (len : Nat) (zs : List Int) (n : Nat) : pre len zs n 0 = List.replicate n 0 := by simp [pre, vals]
theorem pre_full (len : Nat) (zs : List Int) (n : Nat) : pre len zs n n = vals len zs n := by simp [pre]
theorem pre_succ (len : Nat) (zs : List Int) (n j : Nat) (h : j < n) : (pre len zs n j).set j (val len zs j) = pre len zs n (j + 1) := by
  unfold pre
  rw [vals_succ, List.set_append_right _ _ (by rw [vals_length]; omega), vals_length, Nat.sub_self]
  obtain ⟨r, hr⟩ : ∃ r, n - j = r + 1 := ⟨n - j - 1, by omega⟩
  rw [hr, List.replicate_succ, List.set_cons_zero, show n - (j + 1) = r by omega]
  simp
theorem vals_getD (len : Nat) (zs : List Int) (n i : Nat) (h : i < n) : (vals len zs n).getD i 0 = val len zs i := by
  simp [vals, h]
theorem mvW_getD (ws : List Int) (p q m i : Nat) (hp : p + m ≤ ws.length) (hq : q + m ≤ ws.length) :
    (mvW ws p q m).getD i 0 = if q ≤ i ∧ i < q + m then ws.getD (p + i - q) 0 else ws.getD i 0 := by
  unfold mvW
  simp only [List.getD_eq_getElem?_getD]
  by_cases h1 : i < q
  · rw [if_neg (by omega), List.getElem?_append_left (by simp; omega), List.getElem?_take, if_pos h1]
  · rw [List.getElem?_append_right (by simp; omega)]
    have e : (ws.take q).length = q := by simp; omega
    rw [e]
    by_cases h2 : i < q + m
    · rw [if_pos (by omega), List.getElem?_append_left (by simp; omega), List.getElem?_take, if_pos (by omega), List.getElem?_drop, show p + (i - q) = p + i - q by omega]
    · rw [if_neg (by omega), List.getElem?_append_right (by simp; omega)]
      have e2 : ((ws.drop p).take m).length = m := by simp; omega
      rw [e2, List.getElem?_drop, show q + m + (i - q - m) = i by omega]

/-- The round's end: the word is stored and appended. -/
theorem rel_next {w wr w3 w4 : World} {N1 k j len1 : Nat} {z1 : List Int} {old v' : Value} (hlt : j < 1 + k)
    (hA3 : Ar w3 (N1 + 1) N1 (pre len1 z1 (1 + k) (j + 1))) (hgr : w.grownBy wr none) (hsr : N1 + 2 ≤ wr.heap.size) (hwN : w.heap.size ≤ N1)
    (hown : wr.ownsRow (N1 + 2) 29 1 old j ((vals len1 z1 j).map (Value.int .u64)))
    (g3 : wr.grownBy w3 (some N1)) (hown4 : w4.ownsRow (N1 + 2) 29 1 v' (j + 1) ((vals len1 z1 j).map (Value.int .u64) ++ [.int .u64 (val len1 z1 j)])) (o : Obj) (g4 : (w3.alloc o).grownBy w4 old.ownBlock) :
    Ar w4 (N1 + 1) N1 (pre len1 z1 (1 + k) (j + 1)) ∧ w4.ownsRow (N1 + 2) 29 1 v' (j + 1) ((vals len1 z1 (j + 1)).map (Value.int .u64)) ∧ w.grownBy w4 none ∧ N1 + 2 ≤ w4.heap.size := by
  have hb : ∀ g, old.ownBlock = some g → N1 + 2 ≤ g := fun g hg => (hown.lt g hg).1
  have g5 : w3.grownBy w4 old.ownBlock := grownBy_trans (World.grownBy_alloc w3 o _) g4
  refine ⟨hA3.kept g5 (fun e => ?_) (fun e => ?_), ?_, gb_new (gb_new hgr g3 (by simp; omega)) g5 (fun g hg => ?_), ?_⟩
  · have := hb _ e.symm; omega
  · have := hb _ e.symm; omega
  · rw [vals_succ, List.map_append]; exact hown4
  · have := hb _ hg; omega
  · have := g3.size; have := g5.size; omega

set_option maxHeartbeats 4000000 in
theorem walk1 (a0 : Int) (a1 : Option Addr) (len1 cap1 : Nat) (z1 : List Int) (a2 : Int) (a3 : Int) (a4 : Int) (w : World) (hc0 : -9223372036854775808 ≤ a0) (w1 : IsRow .u64 w a1 len1 cap1 z1) (hc2 : -9223372036854775808 ≤ a2) (hc3 : -9223372036854775808 ≤ a3) (hc4 : -9223372036854775808 ≤ a4) :
    Calls Try.prog 3 #[.int .i64 a0, .slice a1 len1 cap1, .int .i64 a2, .int .i64 a3, .int .i64 a4] w fun e w' => e = .returned (.bool true) ∧ Below w.heap.size w w' := by
  have hlen : (len1 : Int) ≤ 9223372036854775807 := by
    rcases w1 with ⟨_, h, _⟩ | ⟨x, _, h1, h2, _⟩
    · omega
    · unfold maxLen at h2; omega
  have HR := Lib.hid w1
  clear w1
  obtain ⟨i0, hi, hz0, hz1, hz2⟩ := info_parts info29
  have HI := Lib.hid hi; have HZ0 := Lib.hid hz0; have HZ1 := Lib.hid hz1; have HZ2 := Lib.hid hz2
  clear hi hz0 hz1 hz2
  have hp := pk_range a0 40 (by omega)
  obtain ⟨k, hk⟩ := Int.eq_ofNat_of_zero_le hp.1
  have hk40 : k < 40 := by omega
  have HK := Lib.hid hk
  clear hp hk
  go_enter Try.func3, Try.ntmps3
  go_wp2_with fail
  refine (awake_any w).mono ?_
  rintro e w1 ⟨rfl, g1⟩
  go_wp2_with fail
  refine (pick_any a0 40 w1 hc0 (by omega)).mono ?_
  rw [HK.out]
  rintro e w2 ⟨rfl, rfl⟩
  go_wp2_with fail
  refine (new_in _ w1 (by omega) (by omega)).mono ?_
  rintro e w2 ⟨rfl, hA, g2, hsz⟩
  rw [show (1 + (k : Int)).toNat = 1 + k by omega] at hA
  have g3 := gb_new g1 g2 (by simp)
  have hz1 := g1.size
  have HS := Lib.hid hsz
  clear hsz g1 g2
  generalize w1.heap.size = N1 at *
  go_wp2_with fail
  go_loopw [15, 16] (fun s i wr => ∃ (j : Nat) (old : Value), old = s ∧ j ≤ 1 + k ∧ i = .int .i64 j ∧ Ar wr (N1 + 1) N1 (pre len1 z1 (1 + k) j) ∧ wr.ownsRow (N1 + 2) 29 1 old j ((vals len1 z1 j).map (Value.int .u64)) ∧ w.grownBy wr none ∧ N1 + 2 ≤ wr.heap.size) (fun _ i _ => 1 + k - (intOf i).toNat)
  case atStart => 
    exact ⟨0, _, rfl, Nat.zero_le _, rfl, by rw [pre_zero]; exact hA, World.ownsRow_nil _ _ _ _, g3, by rw [HS.out]; omega⟩
  case round =>
    obtain ⟨j, old, rfl, hj, rfl, hAr, hown, hgr, hsr⟩ := hrel
    by_cases hlt : j < 1 + k
    · by_cases hin : j < len1
      · obtain ⟨x, rfl, hcell⟩ : ∃ x, a1 = some x ∧ wr.cell? (x.add j) = some (.int .u64 (z1.getD j 0)) := by
          rcases HR.out with ⟨_, h, _⟩ | ⟨x, e, h1, h2, h3, h4, _⟩
          · omega
          · exact ⟨x, e, hgr.cell (h4 j (by omega)) (by simp)⟩
        have HV : Hid (val len1 z1 j = z1.getD j 0) := by unfold Hid val; rw [if_pos hin]
        have hset := pre_succ len1 z1 (1 + k) j hlt
        have HT := Lib.hid hset
        clear hset
        have hrn := fun w3 w4 v' a b c d => @rel_next w wr w3 w4 N1 k j len1 z1 old v' hlt a hgr hsr (by omega) hown b c d
        have HN := Lib.hid hrn
        clear hrn
        rw [← HV.out] at hcell
        clear HV
        generalize val len1 z1 j = v at *
        go_wp2_with fail
        refine (store_in _ _ _ (j : Int) v wr hAr (by omega) (by rw [pre_length _ _ _ _ hj]; omega)).mono ?_
        rw [Int.toNat_natCast, HT.out]
        rintro e w3 ⟨rfl, hA3, g3⟩
        have hown3 := hown.kept g3 (.inr (fun e => by have := (hown.lt _ e).1; omega))
        have hs3 := g3.size
        go_wp2_with (at_builtin; refine wpList_append_own _ rfl _ _ 22 rfl (N1 + 2) 29 i0 (.int .u64 0) 1 8 Try.underlying22 HI.out HZ0.out HZ1.out HZ2.out rfl (by decide) _ _ _ rfl (hown3.alloc _) ⟨w3.heap.size, 0, none⟩ 1 1 [.int .u64 v] rfl rfl (cell_one_new _ _ _) (one_int _ _) (by unfold maxLen; omega) (by omega) (by simp; omega) ?_; intro v' w4 hown4 g4 _)
        have hfin := HN.out w3 w4 v' hA3 g3 hown4 _ g4
        clear hown3 hown4 g3 g4 hA3 hAr hown hcell hgr HN
        go_wp2_with fail
        go_roundw
        case rel => exact ⟨j + 1, v', rfl, by omega, by go_num, hfin⟩
        case measure => simp [intOf]; omega
      · have HV : Hid ((j : Int) = val len1 z1 j) := by unfold Hid val; rw [if_neg hin]
        have hset := pre_succ len1 z1 (1 + k) j hlt
        have HT := Lib.hid hset
        clear hset
        have hrn := fun w3 w4 v' a b c d => @rel_next w wr w3 w4 N1 k j len1 z1 old v' hlt a hgr hsr (by omega) hown b c d
        have HN := Lib.hid hrn
        clear hrn
        rw [← HV.out] at HT HN
        clear HV
        go_wp2_with fail
        refine (store_in _ _ _ (j : Int) (j : Int) wr hAr (by omega) (by rw [pre_length _ _ _ _ hj]; omega)).mono ?_
        rw [Int.toNat_natCast, HT.out]
        rintro e w3 ⟨rfl, hA3, g3⟩
        have hown3 := hown.kept g3 (.inr (fun e => by have := (hown.lt _ e).1; omega))
        have hs3 := g3.size
        go_wp2_with (at_builtin; refine wpList_append_own _ rfl _ _ 22 rfl (N1 + 2) 29 i0 (.int .u64 0) 1 8 Try.underlying22 HI.out HZ0.out HZ1.out HZ2.out rfl (by decide) _ _ _ rfl (hown3.alloc _) ⟨w3.heap.size, 0, none⟩ 1 1 [.int .u64 j] rfl rfl (cell_one_new _ _ _) (one_int _ _) (by unfold maxLen; omega) (by omega) (by simp; omega) ?_; intro v' w4 hown4 g4 _)
        have hfin := HN.out w3 w4 v' hA3 g3 hown4 _ g4
        clear hown3 hown4 g3 g4 hA3 hAr hown hgr HN
        go_wp2_with fail
        go_roundw
        case rel => exact ⟨j + 1, v', rfl, by omega, by go_num, hfin⟩
        case measure => simp [intOf]; omega
    · obtain rfl : j = 1 + k := by omega
      rw [pre_full] at hAr
      have hln := vals_length len1 z1 (1 + k)
      generalize vals len1 z1 (1 + k) = vs at *
      have HL := Lib.hid hln
      clear hln
      go_wp2_with fail
      refine (pick_any a2 _ wr hc2 (by omega)).mono ?_
      have r2 := pk_range a2 (1 + k) (by omega)
      generalize pk a2 (1 + k) = p at *
      rintro e w4 ⟨rfl, rfl⟩
      go_wp2_with fail
      refine (pick_any a3 _ wr hc3 (by omega)).mono ?_
      have r3 := pk_range a3 (1 + k) (by omega)
      generalize pk a3 (1 + k) = q at *
      rintro e w4 ⟨rfl, rfl⟩
      have hmin : (p < q ∨ q ≤ p) := by omega
      rcases hmin with hpq | hpq
      focus
        go_wp2_with fail
        refine (pick_any a4 (1 + k - q + 1) wr hc4 (by omega)).mono ?_
        have r4 := pk_range a4 (1 + k - q + 1) (by omega)
        generalize pk a4 (1 + k - q + 1) = m at *
      rotate_left
      focus
        go_wp2_with fail
        refine (pick_any a4 (1 + k - p + 1) wr hc4 (by omega)).mono ?_
        have r4 := pk_range a4 (1 + k - p + 1) (by omega)
        generalize pk a4 (1 + k - p + 1) = m at *
      all_goals
        have hm0 : 0 ≤ m := by omega
        have hm1 : p + m ≤ 1 + k := by omega
        have hm2 : q + m ≤ 1 + k := by omega
        have hp0 := r2.1
        have hp1 := r2.2
        have hq0 := r3.1
        have hq1 := r3.2
        clear r2 r3 r4 hpq
        rintro e w4 ⟨rfl, rfl⟩
        have HF1 : Hid (fits (1 + k) p m = true) := by simp only [Hid, fits, decide_eq_true_eq]; omega
        have HF2 : Hid (fits (1 + k) q m = true) := by simp only [Hid, fits, decide_eq_true_eq]; omega
        go_wp2_with fail
        refine (move_in _ _ vs p q m wr hAr (by rw [HL.out]; exact HF1.out) (by rw [HL.out]; exact HF2.out)).mono ?_
        rintro e w4 ⟨rfl, hA4, g4⟩
        have hown4 := hown.kept g4 (.inr (fun e => by have := (hown.lt _ e).1; omega))
        have g5 := gb_new hgr g4 (by simp; omega)
        clear hown hgr hAr
        obtain ⟨g, cap, rfl, hbg, hlg⟩ := hown4.form (by omega)
        have Hold : Hid (∀ i, i < 1 + k → w4.cell? ⟨g, i, none⟩ = some (.int .u64 (vs.getD i 0))) := by
          intro i hi
          have h1 := hown4.cellAt i (by omega)
          have h2 : i < vs.length := by rw [HL.out]; exact hi
          rw [h1]; simp [h2]
        obtain ⟨p, rfl⟩ := Int.eq_ofNat_of_zero_le hp0
        obtain ⟨q, rfl⟩ := Int.eq_ofNat_of_zero_le hq0
        obtain ⟨m, rfl⟩ := Int.eq_ofNat_of_zero_le hm0
        rw [Int.toNat_natCast, Int.toNat_natCast, Int.toNat_natCast] at hA4
        have Hmv : Hid (∀ i, (mvW vs p q m).getD i 0 = if q ≤ i ∧ i < q + m then vs.getD (p + i - q) 0 else vs.getD i 0) := fun i => mvW_getD vs p q m i (by rw [HL.out]; omega) (by rw [HL.out]; omega)
        have HL4 : Hid ((mvW vs p q m).length = 1 + k) := by
          have := mvW_length vs p q m (by rw [HL.out]; omega) (by rw [HL.out]; omega)
          exact this.trans HL.out
        generalize mvW vs p q m = vs4 at *
        go_wp2_with fail
        go_loop [21] (fun i => ∃ j : Nat, j ≤ 1 + k ∧ i = .int .i64 j) (fun i => 1 + k - (intOf i).toNat)
        case atStart => exact ⟨0, Nat.zero_le _, rfl⟩
        case round =>
          obtain ⟨j, hj, rfl⟩ := hrel
          by_cases hlt : j < 1 + k
          · have hc1 := Hold.out j hlt
            have hv := Hmv.out j
            by_cases hq : q ≤ j
            · by_cases hqm : j < q + m
              · have hc2 := Hold.out (p + j - q) (by omega)
                rw [if_pos ⟨hq, hqm⟩] at hv
                have HV := Lib.hid hv
                clear hv
                generalize vs.getD (p + j - q) 0 = x at *
                generalize vs.getD j 0 = y at *
                go_wp2_with fail
                refine (load_in _ _ _ (j : Int) w4 hA4 (by omega) (by rw [HL4.out]; omega)).mono ?_
                rw [Int.toNat_natCast, HV.out]
                rintro e w5 ⟨rfl, rfl⟩
                go_wp2_with fail
                go_round
                case rel => exact ⟨j + 1, by omega, by go_num⟩
                case measure => simp [intOf]; omega
              · rw [if_neg (by omega)] at hv
                have HV := Lib.hid hv
                clear hv
                generalize vs.getD j 0 = y at *
                go_wp2_with fail
                refine (load_in _ _ _ (j : Int) w4 hA4 (by omega) (by rw [HL4.out]; omega)).mono ?_
                rw [Int.toNat_natCast, HV.out]
                rintro e w5 ⟨rfl, rfl⟩
                go_wp2_with fail
                go_round
                case rel => exact ⟨j + 1, by omega, by go_num⟩
                case measure => simp [intOf]; omega
            · rw [if_neg (by omega)] at hv
              have HV := Lib.hid hv
              clear hv
              generalize vs.getD j 0 = y at *
              go_wp2_with fail
              refine (load_in _ _ _ (j : Int) w4 hA4 (by omega) (by rw [HL4.out]; omega)).mono ?_
              rw [Int.toNat_natCast, HV.out]
              rintro e w5 ⟨rfl, rfl⟩
              go_wp2_with fail
              go_round
              case rel => exact ⟨j + 1, by omega, by go_num⟩
              case measure => simp [intOf]; omega
          · obtain rfl : j = 1 + k := by omega
            have HMm : Hid (∀ (W : World) (us : List Int), Ar W (N1 + 1) N1 us → us.length = 1 + k → Calls Try.prog 13 #[.pointer (some ⟨N1 + 1, 0, none⟩), .int .i64 q, .int .i64 q, .int .i64 m] W fun e w' => e = .returned (.int .i64 0) ∧ (∃ us', us'.length = 1 + k ∧ Ar w' (N1 + 1) N1 us') ∧ W.grownBy w' (some N1)) := by
              intro W us hu hl
              refine (move_in _ _ us q q m W hu (by rw [hl]; exact HF2.out) (by rw [hl]; exact HF2.out)).mono ?_
              rintro e w' ⟨rfl, h1, h2⟩
              exact ⟨rfl, ⟨_, (mvW_length us q q m (by omega) (by omega)).trans hl, h1⟩, h2⟩
            by_cases hpq : p = 0 ∧ q = 0
            · obtain ⟨rfl, rfl⟩ := hpq
              go_wp2_with fail
              refine (HMm.out w4 vs4 hA4 HL4.out).mono ?_
              rintro e w5 ⟨rfl, ⟨us5, hl5, hA5⟩, g6⟩
              have HL5 := Lib.hid hl5
              clear hl5
              go_wp2_with fail
              refine (move_in _ _ us5 0 0 _ w5 hA5 (by rw [HL5.out]; simp only [fits, decide_eq_true_eq]; omega) (by rw [HL5.out]; simp only [fits, decide_eq_true_eq]; omega)).mono ?_
              rintro e w6 ⟨rfl, _, g7⟩
              go_wp2_with fail
              go_ret
              exact ⟨rfl, below_of (gb_new (gb_new g5 g6 (by simp; omega)) g7 (by simp; omega))⟩
            · have hend : Hid ((fits (1 + k) p (1 + k) && fits (1 + k) q (1 + k)) = false) := by
                simp only [Hid, fits, Bool.and_eq_false_iff, decide_eq_false_iff_not]; omega
              by_cases hp' : p = 0
              · subst hp'
                have hq' : (((q : Nat) : Int) == 0) = false := by simp; omega
                go_wp2_with fail
                refine (HMm.out w4 vs4 hA4 HL4.out).mono ?_
                rintro e w5 ⟨rfl, ⟨us5, hl5, hA5⟩, g6⟩
                have HL5 := Lib.hid hl5
                clear hl5
                go_wp2_with fail
                refine (move_out _ _ us5 _ _ _ w5 hA5 (by rw [HL5.out]; exact hend.out)).mono ?_
                rintro e w6 ⟨rfl, rfl⟩
                go_wp2_with fail
                go_ret
                exact ⟨rfl, below_of (gb_new g5 g6 (by simp; omega))⟩
              · have hp'' : (((p : Nat) : Int) == 0) = false := by simp; omega
                go_wp2_with fail
                refine (HMm.out w4 vs4 hA4 HL4.out).mono ?_
                rintro e w5 ⟨rfl, ⟨us5, hl5, hA5⟩, g6⟩
                have HL5 := Lib.hid hl5
                clear hl5
                go_wp2_with fail
                refine (move_out _ _ us5 _ _ _ w5 hA5 (by rw [HL5.out]; exact hend.out)).mono ?_
                rintro e w6 ⟨rfl, rfl⟩
                go_wp2_with fail
                go_ret
                exact ⟨rfl, below_of (gb_new g5 g6 (by simp; omega))⟩

theorem walk (a0 : Int) (a1 : Option Addr) (len1 cap1 : Nat) (z1 : List Int) (a2 : Int) (a3 : Int) (a4 : Int) (w : World) (w0 : (Lit.int .i64 a0).wf = true) (w1 : IsRow .u64 w a1 len1 cap1 z1) (w2 : (Lit.int .i64 a2).wf = true) (w3 : (Lit.int .i64 a3).wf = true) (w4 : (Lit.int .i64 a4).wf = true) :
    Calls Try.prog 3 #[.int .i64 a0, .slice a1 len1 cap1, .int .i64 a2, .int .i64 a3, .int .i64 a4] w fun e w' => e = .returned (.bool true) ∧ Below w.heap.size w w' :=
  walk1 a0 a1 len1 cap1 z1 a2 a3 a4 w (i64_lo w0) w1 (i64_lo w2) (i64_lo w3) (i64_lo w4)

theorem own : ownKnob Try.prog.godebug = none := by kernel_rfl
theorem laidOut : laidOutB Try.prog = true := by kernel_rfl

set_option maxRecDepth 100000 in
theorem lifted (os : Os) (started : os.Started) (H : Type) (enc : TypeId × Value → H) :
    ReturnsInHanded {} Try.checked os 3 .any (Rows.arenaMovesSpec.pre6 enc Try.prog Try.f3 Rows.arenaMovesRow.domain false) (Rows.arenaMovesSpec.post enc Try.prog Try.f3 false true false false) := by
  refine returnsInHanded_of_change (C := Try.checked) own started (by kernel_rfl) Try.func3
    (ChangeSpec.witness6 (enc := enc) (C := Try.checked) false ⟨#[], #[.int .i64 0, .slice none 0 0, .int .i64 0, .int .i64 0, .int .i64 0], []⟩ 8 (by kernel_rfl) (by kernel_rfl) (by kernel_rfl) (by kernel_rfl)) ?_
  intro W base args ds gs before hval0 hW hcnd _
  have hval : ∀ (j : Nat) t v, Try.f3.params[j]? = some t → args[j]? = some v → Value.okWide Try.prog W .any base t v := hval0
  have hW' := hW
  obtain ⟨p, q, hA0, hV, rfl, hfz, hnd⟩ := hW
  have hA : DataW.TrodAll enc Try.prog W 0 (fun _ => true) true Try.f3.params.toList args.toList ds p := hA0
  rw [Try.params3] at hA hval
  obtain ⟨v0, vs0, d0, ds0, p0, q0, hargs, rfl, rfl, h0, r0⟩ := trodAll_cons hA
  obtain ⟨v1, vs1, d1, ds1, p1, q1, rfl, rfl, rfl, h1, r1⟩ := trodAll_cons r0
  obtain ⟨v2, vs2, d2, ds2, p2, q2, rfl, rfl, rfl, h2, r2⟩ := trodAll_cons r1
  obtain ⟨v3, vs3, d3, ds3, p3, q3, rfl, rfl, rfl, h3, r3⟩ := trodAll_cons r2
  obtain ⟨v4, vs4, d4, ds4, p4, q4, rfl, rfl, rfl, h4, r4⟩ := trodAll_cons r3
  obtain ⟨rfl, rfl, rfl⟩ := trodAll_nil r4
  obtain rfl : args = #[v0, v1, v2, v3, v4] := by cases args; simp_all
  obtain ⟨rfl, rfl⟩ := trodVars_none hV
  have k0 := h0
  have lt0 : ∀ x ∈ p0, x.block < W.heap.size := by obtain ⟨m, hm⟩ := k0; exact DataW.trod_lt m _ _ _ hm
  have k1 := h1
  have lt1 : ∀ x ∈ p1, x.block < W.heap.size := by obtain ⟨m, hm⟩ := k1; exact DataW.trod_lt m _ _ _ hm
  have k2 := h2
  have lt2 : ∀ x ∈ p2, x.block < W.heap.size := by obtain ⟨m, hm⟩ := k2; exact DataW.trod_lt m _ _ _ hm
  have k3 := h3
  have lt3 : ∀ x ∈ p3, x.block < W.heap.size := by obtain ⟨m, hm⟩ := k3; exact DataW.trod_lt m _ _ _ hm
  have k4 := h4
  have lt4 : ∀ x ∈ p4, x.block < W.heap.size := by obtain ⟨m, hm⟩ := k4; exact DataW.trod_lt m _ _ _ hm
  obtain ⟨a0, rfl, rfl, rfl, w0⟩ := open_int Try.underlying3 (hval 0 3 v0 rfl rfl) h0
  obtain ⟨a1, len1, cap1, rfl⟩ := okWide_slice Try.underlying22 (hval 1 22 v1 rfl rfl)
  obtain ⟨z1, w1⟩ : ∃ zs, IsRow .u64 W a1 len1 cap1 zs := by
    obtain ⟨fuel, hf⟩ := h1
    rcases open_ints Try.underlying22 Try.underlying29 (by kernel_rfl) hf with ⟨hcs, _⟩ | ⟨x, l, c, zs, hcs, _, hl, hm, hz, _, hcell, hwz⟩
    · simp [Value.cells] at hcs
      obtain ⟨rfl, rfl, rfl⟩ := hcs
      exact ⟨[], .inl ⟨rfl, rfl, rfl, rfl⟩⟩
    · simp [Value.cells] at hcs
      obtain ⟨rfl, rfl, rfl⟩ := hcs
      exact ⟨zs, .inr ⟨_, rfl, hl, hm, by simpa using hz, hcell, hwz⟩⟩
  obtain ⟨a2, rfl, rfl, rfl, w2⟩ := open_int Try.underlying3 (hval 2 3 v2 rfl rfl) h2
  obtain ⟨a3, rfl, rfl, rfl, w3⟩ := open_int Try.underlying3 (hval 3 3 v3 rfl rfl) h3
  obtain ⟨a4, rfl, rfl, rfl, w4⟩ := open_int Try.underlying3 (hval 4 3 v4 rfl rfl) h4
  clear hA0 hval0
  refine (walk a0 a1 len1 cap1 z1 a2 a3 a4 W w0 w1 w2 w3 w4).mono fun e W' ⟨he, bel⟩ => ?_
  subst he
  exact ⟨_, rfl, _, _, _, [], _, [], hW', trodAll_mk1 (shut_bool Try.underlying4 _), (trodAll_cons_mk (Below.trod laidOut (by kernel_rfl) (of_decide_eq_true (by kernel_rfl)) k0 bel lt0) (trodAll_cons_mk (Below.trod laidOut (by kernel_rfl) (of_decide_eq_true (by kernel_rfl)) k1 bel lt1) (trodAll_cons_mk (Below.trod laidOut (by kernel_rfl) (of_decide_eq_true (by kernel_rfl)) k2 bel lt2) (trodAll_cons_mk (Below.trod laidOut (by kernel_rfl) (of_decide_eq_true (by kernel_rfl)) k3 bel lt3) (trodAll_cons_mk (Below.trod laidOut (by kernel_rfl) (of_decide_eq_true (by kernel_rfl)) k4 bel lt4) trodAll_mk0))))), rfl, bel.frame _, fun h => by cases h⟩

theorem over : Rows.arenaMovesRow.holds Try.pinned (OpenSpec.ofChange Rows.arenaMovesSpec) :=
  OpenClaim.holds_of_wide 3 Try.f3 rfl rfl rfl rfl rfl rfl rfl ⟨rfl, rfl, rfl, rfl, rfl⟩ rfl rfl rfl rfl rfl (by kernel_rfl) Try.func3 (by kernel_rfl)
    (of_decide_eq_true (by kernel_rfl)) (by unfold Func.isWrapper; first | (rw [if_pos (by decide +kernel)]; kernel_rfl) | (rw [if_neg (by decide +kernel)]; exact ⟨rfl, rfl⟩))
    (fun os started H enc _ => lifted os started H enc)

theorem proved : Rows.ArenaMovesSaid := over
end Go.Proofs.Ytdfnehcnilmfdaa.arenaMoves

namespace Go.Proofs.Ytdfnehcnilmfdaa
theorem ArenaMoves_holds : Rows.ArenaMovesSaid := arenaMoves.proved
#print axioms ArenaMoves_holds
end Go.Proofs.Ytdfnehcnilmfdaa
