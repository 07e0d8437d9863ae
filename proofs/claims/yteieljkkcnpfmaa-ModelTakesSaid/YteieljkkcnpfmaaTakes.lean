/-
  ModelTakes returns true, whatever the input; what it was handed reads as before. No condition.
-/
import Derived.Test.YteieljkkcnpfmaaHold
import Derived.StillTactics
import Derived.Test.YteieljkkcnpfmaaOpen
import Derived.Test.YteieljkkcnpfmaaEq
namespace Go.Proofs.Yteieljkkcnpfmaa.modelTakes
open Go.ChangeShapes Go.WideShapes Go.ChangeAt Go.RowKit
set_option linter.unusedVariables false

/-- The items of the first n serials. -/
def tq (xs : List Int) (n : Nat) : List (Int × Int) := (List.range n).map fun j => (1 + pk (xs.getD j 0) 99, (j : Int))
theorem tq_len (xs : List Int) (n : Nat) : (tq xs n).length = n := by simp [tq]
theorem tq_succ (xs : List Int) (n : Nat) : tq xs (n + 1) = tq xs n ++ [(1 + pk (xs.getD n 0) 99, (n : Int))] := by simp [tq, List.range_succ]
theorem tq_get (xs : List Int) (n t : Nat) (h : t < n) : ((tq xs n).drop t)[0]? = some (1 + pk (xs.getD t 0) 99, (t : Int)) := by
  simp [tq, h]
theorem tq_yes {xs : List Int} {n t k : Nat} (h : t < n) (hk : t < k) : takeV ((tq xs n).drop t) k = 1 + pk (xs.getD t 0) 99 ∧ takeQ ((tq xs n).drop t) k = (tq xs n).drop (t + 1) := by
  have hl : 0 < ((tq xs n).drop t).length := by simp [tq_len]; omega
  have hg : ((tq xs n).drop t)[0] = (1 + pk (xs.getD t 0) 99, (t : Int)) := by
    have := tq_get xs n t h
    rw [List.getElem?_eq_getElem hl] at this
    exact Option.some.inj this
  obtain ⟨h1, h2⟩ := take_yes (seen := k) hl (by rw [hg]; simp; omega)
  rw [hg] at h1
  refine ⟨h1, h2.trans (by simp)⟩
theorem tq_no {xs : List Int} {n t k : Nat} (h : ¬ (t < n ∧ t < k)) (ht : t ≤ n) : takeV ((tq xs n).drop t) k = 0 ∧ takeQ ((tq xs n).drop t) k = (tq xs n).drop t := by
  by_cases hl : 0 < ((tq xs n).drop t).length
  · have hn : t < n := by simp [tq_len] at hl; omega
    have hg : ((tq xs n).drop t)[0] = (1 + pk (xs.getD t 0) 99, (t : Int)) := by
      have := tq_get xs n t hn
      rw [List.getElem?_eq_getElem hl] at this
      exact Option.some.inj this
    exact take_no hl (by rw [hg]; simp; omega)
  · exact take_nil hl
theorem right_take : RightD (dd 10 (2 : Nat) (0 : Nat) 0 0) (parts 10) := by
  refine ⟨fun p hp => ?_, fun j h1 h4 hn => ?_⟩
  · have hp' : p ∈ parts10 := hp
    simp [parts10] at hp'
    subst hp'
    simp [dd]
  · rcases (by omega : j = 1 ∨ j = 2 ∨ j = 3 ∨ j = 4) with rfl | rfl | rfl | rfl <;> first | rfl | exact absurd rfl (hn ⟨1, 0, 5⟩ (by show _ ∈ parts10; simp [parts10]))
theorem getD_mem {xs : List Int} {n : Nat} (h : (ints xs).length = n * 1) (j : Nat) (hj : j < n) : xs.getD j 0 ∈ xs := by
  rw [ints_length] at h
  have hl : j < xs.length := by omega
  have e : xs.getD j 0 = xs[j] := by simp [hl]
  rw [e]
  exact List.getElem_mem hl
theorem eq9 (v : Int) (w : World) : (Op.equalIn 10000 24 (.agg #[.int .i64 9, .int .i64 9, .int .i64 v, .int .i64 9, .int .i64 9, .int .i64 9]) (.agg #[.int .i64 9, .int .i64 9, .int .i64 v, .int .i64 9, .int .i64 9, .int .i64 9])).run Try.prog w = .ok true w := eq24_same (fun j => if j = 2 then v else 9) w
theorem put2 {w wr : World} {B : Nat} {vo vq uo uq : Value} {a b : Obj} {O O2 : List Ob} {Q Q2 : List (Int × Int)} (h : MB w wr B vo vq O Q) (k : RM wr (.agg #[uo, uq]) O2 Q2) : Hid (MB w ((((wr.setCell ⟨B, 0, none⟩ uo).setCell ⟨B, 1, none⟩ uq).alloc a).alloc b) B uo uq O2 Q2) :=
  (h.put k).gb (grownBy_trans (World.grownBy_alloc _ _ none) (World.grownBy_alloc _ _ none))
theorem twoN {w : World} {v : Value} {O : List Ob} {Q : List (Int × Int)} (h : RM w v O Q) : ∃ Ao Aq n m co cq, v = .agg #[.slice Ao n co, .slice Aq m cq] := by
  obtain ⟨Ao, Aq, co, cq, e⟩ := h.two
  exact ⟨Ao, Aq, _, _, co, cq, e⟩
def TkP (w : World) (Q : List (Int × Int)) (v : Int) (e : Ending) (w' : World) : Prop :=
  ∃ vm, e = .returned (.tuple #[vm, .agg #[.int .i64 9, .int .i64 9, .int .i64 v, .int .i64 9, .int .i64 9, .int .i64 9], .int .i64 v, .int .i64 0]) ∧ RM w' vm [] Q ∧ w.grownBy w' none
theorem do_tk {w : World} {v : Value} {Q : List (Int × Int)} (h : RM w v [] Q) (hs : Q.length ≤ 100) (seen : Int) (v' : Int) (Q' : List (Int × Int)) (h1 : takeV Q seen = v') (h2 : takeQ Q seen = Q') :
    Calls Try.prog 12 #[v, .agg #[.int .i64 9, .int .i64 9, .int .i64 9, .int .i64 9, .int .i64 9, .int .i64 9], .agg #[.int .i64 10, .int .i64 2, .int .i64 0, .int .i64 0, .int .i64 0], .int .i64 0, .int .i64 seen] w (TkP w Q' v') := by
  have hf : flt [] (fun _ => 9) 10 2 0 0 0 = 0 := by rfl
  have h := do_ok h ⟨by simp, hs, by simp⟩ (fun _ => 9) 10 2 0 0 0 0 seen (by omega) (by omega) (by omega) (by omega) (by omega) right_take hf
  have e1 : nO [] (fun _ => 9) 10 2 0 0 0 0 = [] := by rfl
  have e3 : nV [] Q (fun _ => 9) 10 2 0 0 0 0 seen = v' := by rw [← h1]; rfl
  have e2 : nR [] Q (fun _ => 9) 10 2 0 0 0 0 seen = upd (fun _ => 9) 2 v' := by rw [← e3]; rfl
  have e4 : nQ Q 10 seen = Q' := by rw [← h2]; rfl
  rw [e1, e2, e3, e4] at h
  exact h

set_option maxRecDepth 100000 in
set_option maxHeartbeats 8000000 in
theorem walk (a0 : Option Addr) (len0 cap0 : Nat) (xs : List Int) (a1 : Int) (w : World) (hrd : Rd w a0 len0 xs) (w1 : -9223372036854775808 ≤ a1) (hx : ∀ x ∈ xs, -9223372036854775808 ≤ x) :
    Calls Try.prog 7 #[.slice a0 len0 cap0, .int .i64 a1] w fun e w' => e = .returned (.bool true) ∧ Below w.heap.size w w' := by
  have HRD := Lib.hid hrd
  have HX := Lib.hid hx
  have hl := hrd.le
  clear hrd hx
  obtain ⟨n, hn⟩ : ∃ n, n = min len0 6 := ⟨_, rfl⟩
  have hn6 : n ≤ 6 := by omega
  have hnl : n ≤ len0 := by omega
  obtain ⟨k, hk, hk8⟩ := pk_nat a1 8 (by omega)
  have HK := Lib.hid hk
  clear hk
  have HN := Lib.hid hn
  clear hn
  go_enter Try.func7, Try.ntmps7
  go_wp2_with fail
  refine (awake_any w).mono ?_
  rintro e wa ⟨rfl, hg1⟩
  have HG1 := Lib.hid hg1
  clear hg1
  have HMB := Lib.hid (MB.start HG1.out)
  have he6 : 6 < (len0 : Int) → Value.int IntKind.i64 6 = Value.int IntKind.i64 (n : Int) := fun h => by have := HN.out; rw [show (n : Int) = 6 from by omega]
  have hel : ¬ 6 < (len0 : Int) → Value.int IntKind.i64 (len0 : Int) = Value.int IntKind.i64 (n : Int) := fun h => by have := HN.out; rw [show (n : Int) = len0 from by omega]
  have HE6 := Lib.hid he6
  have HEL := Lib.hid hel
  clear he6 hel HG1
  by_cases h6 : 6 < (len0 : Int)
  · go_wp2_with fail
    rw [HE6.out h6]
    clear h6 HE6 HEL
    generalize wa.alloc (.cells #[.slice none 0 0, .slice none 0 0] 29) = wb at *
    generalize wa.heap.size = B at *
    go_loopw [8] (fun i wr => ∃ (j : Nat) (vo vq : Value), i = .int .i64 j ∧ j ≤ n ∧ Hid (MB w wr B vo vq [] (tq xs j))) (fun i _ => n - (intOf i).toNat)
    case atStart => exact ⟨0, _, _, rfl, Nat.zero_le _, HMB⟩
    case round =>
      obtain ⟨j, vo, vq, rfl, hj, HM⟩ := hrel
      clear HMB
      obtain ⟨Ao, Aq, co, cq, rfl, rfl⟩ := HM.out.form
      rw [tq_len, List.length_nil] at HM
      have c0 : wr.cell? ⟨B, 0, none⟩ = some (.slice Ao 0 co) := HM.out.bx.cell 0
      have c1 : wr.cell? ⟨B, 1, none⟩ = some (.slice Aq j cq) := HM.out.bx.cell 1
      have f0 := HM.out.bx.free 0
      have f1 := HM.out.bx.free 1
      by_cases hjn : j < n
      · have hjl : j < len0 := by omega
        obtain ⟨b, off, rfl, hb, hc⟩ := Rd.at1 HRD.out j hjl
        have hc2 : wr.cell? ⟨b, off + j, none⟩ = some (.int .i64 (xs.getD j 0)) := cellk hc HM.out.gr
        have hpk := pick_still (xs.getD j 0) 99 wr.drew (HX.out _ (getD_mem HRD.out.len j hjl)) (by omega)
        obtain ⟨p0, p1⟩ := pk_range (xs.getD j 0) 99 (by omega)
        have HS := Lib.hid (tq_succ xs j)
        generalize pk (xs.getD j 0) 99 = p at *
        generalize xs.getD j 0 = x at *
        clear hc
        go_wp2_with fail
        refine wp_region_still_tail 8 (by kernel_rfl) (by kernel_rfl) ?_
        simp only [List.take_succ_cons, List.take_zero, List.drop_succ_cons, List.drop_zero]
        repeat still_step
        still_call hpk
        repeat still_step
        try refine wpStill_nil ?_
        change wpList _ _ _ _ _ wr.drew
        clear hpk
        go_wp2_with fail
        refine (come_rm (HM.out.gb (gb_drew wr none)).rm ⟨by simp, by rw [tq_len]; omega, by simp⟩ (1 + p) j).mono ?_
        rintro e w3 ⟨v3, rfl, hm3, g3⟩
        have hmb := HM.out.gb (grownBy_trans (gb_drew wr none) g3)
        obtain ⟨A3, B3, n3, m3, c3, d3, rfl⟩ := twoN hm3
        have HB3 := Lib.hid (hmb.put hm3)
        have fr : (∀ i, w3.frozen? ⟨B, i, none⟩ = false) := fun i => hmb.bx.free i
        have fr0 := fr 0
        have fr1 := fr 1
        have k0 : w3.cell? ⟨B, 0, none⟩ = some (.slice Ao 0 co) := hmb.bx.cell 0
        have k1 : w3.cell? ⟨B, 1, none⟩ = some (.slice Aq j cq) := hmb.bx.cell 1
        rw [← HS.out] at HB3
        clear hmb hm3 g3 fr HM c0 c1 f0 f1 HS
        go_wp2_with fail
        go_roundw
        case rel => exact ⟨j + 1, _, _, by go_num, by omega, HB3⟩
        case measure => simp [intOf]; omega
      · obtain rfl : j = n := by omega
        go_wp2_with fail
        refine (pick_any a1 8 wr w1 (by omega)).mono ?_
        rintro e w3 ⟨rfl, rfl⟩
        rw [show pk a1 8 = (k : Int) from HK.out]
        have HM0 : Hid (MB w wr B (.slice Ao 0 co) (.slice Aq j cq) [] ((tq xs j).drop 0)) := HM
        clear HM c0 c1 f0 f1 hjn hj
        go_wp2_with fail
        rename World => wr0
        go_loopw [10] (fun i wr => ∃ (i' t : Nat) (vo vq : Value), i = .int .i64 i' ∧ i' ≤ j + 2 ∧ t = min i' (min j k) ∧ Hid (MB w wr B vo vq [] ((tq xs j).drop t))) (fun i _ => j + 2 - (intOf i).toNat)
        case atStart => exact ⟨0, 0, _, _, rfl, Nat.zero_le _, by omega, HM0⟩
        case round =>
          obtain ⟨i, t, vo, vq, rfl, hi, ht, HM⟩ := hrel
          clear HM0
          have htj : t ≤ j := by omega
          obtain ⟨Ao2, Aq2, co2, cq2, rfl, rfl⟩ := HM.out.form
          rw [List.length_drop, tq_len, List.length_nil] at HM
          have c0 : wr.cell? ⟨B, 0, none⟩ = some (.slice Ao2 0 co2) := HM.out.bx.cell 0
          have c1 : wr.cell? ⟨B, 1, none⟩ = some (.slice Aq2 (j - t) cq2) := HM.out.bx.cell 1
          have HT := Lib.hid ht
          clear ht
          by_cases hin : i < j + 2
          · by_cases hik : i < j ∧ i < k
            · obtain ⟨hij, hik⟩ := hik
              obtain rfl : i = t := by have := HT.out; omega
              clear HT
              obtain ⟨b, off, rfl, hb, hc⟩ := Rd.at1 HRD.out i (by omega)
              have hxx := HX.out _ (getD_mem HRD.out.len i (by omega))
              obtain ⟨q1, q2⟩ := tq_yes (xs := xs) (k := k) hij hik
              have hq := List.length_drop (i := i) (l := tq xs j)
              rw [tq_len] at hq
              have HDO := Lib.hid (do_tk HM.out.rm (by omega) k _ _ q1 q2)
              have HPK : Hid (∀ W, Calls Try.prog 14 #[.int .i64 (xs.getD i 0), .int .i64 99] W fun e w' => e = .returned (.int .i64 (pk (xs.getD i 0) 99)) ∧ W = w') := fun W => pick_any _ 99 W hxx (by omega)
              obtain ⟨p0, p1⟩ := pk_range (xs.getD i 0) 99 (by omega)
              clear q1 q2 hq hxx
              generalize pk (xs.getD i 0) 99 = p at *
              generalize xs.getD i 0 = x at *
              have hij1 : (i : Int) < (j : Int) := by omega
              have hik1 : (i : Int) < (k : Int) := by omega
              have hil1 : i < len0 := by omega
              go_wp2_with fail
              refine HDO.out.mono ?_
              rintro e w3 ⟨v3, rfl, hm3, g3⟩
              obtain ⟨A3, B3, n3, m3, c3, d3, rfl⟩ := twoN hm3
              have HM3 := Lib.hid (HM.out.gb g3)
              have HR3 := Lib.hid hm3
              have hc3 : w3.cell? ⟨b, off + i, none⟩ = some (.int .i64 x) := cellk hc HM3.out.gr
              have hb3 : b < w3.heap.size := World.block_lt_of_cell? w3 _ hc3
              have heq := eq9 (1 + p)
              have b0 : w3.cell? ⟨B, 0, none⟩ = some (.slice Ao2 0 co2) := HM3.out.bx.cell 0
              have b1 : w3.cell? ⟨B, 1, none⟩ = some (.slice Aq2 (j - i) cq2) := HM3.out.bx.cell 1
              have fr0 := HM3.out.bx.free 0
              have fr1 := HM3.out.bx.free 1
              have hlt := HM3.out.bx.lt
              clear hm3 g3 HM HDO c0 c1 hc
              go_wp2_with fail
              refine (HPK.out _).mono ?_
              rintro e w4 ⟨rfl, rfl⟩
              go_wp2_with fail
              go_roundw
              case rel => exact ⟨i + 1, i + 1, _, _, by go_num, by omega, by omega, put2 HM3.out HR3.out⟩
              case measure => simp [intOf]; omega
            · have HTK : Hid (t = min (i + 1) (min j k)) := by have := HT.out; unfold Hid; omega
              have HNO : Hid (¬ (t < j ∧ t < k)) := by have := HT.out; unfold Hid; omega
              obtain ⟨q1, q2⟩ := tq_no (xs := xs) (k := k) HNO.out htj
              have hq := List.length_drop (i := t) (l := tq xs j)
              rw [tq_len] at hq
              have HDO := Lib.hid (do_tk HM.out.rm (by omega) k _ _ q1 q2)
              clear q1 q2 hq HT HNO
              go_wp2_with fail
              refine HDO.out.mono ?_
              rintro e w3 ⟨v3, rfl, hm3, g3⟩
              obtain ⟨A3, B3, n3, m3, c3, d3, rfl⟩ := twoN hm3
              have HM3 := Lib.hid (HM.out.gb g3)
              have HR3 := Lib.hid hm3
              have heq := eq9 0
              have b0 : w3.cell? ⟨B, 0, none⟩ = some (.slice Ao2 0 co2) := HM3.out.bx.cell 0
              have b1 : w3.cell? ⟨B, 1, none⟩ = some (.slice Aq2 (j - t) cq2) := HM3.out.bx.cell 1
              have fr0 := HM3.out.bx.free 0
              have fr1 := HM3.out.bx.free 1
              have hlt := HM3.out.bx.lt
              clear hm3 g3 HM HDO c0 c1
              by_cases hij : i < j
              · have hik2 : ¬ i < k := by omega
                clear hik
                go_wp2_with fail
                go_roundw
                case rel => exact ⟨i + 1, t, _, _, by go_num, by omega, HTK.out, put2 HM3.out HR3.out⟩
                case measure => simp [intOf]; omega
              · clear hik
                go_wp2_with fail
                go_roundw
                case rel => exact ⟨i + 1, t, _, _, by go_num, by omega, HTK.out, put2 HM3.out HR3.out⟩
                case measure => simp [intOf]; omega
          · have HJ : Hid (j - t = j - min j k) := by have := HT.out; unfold Hid; omega
            rw [HJ.out] at HM c1
            clear HJ HT
            have g := HM.out.gr
            have HG := Lib.hid (below_of g)
            clear g
            rcases (by omega : j < k ∨ j = k ∨ k < j) with hjk | hjk | hjk
            · have hm : j - min j k = 0 := by omega
              rw [hm] at c1
              have hz : (j : Int) - k < 0 := by omega
              clear hm
              go_wp2_with fail
              go_ret
              exact ⟨rfl, HG.out⟩
            · have hm : j - min j k = 0 := by omega
              rw [hm] at c1
              obtain rfl : j = k := hjk
              clear hm
              go_wp2_with fail
              go_ret
              exact ⟨rfl, HG.out⟩
            · obtain ⟨m, hm⟩ : ∃ m, m = j - min j k := ⟨_, rfl⟩
              rw [← hm] at c1
              have hm2 : (j : Int) - k = m := by omega
              have HM2 := Lib.hid hm2
              have hz : 0 < (j : Int) - k := by omega
              clear hm hm2 HM
              go_wp2_with fail
              go_ret
              exact ⟨ret_bool (by simp [HM2.out]), HG.out⟩
  · go_wp2_with fail
    rw [HEL.out h6]
    clear h6 HE6 HEL
    generalize wa.alloc (.cells #[.slice none 0 0, .slice none 0 0] 29) = wb at *
    generalize wa.heap.size = B at *
    go_loopw [8] (fun i wr => ∃ (j : Nat) (vo vq : Value), i = .int .i64 j ∧ j ≤ n ∧ Hid (MB w wr B vo vq [] (tq xs j))) (fun i _ => n - (intOf i).toNat)
    case atStart => exact ⟨0, _, _, rfl, Nat.zero_le _, HMB⟩
    case round =>
      obtain ⟨j, vo, vq, rfl, hj, HM⟩ := hrel
      clear HMB
      obtain ⟨Ao, Aq, co, cq, rfl, rfl⟩ := HM.out.form
      rw [tq_len, List.length_nil] at HM
      have c0 : wr.cell? ⟨B, 0, none⟩ = some (.slice Ao 0 co) := HM.out.bx.cell 0
      have c1 : wr.cell? ⟨B, 1, none⟩ = some (.slice Aq j cq) := HM.out.bx.cell 1
      have f0 := HM.out.bx.free 0
      have f1 := HM.out.bx.free 1
      by_cases hjn : j < n
      · have hjl : j < len0 := by omega
        obtain ⟨b, off, rfl, hb, hc⟩ := Rd.at1 HRD.out j hjl
        have hc2 : wr.cell? ⟨b, off + j, none⟩ = some (.int .i64 (xs.getD j 0)) := cellk hc HM.out.gr
        have hpk := pick_still (xs.getD j 0) 99 wr.drew (HX.out _ (getD_mem HRD.out.len j hjl)) (by omega)
        obtain ⟨p0, p1⟩ := pk_range (xs.getD j 0) 99 (by omega)
        have HS := Lib.hid (tq_succ xs j)
        generalize pk (xs.getD j 0) 99 = p at *
        generalize xs.getD j 0 = x at *
        clear hc
        go_wp2_with fail
        refine wp_region_still_tail 8 (by kernel_rfl) (by kernel_rfl) ?_
        simp only [List.take_succ_cons, List.take_zero, List.drop_succ_cons, List.drop_zero]
        repeat still_step
        still_call hpk
        repeat still_step
        try refine wpStill_nil ?_
        change wpList _ _ _ _ _ wr.drew
        clear hpk
        go_wp2_with fail
        refine (come_rm (HM.out.gb (gb_drew wr none)).rm ⟨by simp, by rw [tq_len]; omega, by simp⟩ (1 + p) j).mono ?_
        rintro e w3 ⟨v3, rfl, hm3, g3⟩
        have hmb := HM.out.gb (grownBy_trans (gb_drew wr none) g3)
        obtain ⟨A3, B3, n3, m3, c3, d3, rfl⟩ := twoN hm3
        have HB3 := Lib.hid (hmb.put hm3)
        have fr : (∀ i, w3.frozen? ⟨B, i, none⟩ = false) := fun i => hmb.bx.free i
        have fr0 := fr 0
        have fr1 := fr 1
        have k0 : w3.cell? ⟨B, 0, none⟩ = some (.slice Ao 0 co) := hmb.bx.cell 0
        have k1 : w3.cell? ⟨B, 1, none⟩ = some (.slice Aq j cq) := hmb.bx.cell 1
        rw [← HS.out] at HB3
        clear hmb hm3 g3 fr HM c0 c1 f0 f1 HS
        go_wp2_with fail
        go_roundw
        case rel => exact ⟨j + 1, _, _, by go_num, by omega, HB3⟩
        case measure => simp [intOf]; omega
      · obtain rfl : j = n := by omega
        go_wp2_with fail
        refine (pick_any a1 8 wr w1 (by omega)).mono ?_
        rintro e w3 ⟨rfl, rfl⟩
        rw [show pk a1 8 = (k : Int) from HK.out]
        have HM0 : Hid (MB w wr B (.slice Ao 0 co) (.slice Aq j cq) [] ((tq xs j).drop 0)) := HM
        clear HM c0 c1 f0 f1 hjn hj
        go_wp2_with fail
        rename World => wr0
        go_loopw [10] (fun i wr => ∃ (i' t : Nat) (vo vq : Value), i = .int .i64 i' ∧ i' ≤ j + 2 ∧ t = min i' (min j k) ∧ Hid (MB w wr B vo vq [] ((tq xs j).drop t))) (fun i _ => j + 2 - (intOf i).toNat)
        case atStart => exact ⟨0, 0, _, _, rfl, Nat.zero_le _, by omega, HM0⟩
        case round =>
          obtain ⟨i, t, vo, vq, rfl, hi, ht, HM⟩ := hrel
          clear HM0
          have htj : t ≤ j := by omega
          obtain ⟨Ao2, Aq2, co2, cq2, rfl, rfl⟩ := HM.out.form
          rw [List.length_drop, tq_len, List.length_nil] at HM
          have c0 : wr.cell? ⟨B, 0, none⟩ = some (.slice Ao2 0 co2) := HM.out.bx.cell 0
          have c1 : wr.cell? ⟨B, 1, none⟩ = some (.slice Aq2 (j - t) cq2) := HM.out.bx.cell 1
          have HT := Lib.hid ht
          clear ht
          by_cases hin : i < j + 2
          · by_cases hik : i < j ∧ i < k
            · obtain ⟨hij, hik⟩ := hik
              obtain rfl : i = t := by have := HT.out; omega
              clear HT
              obtain ⟨b, off, rfl, hb, hc⟩ := Rd.at1 HRD.out i (by omega)
              have hxx := HX.out _ (getD_mem HRD.out.len i (by omega))
              obtain ⟨q1, q2⟩ := tq_yes (xs := xs) (k := k) hij hik
              have hq := List.length_drop (i := i) (l := tq xs j)
              rw [tq_len] at hq
              have HDO := Lib.hid (do_tk HM.out.rm (by omega) k _ _ q1 q2)
              have HPK : Hid (∀ W, Calls Try.prog 14 #[.int .i64 (xs.getD i 0), .int .i64 99] W fun e w' => e = .returned (.int .i64 (pk (xs.getD i 0) 99)) ∧ W = w') := fun W => pick_any _ 99 W hxx (by omega)
              obtain ⟨p0, p1⟩ := pk_range (xs.getD i 0) 99 (by omega)
              clear q1 q2 hq hxx
              generalize pk (xs.getD i 0) 99 = p at *
              generalize xs.getD i 0 = x at *
              have hij1 : (i : Int) < (j : Int) := by omega
              have hik1 : (i : Int) < (k : Int) := by omega
              have hil1 : i < len0 := by omega
              go_wp2_with fail
              refine HDO.out.mono ?_
              rintro e w3 ⟨v3, rfl, hm3, g3⟩
              obtain ⟨A3, B3, n3, m3, c3, d3, rfl⟩ := twoN hm3
              have HM3 := Lib.hid (HM.out.gb g3)
              have HR3 := Lib.hid hm3
              have hc3 : w3.cell? ⟨b, off + i, none⟩ = some (.int .i64 x) := cellk hc HM3.out.gr
              have hb3 : b < w3.heap.size := World.block_lt_of_cell? w3 _ hc3
              have heq := eq9 (1 + p)
              have b0 : w3.cell? ⟨B, 0, none⟩ = some (.slice Ao2 0 co2) := HM3.out.bx.cell 0
              have b1 : w3.cell? ⟨B, 1, none⟩ = some (.slice Aq2 (j - i) cq2) := HM3.out.bx.cell 1
              have fr0 := HM3.out.bx.free 0
              have fr1 := HM3.out.bx.free 1
              have hlt := HM3.out.bx.lt
              clear hm3 g3 HM HDO c0 c1 hc
              go_wp2_with fail
              refine (HPK.out _).mono ?_
              rintro e w4 ⟨rfl, rfl⟩
              go_wp2_with fail
              go_roundw
              case rel => exact ⟨i + 1, i + 1, _, _, by go_num, by omega, by omega, put2 HM3.out HR3.out⟩
              case measure => simp [intOf]; omega
            · have HTK : Hid (t = min (i + 1) (min j k)) := by have := HT.out; unfold Hid; omega
              have HNO : Hid (¬ (t < j ∧ t < k)) := by have := HT.out; unfold Hid; omega
              obtain ⟨q1, q2⟩ := tq_no (xs := xs) (k := k) HNO.out htj
              have hq := List.length_drop (i := t) (l := tq xs j)
              rw [tq_len] at hq
              have HDO := Lib.hid (do_tk HM.out.rm (by omega) k _ _ q1 q2)
              clear q1 q2 hq HT HNO
              go_wp2_with fail
              refine HDO.out.mono ?_
              rintro e w3 ⟨v3, rfl, hm3, g3⟩
              obtain ⟨A3, B3, n3, m3, c3, d3, rfl⟩ := twoN hm3
              have HM3 := Lib.hid (HM.out.gb g3)
              have HR3 := Lib.hid hm3
              have heq := eq9 0
              have b0 : w3.cell? ⟨B, 0, none⟩ = some (.slice Ao2 0 co2) := HM3.out.bx.cell 0
              have b1 : w3.cell? ⟨B, 1, none⟩ = some (.slice Aq2 (j - t) cq2) := HM3.out.bx.cell 1
              have fr0 := HM3.out.bx.free 0
              have fr1 := HM3.out.bx.free 1
              have hlt := HM3.out.bx.lt
              clear hm3 g3 HM HDO c0 c1
              by_cases hij : i < j
              · have hik2 : ¬ i < k := by omega
                clear hik
                go_wp2_with fail
                go_roundw
                case rel => exact ⟨i + 1, t, _, _, by go_num, by omega, HTK.out, put2 HM3.out HR3.out⟩
                case measure => simp [intOf]; omega
              · clear hik
                go_wp2_with fail
                go_roundw
                case rel => exact ⟨i + 1, t, _, _, by go_num, by omega, HTK.out, put2 HM3.out HR3.out⟩
                case measure => simp [intOf]; omega
          · have HJ : Hid (j - t = j - min j k) := by have := HT.out; unfold Hid; omega
            rw [HJ.out] at HM c1
            clear HJ HT
            have g := HM.out.gr
            have HG := Lib.hid (below_of g)
            clear g
            rcases (by omega : j < k ∨ j = k ∨ k < j) with hjk | hjk | hjk
            · have hm : j - min j k = 0 := by omega
              rw [hm] at c1
              have hz : (j : Int) - k < 0 := by omega
              clear hm
              go_wp2_with fail
              go_ret
              exact ⟨rfl, HG.out⟩
            · have hm : j - min j k = 0 := by omega
              rw [hm] at c1
              obtain rfl : j = k := hjk
              clear hm
              go_wp2_with fail
              go_ret
              exact ⟨rfl, HG.out⟩
            · obtain ⟨m, hm⟩ : ∃ m, m = j - min j k := ⟨_, rfl⟩
              rw [← hm] at c1
              have hm2 : (j : Int) - k = m := by omega
              have HM2 := Lib.hid hm2
              have hz : 0 < (j : Int) - k := by omega
              clear hm hm2 HM
              go_wp2_with fail
              go_ret
              exact ⟨ret_bool (by simp [HM2.out]), HG.out⟩
theorem own : ownKnob Try.prog.godebug = none := by kernel_rfl
theorem laidOut : laidOutB Try.prog = true := by kernel_rfl

set_option maxRecDepth 100000 in
theorem lifted (os : _root_.Go.Os) (started : os.Started) (H : Type) (enc : TypeId × Value → H) :
    ReturnsInHanded {} Try.checked os 7 .any (Rows.modelTakesSpec.pre6 enc Try.prog Try.f7 Rows.modelTakesRow.domain false) (Rows.modelTakesSpec.post enc Try.prog Try.f7 false true false false) := by
  refine returnsInHanded_of_change (C := Try.checked) own started (by kernel_rfl) Try.func7
    (ChangeSpec.witness6 (enc := enc) (C := Try.checked) false ⟨#[], #[.slice none 0 0, .int .i64 0], []⟩ 8 (by kernel_rfl) (by kernel_rfl) (by kernel_rfl) (by kernel_rfl)) ?_
  intro W base args ds gs before hval0 hW hcnd _
  have hval : ∀ (j : Nat) t v, Try.f7.params[j]? = some t → args[j]? = some v → Value.okWide Try.prog W .any base t v := hval0
  have hW' := hW
  obtain ⟨p, q, hA0, hV, rfl, hfz, hnd⟩ := hW
  have hA : DataW.TrodAll enc Try.prog W 0 (fun _ => true) true Try.f7.params.toList args.toList ds p := hA0
  rw [Try.params7] at hA hval
  obtain ⟨v0, vs0, d0, ds0, p0, q0, hargs, rfl, rfl, h0, r0⟩ := trodAll_cons hA
  obtain ⟨v1, vs1, d1, ds1, p1, q1, rfl, rfl, rfl, h1, r1⟩ := trodAll_cons r0
  obtain ⟨rfl, rfl, rfl⟩ := trodAll_nil r1
  obtain rfl : args = #[v0, v1] := by cases args; simp_all
  obtain ⟨rfl, rfl⟩ := trodVars_none hV
  have k0 := h0
  have lt0 : ∀ x ∈ p0, x.block < W.heap.size := by obtain ⟨m, hm⟩ := k0; exact DataW.trod_lt m _ _ _ hm
  have k1 := h1
  have lt1 : ∀ x ∈ p1, x.block < W.heap.size := by obtain ⟨m, hm⟩ := k1; exact DataW.trod_lt m _ _ _ hm
  obtain ⟨a0, len0, cap0, rfl⟩ := okWide_slice Try.underlying39 (hval 0 39 v0 rfl rfl)
  obtain ⟨z0, hr0, hx0⟩ : ∃ zs, Rd W a0 len0 zs ∧ ∀ x ∈ zs, -9223372036854775808 ≤ x := by
    obtain ⟨fuel, hf⟩ := h0
    exact open_rd hf
  obtain ⟨a1, rfl, rfl, rfl, w1⟩ := open_int Try.underlying3 (hval 1 3 v1 rfl rfl) h1
  clear hA0 hval0
  refine (walk a0 len0 cap0 z0 a1 W hr0 (i64_lo w1) hx0).mono fun e W' ⟨he, bel⟩ => ?_
  subst he
  exact ⟨_, rfl, _, _, _, [], _, [], hW', trodAll_mk1 (shut_bool Try.underlying4 _), (trodAll_cons_mk (Below.trod laidOut (by kernel_rfl) (of_decide_eq_true (by kernel_rfl)) k0 bel lt0) (trodAll_cons_mk (Below.trod laidOut (by kernel_rfl) (of_decide_eq_true (by kernel_rfl)) k1 bel lt1) trodAll_mk0)), rfl, bel.frame _, fun h => by cases h⟩

theorem over : Rows.modelTakesRow.holds Try.pinned (OpenSpec.ofChange Rows.modelTakesSpec) :=
  OpenClaim.holds_of_wide 7 Try.f7 rfl rfl rfl rfl rfl rfl rfl ⟨rfl, rfl, rfl, rfl, rfl⟩ rfl rfl rfl rfl rfl (by kernel_rfl) Try.func7 (by kernel_rfl)
    (of_decide_eq_true (by kernel_rfl)) (by unfold Func.isWrapper; first | (rw [if_pos (by decide +kernel)]; kernel_rfl) | (rw [if_neg (by decide +kernel)]; exact ⟨rfl, rfl⟩))
    (fun os started H enc _ => lifted os started H enc)

theorem proved : Rows.ModelTakesSaid := over
end Go.Proofs.Yteieljkkcnpfmaa.modelTakes

namespace Go.Proofs.Yteieljkkcnpfmaa
theorem ModelTakes_holds : Rows.ModelTakesSaid := modelTakes.proved
#print axioms ModelTakes_holds
end Go.Proofs.Yteieljkkcnpfmaa

