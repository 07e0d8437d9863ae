/-
  The contract of the bitmap's iterator (members): for every loop body that keeps the bitmap and the captured variable, it hands over, by rising numbers, those that are in.
-/
import Derived.Test.YtbojcmaljodpmaaDoorBase
import Derived.RangeFuncNested
import Derived.RangeFuncBound
import Derived.RangeFuncCalls
import Derived.RangeFuncLeaves
import Derived.Shelf.Abstract
import Derived.Shelf.RegionOpen
import Derived.OwnWalkIn
import Derived.TacticsInMore
import Derived.LoopNIn
import Derived.LoopIn
namespace Go.Proofs.YtbojcmaljodpmaaDoor
open Go.ChangeShapes Go.WideShapes Go.ChangeAt Go.RowKit Go.Shelf
set_option linter.unusedVariables false
attribute [local go_sem] Oper.semAt_some

theorem members_any (bp : Nat) (i : Int) (w : World) :
    Calls Tryd.prog 17 #[.pointer (some ⟨bp, 0, none⟩), .int .i64 i] w fun e w' => e = .returned (.func (.func 18) #[] #[.pointer (some ⟨w.heap.size + 1, 0, none⟩), .pointer (some ⟨w.heap.size, 0, none⟩)]) ∧
      (w.alloc (.cells #[.pointer (some ⟨bp, 0, none⟩)] 24)).alloc (.cells #[.int .i64 i] 3) = w' := by
  go_enter Tryd.func17, Tryd.ntmps17
  go_wp2
  go_ret
  exact ⟨rfl, rfl⟩

/-- What a round that goes on keeps: all below n₀, and the captured variable. -/
def Kp (n₀ Bb : Nat) (v : Value) (W W' : World) : Prop := Below n₀ W W' ∧ (W.cell? ⟨Bb, 0, none⟩ = some v → W'.cell? ⟨Bb, 0, none⟩ = some v)

theorem Kp_t {n₀ Bb : Nat} {v : Value} {A B C : World} (h : Kp n₀ Bb v A B) (k : Kp n₀ Bb v B C) : Kp n₀ Bb v A C := ⟨h.1.trans k.1, fun e => k.2 (h.2 e)⟩
theorem Kp_b {n₀ Bb : Nat} {v : Value} {w : World} (hn : n₀ ≤ w.heap.size) (W : World) (l : Nat) (o o' : Obj) (hl : w.heap.size ≤ l) (h : W.heap[l]? = some o) (hc : o.isCells = false) (hw : o.isWalk = false) : Kp n₀ Bb v W (W.putObj l o') :=
  ⟨belowK_b hn W l o o' hl h hc hw, fun e => cell_kept e (grownBy_putObj' W l o') (fun r er => by cases er; exact ⟨o, h, hc⟩)⟩

set_option maxRecDepth 100000 in
set_option maxHeartbeats 2000000 in
theorem iter_stops (n : Nat) (hn : 1 ≤ n) (Bf Bb bp bw n₀ bound : Nat) (ws : List Nat) (from_ : Int) (w : World)
    (hf : w.cell? ⟨Bf, 0, none⟩ = some (.int .i64 from_)) (hb : w.cell? ⟨Bb, 0, none⟩ = some (.pointer (some ⟨bp, 0, none⟩))) (hB : Bm w bp bw bound ws) (hT : Tab w)
    (h0 : 0 < n₀) (hp : bp < n₀) (hw : bw < n₀) (hlo : -9223372036854775808 ≤ from_) (hhi : from_ ≤ 9223372036854775807) :
    SeqStopsK Fence.wide n Tryd.prog 18 #[.pointer (some ⟨Bf, 0, none⟩), .pointer (some ⟨Bb, 0, none⟩)] (fun x : Nat => #[.int .i64 x]) (Kp n₀ Bb (.pointer (some ⟨bp, 0, none⟩)))
      (fun xs => xs = mem (bitAt ws) from_.toNat bound) (fun pre => pre <+: mem (bitAt ws) from_.toNat bound) (mem (bitAt ws) from_.toNat bound).length w := by
  intro l J Jx W hW hJ hJx hY hJ0
  have hf' : W.cell? ⟨Bf, 0, none⟩ = some (.int .i64 from_) := (hW.cell (p := ⟨Bf, 0, none⟩) (World.block_lt_of_cell? w _ hf)).trans hf
  have hb' : W.cell? ⟨Bb, 0, none⟩ = some (.pointer (some ⟨bp, 0, none⟩)) := (hW.cell (p := ⟨Bb, 0, none⟩) (World.block_lt_of_cell? w _ hb)).trans hb
  have hB' := hB.below hW hB.ltP hB.ltW
  have hT' := hT.below hW hT.pos
  clear hf hb hB hT hW
  have HY := Lib.hid hY
  clear hY
  have hle := hB'.le
  have hlen := hB'.len
  refine callsIn_of_wp Tryd.func18 rfl trivial ?_ rfl
  simp only [Tryd.ntmps18, List.size_toArray, List.length_cons, List.length_nil, Nat.reduceAdd, Nat.reduceSub, Array.replicate_succ, Array.replicate_zero, List.push_toArray, List.append_toArray, List.nil_append, List.cons_append]
  have HL := Lib.hid hlen
  clear hlen
  obtain ⟨a, ha⟩ : ∃ a : Nat, a = from_.toNat := ⟨_, rfl⟩
  rw [← ha] at HY ⊢
  have hcase : (from_ < 0 ∧ a = 0) ∨ (from_ = a) := by omega
  have ha63 : (a : Int) ≤ 9223372036854775807 := by omega
  have HA := Lib.hid ha
  clear ha
  obtain ⟨L, hLd⟩ : ∃ L, L = mem (bitAt ws) a bound := ⟨_, rfl⟩
  rw [← hLd] at HY ⊢
  have HLd := Lib.hid hLd
  clear hLd
  have hstart : J (mem (bitAt ws) a (min a bound)) W := by rw [mem_nil _ _ _ (by omega)]; exact hJ0
  rcases hcase with ⟨hc1, hc2⟩ | hc1
  focus
    gi_wp2
  rotate_left
  focus
    subst hc1
    gi_wp2
  all_goals
    gi_loopw [4] (fun s wr => ∃ i : Nat, s = .int .i64 i ∧ (i : Int) ≤ 9223372036854775807 ∧ a ≤ i ∧ wr.cell? ⟨Bb, 0, none⟩ = some (.pointer (some ⟨bp, 0, none⟩)) ∧ Bm wr bp bw bound ws ∧ Tab wr ∧ J (mem (bitAt ws) a (min i bound)) wr) (fun s _ => bound + 64 - (intOf s).toNat)
    case atStart =>
      first
        | exact ⟨a, rfl, ha63, Nat.le_refl _, hb', hB', hT', hstart⟩
        | (obtain rfl : a = 0 := by omega
           exact ⟨0, rfl, ha63, Nat.le_refl _, hb', hB', hT', hstart⟩)
    case round =>
      obtain ⟨i, rfl, hi63, hai, hbr, hBr, hTr, hJr⟩ := hrel
      clear hb' hB' hT' hstart hf'
      by_cases hlt : i < bound
      · have HM : Hid (mayB bound i = true) := decide_eq_true (by omega)
        rw [Nat.min_eq_left (by omega)] at hJr
        have hq : i / 64 < ws.length := by have := HL.out; omega
        have hc1 := hBr.cell1
        have hcw := hBr.cellW (i / 64) hq
        have hxl := hBr.lt (i / 64)
        have hdiv := div_pow (ws.getD (i / 64) 0) (i % 64)
        by_cases hz : ws.getD (i / 64) 0 / 2 ^ (i % 64) = 0
        · have hmem : mem (bitAt ws) a (min (i + (64 - i % 64)) bound) = mem (bitAt ws) a i := by
            refine mem_le _ _ _ _ (by omega) (fun k h1 h2 _ => rest_zero ws i k hz h1 (by omega))
          have t0 : ((((ws.getD (i / 64) 0 : Nat) : Int) / 2 ^ (i % 64)) == 0) = true := by rw [hdiv, hz]; rfl
          have HMm := Lib.hid hmem
          clear hmem hdiv hz
          generalize ws.getD (i / 64) 0 = x at *
          gi_wp2_with ((refine ⟨trivial, ?_⟩; gi_at_call 16; refine (callsIn_wide.2 (may_any bp bw bound ws _ _ hBr)).mono ?_; rw [HM.out]; rintro e w' ⟨rfl, rfl⟩))
          go_roundw
          case rel => exact ⟨i + (64 - i % 64), by go_num, by omega, by omega, hbr, hBr, hTr, by rw [HMm.out]; exact hJr⟩
          case measure => simp [intOf]; omega
        · obtain ⟨hc64, hbit, hnone⟩ := rest_ctz ws i hxl hz
          have hx2 : ws.getD (i / 64) 0 / 2 ^ (i % 64) < 18446744073709551616 := Nat.lt_of_le_of_lt (Nat.div_le_self _ _) hxl
          have htz := fun W => tz_any (ws.getD (i / 64) 0 / 2 ^ (i % 64)) hx2 hz W
          have HTZ := Lib.hid htz
          clear htz
          generalize Lib.ctz 64 (ws.getD (i / 64) 0 / 2 ^ (i % 64)) = c at *
          have hcb : i + c < bound := by
            rcases Nat.lt_or_ge (i + c) bound with h | h
            · exact h
            · rw [hBr.top _ h] at hbit; cases hbit
          have hm1 : mem (bitAt ws) a (i + c) = mem (bitAt ws) a i := mem_le _ _ _ _ (by omega) (fun k h1 h2 _ => hnone k h1 h2)
          have hm2 : mem (bitAt ws) a (i + c + 1) = mem (bitAt ws) a i ++ [i + c] := by rw [mem_succ _ _ _ (by omega) hbit, hm1]
          have hpre : mem (bitAt ws) a i ++ [i + c] <+: L := by rw [← hm2, HLd.out]; exact mem_prefix _ _ _ _ (by omega)
          have hlen : (mem (bitAt ws) a i).length < L.length := by have := hpre.length_le; simp at this; omega
          obtain ⟨fn, tmps, assign, body, hy, hR⟩ := HY.out (mem (bitAt ws) a i) (i + c) wr hJr hlen
          rw [Int.natCast_add] at hy
          have t0 : ((((ws.getD (i / 64) 0 : Nat) : Int) / 2 ^ (i % 64)) == 0) = false := by
            rw [hdiv, beq_eq_false_iff_ne]; omega
          have HM2 := Lib.hid hm2
          have HP := Lib.hid hpre
          have HDV := Lib.hid hdiv
          clear hm1 hm2 hpre hlen hdiv hz hbit hnone
          generalize ws.getD (i / 64) 0 = x at *
          have HR := Lib.hid hR
          clear hR
          gi_wp2_with (first
            | (refine ⟨trivial, ?_⟩; gi_at_call 16; refine (callsIn_wide.2 (may_any bp bw bound ws _ _ hBr)).mono ?_; rw [HM.out]; rintro e w' ⟨rfl, rfl⟩)
            | (refine ⟨trivial, ?_⟩; gi_at_call 19; rw [HDV.out]; refine (callsIn_wide.2 (HTZ.out _ hTr)).mono ?_; rintro e w' ⟨rfl, rfl⟩))
          refine HR.out.mono ?_
          rintro e W3 (⟨rfl, hJ3, hk3⟩ | ⟨rfl, hJx3⟩)
          · have hb3 := hk3.2 hbr
            have hB3 := hBr.below hk3.1 hp hw
            have hT3 := hTr.below hk3.1 h0
            gi_wp2
            go_roundw
            case rel => exact ⟨i + c + 1, by go_num, by omega, by omega, hb3, hB3, hT3, by rw [Nat.min_eq_left (by omega), HM2.out]; exact hJ3⟩
            case measure => simp [intOf]; omega
          · gi_wp2
            refine bodyPost_ret (results_none rfl _ _ _) rfl ?_
            exact ⟨⟨_, rfl⟩, .inr ⟨_, HP.out, hJx3⟩⟩
      · have HM : Hid (mayB bound i = false) := decide_eq_false (by omega)
        rw [Nat.min_eq_right (by omega), ← HLd.out] at hJr
        gi_wp2_with ((refine ⟨trivial, ?_⟩; gi_at_call 16; refine (callsIn_wide.2 (may_any bp bw bound ws _ _ hBr)).mono ?_; rw [HM.out]; rintro e w' ⟨rfl, rfl⟩))
        go_end0
        exact ⟨⟨_, rfl⟩, .inl ⟨_, rfl, hJr⟩⟩
end Go.Proofs.YtbojcmaljodpmaaDoor
