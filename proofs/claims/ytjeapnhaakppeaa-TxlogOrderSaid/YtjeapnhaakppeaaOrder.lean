/-
  TxlogOrder returns true, whatever the input; what it was handed reads as before. No condition.
-/
import Derived.Test.YtjeapnhaakppeaaCat
namespace Go.Proofs.Ytjeapnhaakppeaa.txlogOrder
open Go.ChangeShapes Go.WideShapes Go.ChangeAt Go.RowKit Go.Shelf
set_option linter.unusedVariables false

structure Ord (i : Nat) (R K : List Int) (H : List (Int × Int)) (U : List (Int × Int × Int × Int)) (h u : List Int) : Prop where
  eh : H.map (·.1) = h
  eu : U.flatMap rootU = u
  r : ∀ x ∈ R, x < 100 + (i : Int)
  k : ∀ x ∈ K, x < 100 + (i : Int)
  hb : ∀ x ∈ h, x < 100 + (i : Int)
  lr : R.length ≤ i
  lk : K.length ≤ i
  lh : h.length ≤ i
  lU : U.length ≤ i
  lu : u.length ≤ 2 * i
theorem lt_snoc {xs : List Int} {i : Nat} (h : ∀ x ∈ xs, x < 100 + (i : Int)) : ∀ x ∈ xs ++ [100 + (i : Int)], x < 100 + ((i + 1 : Nat) : Int) := by
  intro x hx
  rcases List.mem_append.1 hx with hx | hx
  · have := h x hx; omega
  · have := List.mem_singleton.1 hx; omega
theorem lt_up {xs : List Int} {i : Nat} (h : ∀ x ∈ xs, x < 100 + (i : Int)) : ∀ x ∈ xs, x < 100 + ((i + 1 : Nat) : Int) := fun x hx => by have := h x hx; omega
section
variable {i : Nat} {R K : List Int} {H : List (Int × Int)} {U : List (Int × Int × Int × Int)} {h u : List Int}
theorem note_new {xs : List Int} {i : Nat} (h : ∀ x ∈ xs, x < 100 + (i : Int)) (hl : xs.length < 50) : noteL xs (100 + (i : Int)) 50 = xs ++ [100 + (i : Int)] := by
  have h1 : ¬ (100 + (i : Int)) ∈ xs := fun m => by have := h _ m; omega
  unfold noteL; rw [if_neg h1, if_pos hl]
theorem hold_new {i : Nat} (o : Ord i R K H U h u) (hi : i < 40) : holdL H (100 + (i : Int), (i : Int)) 50 = H ++ [(100 + (i : Int), (i : Int))] := by
  have h1 : ∀ x ∈ H, x.1 ≠ 100 + (i : Int) := fun x hx e => by
    have := o.hb x.1 (by rw [← o.eh]; exact List.mem_map.2 ⟨x, hx, rfl⟩); omega
  have h2 : H.length < 50 := by have := o.lh; have e := congrArg List.length o.eh; simp at e; omega
  unfold holdL; rw [if_pos ⟨h1, h2⟩]
theorem undo_new {i : Nat} (o : Ord i R K H U h u) (hi : i < 40) (x : Int × Int × Int × Int) : undoL U x 50 = U ++ [x] := by
  have := o.lU
  unfold undoL; rw [if_pos (by omega)]
theorem Ord.zero : Ord 0 [] [] [] [] [] [] := ⟨rfl, rfl, by simp, by simp, by simp, by simp, by simp, by simp, by simp, by simp⟩
theorem Ord.sr (o : Ord i R K H U h u) : Ord (i + 1) (R ++ [100 + (i : Int)]) K H U h u :=
  ⟨o.eh, o.eu, lt_snoc o.r, lt_up o.k, lt_up o.hb, by have := o.lr; simp; omega, by have := o.lk; omega, by have := o.lh; omega, by have := o.lU; omega, by have := o.lu; omega⟩
theorem Ord.sk (o : Ord i R K H U h u) : Ord (i + 1) R (K ++ [100 + (i : Int)]) H U h u :=
  ⟨o.eh, o.eu, lt_up o.r, lt_snoc o.k, lt_up o.hb, by have := o.lr; omega, by have := o.lk; simp; omega, by have := o.lh; omega, by have := o.lU; omega, by have := o.lu; omega⟩
theorem Ord.sh (o : Ord i R K H U h u) (v : Int) : Ord (i + 1) R K (H ++ [(100 + (i : Int), v)]) U (h ++ [100 + (i : Int)]) u :=
  ⟨by rw [List.map_append, o.eh]; rfl, o.eu, lt_up o.r, lt_up o.k, lt_snoc o.hb, by have := o.lr; omega, by have := o.lk; omega, by have := o.lh; simp; omega, by have := o.lU; omega, by have := o.lu; omega⟩
theorem Ord.su1 (o : Ord i R K H U h u) (b c d : Int) : Ord (i + 1) R K H (U ++ [(1, b, c, d)]) h ((u ++ [b]) ++ [d]) :=
  ⟨o.eh, by rw [List.flatMap_append, o.eu]; simp [rootU], lt_up o.r, lt_up o.k, lt_up o.hb, by have := o.lr; omega, by have := o.lk; omega, by have := o.lh; omega, by have := o.lU; simp; omega, by have := o.lu; simp; omega⟩
theorem Ord.su (o : Ord i R K H U h u) (a b c d : Int) (ha : a ≠ 1) : Ord (i + 1) R K H (U ++ [(a, b, c, d)]) h (u ++ [b]) :=
  ⟨o.eh, by rw [List.flatMap_append, o.eu]; simp [rootU, ha], lt_up o.r, lt_up o.k, lt_up o.hb, by have := o.lr; omega, by have := o.lk; omega, by have := o.lh; omega, by have := o.lU; simp; omega, by have := o.lu; simp; omega⟩
end

set_option maxRecDepth 100000 in
set_option maxHeartbeats 16000000 in
theorem walk (a0 : Option Addr) (len0 cap0 : Nat) (f : Nat → Nat → Int) (w : World) (hss : Ss w a0 len0 7 f) :
    Calls Try.prog 5 #[.slice a0 len0 cap0] w fun e w' => e = .returned (.bool true) ∧ Below w.heap.size w w' := by
  have HSS := Lib.hid hss
  have hl0 := hss.le
  clear hss
  go_enter Try.func5, Try.ntmps5
  go_wp2_with fail
  refine (awake_any w).mono ?_
  rintro e w1 ⟨rfl, hg1⟩
  go_wp2_with fail
  refine (new_sz 50 50 (by omega) (by omega) w w1 hg1).mono ?_
  rintro e w2 ⟨rfl, hS, _⟩
  have HS := Lib.hid (((((Wm.start hS).more (ir (.slice none 0 0) []) rfl rfl rfl).more (ir (.slice none 0 0) []) rfl rfl rfl).more (ir (.slice none 0 0) []) rfl rfl rfl).more (ir (.slice none 0 0) []) rfl rfl rfl)
  clear hS hg1
  generalize w1.heap.size = bp at *
  go_wp2_with fail
  go_loopw [5, 6, 7, 8, 9] (fun s5 s6 s7 s8 t wr => ∃ (i : Nat) (R K : List Int) (H : List (Int × Int)) (U : List (Int × Int × Int × Int)) (h u : List Int), t = .int .i64 i ∧ i ≤ 40 ∧ i ≤ len0 ∧ Hid (Wm w wr bp 50 50 R K H U [ir s5 R, ir s6 K, ir s7 h, ir s8 u]) ∧ Hid (Ord i R K H U h u)) (fun _ _ _ _ t _ => 40 - (intOf t).toNat)
  case atStart => exact ⟨0, [], [], [], [], [], [], rfl, by omega, Nat.zero_le _, HS, Ord.zero⟩
  case round =>
    obtain ⟨i, R, K, H, U, h, u, rfl, hi, hil, HSr, HO⟩ := hrel
    clear HS
    obtain ⟨A5, c5, hv5, _, p5, q5⟩ := HSr.out.rd (xs := R) (List.mem_cons_self ..)
    obtain ⟨A6, c6, hv6, _, p6, q6⟩ := HSr.out.rd (xs := K) (List.mem_cons_of_mem _ (List.mem_cons_self ..))
    obtain ⟨A7, c7, hv7, _, p7, q7⟩ := HSr.out.rd (xs := h) (List.mem_cons_of_mem _ (List.mem_cons_of_mem _ (List.mem_cons_self ..)))
    obtain ⟨A8, c8, hv8, _, p8, q8⟩ := HSr.out.rd (xs := u) (List.mem_cons_of_mem _ (List.mem_cons_of_mem _ (List.mem_cons_of_mem _ (List.mem_cons_self ..))))
    subst hv5 hv6 hv7 hv8
    by_cases hin : i < len0 ∧ i < 40
    · obtain ⟨hin1, hin2⟩ := hin
      obtain ⟨b0, o0, rfl, hb0, hc⟩ := HSS.out.at_ i hin1
      have d0 := hc 0 (by omega); have d3 := hc 3 (by omega); have d4 := hc 4 (by omega); have d5 := hc 5 (by omega); have d6 := hc 6 (by omega)
      have hk0 := HSS.out.lo i 0
      clear hc
      generalize f i 0 = x0 at *
      generalize f i 3 = x3 at *
      generalize f i 4 = x4 at *
      generalize f i 5 = x5 at *
      generalize f i 6 = x6 at *
      rw [Nat.add_zero] at d0
      have k0 := cell_kept d0 HSr.out.gr (by simp)
      have k3 := cell_kept d3 HSr.out.gr (by simp)
      have k4 : wr.cell? ⟨b0, o0 + i * 7 + 3 + 1, none⟩ = some (.int .i64 x4) := cell_kept d4 HSr.out.gr (by simp)
      have k5 : wr.cell? ⟨b0, o0 + i * 7 + 3 + 2, none⟩ = some (.int .i64 x5) := cell_kept d5 HSr.out.gr (by simp)
      have k6 : wr.cell? ⟨b0, o0 + i * 7 + 3 + 3, none⟩ = some (.int .i64 x6) := cell_kept d6 HSr.out.gr (by simp)
      have hb0r : b0 < wr.heap.size := Nat.lt_of_lt_of_le hb0 HSr.out.gr.size
      have ka : (wr.alloc (.cells #[.int .i64 x3, .int .i64 (100 + (i : Int)), .int .i64 x5, .int .i64 x6] 38)).cell? ⟨b0, o0 + i * 7, none⟩ = some (.int .i64 x0) := (World.cell?_alloc_lt wr _ ⟨b0, o0 + i * 7, none⟩ hb0r).trans k0
      go_wp2_with fail
      refine (pick_any x0 4 _ hk0 (by omega)).mono ?_
      rintro e w3 ⟨rfl, rfl⟩
      have HP := Lib.hid (HSr.out.box x3 (100 + (i : Int)) x5 x6)
      clear HSr k0 k3 k4 k5 k6 ka d0 d3 d4 d5 d6 hk0 hb0 hb0r HSS
      generalize wr.alloc (.cells #[.int .i64 x3, .int .i64 (100 + (i : Int)), .int .i64 x5, .int .i64 x6] 38) = wb at *
      generalize wr.heap.size = B at *
      obtain ⟨q1, q2⟩ := pk_range x0 4 (by omega)
      generalize pk x0 4 = kd at *
      obtain ⟨i0, hi0, hz0, hz1, hz2⟩ := info_parts info3
      have HI := Lib.hid hi0; have HZ0 := Lib.hid hz0; have HZ1 := Lib.hid hz1; have HZ2 := Lib.hid hz2
      clear hi0 hz0 hz1 hz2
      have hsz : w.heap.size ≤ wb.heap.size := HP.out.gr.size
      obtain ⟨l1, l2, l3, l4, l5⟩ : R.length ≤ i ∧ K.length ≤ i ∧ h.length ≤ i ∧ U.length ≤ i ∧ u.length ≤ 2 * i := ⟨HO.out.lr, HO.out.lk, HO.out.lh, HO.out.lU, HO.out.lu⟩
      have hkd : kd = 0 ∨ kd = 1 ∨ kd = 2 ∨ kd = 3 := by omega
      clear q1 q2
      rcases hkd with rfl | rfl | rfl | rfl
      · have HR : Hid (wb.ownsRow w.heap.size 3 1 (.slice A5 R.length c5) R.length (ints R)) := HP.out.own (List.mem_cons_of_mem _ (List.mem_cons_self ..))
        go_wp2_with (at_builtin; go_must (refine wpList_append_lies _ rfl _ _ 22 rfl w.heap.size 3 i0 (.int .i64 0) 1 8 Try.underlying22 HI.out HZ0.out HZ1.out HZ2.out rfl (by decide) (.slice A5 R.length c5) R.length (ints R) rfl (HR.out.alloc _) ⟨wb.heap.size, 0, none⟩ 1 1 [.int .i64 (100 + (i : Int))] rfl rfl (cell_one_new _ _ _) (one_int _ _) (by omega) (by unfold maxLen; omega) (by omega) (by simp; omega) (wb.heap.size + 1) (by simp) ?_); intro g cap w4 hown4 g4 hat4 hlt4; have HF := Lib.hid (Wm.appi (pre := [ur (.slice (some ⟨B, 0, none⟩) 1 1) [(x3, 100 + (i : Int), x5, x6)]]) (post := [ir (.slice A6 K.length c6) K, ir (.slice A7 h.length c7) h, ir (.slice A8 u.length c8) u]) HP.out hown4 g4 hat4); clear hown4 g4 hat4 hlt4)
        have HF1 := Lib.hid HF.out.tail
        refine (HF1.out.read _).mono ?_
        rintro e w5 ⟨rfl, hS5⟩
        rw [note_new HO.out.r (by omega)] at hS5
        have HS5 := Lib.hid hS5
        clear hS5
        go_wp2_with fail
        go_roundw
        case rel => exact ⟨i + 1, _, _, _, _, _, _, by go_num, by omega, by omega, HS5, HO.out.sr⟩
        case measure => simp [intOf]; omega
      · have HR : Hid (wb.ownsRow w.heap.size 3 1 (.slice A6 K.length c6) K.length (ints K)) := HP.out.own (List.mem_cons_of_mem _ (List.mem_cons_of_mem _ (List.mem_cons_self ..)))
        go_wp2_with (at_builtin; go_must (refine wpList_append_lies _ rfl _ _ 22 rfl w.heap.size 3 i0 (.int .i64 0) 1 8 Try.underlying22 HI.out HZ0.out HZ1.out HZ2.out rfl (by decide) (.slice A6 K.length c6) K.length (ints K) rfl (HR.out.alloc _) ⟨wb.heap.size, 0, none⟩ 1 1 [.int .i64 (100 + (i : Int))] rfl rfl (cell_one_new _ _ _) (one_int _ _) (by omega) (by unfold maxLen; omega) (by omega) (by simp; omega) (wb.heap.size + 1) (by simp) ?_); intro g cap w4 hown4 g4 hat4 hlt4; have HF := Lib.hid (Wm.appi (pre := [ur (.slice (some ⟨B, 0, none⟩) 1 1) [(x3, 100 + (i : Int), x5, x6)], ir (.slice A5 R.length c5) R]) (post := [ir (.slice A7 h.length c7) h, ir (.slice A8 u.length c8) u]) HP.out hown4 g4 hat4); clear hown4 g4 hat4 hlt4)
        have HF1 := Lib.hid HF.out.tail
        refine (HF1.out.keep _).mono ?_
        rintro e w5 ⟨rfl, hS5⟩
        rw [note_new HO.out.k (by omega)] at hS5
        have HS5 := Lib.hid hS5
        clear hS5
        go_wp2_with fail
        go_roundw
        case rel => exact ⟨i + 1, _, _, _, _, _, _, by go_num, by omega, by omega, HS5, HO.out.sk⟩
        case measure => simp [intOf]; omega
      · have HR : Hid (wb.ownsRow w.heap.size 3 1 (.slice A7 h.length c7) h.length (ints h)) := HP.out.own (List.mem_cons_of_mem _ (List.mem_cons_of_mem _ (List.mem_cons_of_mem _ (List.mem_cons_self ..))))
        go_wp2_with (at_builtin; go_must (refine wpList_append_lies _ rfl _ _ 22 rfl w.heap.size 3 i0 (.int .i64 0) 1 8 Try.underlying22 HI.out HZ0.out HZ1.out HZ2.out rfl (by decide) (.slice A7 h.length c7) h.length (ints h) rfl (HR.out.alloc _) ⟨wb.heap.size, 0, none⟩ 1 1 [.int .i64 (100 + (i : Int))] rfl rfl (cell_one_new _ _ _) (one_int _ _) (by omega) (by unfold maxLen; omega) (by omega) (by simp; omega) (wb.heap.size + 1) (by simp) ?_); intro g cap w4 hown4 g4 hat4 hlt4; have HF := Lib.hid (Wm.appi (pre := [ur (.slice (some ⟨B, 0, none⟩) 1 1) [(x3, 100 + (i : Int), x5, x6)], ir (.slice A5 R.length c5) R, ir (.slice A6 K.length c6) K]) (post := [ir (.slice A8 u.length c8) u]) HP.out hown4 g4 hat4); clear hown4 g4 hat4 hlt4)
        have HF1 := Lib.hid HF.out.tail
        refine (HF1.out.hold _ _).mono ?_
        rintro e w5 ⟨rfl, hS5⟩
        rw [hold_new HO.out hin2] at hS5
        have HS5 := Lib.hid hS5
        clear hS5
        go_wp2_with fail
        go_roundw
        case rel => exact ⟨i + 1, _, _, _, _, _, _, by go_num, by omega, by omega, HS5, HO.out.sh _⟩
        case measure => simp [intOf]; omega
      · have HR : Hid (wb.ownsRow w.heap.size 3 1 (.slice A8 u.length c8) u.length (ints u)) := HP.out.own (List.mem_cons_of_mem _ (List.mem_cons_of_mem _ (List.mem_cons_of_mem _ (List.mem_cons_of_mem _ (List.mem_cons_self ..)))))
        by_cases hx3 : x3 = 1
        · subst hx3
          have tok1 : True := trivial
          go_wp2_with (first
            | (at_builtin; have _t := tok1; go_must (refine wpList_append_lies _ rfl _ _ 22 rfl w.heap.size 3 i0 (.int .i64 0) 1 8 Try.underlying22 HI.out HZ0.out HZ1.out HZ2.out rfl (by decide) (.slice A8 u.length c8) u.length (ints u) rfl (HR.out.alloc _) ⟨wb.heap.size, 0, none⟩ 1 1 [.int .i64 (100 + (i : Int))] rfl rfl (cell_one_new _ _ _) (one_int _ _) (by omega) (by unfold maxLen; omega) (by omega) (by simp; omega) (wb.heap.size + 1) (by simp) ?_); intro g cap w4 hown4 g4 hat4 hlt4; have HF := Lib.hid (Wm.appi (pre := [ur (.slice (some ⟨B, 0, none⟩) 1 1) [(1, 100 + (i : Int), x5, x6)], ir (.slice A5 R.length c5) R, ir (.slice A6 K.length c6) K, ir (.slice A7 h.length c7) h]) (post := []) HP.out hown4 g4 hat4); clear hown4 g4 hat4 hlt4; (obtain ⟨y0, y1, y2, y3⟩ := HF.out.boxed (List.mem_cons_self ..)); have HR2 : Hid (w4.ownsRow w.heap.size 3 1 (.slice (some ⟨g, 0, none⟩) (u.length + 1) cap) (u ++ [100 + (i : Int)]).length (ints (u ++ [100 + (i : Int)]))) := HF.out.own (List.mem_cons_of_mem _ (List.mem_cons_of_mem _ (List.mem_cons_of_mem _ (List.mem_cons_of_mem _ (List.mem_cons_self ..))))); have hsz4 : w.heap.size ≤ w4.heap.size := HF.out.gr.size; have hl4 : (u ++ [100 + (i : Int)]).length ≤ 100 := (by rw [List.length_append, List.length_singleton]; omega); clear tok1)
            | (at_builtin; clear y0 y1 y2 y3; go_must (refine wpList_append_lies _ rfl _ _ 22 rfl w.heap.size 3 i0 (.int .i64 0) 1 8 Try.underlying22 HI.out HZ0.out HZ1.out HZ2.out rfl (by decide) (.slice (some ⟨g, 0, none⟩) (u.length + 1) cap) (u ++ [100 + (i : Int)]).length (ints (u ++ [100 + (i : Int)])) rfl (HR2.out.alloc _) ⟨w4.heap.size, 0, none⟩ 1 1 [.int .i64 x6] rfl rfl (cell_one_new _ _ _) (one_int _ _) (by omega) (by unfold maxLen; omega) (by omega) (by simp; omega) (w4.heap.size + 1) (by simp) ?_); intro g2 cap2 w6 hown4 g4 hat4 hlt4; have HF2 := Lib.hid (Wm.appi (pre := [ur (.slice (some ⟨B, 0, none⟩) 1 1) [(1, 100 + (i : Int), x5, x6)], ir (.slice A5 R.length c5) R, ir (.slice A6 K.length c6) K, ir (.slice A7 h.length c7) h]) (post := []) HF.out hown4 g4 hat4); clear hown4 g4 hat4 hlt4; obtain ⟨y0, y1, y2, y3⟩ := HF2.out.boxed (List.mem_cons_self ..)))
          refine (HF2.out.undo _ _ _ _).mono ?_
          rintro e w5 ⟨rfl, hS5⟩
          rw [undo_new HO.out hin2] at hS5
          have HS5 := Lib.hid hS5.tail
          clear hS5
          rw [List.length_append, List.length_singleton] at HS5
          go_wp2_with fail
          go_roundw
          case rel => exact ⟨i + 1, _, _, _, _, _, _, by go_num, by omega, by omega, HS5, HO.out.su1 _ _ _⟩
          case measure => simp [intOf]; omega
        · have tt : (x3 == 1) = false := by rw [beq_eq_false_iff_ne]; exact hx3
          have HX := Lib.hid hx3
          clear hx3
          go_wp2_with (at_builtin; go_must (refine wpList_append_lies _ rfl _ _ 22 rfl w.heap.size 3 i0 (.int .i64 0) 1 8 Try.underlying22 HI.out HZ0.out HZ1.out HZ2.out rfl (by decide) (.slice A8 u.length c8) u.length (ints u) rfl (HR.out.alloc _) ⟨wb.heap.size, 0, none⟩ 1 1 [.int .i64 (100 + (i : Int))] rfl rfl (cell_one_new _ _ _) (one_int _ _) (by omega) (by unfold maxLen; omega) (by omega) (by simp; omega) (wb.heap.size + 1) (by simp) ?_); intro g cap w4 hown4 g4 hat4 hlt4; have HF := Lib.hid (Wm.appi (pre := [ur (.slice (some ⟨B, 0, none⟩) 1 1) [(x3, 100 + (i : Int), x5, x6)], ir (.slice A5 R.length c5) R, ir (.slice A6 K.length c6) K, ir (.slice A7 h.length c7) h]) (post := []) HP.out hown4 g4 hat4); clear hown4 g4 hat4 hlt4; obtain ⟨y0, y1, y2, y3⟩ := HF.out.boxed (List.mem_cons_self ..))
          refine (HF.out.undo _ _ _ _).mono ?_
          rintro e w5 ⟨rfl, hS5⟩
          rw [undo_new HO.out hin2] at hS5
          have HS5 := Lib.hid hS5.tail
          clear hS5
          go_wp2_with fail
          go_roundw
          case rel => exact ⟨i + 1, _, _, _, _, _, _, by go_num, by omega, by omega, HS5, HO.out.su _ _ _ _ HX.out⟩
          case measure => simp [intOf]; omega
    · have hend : ¬ i < len0 ∨ (i < len0 ∧ ¬ i < 40) := by omega
      clear hin
      obtain ⟨l1, l2, l3, l4, l5⟩ : R.length ≤ i ∧ K.length ≤ i ∧ h.length ≤ i ∧ U.length ≤ i ∧ u.length ≤ 2 * i := ⟨HO.out.lr, HO.out.lk, HO.out.lh, HO.out.lU, HO.out.lu⟩
      rcases hend with hd1 | ⟨hd1, hd2⟩
      all_goals
        go_wp2_with fail
        refine HSr.out.roots_row.mono ?_
        rintro e w3 ⟨vr, rfl, hS3⟩
        obtain ⟨all, hall⟩ : ∃ all, rootsL R K H U = all := ⟨_, rfl⟩
        rw [hall] at hS3
        have hlen : all.length ≤ 400 := by rw [← hall]; unfold rootsL; rw [HO.out.eh, HO.out.eu]; simp only [List.length_append]; omega
        have HALL : Hid ([] ++ R ++ K ++ h ++ u = all) := by unfold Hid; rw [← hall, ← HO.out.eh, ← HO.out.eu]; simp [rootsL, List.append_assoc]
        clear hall
        obtain ⟨Ar, cr, hvr, _, pr, qr⟩ := hS3.rd (List.mem_cons_self ..)
        subst hvr
        have HS3 := Lib.hid (hS3.more (ir (.slice none 0 0) []) rfl rfl rfl)
        clear hS3
        have hle : ∀ (a b : List Int), a.length ≤ 200 → b.length ≤ 200 → (a ++ b).length ≤ 400 := fun a b ha hb => by rw [List.length_append]; omega
        have HLE := Lib.hid hle
        clear hle
        have tok1 : True := trivial
        have tok2 : True := trivial
        have tok3 : True := trivial
        have tok4 : True := trivial
        go_wp2_with (first
          | (at_builtin; have _t := tok1; go_must (refine HS3.out.cat (List.mem_cons_of_mem _ (List.mem_cons_self ..)) rfl _ _ rfl rfl rfl (by simp; omega) ?_); intro v4 w4 hS4; have HS4 := Lib.hid hS4; clear hS4 tok1)
          | (at_builtin; have _t := tok2; go_must (refine HS4.out.cat (List.mem_cons_of_mem _ (List.mem_cons_of_mem _ (List.mem_cons_self ..))) rfl _ _ rfl rfl rfl (by simp; omega) ?_); intro v5 w5 hS5; have HS5 := Lib.hid hS5; clear hS5 tok2)
          | (at_builtin; have _t := tok3; go_must (refine HS5.out.cat (List.mem_cons_of_mem _ (List.mem_cons_of_mem _ (List.mem_cons_of_mem _ (List.mem_cons_self ..)))) rfl _ _ rfl rfl rfl (by simp; omega) ?_); intro v6 w6 hS6; have HS6 := Lib.hid hS6; clear hS6 tok3)
          | (at_builtin; have _t := tok4; go_must (refine HS6.out.cat (List.mem_cons_of_mem _ (List.mem_cons_of_mem _ (List.mem_cons_of_mem _ (List.mem_cons_of_mem _ (List.mem_cons_self ..))))) rfl _ _ rfl rfl rfl (by simp; omega) ?_); intro v7 w7 hS7; have HS7 := Lib.hid hS7; clear hS7 tok4))
        rw [HALL.out] at HS7
        obtain ⟨Ac, cc, hvc, hrc, pc, qc⟩ := HS7.out.rd (List.mem_cons_self ..)
        subst hvc
        obtain ⟨Ar2, cr2, hvr, hrr, _, _⟩ := HS7.out.rd (List.mem_cons_of_mem _ (List.mem_cons_self ..))
        cases hvr
        have HRC := Lib.hid hrc
        have HRR := Lib.hid hrr
        clear hrc hrr
        refine (ints_any Ar Ac all.length cr cc all w7 HRR.out HRC.out (by omega)).mono ?_
        rintro e w8 ⟨rfl, hg8⟩
        have HS8 := Lib.hid (HS7.out.gb hg8)
        clear hg8
        go_wp2_with fail
        refine HS8.out.reads.mono ?_
        rintro e w9 ⟨⟨A9, c9, rfl, hr9⟩, hS9⟩
        have HS9 := Lib.hid hS9
        obtain ⟨Aw2, cw2, hvw, hrw, _, _⟩ := hS9.rd (v := .slice A5 R.length c5) (xs := R) (by simp)
        cases hvw
        have HR9 := Lib.hid hr9
        have HRW := Lib.hid hrw
        clear hr9 hrw hS9
        go_wp2_with fail
        refine (ints_any A9 A5 R.length c9 c5 R w9 HR9.out HRW.out (by omega)).mono ?_
        rintro e w10 ⟨rfl, hg10⟩
        have HB := Lib.hid (below_of (grownBy_trans HS9.out.gr hg10))
        clear hg10
        go_wp2_with fail
        go_ret
        exact ⟨rfl, HB.out⟩

theorem own : ownKnob Try.prog.godebug = none := by kernel_rfl
theorem laidOut : laidOutB Try.prog = true := by kernel_rfl

set_option maxRecDepth 100000 in
theorem lifted (os : Os) (started : os.Started) (H : Type) (enc : TypeId × Value → H) :
    ReturnsInHanded {} Try.checked os 5 .any (Rows.txlogOrderSpec.pre6 enc Try.prog Try.f5 Rows.txlogOrderRow.domain false) (Rows.txlogOrderSpec.post enc Try.prog Try.f5 false true false false) := by
  refine returnsInHanded_of_change (C := Try.checked) own started (by kernel_rfl) Try.func5
    (ChangeSpec.witness6 (enc := enc) (C := Try.checked) false ⟨#[], #[.slice none 0 0], []⟩ 8 (by kernel_rfl) (by kernel_rfl) (by kernel_rfl) (by kernel_rfl)) ?_
  intro W base args ds gs before hval0 hW hcnd _
  have hval : ∀ (j : Nat) t v, Try.f5.params[j]? = some t → args[j]? = some v → Value.okWide Try.prog W .any base t v := hval0
  have hW' := hW
  obtain ⟨p, q, hA0, hV, rfl, hfz, hnd⟩ := hW
  have hA : DataW.TrodAll enc Try.prog W 0 (fun _ => true) true Try.f5.params.toList args.toList ds p := hA0
  rw [Try.params5] at hA hval
  obtain ⟨v0, vs0, d0, ds0, p0, q0, hargs, rfl, rfl, h0, r0⟩ := trodAll_cons hA
  obtain ⟨rfl, rfl, rfl⟩ := trodAll_nil r0
  obtain rfl : args = #[v0] := by cases args; simp_all
  obtain ⟨rfl, rfl⟩ := trodVars_none hV
  have k0 := h0
  have lt0 : ∀ x ∈ p0, x.block < W.heap.size := by obtain ⟨m, hm⟩ := k0; exact DataW.trod_lt m _ _ _ hm
  obtain ⟨a0, len0, cap0, rfl⟩ := okWide_slice Try.underlying36 (hval 0 36 v0 rfl rfl)
  obtain ⟨f0, hs0⟩ : ∃ f, Ss W a0 len0 7 f := by
    obtain ⟨fuel, hf⟩ := h0
    exact open_ops hf
  clear hA0 hval0
  refine (walk a0 len0 cap0 f0 W hs0).mono fun e W' ⟨he, bel⟩ => ?_
  subst he
  exact ⟨_, rfl, _, _, _, [], _, [], hW', trodAll_mk1 (shut_bool Try.underlying4 _), (trodAll_cons_mk (Below.trod laidOut (by kernel_rfl) (of_decide_eq_true (by kernel_rfl)) k0 bel lt0) trodAll_mk0), rfl, bel.frame _, fun h => by cases h⟩

theorem over : Rows.txlogOrderRow.holds Try.pinned (OpenSpec.ofChange Rows.txlogOrderSpec) :=
  OpenClaim.holds_of_wide 5 Try.f5 rfl rfl rfl rfl rfl rfl rfl ⟨rfl, rfl, rfl, rfl, rfl⟩ rfl rfl rfl rfl rfl (by kernel_rfl) Try.func5 (by kernel_rfl)
    (of_decide_eq_true (by kernel_rfl)) (by unfold Func.isWrapper; first | (rw [if_pos (by decide +kernel)]; kernel_rfl) | (rw [if_neg (by decide +kernel)]; exact ⟨rfl, rfl⟩))
    (fun os started H enc _ => lifted os started H enc)

theorem proved : Rows.TxlogOrderSaid := over
end Go.Proofs.Ytjeapnhaakppeaa.txlogOrder

namespace Go.Proofs.Ytjeapnhaakppeaa
theorem TxlogOrder_holds : Rows.TxlogOrderSaid := txlogOrder.proved
#print axioms TxlogOrder_holds
end Go.Proofs.Ytjeapnhaakppeaa
