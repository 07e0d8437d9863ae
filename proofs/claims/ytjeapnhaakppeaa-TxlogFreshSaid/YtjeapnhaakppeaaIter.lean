/-
  The contract of the log's iterator (places): for every loop body that keeps the log's struct, the iterator's own block, the box and the undos' kinds, it hands over the addresses of all places, in their order.
-/
import Derived.Test.YtjeapnhaakppeaaUndo
import Derived.RangeFuncNested
import Derived.RangeFuncBound
import Derived.RangeFuncCalls
import Derived.RangeFuncLeaves
import Derived.RangeFuncBox
import Derived.Shelf.Abstract
import Derived.Shelf.RegionOpen
import Derived.OwnWalkIn
import Derived.TacticsInMore
import Derived.LoopNIn
import Derived.LoopIn
namespace Go.Proofs.Ytjeapnhaakppeaa
open Go.ChangeShapes Go.WideShapes Go.ChangeAt Go.RowKit Go.Shelf
set_option linter.unusedVariables false
attribute [local go_sem] Oper.semAt_some

theorem places_any (bp : Nat) (w : World) :
    Calls Try.prog 27 #[.pointer (some ⟨bp, 0, none⟩)] w fun e w' => e = .returned (.func (.func 32) #[] #[.pointer (some ⟨w.heap.size, 0, none⟩)]) ∧
      w.alloc (.cells #[.pointer (some ⟨bp, 0, none⟩)] 25) = w' := by
  go_enter Try.func27, Try.ntmps27
  go_wp2
  go_ret
  exact ⟨rfl, rfl⟩

/-- The addresses of a row of n things of so many cells, from the i-th on. -/
def rowA (g size n i : Nat) : List Addr := (List.range' i (n - i)).map fun j => ⟨g, j * size, none⟩
theorem rowA_cons (g size n i : Nat) (h : i < n) : rowA g size n i = ⟨g, i * size, none⟩ :: rowA g size n (i + 1) := by
  unfold rowA
  obtain ⟨k, hk⟩ : ∃ k, n - i = k + 1 := ⟨n - i - 1, by omega⟩
  rw [hk, List.range'_succ, show n - (i + 1) = k by omega]
  rfl
theorem rowA_nil (g size n : Nat) : rowA g size n n = [] := by simp [rowA]

def undA (g : Nat) (kd : Nat → Int) (n i : Nat) : List Addr := (List.range' i (n - i)).flatMap fun j => if kd j = 1 then [⟨g, j * 4 + 1, none⟩, ⟨g, j * 4 + 3, none⟩] else [⟨g, j * 4 + 1, none⟩]
theorem undA_cons (g : Nat) (kd : Nat → Int) (n i : Nat) (h : i < n) : undA g kd n i = (⟨g, i * 4 + 1, none⟩ : Addr) :: ((if kd i = 1 then [⟨g, i * 4 + 3, none⟩] else []) ++ undA g kd n (i + 1)) := by
  unfold undA
  obtain ⟨k, hk⟩ : ∃ k, n - i = k + 1 := ⟨n - i - 1, by omega⟩
  rw [hk, List.range'_succ, show n - (i + 1) = k by omega, List.flatMap_cons]
  split <;> rfl
theorem undA_nil (g : Nat) (kd : Nat → Int) (n : Nat) : undA g kd n n = [] := by simp [undA]

/-- What a round that goes on keeps. -/
structure Kp (gU : Nat) (W W' : World) : Prop where
  m : ∀ g a b, Blk W g 22 #[a, b] → Blk W' g 22 #[a, b]
  s : ∀ g cs, Blk W g 53 cs → Blk W' g 53 cs
  x : ∀ g cs, Blk W g 25 cs → Blk W' g 25 cs
  k : ∀ j v, W.cell? ⟨gU, j * 4, none⟩ = some v → W'.cell? ⟨gU, j * 4, none⟩ = some v

theorem Kp.trans {gU : Nat} {A B C : World} (h : Kp gU A B) (k : Kp gU B C) : Kp gU A C :=
  ⟨fun g a b e => k.m g a b (h.m g a b e), fun g cs e => k.s g cs (h.s g cs e), fun g cs e => k.x g cs (h.x g cs e), fun j v e => k.k j v (h.k j v e)⟩

theorem Blk.put {W : World} {g : Nat} {t : TypeId} {cs : Array Value} (h : Blk W g t cs) (l : Nat) (o o' : Obj) (hl : W.heap[l]? = some o) (hc : o.isCells = false) : Blk (W.putObj l o') g t cs := by
  have hne : l ≠ g := by
    rintro rfl
    unfold Blk at h
    rw [h] at hl
    cases hl
    cases hc
  exact ((grownBy_putObj' W l o').block g h.lt (by simpa using fun e => hne e.symm)).trans h

theorem Kp.put {gU : Nat} {w : World} (W : World) (l : Nat) (o o' : Obj) (hl : w.heap.size ≤ l) (h : W.heap[l]? = some o) (hc : o.isCells = false) (hw : o.isWalk = false) : Kp gU W (W.putObj l o') :=
  ⟨fun g a b e => e.put l o o' h hc, fun g cs e => e.put l o o' h hc, fun g cs e => e.put l o o' h hc, fun j v e => cell_kept e (grownBy_putObj' W l o') (fun r er => by cases er; exact ⟨o, h, hc⟩)⟩

set_option maxRecDepth 100000 in
set_option maxHeartbeats 4000000 in
theorem iter_stops {α : Type} (adr : α → Addr) (xs : List α) (n : Nat) (hn : 1 ≤ n) (bx bp : Nat) (mr mu : Value) (AR AK AH AU : Option Addr) (nR nK nH nU cR cK cH cU gR gK gH gU : Nat) (kd : Nat → Int) (w : World)
    (hx : Blk w bx 25 #[.pointer (some ⟨bp, 0, none⟩)]) (hb : Blk w bp 53 #[mr, mu, .slice AR nR cR, .slice AK nK cK, .slice AH nH cH, .slice AU nU cU])
    (eR : 0 < nR → AR = some ⟨gR, 0, none⟩) (eK : 0 < nK → AK = some ⟨gK, 0, none⟩) (eH : 0 < nH → AH = some ⟨gH, 0, none⟩) (eU : 0 < nU → AU = some ⟨gU, 0, none⟩)
    (hk : ∀ j, j < nU → w.cell? ⟨gU, j * 4, none⟩ = some (.int .i64 (kd j)))
    (lR : nR ≤ 200) (lK : nK ≤ 200) (lH : nH ≤ 200) (lU : nU ≤ 200)
    (hadr : xs.map adr = rowA gR 1 nR 0 ++ (rowA gK 1 nK 0 ++ (rowA gH 2 nH 0 ++ undA gU kd nU 0))) :
    SeqStopsK Fence.wide n Try.prog 32 #[.pointer (some ⟨bx, 0, none⟩)] (fun x : α => #[.pointer (some (adr x))]) (Kp gU)
      (fun ys => ys = xs) (fun pre => pre <+: xs) xs.length w := by
  intro l J Jx W hW hJ hJx hY hJ0
  have hx' : Blk W bx 25 #[.pointer (some ⟨bp, 0, none⟩)] := (hW.block bx hx.lt).trans hx
  have hb' : Blk W bp 53 #[mr, mu, .slice AR nR cR, .slice AK nK cK, .slice AH nH cH, .slice AU nU cU] := (hW.block bp hb.lt).trans hb
  have hk' : ∀ j, j < nU → W.cell? ⟨gU, j * 4, none⟩ = some (.int .i64 (kd j)) := fun j hj => (hW.cell (p := ⟨gU, j * 4, none⟩) (World.block_lt_of_cell? w _ (hk j hj))).trans (hk j hj)
  clear hx hb hk hW
  have HY := Lib.hid hY
  clear hY
  -- the iterator's own block
  obtain ⟨W1, hW1⟩ : ∃ W1, W1 = (W.alloc (.cells #[.slice AR nR cR, .slice AK nK cK] 22)).drew := ⟨_, rfl⟩
  have hg1 : W.grownBy W1 none := by rw [hW1]; exact grownBy_trans (World.grownBy_alloc W _ none) (gb_drew _ none)
  have hm1 : Blk W1 W.heap.size 22 #[.slice AR nR cR, .slice AK nK cK] := by rw [hW1]; exact heap_alloc_new W _
  have hx1 := hx'.gb0 hg1
  have hb1 := hb'.gb0 hg1
  have hk1 : ∀ j, j < nU → W1.cell? ⟨gU, j * 4, none⟩ = some (.int .i64 (kd j)) := fun j hj => cell_kept (hk' j hj) hg1 (by simp)
  have hJ1 : J [] W1 := hJ [] W W1 none hJ0 hg1 (by simp)
  have c0 : W.cell? ⟨bx, 0, none⟩ = some (.pointer (some ⟨bp, 0, none⟩)) := hx'.cell 0
  have c2 : W.cell? ⟨bp, 2, none⟩ = some (.slice AR nR cR) := hb'.cell 2
  have c3 : W.cell? ⟨bp, 3, none⟩ = some (.slice AK nK cK) := hb'.cell 3
  have HADR := Lib.hid hadr
  have HX1 := Lib.hid hx1; have HB1 := Lib.hid hb1; have HK1 := Lib.hid hk1; have HM1 := Lib.hid hm1
  clear hadr hx1 hb1 hk1 hm1 hx' hb' hk' hg1
  have HW1 := Lib.hid hW1
  clear hW1
  refine callsIn_of_wp Try.func32 rfl trivial ?_ rfl
  simp only [Try.ntmps32, List.size_toArray, List.length_cons, List.length_nil, Nat.reduceAdd, Nat.reduceSub, Array.replicate_succ, Array.replicate_zero, List.push_toArray, List.append_toArray, List.nil_append, List.cons_append]
  gi_wp2
  gi_region
  rw [← HW1.out]
  gi_wp2
  gi_loopw [21] (fun s wr => ∃ (j : Nat) (pre rest : List α), s = .int .i64 j ∧ j ≤ 2 ∧ xs = pre ++ rest ∧ Hid (rest.map adr = (if j = 0 then rowA gR 1 nR 0 else []) ++ ((if j ≤ 1 then rowA gK 1 nK 0 else []) ++ (rowA gH 2 nH 0 ++ undA gU kd nU 0))) ∧ Hid (Blk wr W.heap.size 22 #[.slice AR nR cR, .slice AK nK cK]) ∧ Hid (Blk wr bx 25 #[.pointer (some ⟨bp, 0, none⟩)]) ∧
      Hid (Blk wr bp 53 #[mr, mu, .slice AR nR cR, .slice AK nK cK, .slice AH nH cH, .slice AU nU cU]) ∧ Hid (∀ j, j < nU → wr.cell? ⟨gU, j * 4, none⟩ = some (.int .i64 (kd j))) ∧ J pre wr) (fun s _ => 2 - (intOf s).toNat)
  case atStart => exact ⟨0, [], xs, rfl, by omega, rfl, by rw [if_pos rfl, if_pos (by omega)]; exact HADR, HM1, HX1, HB1, HK1, hJ1⟩
  case round =>
    obtain ⟨j, pre, rest, rfl, hj, hxs, HR, HM, HX, HB, HK, hJr⟩ := hrel
    by_cases hj2 : j < 2
    · obtain ⟨A, m, c, g, tl, hcell, hA, hm, hrest, htl⟩ : ∃ (A : Option Addr) (m c g : Nat) (tl : List Addr), wr.cell? ⟨W.heap.size, j, none⟩ = some (.slice A m c) ∧ (0 < m → A = some ⟨g, 0, none⟩) ∧ m ≤ 200 ∧ rest.map adr = rowA g 1 m 0 ++ tl ∧
          tl = (if j + 1 = 0 then rowA gR 1 nR 0 else []) ++ ((if j + 1 ≤ 1 then rowA gK 1 nK 0 else []) ++ (rowA gH 2 nH 0 ++ undA gU kd nU 0)) := by
        rcases (by omega : j = 0 ∨ j = 1) with rfl | rfl
        · exact ⟨AR, nR, cR, gR, _, HM.out.cell 0, eR, lR, HR.out, rfl⟩
        · exact ⟨AK, nK, cK, gK, _, HM.out.cell 1, eK, lK, HR.out, rfl⟩
      have HR2 := Lib.hid hrest
      have HT := Lib.hid htl
      clear hrest htl
      clear HADR HX1 HB1 HK1 HM1 HW1 c0 c2 c3 hJ1 hJ0 HR
      gi_wp2
      have hd22 : decide ((j : Int) < 2) = true := decide_eq_true (by omega)
      rw [hd22]
      gi_loopw [27] (fun s wv => ∃ (i : Nat) (pre rest : List α), s = .int .i64 i ∧ i ≤ m ∧ xs = pre ++ rest ∧ Hid (rest.map adr = rowA g 1 m i ++ tl) ∧ Hid (Blk wv W.heap.size 22 #[.slice AR nR cR, .slice AK nK cK]) ∧ Hid (Blk wv bx 25 #[.pointer (some ⟨bp, 0, none⟩)]) ∧
          Hid (Blk wv bp 53 #[mr, mu, .slice AR nR cR, .slice AK nK cK, .slice AH nH cH, .slice AU nU cU]) ∧ Hid (∀ j, j < nU → wv.cell? ⟨gU, j * 4, none⟩ = some (.int .i64 (kd j))) ∧ J pre wv) (fun s _ => m - (intOf s).toNat)
      case atStart => exact ⟨0, pre, rest, rfl, Nat.zero_le _, hxs, HR2, HM, HX, HB, HK, hJr⟩
      case round =>
        clear hcell HR2 HM HX HB HK hJr hxs
        obtain ⟨i, pre, rest, rfl, hi, hxs, HR, HM, HX, HB, HK, hJr⟩ := hrel
        by_cases him : i < m
        · obtain rfl := hA (by omega)
          obtain ⟨x, rest, rfl, hax, HR3⟩ : ∃ x rest', rest = x :: rest' ∧ adr x = ⟨g, i, none⟩ ∧ Hid (rest'.map adr = rowA g 1 m (i + 1) ++ tl) := by
            have h := HR.out
            rw [rowA_cons g 1 m i him] at h
            cases rest with
            | nil => simp at h
            | cons x rest' =>
              rw [List.map_cons, List.cons_append, List.cons.injEq] at h
              exact ⟨x, rest', rfl, by rw [h.1, Nat.mul_one], h.2⟩
          obtain ⟨fn, tmps, assign, body, hy, hRr⟩ := HY.out pre x wr hJr (by rw [hxs]; simp)
          rw [hax] at hy
          have HRr := Lib.hid hRr
          clear hRr hax HR
          gi_wp2
          refine HRr.out.mono ?_
          rintro e W3 (⟨rfl, hJ3, hk3⟩ | ⟨rfl, hJx3⟩)
          · have HM3 := Lib.hid (hk3.m _ _ _ HM.out)
            have HX3 := Lib.hid (hk3.x _ _ HX.out)
            have HB3 := Lib.hid (hk3.s _ _ HB.out)
            have HK3 : Hid (∀ j, j < nU → W3.cell? ⟨gU, j * 4, none⟩ = some (.int .i64 (kd j))) := fun j hj => hk3.k j _ (HK.out j hj)
            clear hk3
            gi_wp2
            go_roundw
            case rel => exact ⟨i + 1, pre ++ [x], rest, by go_num, by omega, by rw [hxs]; simp, HR3, HM3, HX3, HB3, HK3, hJ3⟩
            case measure => simp [intOf]; omega
          · gi_wp2
            refine bodyPost_ret (results_none rfl _ _ _) rfl ?_
            exact ⟨⟨_, rfl⟩, .inr ⟨pre ++ [x], ⟨rest, by rw [hxs]; simp⟩, hJx3⟩⟩
        · have hin : i = m := by omega
          subst i
          have HR4 : Hid (rest.map adr = tl) := by have h := HR.out; rw [rowA_nil, List.nil_append] at h; exact h
          gi_wp2
          go_roundw
          case rel => exact ⟨j + 1, pre, rest, by go_num, by omega, hxs, by rw [← HT.out]; exact HR4, HM, HX, HB, HK, hJr⟩
          case measure => simp [intOf]; omega
    · obtain rfl : j = 2 := by omega
      rw [show ((2 : Nat) : Int) = 2 from rfl]
      have HR1 : Hid (rest.map adr = rowA gH 2 nH 0 ++ undA gU kd nU 0) := HR.out
      clear HADR HX1 HB1 HK1 HM1 HW1 c0 c2 c3 hJ1 hJ0 HR
      have k0 : wr.cell? ⟨bx, 0, none⟩ = some (.pointer (some ⟨bp, 0, none⟩)) := HX.out.cell 0
      have k4 : wr.cell? ⟨bp, 4, none⟩ = some (.slice AH nH cH) := HB.out.cell 4
      gi_wp2
      gi_loopw [43] (fun s wv => ∃ (i : Nat) (pre rest : List α), s = .int .i64 i ∧ i ≤ nH ∧ xs = pre ++ rest ∧ Hid (rest.map adr = rowA gH 2 nH i ++ undA gU kd nU 0) ∧ Hid (Blk wv bx 25 #[.pointer (some ⟨bp, 0, none⟩)]) ∧
          Hid (Blk wv bp 53 #[mr, mu, .slice AR nR cR, .slice AK nK cK, .slice AH nH cH, .slice AU nU cU]) ∧ Hid (∀ j, j < nU → wv.cell? ⟨gU, j * 4, none⟩ = some (.int .i64 (kd j))) ∧ J pre wv) (fun s _ => nH - (intOf s).toNat)
      case atStart => exact ⟨0, pre, rest, rfl, Nat.zero_le _, hxs, HR1, HX, HB, HK, hJr⟩
      case round =>
        clear HR1 HM HX HB HK hJr hxs k0 k4
        obtain ⟨i, pre, rest, rfl, hi, hxs, HR, HX, HB, HK, hJr⟩ := hrel
        have k0 : wr.cell? ⟨bx, 0, none⟩ = some (.pointer (some ⟨bp, 0, none⟩)) := HX.out.cell 0
        by_cases him : i < nH
        · obtain rfl := eH (by omega)
          have k4 : wr.cell? ⟨bp, 4, none⟩ = some (.slice (some ⟨gH, 0, none⟩) nH cH) := HB.out.cell 4
          obtain ⟨x, rest, rfl, hax, HR3⟩ : ∃ x rest', rest = x :: rest' ∧ adr x = ⟨gH, i * 2, none⟩ ∧ Hid (rest'.map adr = rowA gH 2 nH (i + 1) ++ undA gU kd nU 0) := by
            have h := HR.out
            rw [rowA_cons gH 2 nH i him] at h
            cases rest with
            | nil => simp at h
            | cons x rest' =>
              rw [List.map_cons, List.cons_append, List.cons.injEq] at h
              exact ⟨x, rest', rfl, h.1, h.2⟩
          obtain ⟨fn, tmps, assign, body, hy, hRr⟩ := HY.out pre x wr hJr (by rw [hxs]; simp)
          rw [hax] at hy
          have HRr := Lib.hid hRr
          clear hRr hax HR
          gi_wp2
          refine HRr.out.mono ?_
          rintro e W3 (⟨rfl, hJ3, hk3⟩ | ⟨rfl, hJx3⟩)
          · have HX3 := Lib.hid (hk3.x _ _ HX.out)
            have HB3 := Lib.hid (hk3.s _ _ HB.out)
            have HK3 : Hid (∀ j, j < nU → W3.cell? ⟨gU, j * 4, none⟩ = some (.int .i64 (kd j))) := fun j hj => hk3.k j _ (HK.out j hj)
            clear hk3
            gi_wp2
            go_roundw
            case rel => exact ⟨i + 1, pre ++ [x], rest, by go_num, by omega, by rw [hxs]; simp, HR3, HX3, HB3, HK3, hJ3⟩
            case measure => simp [intOf]; omega
          · gi_wp2
            refine bodyPost_ret (results_none rfl _ _ _) rfl ?_
            exact ⟨⟨_, rfl⟩, .inr ⟨pre ++ [x], ⟨rest, by rw [hxs]; simp⟩, hJx3⟩⟩
        · have hin : i = nH := by omega
          subst i
          have HR4 : Hid (rest.map adr = undA gU kd nU 0) := by have h := HR.out; rw [rowA_nil, List.nil_append] at h; exact h
          have k5 : wr.cell? ⟨bp, 5, none⟩ = some (.slice AU nU cU) := HB.out.cell 5
          clear HR
          gi_wp2
          gi_loopw [62] (fun s wv => ∃ (i : Nat) (pre rest : List α), s = .int .i64 i ∧ i ≤ nU ∧ xs = pre ++ rest ∧ Hid (rest.map adr = undA gU kd nU i) ∧ Hid (Blk wv bx 25 #[.pointer (some ⟨bp, 0, none⟩)]) ∧
              Hid (Blk wv bp 53 #[mr, mu, .slice AR nR cR, .slice AK nK cK, .slice AH nH cH, .slice AU nU cU]) ∧ Hid (∀ j, j < nU → wv.cell? ⟨gU, j * 4, none⟩ = some (.int .i64 (kd j))) ∧ J pre wv) (fun s _ => nU - (intOf s).toNat)
          case atStart => exact ⟨0, pre, rest, rfl, Nat.zero_le _, hxs, HR4, HX, HB, HK, hJr⟩
          case round =>
            clear HR4 HX HB HK hJr hxs k0 k5
            obtain ⟨i, pre, rest, rfl, hi, hxs, HR, HX, HB, HK, hJr⟩ := hrel
            have k0 : wr.cell? ⟨bx, 0, none⟩ = some (.pointer (some ⟨bp, 0, none⟩)) := HX.out.cell 0
            by_cases him : i < nU
            · obtain rfl := eU (by omega)
              have k5 : wr.cell? ⟨bp, 5, none⟩ = some (.slice (some ⟨gU, 0, none⟩) nU cU) := HB.out.cell 5
              obtain ⟨x, rest, rfl, hax, HR3⟩ : ∃ x rest', rest = x :: rest' ∧ adr x = ⟨gU, i * 4 + 1, none⟩ ∧ Hid (rest'.map adr = (if kd i = 1 then [⟨gU, i * 4 + 3, none⟩] else []) ++ undA gU kd nU (i + 1)) := by
                have h := HR.out
                rw [undA_cons gU kd nU i him] at h
                cases rest with
                | nil => simp at h
                | cons x rest' =>
                  rw [List.map_cons, List.cons.injEq] at h
                  exact ⟨x, rest', rfl, h.1, h.2⟩
              obtain ⟨fn, tmps, assign, body, hy, hRr⟩ := HY.out pre x wr hJr (by rw [hxs]; simp)
              rw [hax] at hy
              have HRr := Lib.hid hRr
              clear hRr hax HR
              gi_wp2
              refine HRr.out.mono ?_
              rintro e W3 (⟨rfl, hJ3, hk3⟩ | ⟨rfl, hJx3⟩)
              · have HX3 := Lib.hid (hk3.x _ _ HX.out)
                have HB3 := Lib.hid (hk3.s _ _ HB.out)
                have HK3 : Hid (∀ j, j < nU → W3.cell? ⟨gU, j * 4, none⟩ = some (.int .i64 (kd j))) := fun j hj => hk3.k j _ (HK.out j hj)
                have kk : W3.cell? ⟨gU, i * 4, none⟩ = some (.int .i64 (kd i)) := HK3.out i him
                clear hk3 hy HRr hJr
                by_cases hkd : kd i = 1
                · rw [if_pos hkd] at HR3
                  obtain ⟨x2, rest, rfl, hax, HR5⟩ : ∃ x rest', rest = x :: rest' ∧ adr x = ⟨gU, i * 4 + 3, none⟩ ∧ Hid (rest'.map adr = undA gU kd nU (i + 1)) := by
                    have h := HR3.out
                    cases rest with
                    | nil => simp at h
                    | cons x rest' =>
                      rw [List.map_cons, List.cons_append, List.nil_append, List.cons.injEq] at h
                      exact ⟨x, rest', rfl, h.1, h.2⟩
                  obtain ⟨fn, tmps, assign, body, hy, hRr⟩ := HY.out (pre ++ [x]) x2 W3 hJ3 (by rw [hxs]; simp)
                  rw [hax] at hy
                  have HRr := Lib.hid hRr
                  clear hRr hax HR3
                  rw [hkd] at kk
                  clear hkd
                  gi_wp2
                  refine HRr.out.mono ?_
                  rintro e W4 (⟨rfl, hJ4, hk4⟩ | ⟨rfl, hJx4⟩)
                  · have HX4 := Lib.hid (hk4.x _ _ HX3.out)
                    have HB4 := Lib.hid (hk4.s _ _ HB3.out)
                    have HK4 : Hid (∀ j, j < nU → W4.cell? ⟨gU, j * 4, none⟩ = some (.int .i64 (kd j))) := fun j hj => hk4.k j _ (HK3.out j hj)
                    clear hk4
                    gi_wp2
                    go_roundw
                    case rel => exact ⟨i + 1, pre ++ [x] ++ [x2], rest, by go_num, by omega, by rw [hxs]; simp, HR5, HX4, HB4, HK4, hJ4⟩
                    case measure => simp [intOf]; omega
                  · gi_wp2
                    refine bodyPost_ret (results_none rfl _ _ _) rfl ?_
                    exact ⟨⟨_, rfl⟩, .inr ⟨pre ++ [x] ++ [x2], ⟨rest, by rw [hxs]; simp⟩, hJx4⟩⟩
                · rw [if_neg hkd, List.nil_append] at HR3
                  have tt : (kd i == 1) = false := by rw [beq_eq_false_iff_ne]; exact hkd
                  clear hkd
                  generalize kd i = kdi at *
                  gi_wp2
                  refine ⟨fun _ h => (by cases h), ?_⟩
                  gi_wp2
                  go_roundw
                  case rel => exact ⟨i + 1, pre ++ [x], rest, by go_num, by omega, by rw [hxs]; simp, HR3, HX3, HB3, HK3, hJ3⟩
                  case measure => simp [intOf]; omega
              · gi_wp2
                refine bodyPost_ret (results_none rfl _ _ _) rfl ?_
                exact ⟨⟨_, rfl⟩, .inr ⟨pre ++ [x], ⟨rest, by rw [hxs]; simp⟩, hJx3⟩⟩
            · have hin : i = nU := by omega
              subst i
              have hnil : rest = [] := by
                have h := HR.out
                rw [undA_nil] at h
                simpa using h
              gi_wp2
              go_end0
              exact ⟨⟨_, rfl⟩, .inl ⟨pre, by rw [hxs, hnil]; simp, hJr⟩⟩
end Go.Proofs.Ytjeapnhaakppeaa
