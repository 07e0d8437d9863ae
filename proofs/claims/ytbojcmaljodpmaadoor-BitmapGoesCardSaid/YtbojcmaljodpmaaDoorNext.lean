/-
  Contracts of the bitmap's Next and Count: loops over the iterator.
-/
import Derived.Test.YtbojcmaljodpmaaDoorIter
namespace Go.Proofs.YtbojcmaljodpmaaDoor
open Go.ChangeShapes Go.WideShapes Go.ChangeAt Go.RowKit Go.Shelf
set_option linter.unusedVariables false
attribute [local go_sem] Oper.semAt_some

def nxV (L : List Nat) : Value := .tuple #[.int .i64 (L.headD 0 : Nat), .bool (!L.isEmpty)]

theorem cell_new_l (w : World) (v : Value) (t : TypeId) : (w.alloc (.cells #[v] t)).cell? ⟨w.heap.size, 0, none⟩ = some v ∧ (w.alloc (.cells #[v] t)).frozen? ⟨w.heap.size, 0, none⟩ = false := by
  have h := heap_alloc_new w (.cells #[v] t)
  exact ⟨by rw [cell_of_row _ _ 0 _ t (0, 0) h]; rfl, by unfold World.frozen?; rw [h]; rfl⟩
theorem cell_alloc_l {w : World} {a : Addr} {v : Value} (o : Obj) (h : w.cell? a = some v) : (w.alloc o).cell? a = some v :=
  (World.cell?_alloc_lt w o a (World.block_lt_of_cell? w a h)).trans h
theorem frozen_alloc_l {w : World} {a : Addr} {v : Value} (o : Obj) (h : w.cell? a = some v) (hf : w.frozen? a = false) : (w.alloc o).frozen? a = false :=
  (World.frozen?_of_block (w := w) (a := a) (Below.heap_alloc w o a.block (World.block_lt_of_cell? w a h))).trans hf

/-- Four new one-cell blocks. -/
theorem four (w : World) (v0 v1 v2 v3 : Value) (t0 t1 t2 t3 : TypeId) :
    ∃ W0, W0 = ((((w.alloc (.cells #[v0] t0)).alloc (.cells #[v1] t1)).alloc (.cells #[v2] t2)).alloc (.cells #[v3] t3)) ∧ W0.heap.size = w.heap.size + 4 ∧ Below w.heap.size w W0 ∧
      (W0.cell? ⟨w.heap.size, 0, none⟩ = some v0 ∧ W0.frozen? ⟨w.heap.size, 0, none⟩ = false) ∧ (W0.cell? ⟨w.heap.size + 1, 0, none⟩ = some v1 ∧ W0.frozen? ⟨w.heap.size + 1, 0, none⟩ = false) ∧
      W0.cell? ⟨w.heap.size + 1 + 1, 0, none⟩ = some v2 ∧ W0.cell? ⟨w.heap.size + 1 + 1 + 1, 0, none⟩ = some v3 := by
  have c0 := cell_new_l w v0 t0
  have c1 := cell_new_l (w.alloc (.cells #[v0] t0)) v1 t1
  have c2 := cell_new_l ((w.alloc (.cells #[v0] t0)).alloc (.cells #[v1] t1)) v2 t2
  have c3 := cell_new_l (((w.alloc (.cells #[v0] t0)).alloc (.cells #[v1] t1)).alloc (.cells #[v2] t2)) v3 t3
  simp only [World.size_alloc] at c1 c2 c3
  refine ⟨_, rfl, by simp, ((((Below.refl _ w).alloc (Nat.le_refl _) _).alloc (by simp) _).alloc (by simp; omega) _).alloc (by simp; omega) _, ⟨?_, ?_⟩, ⟨?_, ?_⟩, ?_, ?_⟩
  · exact cell_alloc_l _ (cell_alloc_l _ (cell_alloc_l _ c0.1))
  · exact frozen_alloc_l _ (cell_alloc_l _ (cell_alloc_l _ c0.1)) (frozen_alloc_l _ (cell_alloc_l _ c0.1) (frozen_alloc_l _ c0.1 c0.2))
  · exact cell_alloc_l _ (cell_alloc_l _ c1.1)
  · exact frozen_alloc_l _ (cell_alloc_l _ c1.1) (frozen_alloc_l _ c1.1 c1.2)
  · exact cell_alloc_l _ c2.1
  · exact c3.1

set_option maxRecDepth 100000 in
set_option maxHeartbeats 2000000 in
theorem next_in (bp bw bound : Nat) (ws : List Nat) (i : Int) (w : World) (hB : Bm w bp bw bound ws) (hT : Tab w) (hlo : -9223372036854775808 ≤ i) (hhi : i ≤ 9223372036854775807) :
    CallsIn Fence.wide 8 Tryd.prog 13 #[.pointer (some ⟨bp, 0, none⟩), .int .i64 i] w fun e W' => e = .returned (nxV (mem (bitAt ws) i.toNat bound)) ∧ Below w.heap.size w W' := by
  have hltp := hB.ltP
  have hltw := hB.ltW
  have hlt0 := hT.pos
  obtain ⟨L, HLd⟩ : ∃ L, Hid (mem (bitAt ws) i.toNat bound = L) := ⟨_, rfl⟩
  rw [HLd.out]
  refine callsIn_of_wp_marks Tryd.func13 rfl trivial ?_ rfl
  simp only [Tryd.ntmps13, List.size_toArray, List.length_cons, List.length_nil, Nat.reduceAdd, Nat.reduceSub, Array.replicate_succ, Array.replicate_zero, List.push_toArray, List.append_toArray, List.nil_append, List.cons_append]
  gi_wp2_with ((refine ⟨trivial, ?_⟩; gi_at_call 17; refine (callsIn_wide.2 (members_any bp i _)).mono ?_; rintro e w' ⟨rfl, rfl⟩))
  obtain ⟨W0, hW0, hsz, hB0, ⟨c0, f0⟩, ⟨c1, f1⟩, c2, c3⟩ := four w (.int .i64 0) (.bool false) (.pointer (some ⟨bp, 0, none⟩)) (.int .i64 i) 3 4 24 3
  rw [← hW0]
  have HS := Lib.hid hsz
  clear hW0 hsz
  have hBm := hB.below hB0 hltp hltw
  have hTb := hT.below hB0 hlt0
  have hN : w.heap.size ≤ W0.heap.size := hB0.size
  have hst := iter_stops 7 (by omega) (w.heap.size + 1 + 1 + 1) (w.heap.size + 1 + 1) bp bw w.heap.size bound ws i W0 c3 c2 hBm hTb hlt0 hltp hltw hlo hhi
  rw [HLd.out] at hst
  clear HLd
  refine wpIn_rangeFunc_ownF rfl (by omega) (gf := 18) (lb := #[.pointer (some ⟨w.heap.size + 1 + 1 + 1, 0, none⟩), .pointer (some ⟨w.heap.size + 1 + 1, 0, none⟩)]) rfl trivial (enters_of Tryd.func18 (by kernel_rfl) rfl)
    hst Kp_t (Kp_b hN) (Below.refl _ _) (fun _ => rfl)
    (fun pre W => (pre = [] ∧ W.cell? ⟨w.heap.size, 0, none⟩ = some (.int .i64 0) ∧ W.frozen? ⟨w.heap.size, 0, none⟩ = false ∧ W.cell? ⟨w.heap.size + 1, 0, none⟩ = some (.bool false) ∧ W.frozen? ⟨w.heap.size + 1, 0, none⟩ = false) ∧ Below w.heap.size w W)
    (fun c pre W => (c = .ret ∧ ∃ x : Nat, pre = [x] ∧ W.cell? ⟨w.heap.size, 0, none⟩ = some (.int .i64 x) ∧ W.cell? ⟨w.heap.size + 1, 0, none⟩ = some (.bool true)) ∧ Below w.heap.size w W)
    (OwnFrom.and (Own.from (fun s A B row hs hg hr => ⟨hs.1, cell_kept hs.2.1 hg hr, (frozen_kept hs.2.1 hg hr).trans hs.2.2.1, cell_kept hs.2.2.2.1 hg hr, (frozen_kept hs.2.2.2.1 hg hr).trans hs.2.2.2.2⟩) _) (ownFrom_below (Nat.le_refl _) hN))
    (fun c => OwnFrom.and (Own.from (fun s A B row hs hg hr => by
      obtain ⟨h1, x, h2, h3, h4⟩ := hs
      exact ⟨h1, x, h2, cell_kept h3 hg hr, cell_kept h4 hg hr⟩) _) (ownFrom_below (Nat.le_refl _) hN))
    ⟨⟨rfl, c0, f0, c1, f1⟩, hB0⟩
    (fun x => { tmps := #[.pointer (some ⟨bp, 0, none⟩), .int .i64 i, undef, undef, .pointer (some ⟨w.heap.size, 0, none⟩), .pointer (some ⟨w.heap.size + 1, 0, none⟩), .int .i64 x, .pointer (some ⟨bp, 0, none⟩), .int .i64 i, .func (.func 18) #[] #[.pointer (some ⟨w.heap.size + 1 + 1 + 1, 0, none⟩), .pointer (some ⟨w.heap.size + 1 + 1, 0, none⟩)], .int .i64 x, undef], defers := [] }) ?assign ?body ?done ?stop
  case assign =>
    intro l x W K hK
    gi_wp2
    exact hK
  case body =>
    rintro l pre x W ⟨⟨rfl, hc0, hf0, hc1, hf1⟩, hB⟩ _
    have hc1' : (W.setCell ⟨w.heap.size, 0, none⟩ (.int .i64 x)).cell? ⟨w.heap.size + 1, 0, none⟩ = some (.bool false) := (World.cell?_setCell_other W _ _ _ (by simp)).trans hc1
    have hf1' : (W.setCell ⟨w.heap.size, 0, none⟩ (.int .i64 x)).frozen? ⟨w.heap.size + 1, 0, none⟩ = false := by rw [World.frozen?_setCell]; exact hf1
    have hx0 : (W.setCell ⟨w.heap.size, 0, none⟩ (.int .i64 x)).cell? ⟨w.heap.size, 0, none⟩ = some (.int .i64 x) := World.cell?_setCell_same' _ _ _ (by rw [hc0]; rfl)
    gi_wp2
    refine ⟨(KeepsOthers.setCell _ _ _).trans (KeepsOthers.setCell _ _ _), ⟨rfl, x, rfl, ?_, ?_⟩, (hB.setCell (p := ⟨w.heap.size, 0, none⟩) (Nat.le_refl _) _).setCell (p := ⟨w.heap.size + 1, 0, none⟩) (by simp) _⟩
    · exact (World.cell?_setCell_other _ _ _ _ (by simp)).trans hx0
    · exact World.cell?_setCell_same' _ _ _ (by rw [hc1']; rfl)
  case done =>
    rintro D ys W hD rfl ⟨⟨rfl, hc0, hf0, hc1, hf1⟩, hB⟩ hK
    have hc1' : (W.setCell ⟨w.heap.size, 0, none⟩ (.int .i64 0)).cell? ⟨w.heap.size + 1, 0, none⟩ = some (.bool false) := (World.cell?_setCell_other W _ _ _ (by simp)).trans hc1
    have hf1' : (W.setCell ⟨w.heap.size, 0, none⟩ (.int .i64 0)).frozen? ⟨w.heap.size + 1, 0, none⟩ = false := by rw [World.frozen?_setCell]; exact hf1
    have hx0 : (W.setCell ⟨w.heap.size, 0, none⟩ (.int .i64 0)).cell? ⟨w.heap.size, 0, none⟩ = some (.int .i64 0) := World.cell?_setCell_same' _ _ _ (by rw [hc0]; rfl)
    gi_wp2
    have hK' := ((KeepsOthers.setCell W ⟨w.heap.size, 0, none⟩ (.int .i64 0)).trans (KeepsOthers.setCell _ ⟨w.heap.size + 1, 0, none⟩ (.bool false))).same D _ hK rfl
    refine ⟨by simp, .inl ⟨_, _, rfl, run_takeDeferred hK', ?_⟩⟩
    have d0 := cell_kept ((World.cell?_setCell_other _ ⟨w.heap.size + 1, 0, none⟩ ⟨w.heap.size, 0, none⟩ (.bool false) (by simp)).trans hx0) (grownBy_putObj' _ D (.deferred none)) (fun r e => by cases e; exact ⟨_, hK', rfl⟩)
    have d1 := cell_kept (World.cell?_setCell_same' (W.setCell ⟨w.heap.size, 0, none⟩ (.int .i64 0)) ⟨w.heap.size + 1, 0, none⟩ (.bool false) (by rw [hc1']; rfl)) (grownBy_putObj' _ D (.deferred none)) (fun r e => by cases e; exact ⟨_, hK', rfl⟩)
    refine ⟨.tuple #[.int .i64 0, .bool false], ?_, rfl, ((hB.setCell (p := ⟨w.heap.size, 0, none⟩) (Nat.le_refl _) _).setCell (p := ⟨w.heap.size + 1, 0, none⟩) (by simp) _).trans (belowK_b (w := w) (Nat.le_refl _) _ D _ _ (by omega) hK' rfl rfl)⟩
    simp [results, Tryd.f13, go_sem, d0, d1]
  case stop =>
    rintro D c pre W hD hpre ⟨⟨rfl, x, rfl, hc0, hc1⟩, hB⟩ hK
    gi_wp2
    refine ⟨by simp, .inl ⟨_, _, rfl, run_takeDeferred hK, ?_⟩⟩
    have d0 := cell_kept hc0 (grownBy_putObj' _ D (.deferred none)) (fun r e => by cases e; exact ⟨_, hK, rfl⟩)
    have d1 := cell_kept hc1 (grownBy_putObj' _ D (.deferred none)) (fun r e => by cases e; exact ⟨_, hK, rfl⟩)
    refine ⟨.tuple #[.int .i64 x, .bool true], ?_, ?_, hB.trans (belowK_b (w := w) (Nat.le_refl _) W D _ _ (by omega) hK rfl rfl)⟩
    · simp [results, Tryd.f13, go_sem, d0, d1]
    · obtain ⟨r, rfl⟩ := hpre
      simp [nxV]

theorem next_any (bp bw bound : Nat) (ws : List Nat) (i : Int) (w : World) (hB : Bm w bp bw bound ws) (hT : Tab w) (hlo : -9223372036854775808 ≤ i) (hhi : i ≤ 9223372036854775807) :
    Calls Tryd.prog 13 #[.pointer (some ⟨bp, 0, none⟩), .int .i64 i] w fun e W' => e = .returned (nxV (mem (bitAt ws) i.toNat bound)) ∧ w.grownBy W' none :=
  (callsIn_wide.1 (next_in bp bw bound ws i w hB hT hlo hhi)).mono fun _ _ ⟨h1, h2⟩ => ⟨h1, of_below h2⟩

set_option maxRecDepth 100000 in
set_option maxHeartbeats 2000000 in
theorem count_in (bp bw bound : Nat) (ws : List Nat) (i to : Int) (w : World) (hB : Bm w bp bw bound ws) (hT : Tab w) (hlo : -9223372036854775808 ≤ i) (hhi : i ≤ 9223372036854775807) :
    CallsIn Fence.wide 8 Tryd.prog 15 #[.pointer (some ⟨bp, 0, none⟩), .int .i64 i, .int .i64 to] w fun e W' => e = .returned (.int .i64 (cnt (mem (bitAt ws) i.toNat bound) to : Nat)) ∧ Below w.heap.size w W' := by
  have hltp := hB.ltP
  have hltw := hB.ltW
  have hlt0 := hT.pos
  have hsorted := mem_sorted (bitAt ws) i.toNat bound
  have hLle : (mem (bitAt ws) i.toNat bound).length ≤ 65536 := by
    unfold mem
    have h1 := List.length_filter_le (fun j => decide (i.toNat ≤ j) && bitAt ws j) (List.range bound)
    rw [List.length_range] at h1
    have := hB.le
    omega
  obtain ⟨L, HLd⟩ : ∃ L, Hid (mem (bitAt ws) i.toNat bound = L) := ⟨_, rfl⟩
  rw [HLd.out] at hsorted hLle ⊢
  have HSo := Lib.hid hsorted
  clear hsorted
  refine callsIn_of_wp_marks Tryd.func15 rfl trivial ?_ rfl
  simp only [Tryd.ntmps15, List.size_toArray, List.length_cons, List.length_nil, Nat.reduceAdd, Nat.reduceSub, Array.replicate_succ, Array.replicate_zero, List.push_toArray, List.append_toArray, List.nil_append, List.cons_append]
  gi_wp2_with ((refine ⟨trivial, ?_⟩; gi_at_call 17; refine (callsIn_wide.2 (members_any bp i _)).mono ?_; rintro e w' ⟨rfl, rfl⟩))
  obtain ⟨W0, hW0, hsz, hB0, ⟨c0, f0⟩, ⟨c1, f1⟩, c2, c3⟩ := four w (.int .i64 to) (.int .i64 0) (.pointer (some ⟨bp, 0, none⟩)) (.int .i64 i) 3 3 24 3
  rw [← hW0]
  have HS := Lib.hid hsz
  clear hW0 hsz
  have hBm := hB.below hB0 hltp hltw
  have hTb := hT.below hB0 hlt0
  have hN : w.heap.size ≤ W0.heap.size := hB0.size
  have hst := iter_stops 7 (by omega) (w.heap.size + 1 + 1 + 1) (w.heap.size + 1 + 1) bp bw w.heap.size bound ws i W0 c3 c2 hBm hTb hlt0 hltp hltw hlo hhi
  rw [HLd.out] at hst
  clear HLd
  refine wpIn_rangeFunc_ownF rfl (by omega) (gf := 18) (lb := #[.pointer (some ⟨w.heap.size + 1 + 1 + 1, 0, none⟩), .pointer (some ⟨w.heap.size + 1 + 1, 0, none⟩)]) rfl trivial (enters_of Tryd.func18 (by kernel_rfl) rfl)
    hst Kp_t (Kp_b hN) (Below.refl _ _) (fun _ => rfl)
    (fun pre W => ((∀ y ∈ pre, ((y : Nat) : Int) < to) ∧ W.cell? ⟨w.heap.size, 0, none⟩ = some (.int .i64 to) ∧ W.cell? ⟨w.heap.size + 1, 0, none⟩ = some (.int .i64 (pre.length : Nat)) ∧ W.frozen? ⟨w.heap.size + 1, 0, none⟩ = false ∧ W.cell? ⟨w.heap.size + 1 + 1, 0, none⟩ = some (.pointer (some ⟨bp, 0, none⟩))) ∧ Below w.heap.size w W)
    (fun c pre W => (c = .exit 0 ∧ ∃ (p : List Nat) (x : Nat), pre = p ++ [x] ∧ (∀ y ∈ p, ((y : Nat) : Int) < to) ∧ to ≤ x ∧ W.cell? ⟨w.heap.size + 1, 0, none⟩ = some (.int .i64 (p.length : Nat))) ∧ Below w.heap.size w W)
    (OwnFrom.and (Own.from (fun s A B row hs hg hr => ⟨hs.1, cell_kept hs.2.1 hg hr, cell_kept hs.2.2.1 hg hr, (frozen_kept hs.2.2.1 hg hr).trans hs.2.2.2.1, cell_kept hs.2.2.2.2 hg hr⟩) _) (ownFrom_below (Nat.le_refl _) hN))
    (fun c => OwnFrom.and (Own.from (fun s A B row hs hg hr => by
      obtain ⟨h1, p, x, h2, h3, h4, h5⟩ := hs
      exact ⟨h1, p, x, h2, h3, h4, cell_kept h5 hg hr⟩) _) (ownFrom_below (Nat.le_refl _) hN))
    ⟨⟨by simp, c0, c1, f1, c2⟩, hB0⟩
    (fun x => { tmps := #[.pointer (some ⟨bp, 0, none⟩), .int .i64 i, .int .i64 to, undef, undef, .pointer (some ⟨w.heap.size, 0, none⟩), .int .i64 0, .pointer (some ⟨w.heap.size + 1, 0, none⟩), .int .i64 x, .pointer (some ⟨bp, 0, none⟩), .int .i64 i, .func (.func 18) #[] #[.pointer (some ⟨w.heap.size + 1 + 1 + 1, 0, none⟩), .pointer (some ⟨w.heap.size + 1 + 1, 0, none⟩)], .int .i64 x, undef, undef, undef, undef, undef, undef], defers := [] }) ?assign ?body ?done ?stop
  case assign =>
    intro l x W K hK
    gi_wp2
    exact hK
  case body =>
    rintro l pre x W ⟨⟨hall, hc0, hc1, hf1, hc2⟩, hB⟩ hpl
    have HAll := Lib.hid hall
    clear hall
    by_cases hx : to ≤ (x : Int)
    · gi_wp2
      exact ⟨KeepsOthers.refl _, ⟨rfl, pre, x, rfl, HAll.out, hx, hc1⟩, hB⟩
    · gi_wp2
      refine ⟨KeepsOthers.setCell _ _ _, ⟨(Below.refl w.heap.size W).setCell (p := ⟨w.heap.size + 1, 0, none⟩) (by simp) _, fun e => ?_⟩, ⟨?_, ?_, ?_, ?_, ?_⟩, hB.setCell (p := ⟨w.heap.size + 1, 0, none⟩) (by simp) _⟩
      · exact (World.cell?_setCell_other _ _ _ _ (by simp)).trans e
      · intro y hy
        rcases List.mem_append.1 hy with h | h
        · exact HAll.out y h
        · simp at h; subst h; omega
      · exact (World.cell?_setCell_other _ _ _ _ (by simp)).trans hc0
      · have e : (((pre ++ [x]).length : Nat) : Int) = (pre.length : Int) + 1 := by simp
        rw [e]
        exact World.cell?_setCell_same' _ _ _ (by rw [hc1]; rfl)
      · rw [World.frozen?_setCell]; exact hf1
      · exact (World.cell?_setCell_other _ _ _ _ (by simp)).trans hc2
  case done =>
    rintro D ys W hD rfl ⟨⟨hall, hc0, hc1, hf1, hc2⟩, hB⟩ hK
    have HC := Lib.hid (cnt_all _ to hall)
    clear hall
    gi_wp2
    refine ⟨by simp, .inl ⟨_, _, rfl, run_takeDeferred hK, ?_⟩⟩
    exact ⟨_, results_tmp rfl _ _ _, by rw [HC.out]; rfl, hB.trans (belowK_b (w := w) (Nat.le_refl _) W D _ _ (by omega) hK rfl rfl)⟩
  case stop =>
    rintro D c pre W hD hpre ⟨⟨rfl, p, x, rfl, hall, hx, hc1⟩, hB⟩ hK
    have HC := Lib.hid (cnt_prefix L p x to HSo.out hpre hx hall)
    clear hall
    gi_wp2
    refine ⟨by simp, .inl ⟨_, _, rfl, run_takeDeferred hK, ?_⟩⟩
    exact ⟨_, results_tmp rfl _ _ _, by rw [HC.out]; rfl, hB.trans (belowK_b (w := w) (Nat.le_refl _) W D _ _ (by omega) hK rfl rfl)⟩

theorem count_any (bp bw bound : Nat) (ws : List Nat) (i to : Int) (w : World) (hB : Bm w bp bw bound ws) (hT : Tab w) (hlo : -9223372036854775808 ≤ i) (hhi : i ≤ 9223372036854775807) :
    Calls Tryd.prog 15 #[.pointer (some ⟨bp, 0, none⟩), .int .i64 i, .int .i64 to] w fun e W' => e = .returned (.int .i64 (cnt (mem (bitAt ws) i.toNat bound) to : Nat)) ∧ w.grownBy W' none :=
  (callsIn_wide.1 (count_in bp bw bound ws i to w hB hT hlo hhi)).mono fun _ _ ⟨h1, h2⟩ => ⟨h1, of_below h2⟩
end Go.Proofs.YtbojcmaljodpmaaDoor
