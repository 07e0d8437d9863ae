/-
  Contracts of New, Clone, Reads, Holds, Undos, Reset. Printed by txlog_ops.py.
-/
import Derived.Test.YtjeapnhaakppeaaRoots
import Derived.WalkSpells
namespace Go.Proofs.Ytjeapnhaakppeaa
open Go.ChangeShapes Go.WideShapes Go.ChangeAt Go.RowKit Go.Shelf
set_option linter.unusedVariables false

theorem new_any (mr mu : Nat) (hr : mr ≤ 200) (hu : mu ≤ 200) (w : World) :
    Calls Try.prog 10 #[.int .i64 mr, .int .i64 mu] w fun e w' => e = .returned (.pointer (some ⟨w.heap.size, 0, none⟩)) ∧ Lg w' w.heap.size (fun k => k = w.heap.size) mr mu [] [] [] [] ∧ w.grownBy w' none := by
  go_enter Try.func10, Try.ntmps10
  go_wp2_with fail
  refine (bound_any mr hr w).mono ?_
  rintro e w1 ⟨rfl, rfl⟩
  go_wp2_with fail
  refine (bound_any mu hu w).mono ?_
  rintro e w1 ⟨rfl, rfl⟩
  go_wp2_with fail
  go_ret
  refine ⟨rfl, ⟨.slice none 0 0, .slice none 0 0, .slice none 0 0, .slice none 0 0, heap_alloc_new w _, World.ownsRow_nil _ _ _ _, World.ownsRow_nil _ _ _ _, World.ownsRow_nil _ _ _ _, World.ownsRow_nil _ _ _ _, by simp [Value.ownBlock], by simp [Value.ownBlock], by simp [Value.ownBlock], by simp [Value.ownBlock], by simp [Value.ownBlock], rfl, fun k hk => by simp [hk], hr, hu, by simp, by simp, by simp, by simp⟩, World.grownBy_alloc w _ none⟩

set_option maxHeartbeats 1000000 in
theorem clone3_any (v : Value) (n : Nat) (xs : List Value) (w : World) (h : w.ownsRow 0 3 1 v n xs) (hn : n ≤ 200) (h1 : ∀ u ∈ xs, u.oneCell' = true) :
    Calls Try.prog 28 #[v] w fun e w' => (∃ v', e = .returned v' ∧ w'.ownsRow w.heap.size 3 1 v' n xs) ∧ w.grownBy w' none := by
  have q22 : ∀ (w : World) (a : Option Addr) (n c n' c' : Nat), (binOp .eql 22 (.slice a n c) (.slice none n' c')).run Try.prog w = .ok (.bool a.isNone) w := fun w a n c n' c' => Lib.run_eql_slice_nil w _ _ a n c n' c' Try.underlying22
  have hh := h
  rcases h.2 with ⟨rfl, rfl⟩ | ⟨g, cap, cur, rfl, _, hg, hc, hm, hcs, ht⟩
  · have HX : Hid (xs = []) := by have := h.1; unfold Hid; simpa using this
    go_enter Try.func28, Try.ntmps28
    go_wp2_with fail
    go_ret
    refine ⟨⟨_, rfl, ?_⟩, grownBy_refl _ _⟩
    rw [HX.out]; exact World.ownsRow_nil _ _ _ _
  · obtain ⟨i0, hi0, hz0, hz1, hz2⟩ := info_parts info3
    have HI := Lib.hid hi0; have HZ0 := Lib.hid hz0; have HZ1 := Lib.hid hz1; have HZ2 := Lib.hid hz2
    have HH := Lib.hid hh
    have HL := Lib.hid h.1
    have H1 := Lib.hid h1
    have hgl : g < w.heap.size := (Array.getElem?_eq_some_iff.1 hg).1
    clear hi0 hz0 hz1 hz2 hh h hg hcs ht h1
    go_enter Try.func28, Try.ntmps28
    go_wp2_with (at_builtin; go_must (refine wpList_append_own _ rfl _ _ 22 rfl w.heap.size 3 i0 (.int .i64 0) 1 8 Try.underlying22 HI.out HZ0.out HZ1.out HZ2.out rfl (by decide) (.slice (some ⟨w.heap.size, 0, none⟩) 0 0) 0 [] rfl (World.ownsRow_made w #[] 0 (Nat.le_refl _) (by unfold maxLen; omega) rfl) ⟨g, 0, none⟩ n cap xs rfl HL.out (fun j u hu => by rw [Addr.add_lit, Nat.zero_add, World.cell?_alloc_lt w _ ⟨g, j, none⟩ hgl, HH.out.cellAt j (by have := HL.out; have := (List.getElem?_eq_some_iff.1 hu).1; omega)]; exact hu) H1.out (by unfold maxLen; omega) (by omega) (by simp) ?_); intro v' w1 hown' hgrow _; have HO := Lib.hid hown'; have HG := Lib.hid hgrow; clear hown' hgrow)
    go_ret
    refine ⟨⟨_, rfl, ?_⟩, gb_new (World.grownBy_alloc w _ none) HG.out (by simp [Value.ownBlock])⟩
    have := HO.out
    rwa [Nat.zero_add, List.nil_append] at this

set_option maxHeartbeats 1000000 in
theorem clone33_any (v : Value) (n : Nat) (xs : List Value) (w : World) (h : w.ownsRow 0 33 2 v n xs) (hn : n ≤ 200) (h1 : ∀ u ∈ xs, u.oneCell' = true) :
    Calls Try.prog 29 #[v] w fun e w' => (∃ v', e = .returned v' ∧ w'.ownsRow w.heap.size 33 2 v' n xs) ∧ w.grownBy w' none := by
  have q22 : ∀ (w : World) (a : Option Addr) (n c n' c' : Nat), (binOp .eql 34 (.slice a n c) (.slice none n' c')).run Try.prog w = .ok (.bool a.isNone) w := fun w a n c n' c' => Lib.run_eql_slice_nil w _ _ a n c n' c' Try.underlying34
  have hh := h
  rcases h.2 with ⟨rfl, rfl⟩ | ⟨g, cap, cur, rfl, _, hg, hc, hm, hcs, ht⟩
  · have HX : Hid (xs = []) := by have := h.1; unfold Hid; simpa using this
    go_enter Try.func29, Try.ntmps29
    go_wp2_with fail
    go_ret
    refine ⟨⟨_, rfl, ?_⟩, grownBy_refl _ _⟩
    rw [HX.out]; exact World.ownsRow_nil _ _ _ _
  · obtain ⟨i0, hi0, hz0, hz1, hz2⟩ := info_parts info33
    have HI := Lib.hid hi0; have HZ0 := Lib.hid hz0; have HZ1 := Lib.hid hz1; have HZ2 := Lib.hid hz2
    have HH := Lib.hid hh
    have HL := Lib.hid h.1
    have H1 := Lib.hid h1
    have hgl : g < w.heap.size := (Array.getElem?_eq_some_iff.1 hg).1
    clear hi0 hz0 hz1 hz2 hh h hg hcs ht h1
    go_enter Try.func29, Try.ntmps29
    go_wp2_with (at_builtin; go_must (refine wpList_append_own _ rfl _ _ 34 rfl w.heap.size 33 i0 (.agg #[.int .i64 0, .int .i64 0]) 2 16 Try.underlying34 HI.out HZ0.out HZ1.out HZ2.out rfl (by decide) (.slice (some ⟨w.heap.size, 0, none⟩) 0 0) 0 [] rfl (World.ownsRow_made w #[] 0 (Nat.le_refl _) (by unfold maxLen; omega) rfl) ⟨g, 0, none⟩ n cap xs rfl HL.out (fun j u hu => by rw [Addr.add_lit, Nat.zero_add, World.cell?_alloc_lt w _ ⟨g, j, none⟩ hgl, HH.out.cellAt j (by have := HL.out; have := (List.getElem?_eq_some_iff.1 hu).1; omega)]; exact hu) H1.out (by unfold maxLen; omega) (by omega) (by simp) ?_); intro v' w1 hown' hgrow _; have HO := Lib.hid hown'; have HG := Lib.hid hgrow; clear hown' hgrow)
    go_ret
    refine ⟨⟨_, rfl, ?_⟩, gb_new (World.grownBy_alloc w _ none) HG.out (by simp [Value.ownBlock])⟩
    have := HO.out
    rwa [Nat.zero_add, List.nil_append] at this

set_option maxHeartbeats 1000000 in
theorem clone38_any (v : Value) (n : Nat) (xs : List Value) (w : World) (h : w.ownsRow 0 38 4 v n xs) (hn : n ≤ 200) (h1 : ∀ u ∈ xs, u.oneCell' = true) :
    Calls Try.prog 30 #[v] w fun e w' => (∃ v', e = .returned v' ∧ w'.ownsRow w.heap.size 38 4 v' n xs) ∧ w.grownBy w' none := by
  have q22 : ∀ (w : World) (a : Option Addr) (n c n' c' : Nat), (binOp .eql 43 (.slice a n c) (.slice none n' c')).run Try.prog w = .ok (.bool a.isNone) w := fun w a n c n' c' => Lib.run_eql_slice_nil w _ _ a n c n' c' Try.underlying43
  have hh := h
  rcases h.2 with ⟨rfl, rfl⟩ | ⟨g, cap, cur, rfl, _, hg, hc, hm, hcs, ht⟩
  · have HX : Hid (xs = []) := by have := h.1; unfold Hid; simpa using this
    go_enter Try.func30, Try.ntmps30
    go_wp2_with fail
    go_ret
    refine ⟨⟨_, rfl, ?_⟩, grownBy_refl _ _⟩
    rw [HX.out]; exact World.ownsRow_nil _ _ _ _
  · obtain ⟨i0, hi0, hz0, hz1, hz2⟩ := info_parts info38
    have HI := Lib.hid hi0; have HZ0 := Lib.hid hz0; have HZ1 := Lib.hid hz1; have HZ2 := Lib.hid hz2
    have HH := Lib.hid hh
    have HL := Lib.hid h.1
    have H1 := Lib.hid h1
    have hgl : g < w.heap.size := (Array.getElem?_eq_some_iff.1 hg).1
    clear hi0 hz0 hz1 hz2 hh h hg hcs ht h1
    go_enter Try.func30, Try.ntmps30
    go_wp2_with (at_builtin; go_must (refine wpList_append_own _ rfl _ _ 43 rfl w.heap.size 38 i0 (.agg #[.int .i64 0, .int .i64 0, .int .i64 0, .int .i64 0]) 4 32 Try.underlying43 HI.out HZ0.out HZ1.out HZ2.out rfl (by decide) (.slice (some ⟨w.heap.size, 0, none⟩) 0 0) 0 [] rfl (World.ownsRow_made w #[] 0 (Nat.le_refl _) (by unfold maxLen; omega) rfl) ⟨g, 0, none⟩ n cap xs rfl HL.out (fun j u hu => by rw [Addr.add_lit, Nat.zero_add, World.cell?_alloc_lt w _ ⟨g, j, none⟩ hgl, HH.out.cellAt j (by have := HL.out; have := (List.getElem?_eq_some_iff.1 hu).1; omega)]; exact hu) H1.out (by unfold maxLen; omega) (by omega) (by simp) ?_); intro v' w1 hown' hgrow _; have HO := Lib.hid hown'; have HG := Lib.hid hgrow; clear hown' hgrow)
    go_ret
    refine ⟨⟨_, rfl, ?_⟩, gb_new (World.grownBy_alloc w _ none) HG.out (by simp [Value.ownBlock])⟩
    have := HO.out
    rwa [Nat.zero_add, List.nil_append] at this

theorem one_ints (xs : List Int) : ∀ u ∈ ints xs, u.oneCell' = true := by
  intro u hu
  obtain ⟨x, _, rfl⟩ := List.mem_map.1 hu
  rfl
theorem one_hvs (xs : List (Int × Int)) : ∀ u ∈ hvs xs, u.oneCell' = true := by
  intro u hu
  obtain ⟨x, _, hx⟩ := List.mem_flatMap.1 hu
  exact one_hv x u hx
theorem one_uvs (xs : List (Int × Int × Int × Int)) : ∀ u ∈ uvs xs, u.oneCell' = true := by
  intro u hu
  obtain ⟨x, _, hx⟩ := List.mem_flatMap.1 hu
  exact one_uv x u hx

theorem reads_any (bp : Nat) (Z : Nat → Prop) (mr mu : Nat) (R K : List Int) (H : List (Int × Int)) (U : List (Int × Int × Int × Int)) (w : World) (h : Lg w bp Z mr mu R K H U) :
    Calls Try.prog 14 #[.pointer (some ⟨bp, 0, none⟩)] w fun e w' => (∃ v', e = .returned v' ∧ w'.ownsRow w.heap.size 3 1 v' R.length (ints R)) ∧ w.grownBy w' none := by
  obtain ⟨vR, vK, vH, vU, hV⟩ := h
  have hc : w.cell? ⟨bp, 2, none⟩ = some vR := hV.blk.cell 2
  have hcl := clone3_any vR R.length (ints R) w hV.oR (Nat.le_trans hV.nR hV.lr) (one_ints R)
  obtain ⟨A, c, rfl, _, _⟩ := own_form hV.oR
  have HC := Lib.hid hcl
  clear hcl hV
  go_enter Try.func14, Try.ntmps14
  go_wp2_with fail
  refine HC.out.mono ?_
  rintro e w1 ⟨⟨v', rfl, ho⟩, hg⟩
  have HO := Lib.hid ho
  have HG := Lib.hid hg
  clear ho hg
  go_wp2_with fail
  go_ret
  exact ⟨⟨_, rfl, HO.out⟩, HG.out⟩

theorem holds__any (bp : Nat) (Z : Nat → Prop) (mr mu : Nat) (R K : List Int) (H : List (Int × Int)) (U : List (Int × Int × Int × Int)) (w : World) (h : Lg w bp Z mr mu R K H U) :
    Calls Try.prog 17 #[.pointer (some ⟨bp, 0, none⟩)] w fun e w' => (∃ v', e = .returned v' ∧ w'.ownsRow w.heap.size 33 2 v' H.length (hvs H)) ∧ w.grownBy w' none := by
  obtain ⟨vR, vK, vH, vU, hV⟩ := h
  have hc : w.cell? ⟨bp, 4, none⟩ = some vH := hV.blk.cell 4
  have hcl := clone33_any vH H.length (hvs H) w hV.oH (Nat.le_trans hV.nH hV.lu) (one_hvs H)
  obtain ⟨A, c, rfl, _, _⟩ := own_form hV.oH
  have HC := Lib.hid hcl
  clear hcl hV
  go_enter Try.func17, Try.ntmps17
  go_wp2_with fail
  refine HC.out.mono ?_
  rintro e w1 ⟨⟨v', rfl, ho⟩, hg⟩
  have HO := Lib.hid ho
  have HG := Lib.hid hg
  clear ho hg
  go_wp2_with fail
  go_ret
  exact ⟨⟨_, rfl, HO.out⟩, HG.out⟩

theorem undos__any (bp : Nat) (Z : Nat → Prop) (mr mu : Nat) (R K : List Int) (H : List (Int × Int)) (U : List (Int × Int × Int × Int)) (w : World) (h : Lg w bp Z mr mu R K H U) :
    Calls Try.prog 20 #[.pointer (some ⟨bp, 0, none⟩)] w fun e w' => (∃ v', e = .returned v' ∧ w'.ownsRow w.heap.size 38 4 v' U.length (uvs U)) ∧ w.grownBy w' none := by
  obtain ⟨vR, vK, vH, vU, hV⟩ := h
  have hc : w.cell? ⟨bp, 5, none⟩ = some vU := hV.blk.cell 5
  have hcl := clone38_any vU U.length (uvs U) w hV.oU (Nat.le_trans hV.nU hV.lu) (one_uvs U)
  obtain ⟨A, c, rfl, _, _⟩ := own_form hV.oU
  have HC := Lib.hid hcl
  clear hcl hV
  go_enter Try.func20, Try.ntmps20
  go_wp2_with fail
  refine HC.out.mono ?_
  rintro e w1 ⟨⟨v', rfl, ho⟩, hg⟩
  have HO := Lib.hid ho
  have HG := Lib.hid hg
  clear ho hg
  go_wp2_with fail
  go_ret
  exact ⟨⟨_, rfl, HO.out⟩, HG.out⟩

set_option maxHeartbeats 1000000 in
theorem reset_any (bp : Nat) (Z : Nat → Prop) (mr mu : Nat) (R K : List Int) (H : List (Int × Int)) (U : List (Int × Int × Int × Int)) (w : World) (h : Lg w bp Z mr mu R K H U) :
    Calls Try.prog 21 #[.pointer (some ⟨bp, 0, none⟩)] w fun e w' => (∃ v, e = .returned v) ∧ Lg w' bp Z mr mu [] [] [] [] ∧ Zf Z w w' := by
  obtain ⟨vR, vK, vH, vU, hV⟩ := h
  obtain ⟨A1, n1, rfl, _, _⟩ := own_form hV.oR
  obtain ⟨A2, n2, rfl, _, _⟩ := own_form hV.oK
  obtain ⟨A3, n3, rfl, _, _⟩ := own_form hV.oH
  obtain ⟨A4, n4, rfl, _, _⟩ := own_form hV.oU
  have hb := hV.blk
  have hzb := hV.zb
  have hzl := hV.zl
  have hlr := hV.lr
  have hlu := hV.lu
  have hb1 := hb.set 2 (.slice none 0 0)
  have hb2 := hb1.set 3 (.slice none 0 0)
  have hb3 := hb2.set 4 (.slice none 0 0)
  have hb4 := hb3.set 5 (.slice none 0 0)
  have c2 : w.cell? ⟨bp, 2, none⟩ = some (.slice A1 R.length n1) := hb.cell 2
  have c3 : (w.setCell ⟨bp, 2, none⟩ (.slice none 0 0)).cell? ⟨bp, 3, none⟩ = some (.slice A2 K.length n2) := hb1.cell 3
  have c4 : ((w.setCell ⟨bp, 2, none⟩ (.slice none 0 0)).setCell ⟨bp, 3, none⟩ (.slice none 0 0)).cell? ⟨bp, 4, none⟩ = some (.slice A3 H.length n3) := hb2.cell 4
  have c5 : (((w.setCell ⟨bp, 2, none⟩ (.slice none 0 0)).setCell ⟨bp, 3, none⟩ (.slice none 0 0)).setCell ⟨bp, 4, none⟩ (.slice none 0 0)).cell? ⟨bp, 5, none⟩ = some (.slice A4 U.length n4) := hb3.cell 5
  have f2 := hb.free 2
  have f3 := hb1.free 3
  have f4 := hb2.free 4
  have f5 := hb3.free 5
  have d3 : w.cell? ⟨bp, 3, none⟩ = some (.slice A2 K.length n2) := hb.cell 3
  have d4 : w.cell? ⟨bp, 4, none⟩ = some (.slice A3 H.length n3) := hb.cell 4
  have d5 : w.cell? ⟨bp, 5, none⟩ = some (.slice A4 U.length n4) := hb.cell 5
  have g3 := hb.free 3
  have g4 := hb.free 4
  have g5 := hb.free 5
  have HB := Lib.hid hb4
  have HZ := Lib.hid hzl
  clear hV hb hb1 hb2 hb3 hb4 hzl
  go_enter Try.func21, Try.ntmps21
  go_wp2_with fail
  go_end0
  refine ⟨⟨_, rfl⟩, ⟨.slice none 0 0, .slice none 0 0, .slice none 0 0, .slice none 0 0, HB.out, World.ownsRow_nil _ _ _ _, World.ownsRow_nil _ _ _ _, World.ownsRow_nil _ _ _ _, World.ownsRow_nil _ _ _ _, by simp [Value.ownBlock], by simp [Value.ownBlock], by simp [Value.ownBlock], by simp [Value.ownBlock], by simp [Value.ownBlock], hzb, fun k hk => by simp; exact HZ.out k hk, hlr, hlu, by simp, by simp, by simp, by simp⟩, ?_⟩
  have s := fun W (i : Nat) => Zf.of_gb (Z := Z) (gb_set W bp i (.slice none 0 0)) (fun g e => by cases e; exact hzb)
  exact (((s _ 2).trans (s _ 3)).trans (s _ 4)).trans (s _ 5)
end Go.Proofs.Ytjeapnhaakppeaa
