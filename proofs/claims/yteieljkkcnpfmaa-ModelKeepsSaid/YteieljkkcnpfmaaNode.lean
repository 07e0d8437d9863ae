/-
  node, of an object without pointers.
-/
import Derived.Test.YteieljkkcnpfmaaCanon
import Derived.Deep.Cut
namespace Go.Proofs.Yteieljkkcnpfmaa
open Go.ChangeShapes Go.WideShapes Go.ChangeAt Go.RowKit Go.Maps
set_option linter.unusedVariables false
def NodeP (o : Ob) (w : World) (e : Ending) (w' : World) : Prop := ∃ A3 c3, e = .returned (.agg #[.int .i64 o.s, .int .i64 o.sp, .int .i64 o.sd, .bool o.sw, .bool o.sf, .bool o.fr, .slice none 0 0, .slice A3 o.ns.length c3]) ∧ w.grownBy w' none
theorem keep8 {W W' : World} {Z : Nat → Prop} {N : Nat} {v0 v1 v2 v3 v4 v5 v6 v7 : Value} (h : W.cell? ⟨N, 0, none⟩ = some v0 ∧ W.cell? ⟨N, 1, none⟩ = some v1 ∧ W.cell? ⟨N, 2, none⟩ = some v2 ∧ W.cell? ⟨N, 3, none⟩ = some v3 ∧ W.cell? ⟨N, 4, none⟩ = some v4 ∧ W.cell? ⟨N, 5, none⟩ = some v5 ∧ W.cell? ⟨N, 6, none⟩ = some v6 ∧ W.cell? ⟨N, 7, none⟩ = some v7) (f : Zf Z W W') (z : ¬ Z N) : W'.cell? ⟨N, 0, none⟩ = some v0 ∧ W'.cell? ⟨N, 1, none⟩ = some v1 ∧ W'.cell? ⟨N, 2, none⟩ = some v2 ∧ W'.cell? ⟨N, 3, none⟩ = some v3 ∧ W'.cell? ⟨N, 4, none⟩ = some v4 ∧ W'.cell? ⟨N, 5, none⟩ = some v5 ∧ W'.cell? ⟨N, 6, none⟩ = some v6 ∧ W'.cell? ⟨N, 7, none⟩ = some v7 := by
  obtain ⟨h0, h1, h2, h3, h4, h5, h6, h7⟩ := h
  have key : ∀ (j : Nat) (v : Value), W.cell? ⟨N, j, none⟩ = some v → W'.cell? ⟨N, j, none⟩ = some v := fun j v hc => (World.cell?_of_block (a := ⟨N, j, none⟩) (f.block N (World.block_lt_of_cell? W _ hc) z)).trans hc
  exact ⟨key _ _ h0, key _ _ h1, key _ _ h2, key _ _ h3, key _ _ h4, key _ _ h5, key _ _ h6, key _ _ h7⟩
theorem keep8s {W : World} {N B : Nat} {u0 u1 u2 u3 u4 u5 u6 u7 v0 v1 v2 v3 v4 v5 v6 v7 : Value} (h : W.cell? ⟨N, 0, none⟩ = some v0 ∧ W.cell? ⟨N, 1, none⟩ = some v1 ∧ W.cell? ⟨N, 2, none⟩ = some v2 ∧ W.cell? ⟨N, 3, none⟩ = some v3 ∧ W.cell? ⟨N, 4, none⟩ = some v4 ∧ W.cell? ⟨N, 5, none⟩ = some v5 ∧ W.cell? ⟨N, 6, none⟩ = some v6 ∧ W.cell? ⟨N, 7, none⟩ = some v7) (z : ¬ N = B) : ((((((((W.setCell ⟨B, 0, none⟩ u0).setCell ⟨B, 1, none⟩ u1).setCell ⟨B, 2, none⟩ u2).setCell ⟨B, 3, none⟩ u3).setCell ⟨B, 4, none⟩ u4).setCell ⟨B, 5, none⟩ u5).setCell ⟨B, 6, none⟩ u6).setCell ⟨B, 7, none⟩ u7).cell? ⟨N, 0, none⟩ = some v0 ∧ ((((((((W.setCell ⟨B, 0, none⟩ u0).setCell ⟨B, 1, none⟩ u1).setCell ⟨B, 2, none⟩ u2).setCell ⟨B, 3, none⟩ u3).setCell ⟨B, 4, none⟩ u4).setCell ⟨B, 5, none⟩ u5).setCell ⟨B, 6, none⟩ u6).setCell ⟨B, 7, none⟩ u7).cell? ⟨N, 1, none⟩ = some v1 ∧ ((((((((W.setCell ⟨B, 0, none⟩ u0).setCell ⟨B, 1, none⟩ u1).setCell ⟨B, 2, none⟩ u2).setCell ⟨B, 3, none⟩ u3).setCell ⟨B, 4, none⟩ u4).setCell ⟨B, 5, none⟩ u5).setCell ⟨B, 6, none⟩ u6).setCell ⟨B, 7, none⟩ u7).cell? ⟨N, 2, none⟩ = some v2 ∧ ((((((((W.setCell ⟨B, 0, none⟩ u0).setCell ⟨B, 1, none⟩ u1).setCell ⟨B, 2, none⟩ u2).setCell ⟨B, 3, none⟩ u3).setCell ⟨B, 4, none⟩ u4).setCell ⟨B, 5, none⟩ u5).setCell ⟨B, 6, none⟩ u6).setCell ⟨B, 7, none⟩ u7).cell? ⟨N, 3, none⟩ = some v3 ∧ ((((((((W.setCell ⟨B, 0, none⟩ u0).setCell ⟨B, 1, none⟩ u1).setCell ⟨B, 2, none⟩ u2).setCell ⟨B, 3, none⟩ u3).setCell ⟨B, 4, none⟩ u4).setCell ⟨B, 5, none⟩ u5).setCell ⟨B, 6, none⟩ u6).setCell ⟨B, 7, none⟩ u7).cell? ⟨N, 4, none⟩ = some v4 ∧ ((((((((W.setCell ⟨B, 0, none⟩ u0).setCell ⟨B, 1, none⟩ u1).setCell ⟨B, 2, none⟩ u2).setCell ⟨B, 3, none⟩ u3).setCell ⟨B, 4, none⟩ u4).setCell ⟨B, 5, none⟩ u5).setCell ⟨B, 6, none⟩ u6).setCell ⟨B, 7, none⟩ u7).cell? ⟨N, 5, none⟩ = some v5 ∧ ((((((((W.setCell ⟨B, 0, none⟩ u0).setCell ⟨B, 1, none⟩ u1).setCell ⟨B, 2, none⟩ u2).setCell ⟨B, 3, none⟩ u3).setCell ⟨B, 4, none⟩ u4).setCell ⟨B, 5, none⟩ u5).setCell ⟨B, 6, none⟩ u6).setCell ⟨B, 7, none⟩ u7).cell? ⟨N, 6, none⟩ = some v6 ∧ ((((((((W.setCell ⟨B, 0, none⟩ u0).setCell ⟨B, 1, none⟩ u1).setCell ⟨B, 2, none⟩ u2).setCell ⟨B, 3, none⟩ u3).setCell ⟨B, 4, none⟩ u4).setCell ⟨B, 5, none⟩ u5).setCell ⟨B, 6, none⟩ u6).setCell ⟨B, 7, none⟩ u7).cell? ⟨N, 7, none⟩ = some v7 :=
  keep8 h ((((((((((Zf.refl (fun k => k = B) W).set (by rfl)).set (by rfl)).set (by rfl)).set (by rfl)).set (by rfl)).set (by rfl)).set (by rfl)).set (by rfl))) z
theorem keep8g {W W' : World} {N : Nat} {v0 v1 v2 v3 v4 v5 v6 v7 : Value} (h : W.cell? ⟨N, 0, none⟩ = some v0 ∧ W.cell? ⟨N, 1, none⟩ = some v1 ∧ W.cell? ⟨N, 2, none⟩ = some v2 ∧ W.cell? ⟨N, 3, none⟩ = some v3 ∧ W.cell? ⟨N, 4, none⟩ = some v4 ∧ W.cell? ⟨N, 5, none⟩ = some v5 ∧ W.cell? ⟨N, 6, none⟩ = some v6 ∧ W.cell? ⟨N, 7, none⟩ = some v7) (g : W.grownBy W' none) : W'.cell? ⟨N, 0, none⟩ = some v0 ∧ W'.cell? ⟨N, 1, none⟩ = some v1 ∧ W'.cell? ⟨N, 2, none⟩ = some v2 ∧ W'.cell? ⟨N, 3, none⟩ = some v3 ∧ W'.cell? ⟨N, 4, none⟩ = some v4 ∧ W'.cell? ⟨N, 5, none⟩ = some v5 ∧ W'.cell? ⟨N, 6, none⟩ = some v6 ∧ W'.cell? ⟨N, 7, none⟩ = some v7 := keep8 h (Zf.of_gb (Z := fun _ => False) g (by simp)) (fun x => x)
/-- Behind the first statement of node. -/
structure Nd (w W : World) (Bn : Nat) (cs : Array Value) (v5 : Value) : Prop where
  bn : Blk W Bn 68 cs
  r : Blk W (w.heap.size + 1) 68 #[.int .i64 0, .int .i64 0, .int .i64 0, .bool false, .bool false, .bool false, .slice none 0 0, .slice none 0 0]
  p : W.cell? ⟨w.heap.size, 5, none⟩ = some v5
  g : w.grownBy W none
  ne : w.heap.size + 1 < Bn
set_option maxHeartbeats 4000000 in
theorem node_any (o : Ob) (Ap An : Option Addr) (cp cn M2 : Nat) (w : World) (hn : Rd w An o.ns.length o.ns) (hl : o.ns.length ≤ 100) :
    Calls Try.prog 29 #[.agg #[.int .i64 o.s, .int .i64 o.sp, .int .i64 o.sd, .bool o.sw, .bool o.sf, .slice Ap 0 cp, .slice An o.ns.length cn, .bool o.fr], .map (some M2)] w (NodeP o w) := by
  obtain ⟨wb, hwb⟩ : ∃ wb, wb = (w.alloc (.cells #[.int .i64 o.s, .int .i64 o.sp, .int .i64 o.sd, .bool o.sw, .bool o.sf, .slice Ap 0 cp, .slice An o.ns.length cn, .bool o.fr] 41)).alloc (.cells #[.int .i64 0, .int .i64 0, .int .i64 0, .bool false, .bool false, .bool false, .slice none 0 0, .slice none 0 0] 68) := ⟨_, rfl⟩
  have hg : w.grownBy wb none := by rw [hwb]; exact grownBy_trans (World.grownBy_alloc _ _ none) (World.grownBy_alloc _ _ none)
  have b1 : Blk wb w.heap.size 41 #[.int .i64 o.s, .int .i64 o.sp, .int .i64 o.sd, .bool o.sw, .bool o.sf, .slice Ap 0 cp, .slice An o.ns.length cn, .bool o.fr] := by rw [hwb]; exact (Blk.new w 41 _).gb (World.grownBy_alloc _ _ none) (by simp)
  have sb : wb.cell? ⟨w.heap.size, 0, none⟩ = some (.int .i64 o.s) ∧ wb.cell? ⟨w.heap.size, 1, none⟩ = some (.int .i64 o.sp) ∧ wb.cell? ⟨w.heap.size, 2, none⟩ = some (.int .i64 o.sd) ∧ wb.cell? ⟨w.heap.size, 3, none⟩ = some (.bool o.sw) ∧ wb.cell? ⟨w.heap.size, 4, none⟩ = some (.bool o.sf) ∧ wb.cell? ⟨w.heap.size, 5, none⟩ = some (.slice Ap 0 cp) ∧ wb.cell? ⟨w.heap.size, 6, none⟩ = some (.slice An o.ns.length cn) ∧ wb.cell? ⟨w.heap.size, 7, none⟩ = some (.bool o.fr) := ⟨b1.cell 0, b1.cell 1, b1.cell 2, b1.cell 3, b1.cell 4, b1.cell 5, b1.cell 6, b1.cell 7⟩
  have HWB := Lib.hid hwb
  have HN := Lib.hid (hn.gb hg)
  clear hwb hg hn b1
  go_enter Try.func29, Try.ntmps29
  go_upto_region 1 with (fail)
  rw [← HWB.out]
  have hlt : w.heap.size < wb.heap.size := by rw [HWB.out]; simp; omega
  have b2 : Blk wb (w.heap.size + 1) 68 #[.int .i64 0, .int .i64 0, .int .i64 0, .bool false, .bool false, .bool false, .slice none 0 0, .slice none 0 0] := by
    rw [HWB.out]; have := Blk.new (w.alloc (.cells #[.int .i64 o.s, .int .i64 o.sp, .int .i64 o.sd, .bool o.sw, .bool o.sf, .slice Ap 0 cp, .slice An o.ns.length cn, .bool o.fr] 41)) 68 #[.int .i64 0, .int .i64 0, .int .i64 0, .bool false, .bool false, .bool false, .slice none 0 0, .slice none 0 0]
    simpa using this
  have HB2 := Lib.hid b2
  have HG0 : Hid (w.grownBy wb none) := by rw [HWB.out]; exact grownBy_trans (World.grownBy_alloc _ _ none) (World.grownBy_alloc _ _ none)
  have hne : ¬ w.heap.size = wb.heap.size := by omega
  have HNa : Hid (Rd wb.drew An o.ns.length o.ns) := HN.out.gb (gb_drew _ none)
  have HNb : Hid (Rd (wb.alloc (.cells #[.int .i64 0, .int .i64 0, .int .i64 0, .bool false, .bool false, .bool false, .slice none 0 0, .slice none 0 0] 68)).drew An o.ns.length o.ns) := HN.out.gb (grownBy_trans (World.grownBy_alloc _ _ none) (gb_drew _ none))
  clear HWB b2
  go_region_held3 (fun w' => w'.cell? ⟨w.heap.size, 0, none⟩ = some (.int .i64 o.s) ∧ w'.cell? ⟨w.heap.size, 1, none⟩ = some (.int .i64 o.sp) ∧ w'.cell? ⟨w.heap.size, 2, none⟩ = some (.int .i64 o.sd) ∧ w'.cell? ⟨w.heap.size, 3, none⟩ = some (.bool o.sw) ∧ w'.cell? ⟨w.heap.size, 4, none⟩ = some (.bool o.sf) ∧ w'.cell? ⟨w.heap.size, 5, none⟩ = some (.slice Ap 0 cp) ∧ w'.cell? ⟨w.heap.size, 6, none⟩ = some (.slice An o.ns.length cn) ∧ w'.cell? ⟨w.heap.size, 7, none⟩ = some (.bool o.fr))
    (first | with_reducible exact keep8s sA hne | with_reducible exact sA | with_reducible exact keep8g sA (World.grownBy_alloc _ _ none) | with_reducible exact keep8g sb (gb_drew _ none) | with_reducible exact keep8g (keep8g sb (World.grownBy_alloc _ _ none)) (gb_drew _ none))
    (first | (go_at_call 34; (with_reducible refine (own3_any An o.ns.length cn (ints o.ns) wb.drew HNa.out (by omega) (one_ints _)).mono ?_); rintro e wA ⟨vA, rfl, hoA, hgA⟩; have sA := keep8g (keep8g sb (gb_drew _ none)) hgA; obtain ⟨A3, c3, rfl, _, _, _⟩ := Rc.of_own hoA; obtain ⟨hcA, hfA⟩ := bcg hgA) | (go_at_call 34; (with_reducible refine (own3_any An o.ns.length cn (ints o.ns) (wb.alloc (.cells #[.int .i64 0, .int .i64 0, .int .i64 0, .bool false, .bool false, .bool false, .slice none 0 0, .slice none 0 0] 68)).drew HNb.out (by omega) (one_ints _)).mono ?_); rintro e wA ⟨vA, rfl, hoA, hgA⟩; have sA := keep8g (keep8g (keep8g sb (World.grownBy_alloc _ _ none)) (gb_drew _ none)) hgA; obtain ⟨A3, c3, rfl, _, _, _⟩ := Rc.of_own hoA; obtain ⟨hcA, hfA⟩ := bcg hgA; have hszA : wb.heap.size < wA.heap.size := Nat.lt_of_lt_of_le (by simp) hgA.size))
  have hnd : ∃ W Bn, Hid (Nd w W Bn #[.int .i64 o.s, .int .i64 o.sp, .int .i64 o.sd, .bool o.sw, .bool o.sf, .bool o.fr, .slice none 0 0, .slice A3 o.ns.length c3] (.slice Ap 0 cp)) ∧ W = wA.alloc (.cells #[.int .i64 o.s, .int .i64 o.sp, .int .i64 o.sd, .bool o.sw, .bool o.sf, .bool o.fr, .slice none 0 0, .slice A3 o.ns.length c3] 68) ∧ Bn = wA.heap.size := by
    refine ⟨_, _, ⟨Blk.new wA 68 _, ((HB2.out.gb (gb_drew _ none) (by simp)).gb hgA (by simp)).gb (World.grownBy_alloc _ _ none) (by simp), cellk sA.2.2.2.2.2.1 (World.grownBy_alloc _ _ none), grownBy_trans (grownBy_trans (grownBy_trans HG0.out (gb_drew _ none)) hgA) (World.grownBy_alloc _ _ none), ?_⟩, rfl, rfl⟩
    have := hgA.size; have := HB2.out.lt; simp at *; omega
  obtain ⟨W, Bn, HND, hW1, hW2⟩ := hnd
  rw [← hW1, ← hW2]
  clear hW1 hW2 hgA hoA hcA hfA sA sb
  rotate_left
  have hnd : ∃ W Bn, Hid (Nd w W Bn #[.int .i64 o.s, .int .i64 o.sp, .int .i64 o.sd, .bool o.sw, .bool o.sf, .bool o.fr, .slice none 0 0, .slice A3 o.ns.length c3] (.slice Ap 0 cp)) ∧ W = ((((((((wA.setCell ⟨wb.heap.size, 0, none⟩ (.int .i64 o.s)).setCell ⟨wb.heap.size, 1, none⟩ (.int .i64 o.sp)).setCell ⟨wb.heap.size, 2, none⟩ (.int .i64 o.sd)).setCell ⟨wb.heap.size, 3, none⟩ (.bool o.sw)).setCell ⟨wb.heap.size, 4, none⟩ (.bool o.sf)).setCell ⟨wb.heap.size, 5, none⟩ (.bool o.fr)).setCell ⟨wb.heap.size, 6, none⟩ (.slice none 0 0)).setCell ⟨wb.heap.size, 7, none⟩ (.slice A3 o.ns.length c3)) ∧ Bn = wb.heap.size := by
    have hbx : Blk wA wb.heap.size 68 #[.int .i64 0, .int .i64 0, .int .i64 0, .bool false, .bool false, .bool false, .slice none 0 0, .slice none 0 0] := ((Blk.new wb 68 _).gb (gb_drew _ none) (by simp)).gb hgA (by simp)
    have hZ : Zf (fun k => k = wb.heap.size) wA ((((((((wA.setCell ⟨wb.heap.size, 0, none⟩ (.int .i64 o.s)).setCell ⟨wb.heap.size, 1, none⟩ (.int .i64 o.sp)).setCell ⟨wb.heap.size, 2, none⟩ (.int .i64 o.sd)).setCell ⟨wb.heap.size, 3, none⟩ (.bool o.sw)).setCell ⟨wb.heap.size, 4, none⟩ (.bool o.sf)).setCell ⟨wb.heap.size, 5, none⟩ (.bool o.fr)).setCell ⟨wb.heap.size, 6, none⟩ (.slice none 0 0)).setCell ⟨wb.heap.size, 7, none⟩ (.slice A3 o.ns.length c3)) := (((((((((Zf.refl (fun k => k = wb.heap.size) wA).set (by rfl)).set (by rfl)).set (by rfl)).set (by rfl)).set (by rfl)).set (by rfl)).set (by rfl)).set (by rfl))
    refine ⟨_, _, ⟨(((((((hbx.set 0 _).set 1 _).set 2 _).set 3 _).set 4 _).set 5 _).set 6 _).set 7 _, (((HB2.out.gb (World.grownBy_alloc _ _ none) (by simp)).gb (gb_drew _ none) (by simp)).gb hgA (by simp)).zf hZ (by have := HB2.out.lt; omega), (keep8 sA hZ hne).2.2.2.2.2.1, Zf.gb (grownBy_trans (grownBy_trans (grownBy_trans HG0.out (World.grownBy_alloc _ _ none)) (gb_drew _ none)) hgA) hZ (fun k hk => by omega), HB2.out.lt⟩, rfl, rfl⟩
  obtain ⟨W, Bn, HND, hW1, hW2⟩ := hnd
  rw [← hW1, ← hW2]
  clear hW1 hW2 hgA hoA hcA hfA hszA sA sb
  all_goals
    have p5 := HND.out.p
    have t0 : W.cell? ⟨Bn, 0, none⟩ = some (.int .i64 o.s) := HND.out.bn.cell 0
    have r0 : W.cell? ⟨w.heap.size + 1, 0, none⟩ = some (.int .i64 0) := HND.out.r.cell 0
    have q0 := HND.out.r.free 0
    have t1 : W.cell? ⟨Bn, 1, none⟩ = some (.int .i64 o.sp) := HND.out.bn.cell 1
    have r1 : W.cell? ⟨w.heap.size + 1, 1, none⟩ = some (.int .i64 0) := HND.out.r.cell 1
    have q1 := HND.out.r.free 1
    have t2 : W.cell? ⟨Bn, 2, none⟩ = some (.int .i64 o.sd) := HND.out.bn.cell 2
    have r2 : W.cell? ⟨w.heap.size + 1, 2, none⟩ = some (.int .i64 0) := HND.out.r.cell 2
    have q2 := HND.out.r.free 2
    have t3 : W.cell? ⟨Bn, 3, none⟩ = some (.bool o.sw) := HND.out.bn.cell 3
    have r3 : W.cell? ⟨w.heap.size + 1, 3, none⟩ = some (.bool false) := HND.out.r.cell 3
    have q3 := HND.out.r.free 3
    have t4 : W.cell? ⟨Bn, 4, none⟩ = some (.bool o.sf) := HND.out.bn.cell 4
    have r4 : W.cell? ⟨w.heap.size + 1, 4, none⟩ = some (.bool false) := HND.out.r.cell 4
    have q4 := HND.out.r.free 4
    have t5 : W.cell? ⟨Bn, 5, none⟩ = some (.bool o.fr) := HND.out.bn.cell 5
    have r5 : W.cell? ⟨w.heap.size + 1, 5, none⟩ = some (.bool false) := HND.out.r.cell 5
    have q5 := HND.out.r.free 5
    have t6 : W.cell? ⟨Bn, 6, none⟩ = some (.slice none 0 0) := HND.out.bn.cell 6
    have r6 : W.cell? ⟨w.heap.size + 1, 6, none⟩ = some (.slice none 0 0) := HND.out.r.cell 6
    have q6 := HND.out.r.free 6
    have t7 : W.cell? ⟨Bn, 7, none⟩ = some (.slice A3 o.ns.length c3) := HND.out.bn.cell 7
    have r7 : W.cell? ⟨w.heap.size + 1, 7, none⟩ = some (.slice none 0 0) := HND.out.r.cell 7
    have q7 := HND.out.r.free 7
    go_wp2_with fail
    refine wp_loop_rounds 1 ?_
    rw [rounds_succ]
    go_wp2_with fail
    refine bodyPost_ret (v := .agg #[.int .i64 o.s, .int .i64 o.sp, .int .i64 o.sd, .bool o.sw, .bool o.sf, .bool o.fr, .slice none 0 0, .slice A3 o.ns.length c3]) (by simp [results, Try.results29, go_sem, r0, r1, r2, r3, r4, r5, r6, r7]) rfl ⟨_, _, rfl, ?_⟩
    · exact Zf.gb HND.out.g (((((((((Zf.refl (fun k => k = w.heap.size + 1) W).set (by rfl)).set (by rfl)).set (by rfl)).set (by rfl)).set (by rfl)).set (by rfl)).set (by rfl)).set (by rfl)) (fun k hk => by omega)
end Go.Proofs.Yteieljkkcnpfmaa
