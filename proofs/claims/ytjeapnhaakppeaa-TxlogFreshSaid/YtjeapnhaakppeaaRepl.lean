/-
  Contract of Replace, at the log of the chapter's example.
-/
import Derived.Test.YtjeapnhaakppeaaCmp
namespace Go.Proofs.Ytjeapnhaakppeaa
open Go.ChangeShapes Go.WideShapes Go.ChangeAt Go.RowKit Go.Shelf
set_option linter.unusedVariables false
attribute [local go_sem] Oper.semAt_some

theorem own_set {w : World} {base : Nat} {e : TypeId} {size n g c : Nat} {xs : List Value} (h : w.ownsRow base e size (.slice (some ⟨g, 0, none⟩) n c) n xs) (j : Nat) (u : Value) : (w.setCell ⟨g, j, none⟩ u).ownsRow base e size (.slice (some ⟨g, 0, none⟩) n c) n (xs.set j u) := by
  refine ⟨by rw [List.length_set]; exact h.1, ?_⟩
  rcases h.2 with ⟨h0, _⟩ | ⟨g', cap, cur, hv, hb, hg, hn, hm, hs, ht⟩
  · cases h0
  · injection hv with h1 h2 h3
    injection h1 with h1
    injection h1 with h1 _ _
    subst h1
    subst h3
    refine .inr ⟨g, c, cur.setIfInBounds j u, rfl, hb, heap_setCell_same w g j cur e u hg, hn, hm, by simpa using hs, ?_⟩
    rw [Array.toList_setIfInBounds, List.take_set, ht]

section
variable {w : World} {bp : Nat} {Z : Nat → Prop} {mr mu : Nat} {R K : List Int} {H : List (Int × Int)} {U : List (Int × Int × Int × Int)} {vR vK vH vU : Value} {g c : Nat}
theorem LgV.set1 {a : Int} (h : LgV w bp Z mr mu [a] K H U (.slice (some ⟨g, 0, none⟩) 1 c) vK vH vU) (x : Int) : LgV (w.setCell ⟨g, 0, none⟩ (.int .i64 x)) bp Z mr mu [x] K H U (.slice (some ⟨g, 0, none⟩) 1 c) vK vH vU := by
  have f : Zf (fun k => k = g) w (w.setCell ⟨g, 0, none⟩ (.int .i64 x)) := Zf.of_gb (gb_set w g 0 _) (fun k e => by cases e; rfl)
  refine ⟨h.blk.zf f (fun e => own_ne h.oR h.blk (by decide) (by rw [e]; rfl)), own_set h.oR 0 _, own_zf h.oK f (fun k e x => h.ne g rfl (x ▸ e)), own_zf h.oH f (fun k e x => own_own h.oH h.oR (by decide) e (by rw [x]; rfl)), own_zf h.oU f (fun k e x => own_own h.oU h.oR (by decide) e (by rw [x]; rfl)),
    h.zR, h.zK, h.zH, h.zU, h.ne, h.zb, fun k hk => by simp; exact h.zl k hk, h.lr, h.lu, h.nR, h.nK, h.nH, h.nU⟩
theorem LgV.setU {u u' : Int × Int × Int × Int} (h : LgV w bp Z mr mu R K H [u] vR vK vH (.slice (some ⟨g, 0, none⟩) 1 c)) (j : Nat) (x : Value) (hu : (uvs [u]).set j x = uvs [u']) : LgV (w.setCell ⟨g, j, none⟩ x) bp Z mr mu R K H [u'] vR vK vH (.slice (some ⟨g, 0, none⟩) 1 c) := by
  have f : Zf (fun k => k = g) w (w.setCell ⟨g, j, none⟩ x) := Zf.of_gb (gb_set w g j _) (fun k e => by cases e; rfl)
  refine ⟨h.blk.zf f (fun e => own_ne h.oU h.blk (by decide) (by rw [e]; rfl)), own_zf h.oR f (fun k e x => own_own h.oR h.oU (by decide) e (by rw [x]; rfl)), own_zf h.oK f (fun k e x => own_own h.oK h.oU (by decide) e (by rw [x]; rfl)), own_zf h.oH f (fun k e x => own_own h.oH h.oU (by decide) e (by rw [x]; rfl)), by have := own_set h.oU j x; rwa [hu] at this,
    h.zR, h.zK, h.zH, h.zU, h.ne, h.zb, fun k hk => by simp; exact h.zl k hk, h.lr, h.lu, h.nR, h.nK, h.nH, h.nU⟩
end

theorem kp_set {gU b : Nat} {W : World} {x : Value} (v : Value) (hb : Boxed W b 3 x) (hg : gU ≠ b) : Kp gU W (W.setCell ⟨b, 0, none⟩ v) := by
  refine kp_grown (gb_set W b 0 v) ?_ ?_ ?_ ?_
  · intro g a b' e hk
    cases e
    unfold Blk at hk; unfold Boxed at hb
    rw [hb] at hk
    injection hk with hk; injection hk with _ ht; exact absurd ht (by decide)
  · intro g cs e hk
    cases e
    unfold Blk at hk; unfold Boxed at hb
    rw [hb] at hk
    injection hk with hk; injection hk with _ ht; exact absurd ht (by decide)
  · intro g cs e hk
    cases e
    unfold Blk at hk; unfold Boxed at hb
    rw [hb] at hk
    injection hk with hk; injection hk with _ ht; exact absurd ht (by decide)
  · intro e; cases e; exact hg rfl

theorem boxed_turn {X Y : World} {row : Option Nat} {B : Nat} {t : TypeId} {v : Value} (hs : Boxed X B t v) (hg : X.grownBy Y row) (hrow : ∀ r, row = some r → ∃ o, X.heap[r]? = some o ∧ o.isCells = false) : Boxed Y B t v :=
  hs.kept hg (fun e' => by obtain ⟨o, ho, hc⟩ := hrow B e'.symm; rw [show X.heap[B]? = _ from hs] at ho; cases ho; cases hc)

/-- The three places of the example's log. -/
def plA (gR gU : Nat) : Fin 3 → Addr := fun i => if i = 0 then ⟨gR, 0, none⟩ else if i = 1 then ⟨gU, 1, none⟩ else ⟨gU, 3, none⟩
theorem plA_all (gR gK gH gU : Nat) : [(0 : Fin 3), 1, 2].map (plA gR gU) = rowA gR 1 1 0 ++ (rowA gK 1 0 0 ++ (rowA gH 2 0 0 ++ undA gU (fun _ => 1) 1 0)) := by
  simp [plA, rowA, undA]

/-- What the three places hold, when so many have come. -/
def st (a0 a1 a2 x y z : Int) (pre : List (Fin 3)) : Fin 3 → Int :=
  pre.zipIdx.foldl (fun f p => fun i => if i = p.1 then [x, y, z].getD p.2 0 else f i) (fun i => if i = 0 then a0 else if i = 1 then a1 else a2)
theorem st_snoc (a0 a1 a2 x y z : Int) (pre : List (Fin 3)) (p : Fin 3) : st a0 a1 a2 x y z (pre ++ [p]) = fun i => if i = p then [x, y, z].getD pre.length 0 else st a0 a1 a2 x y z pre i := by
  unfold st
  rw [List.zipIdx_append, List.foldl_append]
  simp

def LgS (W : World) (bp : Nat) (Z : Nat → Prop) (q : Int) (vR vK vH vU : Value) (f : Fin 3 → Int) : Prop := LgV W bp Z 1 1 [f 0] [] [] [(1, f 1, q, f 2)] vR vK vH vU

theorem cell_own1 {W : World} {e : TypeId} {size n g c j : Nat} {xs : List Value} {v : Value} (h : W.ownsRow 0 e size (.slice (some ⟨g, 0, none⟩) n c) n xs) (hj : j < n * size) (hx : xs[j]? = some v) : W.cell? ⟨g, j, none⟩ = some v ∧ W.frozen? ⟨g, j, none⟩ = false := by
  obtain ⟨cur, hb⟩ := own_row h (g := g) rfl
  exact ⟨(h.cellAt j hj).trans hx, hb.free j⟩

theorem place_store {W : World} {bp : Nat} {Z : Nat → Prop} {q : Int} {gR gU cR cU : Nat} {vK vH : Value} {f : Fin 3 → Int} (h : LgS W bp Z q (.slice (some ⟨gR, 0, none⟩) 1 cR) vK vH (.slice (some ⟨gU, 0, none⟩) 1 cU) f) (p : Fin 3) :
    ∃ pb po old, plA gR gU p = ⟨pb, po, none⟩ ∧ Z pb ∧ W.cell? ⟨pb, po, none⟩ = some (.int .i64 old) ∧ W.frozen? ⟨pb, po, none⟩ = false ∧
      ∀ v, LgS (W.setCell ⟨pb, po, none⟩ (.int .i64 v)) bp Z q (.slice (some ⟨gR, 0, none⟩) 1 cR) vK vH (.slice (some ⟨gU, 0, none⟩) 1 cU) (fun i => if i = p then v else f i) ∧ Kp gU W (W.setCell ⟨pb, po, none⟩ (.int .i64 v)) := by
  unfold LgS at h ⊢
  obtain ⟨curR, hbR⟩ := own_row h.oR (g := gR) rfl
  obtain ⟨curU, hbU⟩ := own_row h.oU (g := gU) rfl
  have hne : gR ≠ gU := by
    rintro rfl
    unfold Blk at hbR hbU
    rw [hbR] at hbU
    injection hbU with hk; injection hk with _ ht; exact absurd ht (by decide)
  have kU : ∀ j v, j = 1 ∨ j = 3 → Kp gU W (W.setCell ⟨gU, j, none⟩ (.int .i64 v)) := by
    intro j v hj
    have kk : ∀ g t cs, t ≠ 38 → Blk W g t cs → Blk (W.setCell ⟨gU, j, none⟩ (.int .i64 v)) g t cs := by
      intro g t cs ht e
      refine ((gb_set W gU j _).block g e.lt (fun x => ?_)).trans e
      cases x
      unfold Blk at hbU e
      rw [hbU] at e
      injection e with hk; injection hk with _ ht'; exact ht ht'.symm
    refine ⟨fun g a b e => kk g 22 _ (by decide) e, fun g cs e => kk g 53 _ (by decide) e, fun g cs e => kk g 25 _ (by decide) e, fun i v' e => ?_⟩
    exact (World.cell?_setCell_other W _ _ _ (by intro x; injection x with _ x _; omega)).trans e
  rcases (by omega : p.val = 0 ∨ p.val = 1 ∨ p.val = 2) with hp | hp | hp
  · obtain rfl : p = 0 := Fin.ext hp
    obtain ⟨c1, c2⟩ := cell_own1 (j := 0) h.oR (by decide) rfl
    refine ⟨gR, 0, f 0, rfl, h.zR gR rfl, c1, c2, fun v => ⟨h.set1 v, ?_⟩⟩
    have kkR : ∀ g t cs, t ≠ 3 → some gR = some g → ¬ Blk W g t cs := by
      intro g t cs ht e hk
      cases e
      unfold Blk at hbR hk
      rw [hbR] at hk
      injection hk with hk; injection hk with _ ht'; exact ht ht'.symm
    exact kp_grown (gb_set W gR 0 _) (fun g a b e => kkR g 22 _ (by decide) e) (fun g cs e => kkR g 53 _ (by decide) e) (fun g cs e => kkR g 25 _ (by decide) e) (by simpa using hne)
  · obtain rfl : p = 1 := Fin.ext hp
    obtain ⟨c1, c2⟩ := cell_own1 (j := 1) h.oU (by decide) rfl
    exact ⟨gU, 1, f 1, rfl, h.zU gU rfl, c1, c2, fun v => ⟨h.setU (u' := (1, v, q, f 2)) 1 _ rfl, kU 1 v (.inl rfl)⟩⟩
  · obtain rfl : p = 2 := Fin.ext hp
    obtain ⟨c1, c2⟩ := cell_own1 (j := 3) h.oU (by decide) rfl
    exact ⟨gU, 3, f 2, rfl, h.zU gU rfl, c1, c2, fun v => ⟨h.setU (u' := (1, f 1, q, v)) 3 _ rfl, kU 3 v (.inr rfl)⟩⟩

set_option maxRecDepth 100000 in
set_option maxHeartbeats 4000000 in
theorem replace_in (bp : Nat) (Z : Nat → Prop) (a0 a1 a2 q : Int) (A : Option Addr) (n c : Nat) (x y z : Int) (w : World) (h : Lg w bp Z 1 1 [a0] [] [] [(1, a1, q, a2)]) (hn : n ≤ 3) (hrd : n = 3 → Rd w A 3 [x, y, z]) (hz : ∀ b off, A = some ⟨b, off, none⟩ → ¬ Z b) :
    CallsIn Fence.wide 8 Try.prog 24 #[.pointer (some ⟨bp, 0, none⟩), .slice A n c] w fun e W' => e = .returned (.bool (decide (n = 3))) ∧ Lg W' bp Z 1 1 (if n = 3 then [x] else [a0]) [] [] (if n = 3 then [(1, y, q, z)] else [(1, a1, q, a2)]) ∧ Zf Z w W' := by
  obtain ⟨vR, vK, vH, vU, hV⟩ := h
  obtain ⟨AR, cR, gR, rfl, eR, lR', hcR⟩ := own_at hV.oR
  obtain ⟨AK, cK, gK, rfl, eK, lK', hcK⟩ := own_at hV.oK
  obtain ⟨AH, cH, gH, rfl, eH, lH', hcH⟩ := own_at hV.oH
  obtain ⟨AU, cU, gU, rfl, eU, lU', hcU⟩ := own_at hV.oU
  obtain rfl := eR (by simp)
  obtain rfl := eU (by simp)
  have hb := hV.blk
  have hltb := hb.lt
  have hgR : gR < w.heap.size := lR' (by omega)
  have hgU : gU < w.heap.size := lU' (by omega)
  have mk : ∀ j, j < 1 → w.cell? ⟨gU, j * 4, none⟩ = some (.int .i64 ((fun _ => 1 : Nat → Int) j)) := fun j hj => by
    obtain rfl : j = 0 := by omega
    rw [hcU (0 * 4) (by simp)]; rfl
  have HV := Lib.hid hV
  clear hV hcR hcK hcH hcU eR eU lR' lK' lH' lU'
  refine callsIn_of_wp_marks Try.func24 rfl trivial ?_ rfl
  simp only [Try.ntmps24, List.size_toArray, List.length_cons, List.length_nil, Nat.reduceAdd, Nat.reduceSub, Array.replicate_succ, Array.replicate_zero, List.push_toArray, List.append_toArray, List.nil_append, List.cons_append]
  gi_wp2_with ((refine ⟨trivial, ?_⟩; gi_at_call 27; refine (callsIn_wide.2 (places_any bp _)).mono ?_; rintro e w' ⟨rfl, rfl⟩))
  have bR := ((Boxed.new w 22 (.slice A n c)).alloc (.cells #[.int .i64 0] 3)).alloc (.cells #[.pointer (some ⟨bp, 0, none⟩)] 25)
  have bN := (Boxed.new (w.alloc (.cells #[.slice A n c] 22)) 3 (.int .i64 0)).alloc (.cells #[.pointer (some ⟨bp, 0, none⟩)] 25)
  have bX : Blk (((w.alloc (.cells #[.slice A n c] 22)).alloc (.cells #[.int .i64 0] 3)).alloc (.cells #[.pointer (some ⟨bp, 0, none⟩)] 25)) (w.heap.size + 1 + 1) 25 #[.pointer (some ⟨bp, 0, none⟩)] := by
    have := heap_alloc_new ((w.alloc (.cells #[.slice A n c] 22)).alloc (.cells #[.int .i64 0] 3)) (.cells #[.pointer (some ⟨bp, 0, none⟩)] 25)
    rwa [World.size_alloc, World.size_alloc] at this
  have hB0 : Below w.heap.size w (((w.alloc (.cells #[.slice A n c] 22)).alloc (.cells #[.int .i64 0] 3)).alloc (.cells #[.pointer (some ⟨bp, 0, none⟩)] 25)) := (((Below.refl _ w).alloc (Nat.le_refl _) _).alloc (by simp) _).alloc (by simp; omega) _
  have hsz : (((w.alloc (.cells #[.slice A n c] 22)).alloc (.cells #[.int .i64 0] 3)).alloc (.cells #[.pointer (some ⟨bp, 0, none⟩)] 25)).heap.size = w.heap.size + 3 := by simp
  rw [World.size_alloc] at bN
  generalize (((w.alloc (.cells #[.slice A n c] 22)).alloc (.cells #[.int .i64 0] 3)).alloc (.cells #[.pointer (some ⟨bp, 0, none⟩)] 25)) = W0 at *
  have hb0 : Blk W0 bp 53 _ := (hB0.block bp hltb).trans hb
  have mk0 : ∀ j, j < 1 → W0.cell? ⟨gU, j * 4, none⟩ = some (.int .i64 ((fun _ => 1 : Nat → Int) j)) := fun j hj => (hB0.cell (p := ⟨gU, j * 4, none⟩) hgU).trans (mk j hj)
  have hst := iter_stops (plA gR gU) [0, 1, 2] 7 (by omega) (w.heap.size + 1 + 1) bp _ _ _ AK AH _ 1 0 0 1 cR cK cH cU gR gK gH gU (fun _ => 1) W0 bX hb0 (fun _ => rfl) eK eH (fun _ => rfl) mk0 (by omega) (by omega) (by omega) (by omega) (plA_all gR gK gH gU)
  refine wpIn_rangeFunc_ownF rfl (by omega) (gf := 32) (lb := #[.pointer (some ⟨w.heap.size + 1 + 1, 0, none⟩)]) rfl trivial (enters_of Try.func32 (by kernel_rfl) rfl)
    hst Kp.trans (Kp.put (w := W0)) (Below.refl _ _) (fun _ => rfl)
    (fun pre W => (Boxed W w.heap.size 22 (.slice A n c) ∧ Boxed W (w.heap.size + 1) 3 (.int .i64 (pre.length : Nat))) ∧ Below w.heap.size w W)
    (fun _ _ _ => False)
    (OwnFrom.and (Own.from (fun s A B row hs hg hr => ⟨boxed_turn hs.1 hg hr, boxed_turn hs.2 hg hr⟩) _) (ownFrom_below (Nat.le_refl _) (by omega)))
    (fun c => fun _ _ _ _ hs _ _ => hs)
    ⟨⟨bR, bN⟩, hB0⟩
    (fun x => { tmps := #[.pointer (some ⟨bp, 0, none⟩), .slice A n c, undef, .pointer (some ⟨w.heap.size, 0, none⟩), .bool false, .pointer (some ⟨w.heap.size + 1, 0, none⟩), undef, undef, .pointer (some ⟨bp, 0, none⟩), .func (.func 32) #[] #[.pointer (some ⟨w.heap.size + 1 + 1, 0, none⟩)], .pointer (some (plA gR gU x)), undef, undef, undef, undef, undef, undef, undef, undef, undef, undef, undef, undef, undef, undef, undef, undef, undef], defers := [] }) ?assign ?body ?done ?stop
  case assign =>
    intro l x W K hK
    gi_wp2
    exact hK
  case body =>
    rintro l pre x W ⟨⟨hR, hN⟩, hB⟩ hpl
    have hc := hN.cell
    have hf := hN.frozen
    have hpl3 : pre.length < 3 := hpl
    generalize plA gR gU x = ax at *
    gi_wp2
    refine ⟨KeepsOthers.setCell _ _ _, kp_set _ hN (by omega), ⟨?_, ?_⟩, hB.setCell (p := ⟨w.heap.size + 1, 0, none⟩) (by simp) _⟩
    · exact hR.kept (gb_set W _ 0 _) (by simp)
    · have e : (((pre ++ [x]).length : Nat) : Int) = (pre.length : Int) + 1 := by simp
      rw [e]
      exact hN.set _
  case done =>
    rintro D ys W hD rfl ⟨⟨hR, hN⟩, hB⟩ hK
    have hN3 : Boxed W (w.heap.size + 1) 3 (.int .i64 3) := hN
    have hc := hN3.cell
    have hcR := hR.cell
    by_cases hn3 : n = 3
    · subst hn3
      have HRD := Lib.hid (hrd rfl)
      clear hrd
      gi_wp2_with ((refine ⟨trivial, ?_⟩; gi_at_call 27; refine (callsIn_wide.2 (places_any bp _)).mono ?_; rintro e w' ⟨rfl, rfl⟩))
      have hD2 : D < W.heap.size := (Array.getElem?_eq_some_iff.1 hK).1
      have bI := (Boxed.new W 3 (.int .i64 0)).alloc (.cells #[.pointer (some ⟨bp, 0, none⟩)] 25)
      have bX2 : Blk ((W.alloc (.cells #[.int .i64 0] 3)).alloc (.cells #[.pointer (some ⟨bp, 0, none⟩)] 25)) (W.heap.size + 1) 25 #[.pointer (some ⟨bp, 0, none⟩)] := by
        have := heap_alloc_new (W.alloc (.cells #[.int .i64 0] 3)) (.cells #[.pointer (some ⟨bp, 0, none⟩)] 25)
        rwa [World.size_alloc] at this
      have bR2 := (hR.alloc (.cells #[.int .i64 0] 3)).alloc (.cells #[.pointer (some ⟨bp, 0, none⟩)] 25)
      have hgW : W.grownBy ((W.alloc (.cells #[.int .i64 0] 3)).alloc (.cells #[.pointer (some ⟨bp, 0, none⟩)] 25)) none := grownBy_trans (World.grownBy_alloc W _ none) (World.grownBy_alloc _ _ none)
      have hK2 := (hgW.block D hD2 (by simp)).trans hK
      have hgw := grownBy_trans (of_below hB) hgW
      have hs2 : ((W.alloc (.cells #[.int .i64 0] 3)).alloc (.cells #[.pointer (some ⟨bp, 0, none⟩)] 25)).heap.size = W.heap.size + 2 := by simp
      generalize ((W.alloc (.cells #[.int .i64 0] 3)).alloc (.cells #[.pointer (some ⟨bp, 0, none⟩)] 25)) = W2 at *
      have hwW : w.heap.size + 1 < W.heap.size := hN3.lt
      have hV2 : LgS W2 bp Z q (.slice (some ⟨gR, 0, none⟩) 1 cR) (.slice AK 0 cK) (.slice AH 0 cH) (.slice (some ⟨gU, 0, none⟩) 1 cU) (st a0 a1 a2 x y z []) := HV.out.zf (Zf.of_gb (Z := fun _ => False) hgw (by simp)) (by simp)
      have hzl := HV.out.zl
      have hb2 : Blk W2 bp 53 _ := hV2.blk
      have mk2 : ∀ j, j < 1 → W2.cell? ⟨gU, j * 4, none⟩ = some (.int .i64 ((fun _ => 1 : Nat → Int) j)) := fun j hj => cell_kept (mk j hj) hgw (by simp)
      have hst2 := iter_stops (plA gR gU) [0, 1, 2] 7 (by omega) (W.heap.size + 1) bp _ _ _ AK AH _ 1 0 0 1 cR cK cH cU gR gK gH gU (fun _ => 1) W2 bX2 hb2 (fun _ => rfl) eK eH (fun _ => rfl) mk2 (by omega) (by omega) (by omega) (by omega) (plA_all gR gK gH gU)
      obtain ⟨fs, hfs⟩ : ∃ fs, fs = st a0 a1 a2 x y z := ⟨_, rfl⟩
      have HFS := Lib.hid hfs
      rw [← hfs] at hV2
      clear hfs
      have HZL := Lib.hid hzl
      clear hzl
      refine wpIn_rangeFunc_ownF rfl (by omega) (gf := 32) (lb := #[.pointer (some ⟨W.heap.size + 1, 0, none⟩)]) rfl trivial (enters_of Try.func32 (by kernel_rfl) rfl)
        hst2 Kp.trans (Kp.put (w := W2)) (Below.refl _ _) (fun _ => rfl)
        (fun pre W' => Boxed W' w.heap.size 22 (.slice A 3 c) ∧ Boxed W' W.heap.size 3 (.int .i64 (pre.length : Nat)) ∧ LgS W' bp Z q (.slice (some ⟨gR, 0, none⟩) 1 cR) (.slice AK 0 cK) (.slice AH 0 cH) (.slice (some ⟨gU, 0, none⟩) 1 cU) (fs pre) ∧ Zf Z w W' ∧ W'.heap[D]? = some (.deferred (some [])))
        (fun _ _ _ => False)
        (fun s A' B' row hs hg hr => ⟨boxed_turn hs.1 hg (fun r e => (hr r e).2), boxed_turn hs.2.1 hg (fun r e => (hr r e).2), LgV.zf (Z' := fun k => row = some k) hs.2.2.1 (Zf.of_gb hg (fun g e => e)) (fun k hk e => by have := HZL.out k hk; have := (hr k e).1; omega),
          hs.2.2.2.1.trans' (Z' := fun k => row = some k) (Zf.of_gb hg (fun g e => e)) (fun k hk e => by have := (hr k e).1; omega), (hg.block D (Array.getElem?_eq_some_iff.1 hs.2.2.2.2).1 (fun e => by have := (hr D e.symm).1; omega)).trans hs.2.2.2.2⟩)
        (fun c => fun _ _ _ _ hs _ _ => hs)
        ⟨bR2, bI, hV2, Zf.of_gb hgw (by simp), hK2⟩
        (fun x => { tmps := #[.pointer (some ⟨bp, 0, none⟩), .slice A 3 c, undef, .pointer (some ⟨w.heap.size, 0, none⟩), .bool false, .pointer (some ⟨w.heap.size + 1, 0, none⟩), .pointer (some ⟨W.heap.size, 0, none⟩), .pointer (some (plA gR gU x)), .pointer (some ⟨bp, 0, none⟩), .func (.func 32) #[] #[.pointer (some ⟨w.heap.size + 1 + 1, 0, none⟩)], undef, undef, undef, .int .i64 3, .slice A 3 c, .int .i64 3, .bool false, .pointer (some ⟨bp, 0, none⟩), .func (.func 32) #[] #[.pointer (some ⟨W.heap.size + 1, 0, none⟩)], .pointer (some (plA gR gU x)), undef, undef, undef, undef, undef, undef, undef, undef], defers := [] }) ?assign2 ?body2 ?done2 ?stop2
      case assign2 =>
        intro l x W K hK
        gi_wp2
        exact hK
      case body2 =>
        rintro l pre p W3 ⟨h1, h2, h3, h4, h5⟩ hpl
        have hpl3 : pre.length < 3 := hpl
        obtain ⟨pb, po, old, hpa, hzp, hpc, hpf, hpv⟩ := place_store h3 p
        rw [hpa]
        obtain ⟨b, off, rfl, hbl, hbc⟩ := HRD.out.at_ pre.length (by omega)
        have hnz := hz b off rfl
        have hbc3 : W3.cell? ⟨b, off + pre.length, none⟩ = some (.int .i64 ([x, y, z].getD pre.length 0)) := (World.cell?_of_block (a := ⟨b, off + pre.length, none⟩) (h4.block b hbl hnz)).trans hbc
        obtain ⟨g1, g2⟩ := hpv ([x, y, z].getD pre.length 0)
        have hpb : pb < w.heap.size := HZL.out pb hzp
        have hsn := st_snoc a0 a1 a2 x y z pre p
        rw [← HFS.out] at hsn
        have HSN := Lib.hid hsn
        clear hsn hbc hpv hpa
        generalize [x, y, z].getD pre.length 0 = nv at *
        have c1 := h1.cell
        have c2 := h2.cell
        have k2 : Boxed (W3.setCell ⟨pb, po, none⟩ (.int .i64 nv)) W.heap.size 3 (.int .i64 (pre.length : Nat)) := h2.kept (gb_set W3 pb po _) (by simp; omega)
        have k1 : Boxed (W3.setCell ⟨pb, po, none⟩ (.int .i64 nv)) w.heap.size 22 (.slice (some ⟨b, off, none⟩) 3 c) := h1.kept (gb_set W3 pb po _) (by simp; omega)
        have c2' := k2.cell
        have f2' := k2.frozen
        gi_wp2
        refine ⟨(KeepsOthers.setCell _ _ _).trans (KeepsOthers.setCell _ _ _), g2.trans (kp_set _ k2 (by omega)), ?_, ?_, ?_, ?_, ?_⟩
        · exact k1.kept (gb_set _ _ 0 _) (by simp; omega)
        · have e : (((pre ++ [p]).length : Nat) : Int) = (pre.length : Int) + 1 := by simp
          rw [e]
          exact k2.set _
        · rw [HSN.out]
          exact LgV.zf (Z' := fun k => k = W.heap.size) g1 (Zf.of_gb (gb_set _ _ 0 _) (fun k e => by cases e; rfl)) (fun k hk e => by have := HZL.out k hk; omega)
        · exact (h4.trans (Zf.of_gb (gb_set W3 pb po _) (fun k e => by cases e; exact hzp))).trans' (Z' := fun k => k = W.heap.size) (Zf.of_gb (gb_set _ _ 0 _) (fun k e => by cases e; rfl)) (fun k hk e => by omega)
        · exact ((KeepsOthers.setCell W3 ⟨pb, po, none⟩ (.int .i64 nv)).trans (KeepsOthers.setCell _ _ _)).same D _ h5 rfl
      case done2 =>
        rintro D2 ys W4 hDD rfl ⟨h1, h2, h3, h4, h5⟩ hK4
        have hf0 : fs [0, 1, 2] 0 = x := by rw [HFS.out]; rfl
        have hf1 : fs [0, 1, 2] 1 = y := by rw [HFS.out]; rfl
        have hf2 : fs [0, 1, 2] 2 = z := by rw [HFS.out]; rfl
        unfold LgS at h3
        rw [hf0, hf1, hf2] at h3
        have HL := Lib.hid h3
        clear h3 hf0 hf1 hf2
        have hltD : D < D2 := by omega
        gi_wp2
        have hK5 : (W4.putObj D2 (.deferred none)).heap[D]? = some (.deferred (some [])) := ((grownBy_putObj' W4 D2 (.deferred none)).block D (Array.getElem?_eq_some_iff.1 h5).1 (by simp; omega)).trans h5
        refine ⟨by simp, .inl ⟨_, _, rfl, run_takeDeferred hK4, ?_⟩⟩
        refine ⟨by simp, .inl ⟨_, _, rfl, run_takeDeferred hK5, ?_⟩⟩
        refine ⟨_, results_tmp rfl _ _ _, ?_⟩
        have t1 : Zf (fun k => k = D2 ∨ k = D) W4 ((W4.putObj D2 (.deferred none)).putObj D (.deferred none)) := (Zf.of_gb (grownBy_putObj' W4 D2 (.deferred none)) (fun g e => by cases e; exact .inl rfl)).trans (Zf.of_gb (grownBy_putObj' _ D (.deferred none)) (fun g e => by cases e; exact .inr rfl))
        exact ⟨rfl, ⟨_, _, _, _, HL.out.zf t1 (fun k hk e => by have := HZL.out k hk; omega)⟩, h4.trans' t1 (fun k hk e => by omega)⟩
      case stop2 =>
        rintro D c pre W _ _ h _
        exact h.elim
    · have hd : decide (n = 3) = false := decide_eq_false hn3
      have HD := Lib.hid hd
      have HN3 := Lib.hid hn3
      clear hd
      gi_wp2
      refine ⟨by simp, .inl ⟨_, _, rfl, run_takeDeferred hK, ?_⟩⟩
      have hBe := hB.trans (belowK_b (w := w) (Nat.le_refl _) W D _ (.deferred none) (by omega) hK rfl rfl)
      refine ⟨_, results_tmp rfl _ _ _, ?_⟩
      exact ⟨rfl, ⟨_, _, _, _, (HV.out).zf (Zf.of_gb (Z := fun _ => False) (of_below hBe) (by simp)) (by simp)⟩, Zf.of_gb (of_below hBe) (by simp)⟩
  case stop =>
    rintro D c pre W _ _ h _
    exact h.elim

theorem replace_yes (bp : Nat) (Z : Nat → Prop) (a0 a1 a2 q : Int) (A : Option Addr) (c : Nat) (x y z : Int) (w : World) (h : Lg w bp Z 1 1 [a0] [] [] [(1, a1, q, a2)]) (hrd : Rd w A 3 [x, y, z]) (hz : ∀ b off, A = some ⟨b, off, none⟩ → ¬ Z b) :
    Calls Try.prog 24 #[.pointer (some ⟨bp, 0, none⟩), .slice A 3 c] w fun e W' => e = .returned (.bool true) ∧ Lg W' bp Z 1 1 [x] [] [] [(1, y, q, z)] ∧ Zf Z w W' :=
  (callsIn_wide.1 (replace_in bp Z a0 a1 a2 q A 3 c x y z w h (by omega) (fun _ => hrd) hz)).mono fun e W' hh => by simpa using hh

theorem replace_nil (bp : Nat) (Z : Nat → Prop) (a0 a1 a2 q : Int) (w : World) (h : Lg w bp Z 1 1 [a0] [] [] [(1, a1, q, a2)]) :
    Calls Try.prog 24 #[.pointer (some ⟨bp, 0, none⟩), .slice none 0 0] w fun e W' => e = .returned (.bool false) ∧ Lg W' bp Z 1 1 [a0] [] [] [(1, a1, q, a2)] ∧ Zf Z w W' :=
  (callsIn_wide.1 (replace_in bp Z a0 a1 a2 q none 0 0 0 0 0 w h (by omega) (fun h => by omega) (fun _ _ h => by cases h))).mono fun e W' hh => by simpa using hh
end Go.Proofs.Ytjeapnhaakppeaa
