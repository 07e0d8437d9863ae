/-
  Contract of Roots: a loop over the iterator.
-/
import Derived.Test.YtjeapnhaakppeaaIter
import Derived.Maps.AppendAt
namespace Go.Proofs.Ytjeapnhaakppeaa
open Go.ChangeShapes Go.WideShapes Go.ChangeAt Go.RowKit Go.Shelf
set_option linter.unusedVariables false
attribute [local go_sem] Oper.semAt_some

theorem own_at {w : World} {e : TypeId} {size n : Nat} {v : Value} {xs : List Value} (h : w.ownsRow 0 e size v n xs) : ∃ A c g, v = .slice A n c ∧ (0 < n → A = some ⟨g, 0, none⟩) ∧ (0 < w.heap.size → g < w.heap.size) ∧ (∀ j, j < n * size → w.cell? ⟨g, j, none⟩ = xs[j]?) := by
  rcases h.2 with ⟨rfl, rfl⟩ | ⟨g, cap, cur, rfl, _, hg, hn, hm, _⟩
  · exact ⟨none, 0, 0, rfl, fun h => by omega, fun h => h, fun j hj => by omega⟩
  · exact ⟨_, cap, g, rfl, fun _ => rfl, fun _ => (Array.getElem?_eq_some_iff.1 hg).1, fun j hj => h.cellAt j hj⟩

theorem rowA_map {β : Type} (w : World) (g size : Nat) (xs : List β) (f : β → Option Value) (h : ∀ j (hj : j < xs.length), w.cell? ⟨g, j * size, none⟩ = f xs[j]) : ∀ k i, i + k = xs.length → (rowA g size xs.length i).map w.cell? = (xs.drop i).map f
  | 0, i, hi => by
    obtain rfl : i = xs.length := by omega
    rw [rowA_nil, List.drop_length]; rfl
  | k + 1, i, hi => by
    have hl : i < xs.length := by omega
    rw [rowA_cons _ _ _ _ hl, List.map_cons, List.drop_eq_getElem_cons hl, List.map_cons, rowA_map w g size xs f h k (i + 1) (by omega), h i hl]

def rootU (u : Int × Int × Int × Int) : List Int := u.2.1 :: (if u.1 = 1 then [u.2.2.2] else [])

theorem undA_map (w : World) (g : Nat) (U : List (Int × Int × Int × Int)) (kd : Nat → Int) (hkd : ∀ j (hj : j < U.length), kd j = U[j].1)
    (h1 : ∀ j (hj : j < U.length), w.cell? ⟨g, j * 4 + 1, none⟩ = some (.int .i64 U[j].2.1)) (h3 : ∀ j (hj : j < U.length), w.cell? ⟨g, j * 4 + 3, none⟩ = some (.int .i64 U[j].2.2.2)) :
    ∀ k i, i + k = U.length → (undA g kd U.length i).map w.cell? = ((U.drop i).flatMap rootU).map fun v => some (.int .i64 v)
  | 0, i, hi => by
    obtain rfl : i = U.length := by omega
    rw [undA_nil, List.drop_length]; rfl
  | k + 1, i, hi => by
    have hl : i < U.length := by omega
    rw [undA_cons _ _ _ _ hl, List.drop_eq_getElem_cons hl, List.flatMap_cons, List.map_append, List.map_cons, List.map_append, undA_map w g U kd hkd h1 h3 k (i + 1) (by omega), h1 i hl, hkd i hl]
    unfold rootU
    by_cases hk : U[i].1 = 1
    · rw [if_pos hk, if_pos hk, List.map_cons, h3 i hl]; rfl
    · rw [if_neg hk, if_neg hk]; rfl

def rootsL (R K : List Int) (H : List (Int × Int)) (U : List (Int × Int × Int × Int)) : List Int := R ++ (K ++ (H.map (·.1) ++ U.flatMap rootU))

theorem uvs_get (U : List (Int × Int × Int × Int)) (i : Nat) (hi : i < U.length) : (uvs U)[i * 4]? = some (.int .i64 U[i].1) ∧ (uvs U)[i * 4 + 1]? = some (.int .i64 U[i].2.1) ∧ (uvs U)[i * 4 + 2]? = some (.int .i64 U[i].2.2.1) ∧ (uvs U)[i * 4 + 3]? = some (.int .i64 U[i].2.2.2) := by
  induction U generalizing i with
  | nil => simp at hi
  | cons a U ih =>
    cases i with
    | zero => simp [uvs, uv]
    | succ i =>
      have := ih i (by simpa using hi)
      have e : uvs (a :: U) = .int .i64 a.1 :: .int .i64 a.2.1 :: .int .i64 a.2.2.1 :: .int .i64 a.2.2.2 :: uvs U := by simp [uvs, uv]
      rw [e, show (i + 1) * 4 = i * 4 + 4 by omega]
      simpa using this

/-- A place, and what lies there. -/
abbrev Pl (w : World) : Type := { p : Addr × Int // p.1.block < w.heap.size ∧ w.cell? p.1 = some (.int .i64 p.2) }

theorem rootU_len (U : List (Int × Int × Int × Int)) : (U.flatMap rootU).length ≤ 2 * U.length := by
  induction U with
  | nil => simp
  | cons u U ih =>
    rw [List.flatMap_cons, List.length_append, List.length_cons]
    have : (rootU u).length ≤ 2 := by unfold rootU; split <;> simp
    omega

theorem pairs (w : World) : ∀ (ads : List Addr) (vs : List Int), ads.map w.cell? = vs.map (fun v => some (.int .i64 v)) → ∃ xs : List (Pl w), xs.map (fun x => x.1.1) = ads ∧ xs.map (fun x => x.1.2) = vs
  | [], [], _ => ⟨[], rfl, rfl⟩
  | [], _ :: _, h => by simp at h
  | _ :: _, [], h => by simp at h
  | a :: ads, v :: vs, h => by
    rw [List.map_cons, List.map_cons, List.cons.injEq] at h
    obtain ⟨xs, h1, h2⟩ := pairs w ads vs h.2
    refine ⟨⟨(a, v), World.block_lt_of_cell? w a h.1, h.1⟩ :: xs, ?_, ?_⟩
    · rw [List.map_cons, h1]
    · rw [List.map_cons, h2]

theorem kp_grown {gU : Nat} {W W' : World} {r : Option Nat} (h : W.grownBy W' r) (h22 : ∀ g a b, r = some g → ¬ Blk W g 22 #[a, b]) (h53 : ∀ g cs, r = some g → ¬ Blk W g 53 cs) (h25 : ∀ g cs, r = some g → ¬ Blk W g 25 cs) (hU : r ≠ some gU) : Kp gU W W' :=
  ⟨fun g a b e => (h.block g e.lt (fun x => h22 g a b x.symm e)).trans e, fun g cs e => (h.block g e.lt (fun x => h53 g cs x.symm e)).trans e, fun g cs e => (h.block g e.lt (fun x => h25 g cs x.symm e)).trans e,
    fun j v e => (World.cell?_of_block (a := ⟨gU, j * 4, none⟩) (h.block gU (World.block_lt_of_cell? W _ e) (fun x => hU x.symm))).trans e⟩

theorem kp_append {gU n₀ : Nat} {W w1 : World} {v v' : Value} {k n : Nat} {xs ys : List Value} {o : Obj} (hv : Boxed W n₀ 22 v) (hrow : W.ownsRow n₀ 3 1 v k xs) (hg : gU < n₀) (hown : w1.ownsRow n₀ 3 1 v' n ys) (hgr : (W.alloc o).grownBy w1 v.ownBlock) :
    Kp gU W (w1.setCell ⟨n₀, 0, none⟩ v') := by
  have k1 : Kp gU W w1 := by
    refine (kp_grown (World.grownBy_alloc W o none) (by simp) (by simp) (by simp) (by simp)).trans (kp_grown hgr ?_ ?_ ?_ ?_)
    · intro g a b e hb; exact own_ne (hrow.alloc o) hb (by decide) e
    · intro g cs e hb; exact own_ne (hrow.alloc o) hb (by decide) e
    · intro g cs e hb; exact own_ne (hrow.alloc o) hb (by decide) e
    · intro e; have := (hrow.lt gU e).1; omega
  have hv1 : Blk w1 n₀ 22 #[v] := (hv.alloc o).kept hgr (hv.not_row (by decide) hrow)
  refine k1.trans (kp_grown (gb_set w1 n₀ 0 v') ?_ ?_ ?_ ?_)
  · intro g a b e hb
    cases e
    unfold Blk at hv1 hb
    rw [hv1] at hb
    simp at hb
  · intro g cs e hb
    cases e
    unfold Blk at hv1 hb
    rw [hv1] at hb
    injection hb with hb; injection hb with _ ht; exact absurd ht (by decide)
  · intro g cs e hb
    cases e
    unfold Blk at hv1 hb
    rw [hv1] at hb
    injection hb with hb; injection hb with _ ht; exact absurd ht (by decide)
  · intro e; cases e; omega

/-- append to a row that is owned, as one step of a region that draws, inside a fence. -/
theorem step_append_ownIn {F : Fence} {nF : Nat} {P : Program} {w : World} {ops : Array Oper} {o : Oper} {a : Act} {K : Act → World → Prop} {Q : Exit → Act → World → Prop} {E : Prop} (hgd : o.guard = none) (s x : Operand) (t : TypeId)
    (ho : o.op = .call { callee := .builtin .append, args := #[s, x], argTypes := #[t, t] })
    (base : Nat) (e : TypeId) (i : TypeInfo) (z : Value) (size bytes : Nat) (ht : P.underlying t = some (.slice e)) (hi : P.info? e = some i) (hz : i.zero = some z)
    (hsize : i.size = size) (hby : i.bytes = bytes) (hzs : z.cells.size = size) (hsz : 0 < size)
    (v : Value) (n : Nat) (xs : List Value) (hs : a.eval s = v) (hown : w.ownsRow base e size v n xs)
    (ad : Addr) (m c : Nat) (news : List Value) (hx : a.eval x = .slice (some ad) m c) (hl : news.length = m * size) (hnews : ∀ j u, news[j]? = some u → w.cell? (ad.add j) = some u) (h1 : ∀ u ∈ news, u.oneCell' = true)
    (h63 : n + m ≤ maxLen) (hbytes : (n + m) * bytes ≤ 140737488355328) (hbase : base ≤ w.heap.size)
    (h : ∀ v' w', w'.ownsRow base e size v' (n + m) (xs ++ news) → w.grownBy w' v.ownBlock → K (a.put o.dst v') w') :
    if Region.wanted o (yielded ops a.tmps) = true then Oper.wpIn F nF P o a w K Q else E := by
  have hw : Region.wanted o (yielded ops a.tmps) = true := by simp [Region.wanted, hgd]
  rw [if_pos hw]
  obtain ⟨v', w', hr, h2, h3, h4⟩ := run_append_own (P := P) w base t o.type e i z size bytes ht hi hz hsize hby hzs hsz v n xs hown ad m c news hl hnews h1 h63 hbytes hbase
  unfold Oper.wpIn
  refine ⟨by simp [Oper.about, ho, resolve, Target.leads, Sem.run_pure], ?_⟩
  rw [Oper.semAt_plain F _ _ (by rw [ho]; intro c hc'; cases hc')]
  simp [execOp, ho, resolve, invoke, builtin, hs, hx, hr, Result.andThen]
  exact h v' w' h2 h3

set_option maxRecDepth 100000 in
set_option maxHeartbeats 4000000 in
theorem roots_in (bp : Nat) (Z : Nat → Prop) (mr mu : Nat) (R K : List Int) (H : List (Int × Int)) (U : List (Int × Int × Int × Int)) (w : World) (h : Lg w bp Z mr mu R K H U) :
    CallsIn Fence.wide 8 Try.prog 13 #[.pointer (some ⟨bp, 0, none⟩)] w fun e W' => (∃ v, e = .returned v ∧ W'.ownsRow w.heap.size 3 1 v (rootsL R K H U).length (ints (rootsL R K H U))) ∧ Below w.heap.size w W' := by
  obtain ⟨vR, vK, vH, vU, hV⟩ := h
  obtain ⟨AR, cR, gR, rfl, eR, lR', hcR⟩ := own_at hV.oR
  obtain ⟨AK, cK, gK, rfl, eK, lK', hcK⟩ := own_at hV.oK
  obtain ⟨AH, cH, gH, rfl, eH, lH', hcH⟩ := own_at hV.oH
  obtain ⟨AU, cU, gU, rfl, eU, lU', hcU⟩ := own_at hV.oU
  have hb := hV.blk
  have hltb := hb.lt
  have lR : R.length ≤ 200 := Nat.le_trans hV.nR hV.lr
  have lK : K.length ≤ 200 := Nat.le_trans hV.nK hV.lr
  have lH : H.length ≤ 200 := Nat.le_trans hV.nH hV.lu
  have lU : U.length ≤ 200 := Nat.le_trans hV.nU hV.lu
  clear hV
  obtain ⟨kd, hkd⟩ : ∃ kd : Nat → Int, ∀ j (hj : j < U.length), kd j = U[j].1 := ⟨fun j => if hj : j < U.length then U[j].1 else 0, fun j hj => dif_pos hj⟩
  have mR := rowA_map w gR 1 R (fun v => some (.int .i64 v)) (fun j hj => by rw [hcR _ (by omega)]; simp [ints, hj]) R.length 0 (by omega)
  have mK := rowA_map w gK 1 K (fun v => some (.int .i64 v)) (fun j hj => by rw [hcK _ (by omega)]; simp [ints, hj]) K.length 0 (by omega)
  have mH := rowA_map w gH 2 H (fun v => some (.int .i64 v.1)) (fun j hj => by rw [hcH _ (by omega), (hvs_get H j hj).1]; simp [hj]) H.length 0 (by omega)
  have mU := undA_map w gU U kd hkd (fun j hj => by rw [hcU _ (by omega), (uvs_get U j hj).2.1]) (fun j hj => by rw [hcU _ (by omega), (uvs_get U j hj).2.2.2]) U.length 0 (by omega)
  have mk : ∀ j, j < U.length → w.cell? ⟨gU, j * 4, none⟩ = some (.int .i64 (kd j)) := fun j hj => by rw [hcU _ (by omega), (uvs_get U j hj).1, hkd j hj]
  rw [List.drop_zero] at mR mK mH mU
  obtain ⟨xs, hxa, hxv⟩ := pairs w (rowA gR 1 R.length 0 ++ (rowA gK 1 K.length 0 ++ (rowA gH 2 H.length 0 ++ undA gU kd U.length 0))) (rootsL R K H U) (by
    unfold rootsL
    simp only [List.map_append, mR, mK, mH, mU, List.map_map]
    rfl)
  have hxl : xs.length ≤ 1000 := by
    have e : xs.length = (rootsL R K H U).length := by rw [← hxv]; simp
    have e2 := rootU_len U
    rw [e]; unfold rootsL; simp only [List.length_append, List.length_map]; omega
  clear mR mK mH mU hcR hcK hcH hcU hkd
  generalize rootsL R K H U = L at *
  have hgU : gU < w.heap.size := lU' (by omega)
  obtain ⟨i0, hi, hz0, hz1, hz2⟩ := info_parts info3
  have HI := Lib.hid hi; have HZ0 := Lib.hid hz0; have HZ1 := Lib.hid hz1; have HZ2 := Lib.hid hz2
  clear hi hz0 hz1 hz2
  refine callsIn_of_wp_marks Try.func13 rfl trivial ?_ rfl
  simp only [Try.ntmps13, List.size_toArray, List.length_cons, List.length_nil, Nat.reduceAdd, Nat.reduceSub, Array.replicate_succ, Array.replicate_zero, List.push_toArray, List.append_toArray, List.nil_append, List.cons_append]
  gi_wp2_with ((refine ⟨trivial, ?_⟩; gi_at_call 27; refine (callsIn_wide.2 (places_any bp _)).mono ?_; rintro e w' ⟨rfl, rfl⟩))
  have bO := (Boxed.new w 22 (.slice none 0 0)).alloc (.cells #[.pointer (some ⟨bp, 0, none⟩)] 25)
  have bN : Blk ((w.alloc (.cells #[.slice none 0 0] 22)).alloc (.cells #[.pointer (some ⟨bp, 0, none⟩)] 25)) (w.heap.size + 1) 25 #[.pointer (some ⟨bp, 0, none⟩)] := by
    have := heap_alloc_new (w.alloc (.cells #[.slice none 0 0] 22)) (.cells #[.pointer (some ⟨bp, 0, none⟩)] 25)
    rwa [World.size_alloc] at this
  have hB0 : Below w.heap.size w ((w.alloc (.cells #[.slice none 0 0] 22)).alloc (.cells #[.pointer (some ⟨bp, 0, none⟩)] 25)) := ((Below.refl _ w).alloc (Nat.le_refl _) _).alloc (by simp) _
  have hsz : ((w.alloc (.cells #[.slice none 0 0] 22)).alloc (.cells #[.pointer (some ⟨bp, 0, none⟩)] 25)).heap.size = w.heap.size + 2 := by simp
  generalize ((w.alloc (.cells #[.slice none 0 0] 22)).alloc (.cells #[.pointer (some ⟨bp, 0, none⟩)] 25)) = W0 at *
  have hb0 : Blk W0 bp 53 _ := (hB0.block bp hltb).trans hb
  have mk0 : ∀ j, j < U.length → W0.cell? ⟨gU, j * 4, none⟩ = some (.int .i64 (kd j)) := fun j hj => (hB0.cell (p := ⟨gU, j * 4, none⟩) (World.block_lt_of_cell? w _ (mk j hj))).trans (mk j hj)
  have hst := iter_stops (fun x : Pl w => x.1.1) xs 7 (by omega) (w.heap.size + 1) bp (.int .i64 mr) (.int .i64 mu) AR AK AH AU R.length K.length H.length U.length cR cK cH cU gR gK gH gU kd W0 bN hb0 eR eK eH eU mk0 lR lK lH lU hxa
  refine wpIn_rangeFunc_ownF rfl (by omega) (gf := 32) (lb := #[.pointer (some ⟨w.heap.size + 1, 0, none⟩)]) rfl trivial (enters_of Try.func32 (by kernel_rfl) rfl)
    hst Kp.trans (Kp.put (w := W0)) (Below.refl _ _) (fun _ => rfl)
    (fun pre W => (∃ v, Boxed W w.heap.size 22 v ∧ W.ownsRow w.heap.size 3 1 v (pre.map (fun x : Pl w => x.1.2)).length ((pre.map (fun x : Pl w => x.1.2)).map (Value.int .i64)) ∧ (v = .slice none 0 0 ↔ pre = [])) ∧ Below w.heap.size w W)
    (fun _ _ _ => False)
    (OwnFrom.and (Own.from (holdsRow_own w.heap.size w.heap.size 22 3 1 (fun pre => (pre.map (fun x : Pl w => x.1.2)).length) (fun pre => (pre.map (fun x : Pl w => x.1.2)).map (Value.int .i64)) (fun pre v => v = .slice none 0 0 ↔ pre = [])) _) (ownFrom_below (Nat.le_refl _) (by omega)))
    (fun c => fun _ _ _ _ hs _ _ => hs)
    ⟨⟨_, bO, World.ownsRow_nil _ _ _ _, by simp⟩, hB0⟩
    (fun x => { tmps := #[.pointer (some ⟨bp, 0, none⟩), undef, .slice none 0 0, .pointer (some ⟨w.heap.size, 0, none⟩), .pointer (some x.1.1), .pointer (some ⟨bp, 0, none⟩), .func (.func 32) #[] #[.pointer (some ⟨w.heap.size + 1, 0, none⟩)], .pointer (some x.1.1), undef, undef, undef, undef, undef, undef, undef], defers := [] }) ?assign ?body ?done ?stop
  case assign =>
    intro l x W K hK
    gi_wp2
    exact hK
  case body =>
    rintro l pre x W ⟨⟨v, hv, hrow, hnil⟩, hB⟩ hpl
    obtain ⟨⟨⟨xb, xo, xr⟩, y⟩, hx1, hx2⟩ := x
    dsimp only at hx1 hx2 ⊢
    have hy : W.cell? ⟨xb, xo, xr⟩ = some (.int .i64 y) := (hB.cell (p := ⟨xb, xo, xr⟩) hx1).trans hx2
    have hc := hv.cell
    have hf := hv.frozen
    have hrowa : ((W.alloc (.cells #[.int .i64 y] 3)).drew).ownsRow w.heap.size 3 1 v (pre.map (fun x : Pl w => x.1.2)).length ((pre.map (fun x : Pl w => x.1.2)).map (Value.int .i64)) := (hrow.alloc _).drew
    have hlm : (pre.map (fun x : Pl w => x.1.2)).length + 1 ≤ maxLen := by rw [List.length_map]; unfold maxLen; omega
    have hll : (pre.map (fun x : Pl w => x.1.2)).length ≤ 1000 := by rw [List.length_map]; omega
    have HKP := Lib.hid (fun v' w1 h1 h2 => kp_append (gU := gU) hv hrow hgU h1 h2 (v' := v') (w1 := w1) (n := (pre.map (fun x : Pl w => x.1.2)).length + 1) (ys := (pre.map (fun x : Pl w => x.1.2)).map (Value.int .i64) ++ [.int .i64 y]) (o := .cells #[.int .i64 y] 3))
    have hltB : w.heap.size < W.heap.size := World.block_lt_of_cell? W _ hc
    have hca : (W.alloc (.cells #[.int .i64 y] 3)).cell? ⟨w.heap.size, 0, none⟩ = some v := (World.cell?_alloc_lt W _ ⟨w.heap.size, 0, none⟩ hltB).trans hc
    gi_wp2
    refine wpIn_region_any (by kernel_rfl) ?_
    change wpAnyIn _ _ _ _ _ _ _ _ _ W.drew
    refine wpAnyIn_ready (rs := [0, 1]) (by kernel_rfl) (by simp) ?_
    refine AllReadyIn.cons rfl (fun K hK => ?_) (AllReadyIn.cons rfl (fun K hK => ?_) AllReadyIn.nil)
    · go_simp; refine hK _ _ ?_; clear hK K
      refine wpAnyIn_ready (rs := [1]) (by kernel_rfl) (by simp) ?_
      refine AllReadyIn.cons rfl (fun K hK => ?_) AllReadyIn.nil
      go_simp; refine hK _ _ ?_; clear hK K
      refine wpAnyIn_ready (rs := [2]) (by kernel_rfl) (by simp) ?_
      refine AllReadyIn.cons rfl (fun K hK => ?_) AllReadyIn.nil
      go_simp; refine hK _ _ ?_; clear hK K
      refine wpAnyIn_ready (rs := [3]) (by kernel_rfl) (by simp) ?_
      refine AllReadyIn.cons rfl (fun K hK => ?_) AllReadyIn.nil
      go_simp; refine hK _ _ ?_; clear hK K
      refine wpAnyIn_ready (rs := [4]) (by kernel_rfl) (by simp) ?_
      refine AllReadyIn.cons rfl (fun K hK => ?_) AllReadyIn.nil
      go_simp; refine hK _ _ ?_; clear hK K
      refine wpAnyIn_ready (rs := [5]) (by kernel_rfl) (by simp) ?_
      refine AllReadyIn.cons rfl (fun K hK => ?_) AllReadyIn.nil
      refine step_append_ownIn rfl (.tmp 8) (.tmp 12) 22 rfl w.heap.size 3 i0 (.int .i64 0) 1 8 Try.underlying22 HI.out HZ0.out HZ1.out HZ2.out rfl (by decide) v _ _ rfl hrowa ⟨W.heap.size, 0, none⟩ 1 1 [.int .i64 y] rfl rfl (cell_one_new W _ _) (by simp [Value.oneCell']) hlm (by omega) (by simp; omega) ?_
      intro v' w1 hown' hgrow
      obtain ⟨g', cap', rfl⟩ := ownsRow_succ hown'
      obtain ⟨hv1, hv2, hr2, hk2, hb2⟩ := hv.appended (by decide) hrow hB.size (Nat.le_refl _) hown' (tmp := .cells #[.int .i64 y] 3) ⟨hgrow.os, hgrow.tape, hgrow.output, hgrow.size, hgrow.block⟩
      have hkp := HKP.out _ _ hown' ⟨hgrow.os, hgrow.tape, hgrow.output, hgrow.size, hgrow.block⟩
      have hc1 := hv1.cell
      have hf1 := hv1.frozen
      refine hK _ _ ?_
      clear hK K
      refine wpAnyIn_ready (rs := [6]) (by kernel_rfl) (by simp) ?_
      refine AllReadyIn.cons rfl (fun K hK => ?_) AllReadyIn.nil
      go_simp
      refine hK _ _ ?_
      clear hK K
      refine wpAnyIn_done (by kernel_rfl) ?_ _
      gi_wp2
      simp only [List.length_map] at hk2 hkp hv2 hr2 hb2
      exact ⟨hk2, hkp, ⟨_, hv2, by simpa using hr2, by simp⟩, hB.trans hb2⟩
    · go_simp; refine hK _ _ ?_; clear hK K
      refine wpAnyIn_ready (rs := [0, 2]) (by kernel_rfl) (by simp) ?_
      refine AllReadyIn.cons rfl (fun K hK => ?_) (AllReadyIn.cons rfl (fun K hK => ?_) AllReadyIn.nil)
      · go_simp; refine hK _ _ ?_; clear hK K
        refine wpAnyIn_ready (rs := [2]) (by kernel_rfl) (by simp) ?_
        refine AllReadyIn.cons rfl (fun K hK => ?_) AllReadyIn.nil
        go_simp; refine hK _ _ ?_; clear hK K
        refine wpAnyIn_ready (rs := [3]) (by kernel_rfl) (by simp) ?_
        refine AllReadyIn.cons rfl (fun K hK => ?_) AllReadyIn.nil
        go_simp; refine hK _ _ ?_; clear hK K
        refine wpAnyIn_ready (rs := [4]) (by kernel_rfl) (by simp) ?_
        refine AllReadyIn.cons rfl (fun K hK => ?_) AllReadyIn.nil
        go_simp; refine hK _ _ ?_; clear hK K
        refine wpAnyIn_ready (rs := [5]) (by kernel_rfl) (by simp) ?_
        refine AllReadyIn.cons rfl (fun K hK => ?_) AllReadyIn.nil
        refine step_append_ownIn rfl (.tmp 8) (.tmp 12) 22 rfl w.heap.size 3 i0 (.int .i64 0) 1 8 Try.underlying22 HI.out HZ0.out HZ1.out HZ2.out rfl (by decide) v _ _ rfl hrowa ⟨W.heap.size, 0, none⟩ 1 1 [.int .i64 y] rfl rfl (cell_one_new W _ _) (by simp [Value.oneCell']) hlm (by omega) (by simp; omega) ?_
        intro v' w1 hown' hgrow
        obtain ⟨g', cap', rfl⟩ := ownsRow_succ hown'
        obtain ⟨hv1, hv2, hr2, hk2, hb2⟩ := hv.appended (by decide) hrow hB.size (Nat.le_refl _) hown' (tmp := .cells #[.int .i64 y] 3) ⟨hgrow.os, hgrow.tape, hgrow.output, hgrow.size, hgrow.block⟩
        have hkp := HKP.out _ _ hown' ⟨hgrow.os, hgrow.tape, hgrow.output, hgrow.size, hgrow.block⟩
        have hc1 := hv1.cell
        have hf1 := hv1.frozen
        refine hK _ _ ?_
        clear hK K
        refine wpAnyIn_ready (rs := [6]) (by kernel_rfl) (by simp) ?_
        refine AllReadyIn.cons rfl (fun K hK => ?_) AllReadyIn.nil
        go_simp
        refine hK _ _ ?_
        clear hK K
        refine wpAnyIn_done (by kernel_rfl) ?_ _
        gi_wp2
        simp only [List.length_map] at hk2 hkp hv2 hr2 hb2
        exact ⟨hk2, hkp, ⟨_, hv2, by simpa using hr2, by simp⟩, hB.trans hb2⟩
      · go_simp; refine hK _ _ ?_; clear hK K
        refine wpAnyIn_ready (rs := [0, 3]) (by kernel_rfl) (by simp) ?_
        refine AllReadyIn.cons rfl (fun K hK => ?_) (AllReadyIn.cons rfl (fun K hK => ?_) AllReadyIn.nil)
        · go_simp; refine hK _ _ ?_; clear hK K
          refine wpAnyIn_ready (rs := [3]) (by kernel_rfl) (by simp) ?_
          refine AllReadyIn.cons rfl (fun K hK => ?_) AllReadyIn.nil
          go_simp; refine hK _ _ ?_; clear hK K
          refine wpAnyIn_ready (rs := [4]) (by kernel_rfl) (by simp) ?_
          refine AllReadyIn.cons rfl (fun K hK => ?_) AllReadyIn.nil
          go_simp; refine hK _ _ ?_; clear hK K
          refine wpAnyIn_ready (rs := [5]) (by kernel_rfl) (by simp) ?_
          refine AllReadyIn.cons rfl (fun K hK => ?_) AllReadyIn.nil
          refine step_append_ownIn rfl (.tmp 8) (.tmp 12) 22 rfl w.heap.size 3 i0 (.int .i64 0) 1 8 Try.underlying22 HI.out HZ0.out HZ1.out HZ2.out rfl (by decide) v _ _ rfl hrowa ⟨W.heap.size, 0, none⟩ 1 1 [.int .i64 y] rfl rfl (cell_one_new W _ _) (by simp [Value.oneCell']) hlm (by omega) (by simp; omega) ?_
          intro v' w1 hown' hgrow
          obtain ⟨g', cap', rfl⟩ := ownsRow_succ hown'
          obtain ⟨hv1, hv2, hr2, hk2, hb2⟩ := hv.appended (by decide) hrow hB.size (Nat.le_refl _) hown' (tmp := .cells #[.int .i64 y] 3) ⟨hgrow.os, hgrow.tape, hgrow.output, hgrow.size, hgrow.block⟩
          have hkp := HKP.out _ _ hown' ⟨hgrow.os, hgrow.tape, hgrow.output, hgrow.size, hgrow.block⟩
          have hc1 := hv1.cell
          have hf1 := hv1.frozen
          refine hK _ _ ?_
          clear hK K
          refine wpAnyIn_ready (rs := [6]) (by kernel_rfl) (by simp) ?_
          refine AllReadyIn.cons rfl (fun K hK => ?_) AllReadyIn.nil
          go_simp
          refine hK _ _ ?_
          clear hK K
          refine wpAnyIn_done (by kernel_rfl) ?_ _
          gi_wp2
          simp only [List.length_map] at hk2 hkp hv2 hr2 hb2
          exact ⟨hk2, hkp, ⟨_, hv2, by simpa using hr2, by simp⟩, hB.trans hb2⟩
        · go_simp; refine hK _ _ ?_; clear hK K
          refine wpAnyIn_ready (rs := [0, 4]) (by kernel_rfl) (by simp) ?_
          refine AllReadyIn.cons rfl (fun K hK => ?_) (AllReadyIn.cons rfl (fun K hK => ?_) AllReadyIn.nil)
          · go_simp; refine hK _ _ ?_; clear hK K
            refine wpAnyIn_ready (rs := [4]) (by kernel_rfl) (by simp) ?_
            refine AllReadyIn.cons rfl (fun K hK => ?_) AllReadyIn.nil
            go_simp; refine hK _ _ ?_; clear hK K
            refine wpAnyIn_ready (rs := [5]) (by kernel_rfl) (by simp) ?_
            refine AllReadyIn.cons rfl (fun K hK => ?_) AllReadyIn.nil
            refine step_append_ownIn rfl (.tmp 8) (.tmp 12) 22 rfl w.heap.size 3 i0 (.int .i64 0) 1 8 Try.underlying22 HI.out HZ0.out HZ1.out HZ2.out rfl (by decide) v _ _ rfl hrowa ⟨W.heap.size, 0, none⟩ 1 1 [.int .i64 y] rfl rfl (cell_one_new W _ _) (by simp [Value.oneCell']) hlm (by omega) (by simp; omega) ?_
            intro v' w1 hown' hgrow
            obtain ⟨g', cap', rfl⟩ := ownsRow_succ hown'
            obtain ⟨hv1, hv2, hr2, hk2, hb2⟩ := hv.appended (by decide) hrow hB.size (Nat.le_refl _) hown' (tmp := .cells #[.int .i64 y] 3) ⟨hgrow.os, hgrow.tape, hgrow.output, hgrow.size, hgrow.block⟩
            have hkp := HKP.out _ _ hown' ⟨hgrow.os, hgrow.tape, hgrow.output, hgrow.size, hgrow.block⟩
            have hc1 := hv1.cell
            have hf1 := hv1.frozen
            refine hK _ _ ?_
            clear hK K
            refine wpAnyIn_ready (rs := [6]) (by kernel_rfl) (by simp) ?_
            refine AllReadyIn.cons rfl (fun K hK => ?_) AllReadyIn.nil
            go_simp
            refine hK _ _ ?_
            clear hK K
            refine wpAnyIn_done (by kernel_rfl) ?_ _
            gi_wp2
            simp only [List.length_map] at hk2 hkp hv2 hr2 hb2
            exact ⟨hk2, hkp, ⟨_, hv2, by simpa using hr2, by simp⟩, hB.trans hb2⟩
          · go_simp; refine hK _ _ ?_; clear hK K
            refine wpAnyIn_ready (rs := [0]) (by kernel_rfl) (by simp) ?_
            refine AllReadyIn.cons rfl (fun K hK => ?_) AllReadyIn.nil
            go_simp; refine hK _ _ ?_; clear hK K
            refine wpAnyIn_ready (rs := [5]) (by kernel_rfl) (by simp) ?_
            refine AllReadyIn.cons rfl (fun K hK => ?_) AllReadyIn.nil
            refine step_append_ownIn rfl (.tmp 8) (.tmp 12) 22 rfl w.heap.size 3 i0 (.int .i64 0) 1 8 Try.underlying22 HI.out HZ0.out HZ1.out HZ2.out rfl (by decide) v _ _ rfl hrowa ⟨W.heap.size, 0, none⟩ 1 1 [.int .i64 y] rfl rfl (cell_one_new W _ _) (by simp [Value.oneCell']) hlm (by omega) (by simp; omega) ?_
            intro v' w1 hown' hgrow
            obtain ⟨g', cap', rfl⟩ := ownsRow_succ hown'
            obtain ⟨hv1, hv2, hr2, hk2, hb2⟩ := hv.appended (by decide) hrow hB.size (Nat.le_refl _) hown' (tmp := .cells #[.int .i64 y] 3) ⟨hgrow.os, hgrow.tape, hgrow.output, hgrow.size, hgrow.block⟩
            have hkp := HKP.out _ _ hown' ⟨hgrow.os, hgrow.tape, hgrow.output, hgrow.size, hgrow.block⟩
            have hc1 := hv1.cell
            have hf1 := hv1.frozen
            refine hK _ _ ?_
            clear hK K
            refine wpAnyIn_ready (rs := [6]) (by kernel_rfl) (by simp) ?_
            refine AllReadyIn.cons rfl (fun K hK => ?_) AllReadyIn.nil
            go_simp
            refine hK _ _ ?_
            clear hK K
            refine wpAnyIn_done (by kernel_rfl) ?_ _
            gi_wp2
            simp only [List.length_map] at hk2 hkp hv2 hr2 hb2
            exact ⟨hk2, hkp, ⟨_, hv2, by simpa using hr2, by simp⟩, hB.trans hb2⟩
  case done =>
    rintro D ys W hD rfl ⟨⟨v, hv, hrow, _⟩, hB⟩ hK
    have hc := hv.cell
    gi_wp2
    refine ⟨by simp, .inl ⟨_, _, rfl, run_takeDeferred hK, ?_⟩⟩
    rw [hxv] at hrow
    exact ⟨_, results_tmp rfl _ _ _, ⟨_, rfl, ownsRow_putObj hrow _ hK rfl⟩, hB.trans (belowK_b (w := w) (Nat.le_refl _) W D _ _ (by omega) hK rfl rfl)⟩
  case stop =>
    rintro D c pre W _ _ h _
    exact h.elim
theorem roots_any (bp : Nat) (Z : Nat → Prop) (mr mu : Nat) (R K : List Int) (H : List (Int × Int)) (U : List (Int × Int × Int × Int)) (w : World) (h : Lg w bp Z mr mu R K H U) :
    Calls Try.prog 13 #[.pointer (some ⟨bp, 0, none⟩)] w fun e W' => (∃ v, e = .returned v ∧ W'.ownsRow w.heap.size 3 1 v (rootsL R K H U).length (ints (rootsL R K H U))) ∧ w.grownBy W' none :=
  (callsIn_wide.1 (roots_in bp Z mr mu R K H U w h)).mono fun _ _ ⟨h1, h2⟩ => ⟨h1, of_below h2⟩
end Go.Proofs.Ytjeapnhaakppeaa
