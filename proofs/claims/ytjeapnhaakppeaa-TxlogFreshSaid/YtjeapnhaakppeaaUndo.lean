/-
  Contracts of Undo and Hold.
-/
import Derived.Test.YtjeapnhaakppeaaLog
import Derived.Deep.RegionLaw
namespace Go.Proofs.Ytjeapnhaakppeaa
open Go.ChangeShapes Go.WideShapes Go.ChangeAt Go.RowKit
set_option linter.unusedVariables false

def undoL (U : List (Int × Int × Int × Int)) (u : Int × Int × Int × Int) (m : Nat) : List (Int × Int × Int × Int) := if U.length < m then U ++ [u] else U

theorem own_form {w : World} {e : TypeId} {size n : Nat} {v : Value} {xs : List Value} (h : w.ownsRow 0 e size v n xs) : ∃ A c, v = .slice A n c ∧ n ≤ c ∧ (c : Int) ≤ 9223372036854775807 := by
  rcases h.2 with ⟨rfl, rfl⟩ | ⟨g, cap, cur, rfl, _, _, hn, hm, _⟩
  · exact ⟨none, 0, rfl, Nat.le_refl _, by omega⟩
  · exact ⟨_, cap, rfl, hn, by unfold maxLen at hm; omega⟩

theorem cells_four (w : World) (a b c d : Value) (t : TypeId) : ∀ j u, [a, b, c, d][j]? = some u → (w.alloc (.cells #[a, b, c, d] t)).cell? ((⟨w.heap.size, 0, none⟩ : Addr).add j) = some u := by
  intro j u hj
  have hb : Blk (w.alloc (.cells #[a, b, c, d] t)) w.heap.size t #[a, b, c, d] := heap_alloc_new w _
  rw [Addr.add_lit, hb.cell, Nat.zero_add]
  simpa using hj

theorem one_uv (u : Int × Int × Int × Int) : ∀ x ∈ uv u, x.oneCell' = true := by
  intro x hx
  simp [uv] at hx
  rcases hx with rfl | rfl | rfl | rfl <;> rfl

/-- As Stepped.put, over a box that was laid first. -/
theorem Stepped.box {w w' : World} {bp i : Nat} {cs : Array Value} {e : TypeId} {size : Nat} {v v' : Value} {n : Nat} {xs : List Value} {o : Obj} (s : Stepped (w.alloc o) w' bp i cs e size v v' n xs) (hv : v.ownBlock ≠ some w.heap.size) (hbp : bp < w.heap.size) : Stepped w w' bp i cs e size v v' n xs := by
  refine ⟨s.blk, s.own, ?_, ⟨s.fr.os, s.fr.tape, s.fr.output, Nat.le_trans (by simp) s.fr.size, fun k hk hz => (s.fr.block k (by simp; omega) hz).trans (Below.heap_alloc w o k hk)⟩⟩
  rcases s.at_ with h | ⟨g, h, h1, h2⟩
  · exact .inl h
  · exact .inr ⟨g, h, by simp at h1; omega, h2⟩

theorem keptBlk {X w4 : World} {o : Obj} {v : Value} {bp : Nat} {cs : Array Value} (g : (X.alloc o).grownBy w4 v.ownBlock) (hne : v.ownBlock ≠ some bp) (hb : Blk X bp 53 cs) : Blk w4 bp 53 cs :=
  (g.block bp (by simp; have := hb.lt; omega) (fun h => hne h.symm)).trans ((Below.heap_alloc X o bp hb.lt).trans hb)

theorem Stepped.ofheap {w X w' : World} {bp i : Nat} {cs : Array Value} {e : TypeId} {size : Nat} {v v' : Value} {n : Nat} {xs : List Value} (s : Stepped X w' bp i cs e size v v' n xs) (h1 : X.heap = w.heap) (h2 : X.os = w.os) (h3 : X.tape = w.tape) (h4 : X.output = w.output) : Stepped w w' bp i cs e size v v' n xs :=
  ⟨s.blk, s.own, by rw [← h1]; exact s.at_, ⟨s.fr.os.trans h2, s.fr.tape.trans h3, s.fr.output.trans h4, by rw [← h1]; exact s.fr.size, by rw [← h1]; exact s.fr.block⟩⟩

set_option maxHeartbeats 2000000 in
theorem undo_fits (bp : Nat) (Z : Nat → Prop) (mr mu : Nat) (R K : List Int) (H : List (Int × Int)) (U : List (Int × Int × Int × Int)) (u : Int × Int × Int × Int) (w : World) (h : Lg w bp Z mr mu R K H U) (hfit : U.length < mu) :
    Calls Try.prog 18 #[.pointer (some ⟨bp, 0, none⟩), .agg #[.int .i64 u.1, .int .i64 u.2.1, .int .i64 u.2.2.1, .int .i64 u.2.2.2]] w fun e w' => e = .returned (.bool true) ∧ Lg w' bp (zx Z w w') mr mu R K H (U ++ [u]) ∧ Zf Z w w' := by
  obtain ⟨vR, vK, vH, vU, hV⟩ := h
  obtain ⟨A, c, rfl, hc, hc2⟩ := own_form hV.oU
  have hb := hV.blk
  have hlu := hV.lu
  have hltb := hb.lt
  have HV := Lib.hid hV
  have HO := Lib.hid hV.oU
  have HNE := Lib.hid (own_ne hV.oU hb (by decide))
  clear hV
  obtain ⟨u1, u2, u3, u4⟩ := u
  dsimp only
  -- the world with the box
  obtain ⟨wb, hwb⟩ : ∃ wb, wb = w.alloc (.cells #[.int .i64 u1, .int .i64 u2, .int .i64 u3, .int .i64 u4] 38) := ⟨_, rfl⟩
  have hbb : Blk wb bp 53 #[.int .i64 mr, .int .i64 mu, vR, vK, vH, .slice A U.length c] := by rw [hwb]; exact (Below.heap_alloc w _ bp hltb).trans hb
  have hob : wb.ownsRow 0 38 4 (.slice A U.length c) U.length (uvs U) := by rw [hwb]; exact HO.out.alloc _
  have hnb : Blk wb w.heap.size 38 #[.int .i64 u1, .int .i64 u2, .int .i64 u3, .int .i64 u4] := by rw [hwb]; exact heap_alloc_new w _
  have c1 : wb.cell? ⟨bp, 1, none⟩ = some (.int .i64 mu) := hbb.cell 1
  have c5 : wb.cell? ⟨bp, 5, none⟩ = some (.slice A U.length c) := hbb.cell 5
  have f5 := hbb.free 5
  have d0 : wb.cell? ⟨w.heap.size, 0, none⟩ = some (.int .i64 u1) := hnb.cell 0
  have d1 : wb.cell? ⟨w.heap.size, 1, none⟩ = some (.int .i64 u2) := hnb.cell 1
  have d2 : wb.cell? ⟨w.heap.size, 2, none⟩ = some (.int .i64 u3) := hnb.cell 2
  have d3 : wb.cell? ⟨w.heap.size, 3, none⟩ = some (.int .i64 u4) := hnb.cell 3
  have c5a : (wb.alloc (.cells #[.int .i64 u1, .int .i64 u2, .int .i64 u3, .int .i64 u4] 38)).cell? ⟨bp, 5, none⟩ = some (.slice A U.length c) := (World.cell?_alloc_lt wb _ ⟨bp, 5, none⟩ hbb.lt).trans c5
  have hsz : wb.heap.size = w.heap.size + 1 := by rw [hwb]; simp
  have HSZ := Lib.hid hsz
  have HOB := Lib.hid hob
  have HBB := Lib.hid hbb
  have HNE2 : Hid ((Value.slice A U.length c).ownBlock ≠ some w.heap.size) := fun e => by have := own_lt HO.out e; omega
  obtain ⟨i0, hi0, hz0, hz1, hz2⟩ := info_parts info38
  have HI := Lib.hid hi0; have HZ0 := Lib.hid hz0; have HZ1 := Lib.hid hz1; have HZ2 := Lib.hid hz2
  have hU4 : U.length < 200 := by omega
  clear hi0 hz0 hz1 hz2 hb hob hbb hnb hsz
  have HWB := Lib.hid hwb
  clear hwb
  go_enter Try.func18, Try.ntmps18
  go_wp2_with fail
  rw [← HWB.out]
  go_still_tail 13, (by kernel_rfl)
  change wpList _ _ _ _ _ wb.drew
  go_wp2_with fail
  go_region_law (refine step_append_lies _ rfl (.tmp 23) (.tmp 25) 43 rfl 0 38 i0 (.agg #[.int .i64 0, .int .i64 0, .int .i64 0, .int .i64 0]) 4 32 Try.underlying43 HI.out HZ0.out HZ1.out HZ2.out rfl (by decide) (.slice A U.length c) U.length (uvs U) rfl (World.ownsRow.alloc HOB.out _) ⟨wb.heap.size, 0, none⟩ 1 1 [.int .i64 u1, .int .i64 u2, .int .i64 u3, .int .i64 u4] rfl rfl (cells_four _ _ _ _ _ _) (one_uv (u1, u2, u3, u4)) (by omega) (by unfold maxLen; omega) (by omega) (by omega) (wb.heap.size + 1) (by simp) ?_; intro g cap w4 hown4 g4 hat4 hlt4; have g5 : (wb.alloc (.cells #[.int .i64 u1, .int .i64 u2, .int .i64 u3, .int .i64 u4] 38)).grownBy w4 (Value.slice A U.length c).ownBlock := ⟨g4.os, g4.tape, g4.output, g4.size, g4.block⟩; have f4 := (keptBlk g5 HNE.out HBB.out).free 5; have k4 : w4.cell? ⟨bp, 5, none⟩ = some (.slice A U.length c) := (keptBlk g5 HNE.out HBB.out).cell 5; have HF := Lib.hid (Stepped.put (i := 5) HBB.out HNE.out hown4 g5 (g := g) rfl hat4 hlt4); clear hown4 g4 g5 hat4 hlt4)
  all_goals
    go_wp2_with fail
    go_ret
    have HB2 := Lib.hid (Stepped.box (HWB.out ▸ HF.out) HNE2.out hltb)
    have hfin := HV.out.stepU (U' := U ++ [(u1, u2, u3, u4)]) (by
      have e1 : (U ++ [(u1, u2, u3, u4)]).length = U.length + 1 := by simp
      have e2 : uvs (U ++ [(u1, u2, u3, u4)]) = uvs U ++ [.int .i64 u1, .int .i64 u2, .int .i64 u3, .int .i64 u4] := by simp [uvs, uv]
      rw [e1, e2]; exact HB2.out) (by simp; omega)
    exact ⟨rfl, ⟨_, _, _, _, hfin.1⟩, hfin.2⟩

theorem zx_alloc {Z : Nat → Prop} {w w' : World} (hs : w.heap.size ≤ w'.heap.size) (hl : ∀ k, Z k → k < w.heap.size) : ∀ k, zx Z w w' k → k < w'.heap.size := by
  intro k hk
  rcases hk with x | x
  · have := hl k x; omega
  · exact x.2

theorem Lg.zl' {w : World} {bp : Nat} {Z : Nat → Prop} {mr mu : Nat} {R K : List Int} {H : List (Int × Int)} {U : List (Int × Int × Int × Int)} (h : Lg w bp Z mr mu R K H U) : ∀ k, Z k → k < w.heap.size := by
  obtain ⟨_, _, _, _, h⟩ := h; exact h.zl

/-- Nothing but new blocks: the log is as it was, its zone may take them in. -/
theorem Lg.newer {w w' : World} {bp : Nat} {Z : Nat → Prop} {mr mu : Nat} {R K : List Int} {H : List (Int × Int)} {U : List (Int × Int × Int × Int)} (h : Lg w bp Z mr mu R K H U) (g : w.grownBy w' none) :
    Lg w' bp (zx Z w w') mr mu R K H U ∧ Zf Z w w' :=
  ⟨(h.gb g (by simp)).wide (fun k hk => .inl hk) (zx_alloc g.size h.zl'), Zf.of_gb g (by simp)⟩

theorem undo_full (bp : Nat) (Z : Nat → Prop) (mr mu : Nat) (R K : List Int) (H : List (Int × Int)) (U : List (Int × Int × Int × Int)) (u : Int × Int × Int × Int) (w : World) (h : Lg w bp Z mr mu R K H U) (hfit : mu ≤ U.length) :
    Calls Try.prog 18 #[.pointer (some ⟨bp, 0, none⟩), .agg #[.int .i64 u.1, .int .i64 u.2.1, .int .i64 u.2.2.1, .int .i64 u.2.2.2]] w fun e w' => e = .returned (.bool false) ∧ Lg w' bp (zx Z w w') mr mu R K H U ∧ Zf Z w w' := by
  have HL := Lib.hid h
  obtain ⟨vR, vK, vH, vU, hV⟩ := h
  obtain ⟨A, c, rfl, hc, hc2⟩ := own_form hV.oU
  have hb := hV.blk
  have hlu := hV.lu
  have hnU := hV.nU
  have hltb := hb.lt
  clear hV
  obtain ⟨u1, u2, u3, u4⟩ := u
  dsimp only
  obtain ⟨wb, hwb⟩ : ∃ wb, wb = w.alloc (.cells #[.int .i64 u1, .int .i64 u2, .int .i64 u3, .int .i64 u4] 38) := ⟨_, rfl⟩
  have hbb : Blk wb bp 53 #[.int .i64 mr, .int .i64 mu, vR, vK, vH, .slice A U.length c] := by rw [hwb]; exact (Below.heap_alloc w _ bp hltb).trans hb
  have c1 : wb.cell? ⟨bp, 1, none⟩ = some (.int .i64 mu) := hbb.cell 1
  have c5 : wb.cell? ⟨bp, 5, none⟩ = some (.slice A U.length c) := hbb.cell 5
  have hgb : w.grownBy wb.drew none := by rw [hwb]; exact grownBy_trans (World.grownBy_alloc w _ none) (gb_drew _ none)
  have HG := Lib.hid hgb
  clear hb hbb hgb
  have HWB := Lib.hid hwb
  clear hwb
  go_enter Try.func18, Try.ntmps18
  go_wp2_with fail
  rw [← HWB.out]
  go_still_tail 13, (by kernel_rfl)
  change wpList _ _ _ _ _ wb.drew
  go_wp2_with fail
  go_ret
  exact ⟨rfl, HL.out.newer HG.out⟩

def undoB (U : List (Int × Int × Int × Int)) (m : Nat) : Bool := decide (U.length < m)

theorem undo_any (bp : Nat) (Z : Nat → Prop) (mr mu : Nat) (R K : List Int) (H : List (Int × Int)) (U : List (Int × Int × Int × Int)) (u : Int × Int × Int × Int) (w : World) (h : Lg w bp Z mr mu R K H U) :
    Calls Try.prog 18 #[.pointer (some ⟨bp, 0, none⟩), .agg #[.int .i64 u.1, .int .i64 u.2.1, .int .i64 u.2.2.1, .int .i64 u.2.2.2]] w fun e w' => e = .returned (.bool (undoB U mu)) ∧ Lg w' bp (zx Z w w') mr mu R K H (undoL U u mu) ∧ Zf Z w w' := by
  by_cases hf : U.length < mu
  · have e1 : undoB U mu = true := decide_eq_true hf
    have e2 : undoL U u mu = U ++ [u] := if_pos hf
    rw [e1, e2]
    exact undo_fits bp Z mr mu R K H U u w h hf
  · have e1 : undoB U mu = false := decide_eq_false hf
    have e2 : undoL U u mu = U := if_neg hf
    rw [e1, e2]
    exact undo_full bp Z mr mu R K H U u w h (by omega)

/-! ### Hold -/
def holdB (H : List (Int × Int)) (h : Int × Int) (m : Nat) : Bool := decide (∀ x ∈ H, x.1 ≠ h.1) && decide (H.length < m)
def holdL (H : List (Int × Int)) (h : Int × Int) (m : Nat) : List (Int × Int) := if (∀ x ∈ H, x.1 ≠ h.1) ∧ H.length < m then H ++ [h] else H

theorem hvs_get (H : List (Int × Int)) (i : Nat) (hi : i < H.length) : (hvs H)[i * 2]? = some (.int .i64 (H.getD i (0, 0)).1) ∧ (hvs H)[i * 2 + 1]? = some (.int .i64 (H.getD i (0, 0)).2) := by
  induction H generalizing i with
  | nil => simp at hi
  | cons a H ih =>
    cases i with
    | zero => simp [hvs, hv]
    | succ i =>
      have := ih i (by simpa using hi)
      have e : hvs (a :: H) = .int .i64 a.1 :: .int .i64 a.2 :: hvs H := by simp [hvs, hv]
      rw [e, show (i + 1) * 2 = i * 2 + 2 by omega]
      simpa using this

theorem cells_two (w : World) (a b : Value) (t : TypeId) : ∀ j u, [a, b][j]? = some u → (w.alloc (.cells #[a, b] t)).cell? ((⟨w.heap.size, 0, none⟩ : Addr).add j) = some u := by
  intro j u hj
  have hb : Blk (w.alloc (.cells #[a, b] t)) w.heap.size t #[a, b] := heap_alloc_new w _
  rw [Addr.add_lit, hb.cell, Nat.zero_add]
  simpa using hj
theorem one_hv (u : Int × Int) : ∀ x ∈ hv u, x.oneCell' = true := by
  intro x hx
  simp [hv] at hx
  rcases hx with rfl | rfl <;> rfl

theorem own_cells {w : World} {base : Nat} {e : TypeId} {size n c : Nat} {A : Option Addr} {xs : List Value} (h : w.ownsRow base e size (.slice A n c) n xs) (hn : 0 < n) : ∃ g, A = some ⟨g, 0, none⟩ ∧ ∀ j, j < n * size → w.cell? ⟨g, j, none⟩ = xs[j]? := by
  obtain ⟨g, cap, hv, _, _⟩ := h.form hn
  have hA : A = some ⟨g, 0, none⟩ := by injection hv
  subst hA
  exact ⟨g, rfl, fun j hj => h.cellAt j hj⟩

/-- As Stepped.box, over a world with more new blocks. -/
theorem Stepped.grown {w X w' : World} {bp i : Nat} {cs : Array Value} {e : TypeId} {size : Nat} {v v' : Value} {n : Nat} {xs : List Value} (s : Stepped X w' bp i cs e size v v' n xs) (g : w.grownBy X none) : Stepped w w' bp i cs e size v v' n xs := by
  refine ⟨s.blk, s.own, ?_, ⟨s.fr.os.trans g.os, s.fr.tape.trans g.tape, s.fr.output.trans g.output, Nat.le_trans g.size s.fr.size, fun k hk hz => (s.fr.block k (Nat.lt_of_lt_of_le hk g.size) hz).trans (g.block k hk (by simp))⟩⟩
  rcases s.at_ with h | ⟨g', h, h1, h2⟩
  · exact .inl h
  · exact .inr ⟨g', h, Nat.le_trans g.size h1, h2⟩

theorem own_gb0 {w w' : World} {base : Nat} {e : TypeId} {size n : Nat} {v : Value} {xs : List Value} (h : w.ownsRow base e size v n xs) (g : w.grownBy w' none) : w'.ownsRow base e size v n xs :=
  own_zf h (Zf.of_gb (Z := fun _ => False) g (by simp)) (fun _ _ h => h)
theorem Blk.gb0 {w w' : World} {g : Nat} {t : TypeId} {cs : Array Value} (h : Blk w g t cs) (k : w.grownBy w' none) : Blk w' g t cs := (k.block g h.lt (by simp)).trans h

set_option maxHeartbeats 4000000 in
theorem hold_any (bp : Nat) (Z : Nat → Prop) (mr mu : Nat) (R K : List Int) (H : List (Int × Int)) (U : List (Int × Int × Int × Int)) (h1 h2 : Int) (w : World) (h : Lg w bp Z mr mu R K H U) :
    Calls Try.prog 16 #[.pointer (some ⟨bp, 0, none⟩), .agg #[.int .i64 h1, .int .i64 h2]] w fun e w' => e = .returned (.bool (holdB H (h1, h2) mu)) ∧ Lg w' bp (zx Z w w') mr mu R K (holdL H (h1, h2) mu) U ∧ Zf Z w w' := by
  have HL := Lib.hid h
  obtain ⟨vR, vK, vH, vU, hV⟩ := h
  obtain ⟨A, c, rfl, hc, hc2⟩ := own_form hV.oH
  have hb := hV.blk
  have hlu := hV.lu
  have hnH := hV.nH
  have hltb := hb.lt
  have HV := Lib.hid hV
  have HO := Lib.hid hV.oH
  have HNE := Lib.hid (own_ne hV.oH hb (by decide))
  clear hV
  have hPost : ∀ b w', (b = true → (∀ x ∈ H, x.1 ≠ h1) ∧ H.length < mu ∧ Stepped w w' bp 4 #[.int .i64 mr, .int .i64 mu, vR, vK, .slice A H.length c, vU] 33 2 (.slice A H.length c) (w'.cell? ⟨bp, 4, none⟩ |>.getD undef) (H.length + 1) (hvs H ++ [.int .i64 h1, .int .i64 h2])) →
      (b = false → (¬ ((∀ x ∈ H, x.1 ≠ h1) ∧ H.length < mu)) ∧ w.grownBy w' none) →
      (Ending.returned (.bool b) = Ending.returned (.bool (holdB H (h1, h2) mu)) ∧ Lg w' bp (zx Z w w') mr mu R K (holdL H (h1, h2) mu) U ∧ Zf Z w w') := by
    intro b w' hT hF
    cases b
    · obtain ⟨hn, hg⟩ := hF rfl
      have e2 : holdL H (h1, h2) mu = H := if_neg hn
      refine ⟨ret_bool ?_, by rw [e2]; exact HL.out.newer hg⟩
      symm
      unfold holdB
      rw [Bool.and_eq_false_iff, decide_eq_false_iff_not, decide_eq_false_iff_not]
      by_cases hx : ∀ x ∈ H, x.1 ≠ (h1, h2).1
      · exact .inr (fun hy => hn ⟨hx, hy⟩)
      · exact .inl hx
    · obtain ⟨hx, hy, hs⟩ := hT rfl
      have e2 : holdL H (h1, h2) mu = H ++ [(h1, h2)] := if_pos ⟨hx, hy⟩
      have hfin := HV.out.stepH (H' := H ++ [(h1, h2)]) (by
        have e1 : (H ++ [(h1, h2)]).length = H.length + 1 := by simp
        have e2 : hvs (H ++ [(h1, h2)]) = hvs H ++ [.int .i64 h1, .int .i64 h2] := by simp [hvs, hv]
        rw [e1, e2]; exact hs) (by simp; omega)
      refine ⟨ret_bool ?_, by rw [e2]; exact ⟨⟨_, _, _, _, hfin.1⟩, hfin.2⟩⟩
      symm
      unfold holdB
      rw [Bool.and_eq_true, decide_eq_true_eq, decide_eq_true_eq]
      exact ⟨hx, hy⟩
  have HP := Lib.hid hPost
  clear hPost
  generalize hPd : (fun (e : Ending) (w' : World) => e = Ending.returned (.bool (holdB H (h1, h2) mu)) ∧ Lg w' bp (zx Z w w') mr mu R K (holdL H (h1, h2) mu) U ∧ Zf Z w w') = Post
  have HPd : Hid (∀ e w', Post e w' = (e = Ending.returned (.bool (holdB H (h1, h2) mu)) ∧ Lg w' bp (zx Z w w') mr mu R K (holdL H (h1, h2) mu) U ∧ Zf Z w w')) := fun e w' => by rw [← hPd]
  clear hPd
  obtain ⟨wb, hwb⟩ : ∃ wb, wb = w.alloc (.cells #[.int .i64 h1, .int .i64 h2] 33) := ⟨_, rfl⟩
  have hbb : Blk wb bp 53 #[.int .i64 mr, .int .i64 mu, vR, vK, .slice A H.length c, vU] := by rw [hwb]; exact (Below.heap_alloc w _ bp hltb).trans hb
  have hob : wb.ownsRow 0 33 2 (.slice A H.length c) H.length (hvs H) := by rw [hwb]; exact HO.out.alloc _
  have hnb : Blk wb w.heap.size 33 #[.int .i64 h1, .int .i64 h2] := by rw [hwb]; exact heap_alloc_new w _
  have c4 : wb.cell? ⟨bp, 4, none⟩ = some (.slice A H.length c) := hbb.cell 4
  have hgb : w.grownBy wb none := by rw [hwb]; exact World.grownBy_alloc w _ none
  have c4a : (w.alloc (.cells #[.int .i64 h1, .int .i64 h2] 33)).cell? ⟨bp, 4, none⟩ = some (.slice A H.length c) := hwb ▸ c4
  have HOB := Lib.hid hob
  have HBB := Lib.hid hbb
  have HNB := Lib.hid hnb
  have HGB := Lib.hid hgb
  clear hb hob hbb hnb hgb
  have HWB := Lib.hid hwb
  clear hwb
  go_enter Try.func16, Try.ntmps16
  go_wp2_with fail
  rw [← HWB.out]
  go_loopw [14] (fun s wr => ∃ k : Nat, s = .int .i64 k ∧ k ≤ H.length ∧ Hid (∀ j, j < k → (H.getD j (0, 0)).1 ≠ h1) ∧ wb.grownBy wr none) (fun s _ => H.length - (intOf s).toNat)
  case atStart => exact ⟨0, rfl, Nat.zero_le _, fun j hj => by omega, grownBy_refl _ _⟩
  case round =>
    obtain ⟨k, rfl, hk, Hno, hgr⟩ := hrel
    clear c4 c4a
    have hbr := HBB.out.gb0 hgr
    have hnr := HNB.out.gb0 hgr
    have hor := own_gb0 HOB.out hgr
    have b0 : wr.cell? ⟨w.heap.size, 0, none⟩ = some (.int .i64 h1) := hnr.cell 0
    have b1 : wr.cell? ⟨w.heap.size, 1, none⟩ = some (.int .i64 h2) := hnr.cell 1
    have hltw := hnr.lt
    by_cases hlt : k < H.length
    · obtain ⟨g, rfl, hcs⟩ := own_cells hor (by omega)
      have e0 := hcs (k * 2) (by omega)
      have e1 := hcs (k * 2 + 1) (by omega)
      rw [(hvs_get H k hlt).1] at e0
      rw [(hvs_get H k hlt).2] at e1
      have hge : w.grownBy (wr.alloc (.cells #[.int .i64 (H.getD k (0, 0)).1, .int .i64 (H.getD k (0, 0)).2] 33)) none := grownBy_trans (grownBy_trans HGB.out hgr) (World.grownBy_alloc wr _ none)
      have hgn : wb.grownBy (wr.alloc (.cells #[.int .i64 (H.getD k (0, 0)).1, .int .i64 (H.getD k (0, 0)).2] 33)) none := grownBy_trans hgr (World.grownBy_alloc wr _ none)
      have hxH : (H.getD k (0, 0)) ∈ H := by
        have : H.getD k (0, 0) = H[k] := by simp [hlt]
        rw [this]; exact List.getElem_mem _
      have HX := Lib.hid hxH
      clear hxH hcs
      have HGE := Lib.hid hge
      have HGN := Lib.hid hgn
      clear hge hgn
      have HKE : Hid ((H.getD k (0, 0)).1 = h1 ∨ (H.getD k (0, 0)).1 ≠ h1) := Classical.em _
      generalize hA1 : (H.getD k (0, 0)).1 = y1 at *
      generalize (H.getD k (0, 0)).2 = y2 at *
      have HA1 := Lib.hid hA1
      clear hA1
      have ba : (wr.alloc (.cells #[.int .i64 y1, .int .i64 y2] 33)).cell? ⟨w.heap.size, 0, none⟩ = some (.int .i64 h1) := (World.cell?_alloc_lt wr _ ⟨w.heap.size, 0, none⟩ hltw).trans b0
      rcases HKE.out with he | he
      · have HF : Hid (Post (.returned (.bool false)) (wr.alloc (.cells #[.int .i64 y1, .int .i64 y2] 33))) := by
          unfold Hid
          rw [HPd.out]
          refine HP.out false _ (fun e => by cases e) (fun _ => ⟨fun hh => hh.1 _ HX.out (HA1.out.trans he), HGE.out⟩)
        have tt : (y1 == h1) = true := by rw [he]; simp
        clear he
        go_wp2_with fail
        exact HF.out
      · have tt : (y1 == h1) = false := by rw [beq_eq_false_iff_ne]; exact he
        have Hno2 : Hid (∀ j, j < k + 1 → (H.getD j (0, 0)).1 ≠ h1) := fun j hj => by
          by_cases e : j = k
          · rw [e, HA1.out]; exact he
          · exact Hno.out j (by omega)
        clear he
        go_wp2_with fail
        go_roundw
        case rel => exact ⟨k + 1, by go_num, by omega, Hno2, HGN.out⟩
        case measure => simp [intOf]; omega
    · obtain rfl : k = H.length := by omega
      have HNO : Hid (∀ x ∈ H, x.1 ≠ h1) := fun x hx => by
        obtain ⟨j, hj, e⟩ := List.getElem_of_mem hx
        have := Hno.out j hj
        rw [show H.getD j (0, 0) = H[j] by simp [hj], e] at this
        exact this
      have c1 : wr.cell? ⟨bp, 1, none⟩ = some (.int .i64 mu) := hbr.cell 1
      have c4 : wr.cell? ⟨bp, 4, none⟩ = some (.slice A H.length c) := hbr.cell 4
      have f4 := hbr.free 4
      have HBR := Lib.hid hbr
      have HOR := Lib.hid hor
      clear hbr hor hnr
      by_cases hfit : H.length < mu
      · have c4b : (wr.alloc (.cells #[.int .i64 h1, .int .i64 h2] 33)).cell? ⟨bp, 4, none⟩ = some (.slice A H.length c) := (World.cell?_alloc_lt wr _ ⟨bp, 4, none⟩ HBR.out.lt).trans c4
        obtain ⟨i0, hi0, hz0, hz1, hz2⟩ := info_parts info33
        have HI := Lib.hid hi0; have HZ0 := Lib.hid hz0; have HZ1 := Lib.hid hz1; have HZ2 := Lib.hid hz2
        clear hi0 hz0 hz1 hz2
        go_wp2_with fail
        go_still_tail 9, (by kernel_rfl)
        change wpList _ _ _ _ _ wr.drew
        go_wp2_with fail
        go_region_law (refine step_append_lies _ rfl (.tmp 38) (.tmp 40) 34 rfl 0 33 i0 (.agg #[.int .i64 0, .int .i64 0]) 2 16 Try.underlying34 HI.out HZ0.out HZ1.out HZ2.out rfl (by decide) (.slice A H.length c) H.length (hvs H) rfl (World.ownsRow.alloc HOR.out _) ⟨wr.heap.size, 0, none⟩ 1 1 [.int .i64 h1, .int .i64 h2] rfl rfl (cells_two _ _ _ _) (one_hv (h1, h2)) (by omega) (by unfold maxLen; omega) (by omega) (by omega) (wr.heap.size + 1) (by simp) ?_; intro g cap w4 hown4 g4 hat4 hlt4; have g5 : (wr.alloc (.cells #[.int .i64 h1, .int .i64 h2] 33)).grownBy w4 (Value.slice A H.length c).ownBlock := ⟨g4.os, g4.tape, g4.output, g4.size, g4.block⟩; have ff := (keptBlk g5 HNE.out HBR.out).free 4; have kk : w4.cell? ⟨bp, 4, none⟩ = some (.slice A H.length c) := (keptBlk g5 HNE.out HBR.out).cell 4; have HF := Lib.hid (Stepped.put (i := 4) HBR.out HNE.out hown4 g5 (g := g) rfl hat4 hlt4); clear hown4 g4 g5 hat4 hlt4)
        all_goals
          go_wp2_with fail
          rw [HPd.out]
          refine HP.out true _ (fun _ => ⟨HNO.out, hfit, ?_⟩) (fun e => by cases e)
          have hs := HF.out.grown (grownBy_trans HGB.out hgr)
          have hcell : (w4.setCell ⟨bp, 4, none⟩ (.slice (some ⟨g, 0, none⟩) (H.length + 1) cap)).cell? ⟨bp, 4, none⟩ = some (.slice (some ⟨g, 0, none⟩) (H.length + 1) cap) := World.cell?_setCell_same' _ _ _ (by rw [kk]; rfl)
          rw [hcell]
          exact hs
      · have HF : Hid (Post (.returned (.bool false)) wr.drew) := by
          unfold Hid
          rw [HPd.out]
          exact HP.out false _ (fun e => by cases e) (fun _ => ⟨fun hh => hfit hh.2, grownBy_trans (grownBy_trans HGB.out hgr) (gb_drew wr none)⟩)
        go_wp2_with fail
        go_still_tail 9, (by kernel_rfl)
        change wpList _ _ _ _ _ wr.drew
        go_wp2_with fail
        exact HF.out
end Go.Proofs.Ytjeapnhaakppeaa
