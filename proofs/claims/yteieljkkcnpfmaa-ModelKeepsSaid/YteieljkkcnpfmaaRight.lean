/-
  Right tells true of a right deed.
-/
import Derived.Test.YteieljkkcnpfmaaForm
import Derived.Test.YteieljkkcnpfmaaOwn
namespace Go.Proofs.Yteieljkkcnpfmaa
open Go.ChangeShapes Go.WideShapes Go.ChangeAt Go.RowKit
set_option linter.unusedVariables false

theorem fa_any (B : Nat) (w : World) : Calls Try.prog 35 #[.pointer (some ⟨B, 0, none⟩)] w fun e w' => e = .returned (.pointer (some ⟨B, 1, none⟩)) ∧ w = w' := by
  go_enter Try.func35, Try.ntmps35
  go_wp2
  go_ret
  exact ⟨rfl, rfl⟩
theorem fb_any (B : Nat) (w : World) : Calls Try.prog 36 #[.pointer (some ⟨B, 0, none⟩)] w fun e w' => e = .returned (.pointer (some ⟨B, 2, none⟩)) ∧ w = w' := by
  go_enter Try.func36, Try.ntmps36
  go_wp2
  go_ret
  exact ⟨rfl, rfl⟩
theorem fi_any (B : Nat) (w : World) : Calls Try.prog 37 #[.pointer (some ⟨B, 0, none⟩)] w fun e w' => e = .returned (.pointer (some ⟨B, 3, none⟩)) ∧ w = w' := by
  go_enter Try.func37, Try.ntmps37
  go_wp2
  go_ret
  exact ⟨rfl, rfl⟩
theorem fn_any (B : Nat) (w : World) : Calls Try.prog 38 #[.pointer (some ⟨B, 0, none⟩)] w fun e w' => e = .returned (.pointer (some ⟨B, 4, none⟩)) ∧ w = w' := by
  go_enter Try.func38, Try.ntmps38
  go_wp2
  go_ret
  exact ⟨rfl, rfl⟩

theorem fld_any (j : Nat) (h1 : 1 ≤ j) (h4 : j ≤ 4) (B : Nat) (w : World) : Calls Try.prog (34 + j) #[.pointer (some ⟨B, 0, none⟩)] w fun e w' => e = .returned (.pointer (some ⟨B, j, none⟩)) ∧ w = w' := by
  have hj : j = 1 ∨ j = 2 ∨ j = 3 ∨ j = 4 := by omega
  rcases hj with rfl | rfl | rfl | rfl
  · exact fa_any B w
  · exact fb_any B w
  · exact fi_any B w
  · exact fn_any B w

theorem fr35 (a : Value) (w : World) : (callFunc 35 #[a]).run Try.prog w = .ok (.enter 35 #[a]) w := by kernel_rfl
theorem fr36 (a : Value) (w : World) : (callFunc 36 #[a]).run Try.prog w = .ok (.enter 36 #[a]) w := by kernel_rfl
theorem fr37 (a : Value) (w : World) : (callFunc 37 #[a]).run Try.prog w = .ok (.enter 37 #[a]) w := by kernel_rfl
theorem fr38 (a : Value) (w : World) : (callFunc 38 #[a]).run Try.prog w = .ok (.enter 38 #[a]) w := by kernel_rfl
theorem fld_run (j : Nat) (h1 : 1 ≤ j) (h4 : j ≤ 4) (a : Value) (w : World) : (callFunc (34 + j) #[a]).run Try.prog w = .ok (.enter (34 + j) #[a]) w := by
  have hj : j = 1 ∨ j = 2 ∨ j = 3 ∨ j = 4 := by omega
  rcases hj with rfl | rfl | rfl | rfl
  · exact fr35 a w
  · exact fr36 a w
  · exact fr37 a w
  · exact fr38 a w

/-- A deed's five cells. -/
def dcs (D : Nat → Int) : Array Value := #[.int .i64 (D 0), .int .i64 (D 1), .int .i64 (D 2), .int .i64 (D 3), .int .i64 (D 4)]
theorem dcs_get (D : Nat → Int) (j : Nat) (h : j < 5) : (dcs D)[j]? = some (.int .i64 (D j)) := by
  match j, h with
  | 0, _ => rfl
  | 1, _ => rfl
  | 2, _ => rfl
  | 3, _ => rfl
  | 4, _ => rfl
def upd (D : Nat → Int) (j : Nat) (v : Int) : Nat → Int := fun k => if k = j then v else D k
theorem dcs_set (D : Nat → Int) (j : Nat) (v : Int) (h : j < 5) : (dcs D).setIfInBounds j (.int .i64 v) = dcs (upd D j v) := by
  match j, h with
  | 0, _ => rfl
  | 1, _ => rfl
  | 2, _ => rfl
  | 3, _ => rfl
  | 4, _ => rfl
/-- A deed is right: its parts are within their bounds, all else is 0. -/
structure RightD (D : Nat → Int) (P : List Pt) : Prop where
  ok : ∀ p ∈ P, 1 ≤ p.j ∧ p.j ≤ 4 ∧ p.lo ≤ D p.j ∧ D p.j ≤ p.hi
  zero : ∀ j, 1 ≤ j → j ≤ 4 → (∀ p ∈ P, p.j ≠ j) → D j = 0
/-- The fields that are laid behind k parts. -/
def Bare (D E : Nat → Int) (P : List Pt) (k : Nat) : Prop := E 0 = D 0 ∧ ∀ j, 1 ≤ j → j ≤ 4 → E j = D j ∨ (E j = 0 ∧ ∀ p ∈ P.take k, p.j ≠ j)
theorem Bare.zero (D E : Nat → Int) (P : List Pt) (h0 : E 0 = D 0) (h : ∀ j, 1 ≤ j → j ≤ 4 → E j = 0) : Bare D E P 0 := ⟨h0, fun j h1 h4 => .inr ⟨h j h1 h4, by simp⟩⟩
theorem Bare.succ {D E : Nat → Int} {P : List Pt} {k : Nat} (h : Bare D E P k) (hk : k < P.length) (h1 : 1 ≤ P[k].j) : Bare D (upd E P[k].j (D P[k].j)) P (k + 1) := by
  refine ⟨by unfold upd; rw [if_neg (by omega)]; exact h.1, fun j a b => ?_⟩
  unfold upd
  by_cases e : j = P[k].j
  · rw [if_pos e, e]; exact .inl rfl
  · rw [if_neg e]
    rcases h.2 j a b with q | ⟨q, r⟩
    · exact .inl q
    · refine .inr ⟨q, fun p hp => ?_⟩
      rw [List.take_succ_eq_append_getElem hk] at hp
      rcases List.mem_append.1 hp with hp | hp
      · exact r p hp
      · rw [List.mem_singleton.1 hp]; exact fun x => e x.symm
theorem Bare.all {D E : Nat → Int} {P : List Pt} (h : Bare D E P P.length) (hr : RightD D P) : dcs E = dcs D := by
  have key : ∀ j, j ≤ 4 → E j = D j := fun j hj => by
    by_cases e : j = 0
    · rw [e]; exact h.1
    · rcases h.2 j (by omega) hj with q | ⟨q, r⟩
      · exact q
      · rw [q, hr.zero j (by omega) hj (by rwa [List.take_length] at r)]
  unfold dcs
  rw [key 0 (by omega), key 1 (by omega), key 2 (by omega), key 3 (by omega), key 4 (by omega)]
theorem pvs_get (P : List Pt) (i : Nat) (hi : i < P.length) (j : Nat) (hj : j < 3) : (pvs P)[i * 3 + j]? = (pv P[i])[j]? := by
  induction P generalizing i with
  | nil => simp at hi
  | cons x P ih =>
    have hx : (pv x).length = 3 := rfl
    cases i with
    | zero =>
      simp only [pvs, List.flatMap_cons, Nat.zero_mul, Nat.zero_add, List.getElem_cons_zero]
      rw [List.getElem?_append_left (by omega)]
    | succ i =>
      simp only [pvs, List.flatMap_cons, List.getElem_cons_succ]
      rw [List.getElem?_append_right (by omega)]
      have := ih i (by simpa using hi)
      rw [← this, hx]
      congr 1
      omega

theorem toList_ne (bs : ByteArray) (h : 0 < bs.size) : bs.toList.isEmpty = false := by
  have key : ∀ (i : Nat) (r : List UInt8), r ≠ [] → (ByteArray.toList.loop bs i r) ≠ [] := by
    intro i r
    induction i, r using ByteArray.toList.loop.induct bs with
    | case1 i r hi ih => intro hr; unfold ByteArray.toList.loop; rw [if_pos hi]; exact ih (by simp)
    | case2 i r hi => intro hr; unfold ByteArray.toList.loop; rw [if_neg hi]; simpa using hr
  unfold ByteArray.toList ByteArray.toList.loop
  rw [if_pos h]
  have := key (0 + 1) [bs.get! 0] (by simp)
  cases e : ByteArray.toList.loop bs (0 + 1) [bs.get! 0] with
  | nil => exact absurd e this
  | cons a l => rfl
theorem word_ne (k : Int) (h1 : 1 ≤ k) (h14 : k ≤ 14) : (word k).toList.isEmpty = false := by
  refine toList_ne _ ?_
  have hk : k = 1 ∨ k = 2 ∨ k = 3 ∨ k = 4 ∨ k = 5 ∨ k = 6 ∨ k = 7 ∨ k = 8 ∨ k = 9 ∨ k = 10 ∨ k = 11 ∨ k = 12 ∨ k = 13 ∨ k = 14 := by omega
  rcases hk with rfl | rfl | rfl | rfl | rfl | rfl | rfl | rfl | rfl | rfl | rfl | rfl | rfl | rfl <;> exact of_decide_eq_true rfl

set_option maxHeartbeats 4000000 in
theorem right_any (D : Nat → Int) (h1 : 1 ≤ D 0) (h14 : D 0 ≤ 14) (hr : RightD D (parts (D 0))) (w : World) :
    Calls Try.prog 20 #[.agg (dcs D)] w fun e w' => e = .returned (.bool true) ∧ w.grownBy w' none := by
  have HRT := Lib.hid hr
  clear hr
  have HF := Lib.hid (form_any (D 0) h1 h14)
  have hw := word_ne (D 0) h1 h14
  generalize parts (D 0) = P at *
  generalize word (D 0) = str at *
  clear h1 h14
  obtain ⟨wb, hwb⟩ : ∃ wb, wb = w.alloc (.cells (dcs D) 26) := ⟨_, rfl⟩
  have HG0 : Hid (w.grownBy wb none) := by rw [hwb]; exact World.grownBy_alloc _ _ none
  have b1 : Blk wb w.heap.size 26 (dcs D) := by rw [hwb]; exact Blk.new w 26 _
  have HB1 := Lib.hid b1
  have HWB := Lib.hid hwb
  clear hwb b1
  unfold dcs
  go_enter Try.func20, Try.ntmps20
  go_wp2_with fail
  change Calls _ _ _ (w.alloc (.cells (dcs D) 26)) _
  rw [← HWB.out]
  refine (HF.out wb).mono ?_
  rintro e w2 ⟨A, c, rfl, hP, hg2⟩
  have B1 := HB1.out.gb hg2 (by simp)
  have n0 : w2.cell? ⟨w.heap.size, 0, none⟩ = some (.int .i64 (D 0)) := B1.cell 0
  have n1 : w2.cell? ⟨w.heap.size, 1, none⟩ = some (.int .i64 (D 1)) := B1.cell 1
  have n2 : w2.cell? ⟨w.heap.size, 2, none⟩ = some (.int .i64 (D 2)) := B1.cell 2
  have n3 : w2.cell? ⟨w.heap.size, 3, none⟩ = some (.int .i64 (D 3)) := B1.cell 3
  have n4 : w2.cell? ⟨w.heap.size, 4, none⟩ = some (.int .i64 (D 4)) := B1.cell 4
  have HP := Lib.hid hP
  have hle := hP.le
  have HG2 := Lib.hid (grownBy_trans HG0.out hg2)
  have hb1 := B1.lt
  clear hP hg2 B1
  go_wp2_with fail
  obtain ⟨E, hE⟩ : ∃ E : Nat → Int, E = fun j => if j = 0 then D 0 else 0 := ⟨_, rfl⟩
  have HBARE : Hid (Bare D E P 0) := Bare.zero D E P (by rw [hE]; rfl) (fun j a b => by rw [hE]; exact if_neg (by omega))
  have HE : Hid (dcs E = #[.int .i64 (D 0), .int .i64 0, .int .i64 0, .int .i64 0, .int .i64 0]) := by rw [hE]; rfl
  clear hE
  go_region
  have hB5 : Blk (((w2.alloc (.cells #[.int .i64 (D 0), .int .i64 (D 1), .int .i64 (D 2), .int .i64 (D 3), .int .i64 (D 4)] 74)).alloc (.cells #[.int .i64 (D 0), .int .i64 0, .int .i64 0, .int .i64 0, .int .i64 0] 74)).drew) w2.heap.size 74 (dcs D) := ((Blk.new w2 74 (dcs D)).gb (World.grownBy_alloc _ _ none) (by simp)).gb (gb_drew _ none) (by simp)
  have hB6 : Blk (((w2.alloc (.cells #[.int .i64 (D 0), .int .i64 (D 1), .int .i64 (D 2), .int .i64 (D 3), .int .i64 (D 4)] 74)).alloc (.cells #[.int .i64 (D 0), .int .i64 0, .int .i64 0, .int .i64 0, .int .i64 0] 74)).drew) (w2.heap.size + 1) 74 (dcs E) := by
    have := (Blk.new (w2.alloc (.cells #[.int .i64 (D 0), .int .i64 (D 1), .int .i64 (D 2), .int .i64 (D 3), .int .i64 (D 4)] 74)) 74 #[.int .i64 (D 0), .int .i64 0, .int .i64 0, .int .i64 0, .int .i64 0]).gb (gb_drew _ none) (by simp)
    rw [HE.out]; simpa using this
  have hG : w2.grownBy (((w2.alloc (.cells #[.int .i64 (D 0), .int .i64 (D 1), .int .i64 (D 2), .int .i64 (D 3), .int .i64 (D 4)] 74)).alloc (.cells #[.int .i64 (D 0), .int .i64 0, .int .i64 0, .int .i64 0, .int .i64 0] 74)).drew) none := grownBy_trans (grownBy_trans (World.grownBy_alloc _ _ none) (World.grownBy_alloc _ _ none)) (gb_drew _ none)
  generalize (((w2.alloc (.cells #[.int .i64 (D 0), .int .i64 (D 1), .int .i64 (D 2), .int .i64 (D 3), .int .i64 (D 4)] 74)).alloc (.cells #[.int .i64 (D 0), .int .i64 0, .int .i64 0, .int .i64 0, .int .i64 0] 74)).drew) = W at *
  have hne : w2.heap.size ≠ w2.heap.size + 1 := by omega
  have HPB : Hid (∀ b off, A = some ⟨b, off, none⟩ → 0 < P.length → b ≠ w2.heap.size + 1) := fun b off e h0 => by
    obtain ⟨b', off', e', hb', _⟩ := HP.out.at_ h0
    rw [e] at e'; cases e'; omega
  have hb5 : w.heap.size ≤ w2.heap.size := HG2.out.size
  have hb6 : w.heap.size ≤ w2.heap.size + 1 := by omega
  generalize hx6 : w2.heap.size + 1 = B6 at *
  generalize hx5 : w2.heap.size = B5 at *
  rotate_left
  have hB6 : Blk (((w2.alloc (.cells #[.int .i64 (D 0), .int .i64 0, .int .i64 0, .int .i64 0, .int .i64 0] 74)).alloc (.cells #[.int .i64 (D 0), .int .i64 (D 1), .int .i64 (D 2), .int .i64 (D 3), .int .i64 (D 4)] 74)).drew) w2.heap.size 74 (dcs E) := by
    have := ((Blk.new w2 74 #[.int .i64 (D 0), .int .i64 0, .int .i64 0, .int .i64 0, .int .i64 0]).gb (World.grownBy_alloc (w2.alloc (.cells #[.int .i64 (D 0), .int .i64 0, .int .i64 0, .int .i64 0, .int .i64 0] 74)) (.cells #[.int .i64 (D 0), .int .i64 (D 1), .int .i64 (D 2), .int .i64 (D 3), .int .i64 (D 4)] 74) none) (by simp)).gb (gb_drew _ none) (by simp)
    rw [HE.out]; exact this
  have hB5 : Blk (((w2.alloc (.cells #[.int .i64 (D 0), .int .i64 0, .int .i64 0, .int .i64 0, .int .i64 0] 74)).alloc (.cells #[.int .i64 (D 0), .int .i64 (D 1), .int .i64 (D 2), .int .i64 (D 3), .int .i64 (D 4)] 74)).drew) (w2.heap.size + 1) 74 (dcs D) := by
    have := (Blk.new (w2.alloc (.cells #[.int .i64 (D 0), .int .i64 0, .int .i64 0, .int .i64 0, .int .i64 0] 74)) 74 #[.int .i64 (D 0), .int .i64 (D 1), .int .i64 (D 2), .int .i64 (D 3), .int .i64 (D 4)]).gb (gb_drew _ none) (by simp)
    simp at this
    exact this
  have hG : w2.grownBy (((w2.alloc (.cells #[.int .i64 (D 0), .int .i64 0, .int .i64 0, .int .i64 0, .int .i64 0] 74)).alloc (.cells #[.int .i64 (D 0), .int .i64 (D 1), .int .i64 (D 2), .int .i64 (D 3), .int .i64 (D 4)] 74)).drew) none := grownBy_trans (grownBy_trans (World.grownBy_alloc _ _ none) (World.grownBy_alloc _ _ none)) (gb_drew _ none)
  generalize (((w2.alloc (.cells #[.int .i64 (D 0), .int .i64 0, .int .i64 0, .int .i64 0, .int .i64 0] 74)).alloc (.cells #[.int .i64 (D 0), .int .i64 (D 1), .int .i64 (D 2), .int .i64 (D 3), .int .i64 (D 4)] 74)).drew) = W at *
  have hne : w2.heap.size + 1 ≠ w2.heap.size := by omega
  have HPB : Hid (∀ b off, A = some ⟨b, off, none⟩ → 0 < P.length → b ≠ w2.heap.size) := fun b off e h0 => by
    obtain ⟨b', off', e', hb', _⟩ := HP.out.at_ h0
    rw [e] at e'; cases e'; omega
  have hb5 : w.heap.size ≤ w2.heap.size + 1 := by have := HG2.out.size; omega
  have hb6 : w.heap.size ≤ w2.heap.size := HG2.out.size
  generalize hx5 : w2.heap.size + 1 = B5 at *
  generalize hx6 : w2.heap.size = B6 at *
  all_goals
    clear hx5 hx6 n0 n1 n2 n3 n4
    have HB5 := Lib.hid hB5
    have HB6 := Lib.hid hB6
    have HPW := Lib.hid (HP.out.gb hG)
    have HGW := Lib.hid (grownBy_trans HG2.out hG)
    clear hB5 hB6 hG
    go_wp2_with fail
    go_loopw [24] (fun t wr => ∃ (i : Nat) (E : Nat → Int), t = .int .i64 i ∧ i ≤ P.length ∧ Hid (Blk wr B5 74 (dcs D)) ∧ Hid (Blk wr B6 74 (dcs E)) ∧ Hid (Bare D E P i) ∧ Hid (w.grownBy wr none) ∧ Hid (Rc wr A P.length 3 (pvs P))) (fun t _ => P.length - (intOf t).toNat)
    case atStart => exact ⟨0, E, rfl, Nat.zero_le _, HB5, HB6, HBARE, HGW, HPW⟩
    case round =>
      obtain ⟨i, F, rfl, hi, HC5, HC6, HBr, HGr, HPr⟩ := hrel
      clear HB5 HB6 HBARE HGW HPW
      by_cases hlt : i < P.length
      · obtain ⟨bP, oP, rfl, hbP, hcP⟩ := HPr.out.at_ (by omega)
        have t0 := hcP (i * 3 + 0) (by omega); have t1 := hcP (i * 3 + 1) (by omega); have t2 := hcP (i * 3 + 2) (by omega)
        rw [pvs_get P i hlt _ (by omega)] at t0 t1 t2
        obtain ⟨r1, r4, rlo, rhi⟩ := HRT.out.ok P[i] (List.getElem_mem _)
        have HBs := HBr.out.succ hlt r1
        generalize P[i] = pt at *
        obtain ⟨j, lo, hi2⟩ := pt
        dsimp only at r1 r4 rlo rhi HBs
        have hcj : wr.cell? ⟨B5, j, none⟩ = some (.int .i64 (D j)) := by rw [HC5.out.cell]; exact dcs_get D j (by omega)
        have hcf := dcs_get F j (by omega)
        have HSET := dcs_set F j (D j) (by omega)
        generalize D j = x at *
        have u0 : wr.cell? ⟨bP, oP + i * 3, none⟩ = some (.func (.func (34 + j)) #[] #[]) := t0
        have u1 : wr.cell? ⟨bP, oP + i * 3 + 1, none⟩ = some (.int .i64 lo) := t1
        have u2 : wr.cell? ⟨bP, oP + i * 3 + 2, none⟩ = some (.int .i64 hi2) := t2
        have rlo : lo ≤ x := rlo
        have rhi : x ≤ hi2 := rhi
        have hi1 : (i : Int) < (P.length : Int) := by omega
        clear t0 t1 t2 hcP
        have HBs := Lib.hid HBs
        have HSET := Lib.hid HSET
        have HCF := Lib.hid hcf
        clear hcf
        have HJ : Hid (1 ≤ j ∧ j ≤ 4) := ⟨r1, r4⟩
        have hcf := fld_run j r1 r4
        clear r1 r4
        have hba : Blk (wr.alloc (.cells #[.func (.func (34 + j)) #[] #[], .int .i64 lo, .int .i64 hi2] 77)) B5 74 (dcs D) := HC5.out.gb (World.grownBy_alloc _ _ none) (by simp)
        have hbb : Blk (wr.alloc (.cells #[.func (.func (34 + j)) #[] #[], .int .i64 lo, .int .i64 hi2] 77)) B6 74 (dcs F) := HC6.out.gb (World.grownBy_alloc _ _ none) (by simp)
        have hbx : Blk (wr.alloc (.cells #[.func (.func (34 + j)) #[] #[], .int .i64 lo, .int .i64 hi2] 77)) wr.heap.size 77 #[.func (.func (34 + j)) #[] #[], .int .i64 lo, .int .i64 hi2] := Blk.new wr 77 _
        have hga : wr.grownBy (wr.alloc (.cells #[.func (.func (34 + j)) #[] #[], .int .i64 lo, .int .i64 hi2] 77)) none := World.grownBy_alloc _ _ none
        have e5 : (wr.alloc (.cells #[.func (.func (34 + j)) #[] #[], .int .i64 lo, .int .i64 hi2] 77)).cell? ⟨B5, j, none⟩ = some (.int .i64 x) := (World.cell?_alloc_lt wr _ ⟨B5, j, none⟩ HC5.out.lt).trans hcj
        have e6 : (wr.alloc (.cells #[.func (.func (34 + j)) #[] #[], .int .i64 lo, .int .i64 hi2] 77)).cell? ⟨B6, j, none⟩ = some (.int .i64 (F j)) := by rw [hbb.cell]; exact HCF.out
        have e7 := hbb.free j
        have HBA := Lib.hid hba
        have HBB := Lib.hid hbb
        have HGA := Lib.hid hga
        clear hba hbb hga
        go_wp2_with fail
        have x0 : (wr.alloc (.cells #[.func (.func (34 + j)) #[] #[], .int .i64 lo, .int .i64 hi2] 77)).cell? ⟨wr.heap.size, 0, none⟩ = some (.func (.func (34 + j)) #[] #[]) := hbx.cell 0
        have x1 : (wr.alloc (.cells #[.func (.func (34 + j)) #[] #[], .int .i64 lo, .int .i64 hi2] 77)).cell? ⟨wr.heap.size, 1, none⟩ = some (.int .i64 lo) := hbx.cell 1
        have x2 : (wr.alloc (.cells #[.func (.func (34 + j)) #[] #[], .int .i64 lo, .int .i64 hi2] 77)).cell? ⟨wr.heap.size, 2, none⟩ = some (.int .i64 hi2) := hbx.cell 2
        clear hbx
        generalize (wr.alloc (.cells #[.func (.func (34 + j)) #[] #[], .int .i64 lo, .int .i64 hi2] 77)) = wa at *
        refine (fld_any j HJ.out.1 HJ.out.2 B5 wa).mono ?_
        rintro e w5 ⟨rfl, rfl⟩
        go_wp2_with fail
        refine (fld_any j HJ.out.1 HJ.out.2 B6 wa).mono ?_
        rintro e w5 ⟨rfl, rfl⟩
        have HS6 : Hid (Blk (wa.setCell ⟨B6, j, none⟩ (.int .i64 x)) B6 74 (dcs (upd F j x))) := by unfold Hid; rw [← HSET.out]; exact HBB.out.set _ _
        have HS5 : Hid (Blk (wa.setCell ⟨B6, j, none⟩ (.int .i64 x)) B5 74 (dcs D)) := HBA.out.gb (gb_set wa B6 j _) (fun e => hne (by cases e; rfl))
        have HSG : Hid (w.grownBy (wa.setCell ⟨B6, j, none⟩ (.int .i64 x)) none) := gb_new (grownBy_trans HGr.out HGA.out) (gb_set wa B6 j _) (fun g e => by cases e; exact hb6)
        have HSP : Hid (Rc (wa.setCell ⟨B6, j, none⟩ (.int .i64 x)) (some ⟨bP, oP, none⟩) P.length 3 (pvs P)) := (HPr.out.gb HGA.out).zf (Z := fun k => k = B6) (Zf.of_gb (gb_set wa B6 j _) (fun g e => by cases e; rfl)) (fun b off e k => by cases e; exact HPB.out bP oP rfl (by omega) k)
        go_wp2_with fail
        generalize wa.setCell ⟨B6, j, none⟩ (.int .i64 x) = wz at *
        go_roundw
        case rel => exact ⟨i + 1, _, by go_num, by omega, HS5, HS6, HBs, HSG, HSP⟩
        case measure => simp [intOf]; omega
      · obtain rfl : P.length = i := by omega
        have hcc := HBr.out.all HRT.out
        have B6' := HC6.out
        rw [hcc] at B6'
        have B5' := HC5.out
        have y0 : wr.cell? ⟨B5, 0, none⟩ = some (.int .i64 (D 0)) := B5'.cell 0
        have y1 : wr.cell? ⟨B5, 1, none⟩ = some (.int .i64 (D 1)) := B5'.cell 1
        have y2 : wr.cell? ⟨B5, 2, none⟩ = some (.int .i64 (D 2)) := B5'.cell 2
        have y3 : wr.cell? ⟨B5, 3, none⟩ = some (.int .i64 (D 3)) := B5'.cell 3
        have y4 : wr.cell? ⟨B5, 4, none⟩ = some (.int .i64 (D 4)) := B5'.cell 4
        have z0 : wr.cell? ⟨B6, 0, none⟩ = some (.int .i64 (D 0)) := B6'.cell 0
        have z1 : wr.cell? ⟨B6, 1, none⟩ = some (.int .i64 (D 1)) := B6'.cell 1
        have z2 : wr.cell? ⟨B6, 2, none⟩ = some (.int .i64 (D 2)) := B6'.cell 2
        have z3 : wr.cell? ⟨B6, 3, none⟩ = some (.int .i64 (D 3)) := B6'.cell 3
        have z4 : wr.cell? ⟨B6, 4, none⟩ = some (.int .i64 (D 4)) := B6'.cell 4
        clear hcc B5' B6'
        go_wp2_with fail
        go_ret
        exact ⟨rfl, HGr.out⟩
end Go.Proofs.Yteieljkkcnpfmaa
