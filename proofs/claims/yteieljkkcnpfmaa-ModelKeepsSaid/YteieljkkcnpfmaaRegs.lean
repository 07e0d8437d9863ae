/-
  Regs: of raw numbers, registers of a model's objects.
-/
import Derived.Test.YteieljkkcnpfmaaHold
import Derived.StillTactics
namespace Go.Proofs.Yteieljkkcnpfmaa
open Go.ChangeShapes Go.WideShapes Go.ChangeAt Go.RowKit
set_option linter.unusedVariables false

/-- The first k registers are laid. -/
def mix (R : Nat → Int) (n k : Nat) : Nat → Int := fun j => if j < k then pk (R j) (n + 1) else R j
theorem mix_set (R : Nat → Int) (n k : Nat) (hk : k < 6) : rcs (upd (mix R n k) k (pk (R k) (n + 1))) = rcs (mix R n (k + 1)) := by
  have e : upd (mix R n k) k (pk (R k) (n + 1)) = mix R n (k + 1) := by
    funext j
    unfold upd mix
    by_cases h1 : j = k
    · subst h1; simp
    · rw [if_neg h1]
      by_cases h2 : j < k
      · rw [if_pos h2, if_pos (by omega)]
      · rw [if_neg h2, if_neg (by omega)]
  rw [e]
theorem mix_at (R : Nat → Int) (n k : Nat) : mix R n k k = R k := by unfold mix; rw [if_neg (by omega)]
theorem mix_zero (R : Nat → Int) (n : Nat) : mix R n 0 = R := by funext j; simp [mix]
theorem mix_all (R : Nat → Int) (n : Nat) : rcs (mix R n 6) = rcs (fun j => pk (R j) (n + 1)) := by
  simp [rcs, mix]
def RegP (w : World) (R : Nat → Int) (n : Nat) (e : Ending) (w' : World) : Prop := e = .returned (.agg (rcs fun j => pk (R j) (n + 1))) ∧ w.grownBy w' none
structure Rg (w wr : World) (R : Nat → Int) (n k co nq cq : Nat) (Ao Aq : Option Addr) : Prop where
  b1 : Blk wr w.heap.size 29 #[.slice Ao n co, .slice Aq nq cq]
  b2 : Blk wr (w.heap.size + 1) 24 (rcs (mix R n k))
  b3 : Blk wr (w.heap.size + 2) 24 #[.int .i64 0, .int .i64 0, .int .i64 0, .int .i64 0, .int .i64 0, .int .i64 0]
  g : w.grownBy wr none
theorem Rg.step {w wr : World} {R : Nat → Int} {n k co nq cq : Nat} {Ao Aq : Option Addr} (h : Rg w wr R n k co nq cq Ao Aq) (hk : k < 6) : Rg w (wr.drew.setCell ⟨w.heap.size + 1, k, none⟩ (.int .i64 (pk (R k) (n + 1)))) R n (k + 1) co nq cq Ao Aq := by
  have f : Zf (fun g => g = w.heap.size + 1) wr (wr.drew.setCell ⟨w.heap.size + 1, k, none⟩ (.int .i64 (pk (R k) (n + 1)))) := (Zf.of_gb (gb_drew wr none) (by simp)).set (by rfl)
  refine ⟨h.b1.zf f (by omega), ?_, h.b3.zf f (by omega), Zf.gb h.g f (fun i hi => by omega)⟩
  have := (h.b2.gb (gb_drew wr none) (by simp)).set k (.int .i64 (pk (R k) (n + 1)))
  rw [rcs_set _ k _ hk, mix_set R n k hk] at this
  exact this
set_option maxHeartbeats 400000 in
theorem regs_any (Ao Aq : Option Addr) (n co nq cq : Nat) (R : Nat → Int) (w : World) (hn : n ≤ 100) (hR : ∀ j, j < 6 → -9223372036854775808 ≤ R j) :
    Calls Try.prog 10 #[.agg #[.slice Ao n co, .slice Aq nq cq], .agg (rcs R)] w (RegP w R n) := by
  have HR := Lib.hid hR
  clear hR
  obtain ⟨wb, hwb⟩ : ∃ wb, wb = ((w.alloc (.cells #[.slice Ao n co, .slice Aq nq cq] 29)).alloc (.cells (rcs R) 24)).alloc (.cells #[.int .i64 0, .int .i64 0, .int .i64 0, .int .i64 0, .int .i64 0, .int .i64 0] 24) := ⟨_, rfl⟩
  have hg : w.grownBy wb none := by rw [hwb]; exact grownBy_trans (grownBy_trans (World.grownBy_alloc _ _ none) (World.grownBy_alloc _ _ none)) (World.grownBy_alloc _ _ none)
  have b1 : Blk wb w.heap.size 29 #[.slice Ao n co, .slice Aq nq cq] := by rw [hwb]; exact ((Blk.new w 29 _).gb (World.grownBy_alloc _ _ none) (by simp)).gb (World.grownBy_alloc _ _ none) (by simp)
  have b2 : Blk wb (w.heap.size + 1) 24 (rcs R) := by
    rw [hwb]; have := (Blk.new (w.alloc (.cells #[.slice Ao n co, .slice Aq nq cq] 29)) 24 (rcs R)).gb (World.grownBy_alloc _ (.cells #[.int .i64 0, .int .i64 0, .int .i64 0, .int .i64 0, .int .i64 0, .int .i64 0] 24) none) (by simp)
    simpa using this
  have b3 : Blk wb (w.heap.size + 2) 24 #[.int .i64 0, .int .i64 0, .int .i64 0, .int .i64 0, .int .i64 0, .int .i64 0] := by
    rw [hwb]; have := Blk.new ((w.alloc (.cells #[.slice Ao n co, .slice Aq nq cq] 29)).alloc (.cells (rcs R) 24)) 24 #[.int .i64 0, .int .i64 0, .int .i64 0, .int .i64 0, .int .i64 0, .int .i64 0]
    simpa using this
  have hs : wb.heap.size = w.heap.size + 3 := by rw [hwb]; simp
  have HWB := Lib.hid hwb
  have HG := Lib.hid hg
  have HB1 := Lib.hid b1
  have HB2 := Lib.hid b2
  have HB3 := Lib.hid b3
  have HS := Lib.hid hs
  clear hwb hg b1 b2 b3 hs
  obtain ⟨Post, hPost⟩ : ∃ Post, Post = RegP w R n := ⟨_, rfl⟩
  have HPost := Lib.hid hPost
  rw [← hPost]
  clear hPost
  go_enter Try.func10, Try.ntmps10
  go_wp2_with fail
  rw [← HWB.out]
  have HRG : Hid (Rg w wb R n 0 co nq cq Ao Aq) := ⟨HB1.out, (by rw [mix_zero]; exact HB2.out), HB3.out, HG.out⟩
  clear HWB HB1 HB2 HB3 HG
  go_loopw [5] (fun i wr => ∃ k : Nat, i = .int .i64 k ∧ k ≤ 6 ∧ Hid (Rg w wr R n k co nq cq Ao Aq)) (fun i _ => 6 - (intOf i).toNat)
  case atStart => exact ⟨0, rfl, by omega, HRG⟩
  case round =>
    obtain ⟨k, rfl, hk, HRR⟩ := hrel
    clear HRG
    have c0 : wr.cell? ⟨w.heap.size, 0, none⟩ = some (.slice Ao n co) := HRR.out.b1.cell 0
    have hlt := HRR.out.b3.lt
    by_cases hk6 : k < 6
    · have hc : wr.cell? ⟨w.heap.size + 1, k, none⟩ = some (.int .i64 (R k)) := by rw [HRR.out.b2.cell, rcs_get _ k hk6, mix_at]
      have hf := HRR.out.b2.free k
      have hk0 : (0 : Int) ≤ (k : Int) := by omega
      have hk1 : (k : Int) < 6 := by omega
      have hn0 : (0 : Int) ≤ (n : Int) := by omega
      have hn1 : (n : Int) ≤ 100 := by omega
      have hpk : Calls Try.prog 14 #[.int .i64 (R k), .int .i64 (IntKind.i64.wrap ((n : Int) + 1))] wr.drew fun e w' => e = .returned (.int .i64 (pk (R k) (n + 1))) ∧ w' = wr.drew := by
        rw [show IntKind.i64.wrap ((n : Int) + 1) = (n : Int) + 1 from IntWalk.i64_in _ (by omega)]
        exact pick_still (R k) (n + 1) wr.drew (HR.out k hk6) (by omega)
      have hset := HRR.out.step hk6
      have HSET := Lib.hid hset
      clear hset
      generalize pk (R k) (n + 1) = p at *
      go_wp2_with fail
      refine wp_region_still_tail 10 (by kernel_rfl) (by kernel_rfl) ?_
      simp only [List.take_succ_cons, List.take_zero, List.drop_succ_cons, List.drop_zero]
      repeat still_step
      still_call hpk
      repeat still_step
      try refine wpStill_nil ?_
      change wpList _ _ _ _ _ wr.drew
      clear hpk
      go_wp2_with fail
      go_roundw
      case rel => exact ⟨k + 1, by go_num, by omega, HSET⟩
      case measure => simp [intOf]; omega
    · obtain rfl : k = 6 := by omega
      have b2 := HRR.out.b2
      rw [mix_all] at b2
      have g := HRR.out.g
      have HB2 := Lib.hid b2
      have HGG := Lib.hid g
      have c0' := b2.cell 0
      have c1' := b2.cell 1
      have c2' := b2.cell 2
      have c3' := b2.cell 3
      have c4' := b2.cell 4
      have c5' := b2.cell 5
      simp only [rcs, List.getElem?_toArray, List.getElem?_cons_zero, List.getElem?_cons_succ] at c0' c1' c2' c3' c4' c5'
      have b3 : Blk wr (w.heap.size + 1 + 1) 24 #[.int .i64 0, .int .i64 0, .int .i64 0, .int .i64 0, .int .i64 0, .int .i64 0] := HRR.out.b3
      have z0 : wr.cell? ⟨w.heap.size + 1 + 1, 0, none⟩ = some (.int .i64 0) := b3.cell 0
      have f0 := b3.free 0
      have z1 : wr.cell? ⟨w.heap.size + 1 + 1, 1, none⟩ = some (.int .i64 0) := b3.cell 1
      have f1 := b3.free 1
      have z2 : wr.cell? ⟨w.heap.size + 1 + 1, 2, none⟩ = some (.int .i64 0) := b3.cell 2
      have f2 := b3.free 2
      have z3 : wr.cell? ⟨w.heap.size + 1 + 1, 3, none⟩ = some (.int .i64 0) := b3.cell 3
      have f3 := b3.free 3
      have z4 : wr.cell? ⟨w.heap.size + 1 + 1, 4, none⟩ = some (.int .i64 0) := b3.cell 4
      have f4 := b3.free 4
      have z5 : wr.cell? ⟨w.heap.size + 1 + 1, 5, none⟩ = some (.int .i64 0) := b3.cell 5
      have f5 := b3.free 5
      clear b2 g b3
      go_wp2_with fail
      refine bodyPost_ret (v := .agg (rcs fun j => pk (R j) (n + 1))) (by simp [results, Try.results10, go_sem, rcs, z0, z1, z2, z3, z4, z5]) rfl ?_
      rw [HPost.out]
      refine ⟨rfl, ?_⟩
      exact Zf.gb HGG.out ((((((Zf.refl (fun k => k = w.heap.size + 1 + 1) wr).set (by rfl)).set (by rfl)).set (by rfl)).set (by rfl)).set (by rfl) |>.set (by rfl)) (fun k hk => by omega)
end Go.Proofs.Yteieljkkcnpfmaa
