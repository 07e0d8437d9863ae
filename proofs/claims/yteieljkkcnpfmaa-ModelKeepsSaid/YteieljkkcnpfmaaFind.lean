/-
  Find, Come.
-/
import Derived.Test.YteieljkkcnpfmaaOwnModel
import Derived.Deep.Cut
namespace Go.Proofs.Yteieljkkcnpfmaa
open Go.ChangeShapes Go.WideShapes Go.ChangeAt Go.RowKit
set_option linter.unusedVariables false

def FindP (w : World) (o : Ob) (e : Ending) (w' : World) : Prop :=
  ∃ Ap cp An cn, e = .returned (.tuple #[.agg #[.int .i64 o.s, .int .i64 o.sp, .int .i64 o.sd, .bool o.sw, .bool o.sf, .slice Ap o.ps.length cp, .slice An o.ns.length cn, .bool o.fr], .bool true]) ∧ Rd w' Ap o.ps.length o.ps ∧ Rd w' An o.ns.length o.ns ∧ w.grownBy w' none
theorem find_none (Ao Aq : Option Addr) (co cq nq : Nat) (L : List Ov) (s : Int) (w : World) (h : RL w Ao L) (hp : plc (obs L) s = -1) :
    Calls Try.prog 15 #[.agg #[.slice Ao L.length co, .slice Aq nq cq], .int .i64 s] w fun e w' => e = .returned (.tuple #[.agg #[.int .i64 0, .int .i64 0, .int .i64 0, .bool false, .bool false, .slice none 0 0, .slice none 0 0, .bool false], .bool false]) ∧ w.grownBy w' none := by
  have HP := Lib.hid hp
  have HL : Hid (RL ((w.alloc (.cells #[.slice Ao L.length co, .slice Aq nq cq] 29)).alloc (.cells #[.int .i64 0, .int .i64 0, .int .i64 0, .bool false, .bool false, .slice none 0 0, .slice none 0 0, .bool false] 41)) Ao L) := h.gb (grownBy_trans (World.grownBy_alloc _ _ none) (World.grownBy_alloc _ _ none))
  clear h hp
  go_enter Try.func15, Try.ntmps15
  go_wp2_with fail
  refine (place_any Ao co L s _ HL.out).mono ?_
  rw [HP.out]
  rintro e w2 ⟨rfl, rfl⟩
  go_wp2_with fail
  exact bodyPost_ret (v := .tuple #[.agg #[.int .i64 0, .int .i64 0, .int .i64 0, .bool false, .bool false, .slice none 0 0, .slice none 0 0, .bool false], .bool false]) (by simp [results, Try.results15, go_sem]) rfl ⟨rfl, grownBy_trans (World.grownBy_alloc _ _ none) (World.grownBy_alloc _ _ none)⟩
set_option maxHeartbeats 2000000 in
theorem find_some (Ao Aq : Option Addr) (co cq nq : Nat) (L : List Ov) (s : Int) (p : Nat) (w : World) (h : RL w Ao L) (hp : plc (obs L) s = p) (hl : p < L.length) (hs1 : L[p].o.ps.length ≤ 100) (hs2 : L[p].o.ns.length ≤ 100) :
    Calls Try.prog 15 #[.agg #[.slice Ao L.length co, .slice Aq nq cq], .int .i64 s] w (FindP w L[p].o) := by
  have HP := Lib.hid hp
  obtain ⟨wb, hwb⟩ : ∃ wb, wb = (w.alloc (.cells #[.slice Ao L.length co, .slice Aq nq cq] 29)).alloc (.cells #[.int .i64 0, .int .i64 0, .int .i64 0, .bool false, .bool false, .slice none 0 0, .slice none 0 0, .bool false] 41) := ⟨_, rfl⟩
  have hg : w.grownBy wb none := by rw [hwb]; exact grownBy_trans (World.grownBy_alloc _ _ none) (World.grownBy_alloc _ _ none)
  have HG := Lib.hid hg
  have HL := Lib.hid (h.gb hg)
  have b1 : Blk wb w.heap.size 29 #[.slice Ao L.length co, .slice Aq nq cq] := by rw [hwb]; exact (Blk.new w 29 _).gb (World.grownBy_alloc _ _ none) (by simp)
  have b2 : Blk wb (w.heap.size + 1) 41 #[.int .i64 0, .int .i64 0, .int .i64 0, .bool false, .bool false, .slice none 0 0, .slice none 0 0, .bool false] := by
    rw [hwb]; have := Blk.new (w.alloc (.cells #[.slice Ao L.length co, .slice Aq nq cq] 29)) 41 #[.int .i64 0, .int .i64 0, .int .i64 0, .bool false, .bool false, .slice none 0 0, .slice none 0 0, .bool false]
    simpa using this
  have HB2 := Lib.hid b2
  have m0 : wb.cell? ⟨w.heap.size, 0, none⟩ = some (.slice Ao L.length co) := b1.cell 0
  have HWB := Lib.hid hwb
  clear h hp hg hwb b1 b2
  obtain ⟨b0, off, rfl, hb0, k0, k1, k2, k3, k4, k5, k6, k7⟩ := HL.out.cells p hl
  have hro := HL.out.2 L[p] (List.getElem_mem _)
  obtain ⟨Ap, cp, An, cn, hvp, hvn, hr1, hr2⟩ := hro
  have HRO : Hid (RO wb L[p].o (.slice Ap L[p].o.ps.length cp) (.slice An L[p].o.ns.length cn)) := ⟨Ap, cp, An, cn, rfl, rfl, hr1, hr2⟩
  rw [hvp] at k5
  rw [hvn] at k6
  clear hvp hvn hr1 hr2
  generalize L[p].o = o at *
  have hp0 : (0 : Int) ≤ (p : Int) := by omega
  have hp1 : (p : Int) < (L.length : Int) := by omega
  go_enter Try.func15, Try.ntmps15
  go_upto_region 1 with (fail)
  rw [← HWB.out]
  clear HWB
  go_wp2_with fail
  refine (place_any _ co L s wb HL.out).mono ?_
  rw [HP.out]
  rintro e w2 ⟨rfl, rfl⟩
  go_wp2_with fail
  refine (ownObj_any o _ _ wb HRO.out (by omega) (by omega)).mono ?_
  rintro e w3 ⟨vp', vn', rfl, hoP, hoN, hap, hg3⟩
  obtain ⟨Ap', cp', rfl, rP, -, -⟩ := Rc.of_own hoP
  obtain ⟨An', cn', rfl, rN, -, -⟩ := Rc.of_own hoN
  have B2 := HB2.out.gb hg3 (by simp)
  have q0 : w3.cell? ⟨w.heap.size + 1, 0, none⟩ = some (.int .i64 0) := B2.cell 0
  have f0 := B2.free 0
  have q1 : w3.cell? ⟨w.heap.size + 1, 1, none⟩ = some (.int .i64 0) := B2.cell 1
  have f1 := B2.free 1
  have q2 : w3.cell? ⟨w.heap.size + 1, 2, none⟩ = some (.int .i64 0) := B2.cell 2
  have f2 := B2.free 2
  have q3 : w3.cell? ⟨w.heap.size + 1, 3, none⟩ = some (.bool false) := B2.cell 3
  have f3 := B2.free 3
  have q4 : w3.cell? ⟨w.heap.size + 1, 4, none⟩ = some (.bool false) := B2.cell 4
  have f4 := B2.free 4
  have q5 : w3.cell? ⟨w.heap.size + 1, 5, none⟩ = some (.slice none 0 0) := B2.cell 5
  have f5 := B2.free 5
  have q6 : w3.cell? ⟨w.heap.size + 1, 6, none⟩ = some (.slice none 0 0) := B2.cell 6
  have f6 := B2.free 6
  have q7 : w3.cell? ⟨w.heap.size + 1, 7, none⟩ = some (.bool false) := B2.cell 7
  have f7 := B2.free 7
  have hlt := HB2.out.lt
  have HZP : Hid (∀ W, Zf (fun k => k = w.heap.size + 1) w3 W → FindP w o (.returned (.tuple #[.agg #[.int .i64 o.s, .int .i64 o.sp, .int .i64 o.sd, .bool o.sw, .bool o.sf, .slice Ap' o.ps.length cp', .slice An' o.ns.length cn', .bool o.fr], .bool true])) W) := fun W f => by
    refine ⟨_, _, _, _, rfl, ?_, ?_, Zf.gb (grownBy_trans HG.out hg3) f (fun k hk => by omega)⟩
    · obtain ⟨A, c, e, hr, _, _⟩ := Rc.of_own (own_zf hoP f (fun g e k => by have := (hoP.lt g e).1; omega))
      cases e; exact hr
    · obtain ⟨A, c, e, hr, _, _⟩ := Rc.of_own (own_zf hoN f (fun g e k => by have := (hoN.lt g e).1; omega))
      cases e; exact hr
  clear hoP hoN hap hg3 B2 rP rN
  go_wp2_with fail
  refine bodyPost_ret (v := .tuple #[.agg #[.int .i64 o.s, .int .i64 o.sp, .int .i64 o.sd, .bool o.sw, .bool o.sf, .slice Ap' o.ps.length cp', .slice An' o.ns.length cn', .bool o.fr], .bool true]) (by simp [results, Try.results15, go_sem, q0, q1, q2, q3, q4, q5, q6, q7]) rfl (HZP.out _ ?_)
  exact (((((((((Zf.refl (fun k => k = w.heap.size + 1) w3).set (by rfl)).set (by rfl)).set (by rfl)).set (by rfl)).set (by rfl)).set (by rfl)).set (by rfl)).set (by rfl))
end Go.Proofs.Yteieljkkcnpfmaa
