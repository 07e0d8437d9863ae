/-
  Contract of awake.
-/
import Derived.Test.YteieljkkcnpfmaaAll
import Derived.Test.YteieljkkcnpfmaaCanonM
import Derived.Test.YteieljkkcnpfmaaFind
import Derived.Test.YteieljkkcnpfmaaSameO
import Derived.BigRegion
namespace Go.Proofs.Yteieljkkcnpfmaa
open Go.ChangeShapes Go.WideShapes Go.ChangeAt Go.RowKit
set_option linter.unusedVariables false

def ob7 : Ob := ⟨7, 0, 1, false, false, [], [0], false⟩
theorem right_alloc : RightD (dd 1 (0 : Nat) (0 : Nat) 0 1) (parts 1) := by
  refine ⟨fun p hp => ?_, fun j h1 h4 hn => ?_⟩
  · have hp' : p ∈ parts1 := hp
    simp [parts1] at hp'
    rcases hp' with rfl | rfl | rfl <;> simp [dd]
  · rcases (by omega : j = 1 ∨ j = 2 ∨ j = 3 ∨ j = 4) with rfl | rfl | rfl | rfl <;> first | rfl | exact absurd rfl (hn ⟨4, 0, 4⟩ (by show _ ∈ parts1; simp [parts1]))
theorem right_read1 : RightD (dd 6 (1 : Nat) (0 : Nat) 0 0) (parts 6) := by
  refine ⟨fun p hp => ?_, fun j h1 h4 hn => ?_⟩
  · have hp' : p ∈ parts6 := hp
    simp [parts6] at hp'
    rcases hp' with rfl | rfl <;> simp [dd]
  · rcases (by omega : j = 1 ∨ j = 2 ∨ j = 3 ∨ j = 4) with rfl | rfl | rfl | rfl <;> first | rfl | exact absurd rfl (hn ⟨1, 0, 5⟩ (by show _ ∈ parts6; simp [parts6]))
theorem rm_nil (w : World) : RM w (.agg #[.slice none 0 0, .slice none 0 0]) [] [] :=
  ⟨none, 0, none, 0, [], rfl, rfl, ⟨Rc.zero, by simp⟩, Rc.zero⟩
theorem do_first (w : World) : Calls Try.prog 12 #[.agg #[.slice none 0 0, .slice none 0 0], .agg #[.int .i64 0, .int .i64 0, .int .i64 0, .int .i64 0, .int .i64 0, .int .i64 0], .agg #[.int .i64 1, .int .i64 0, .int .i64 0, .int .i64 0, .int .i64 1], .int .i64 7, .int .i64 0] w (DoP w [ob7] [] (upd (fun _ => 0) 0 7) 7 0) := by
  have hf : flt [] (fun _ => 0) 1 0 0 0 7 = 0 := by rfl
  have hs : Smo [] [] := ⟨by simp, by simp, by simp⟩
  have h := do_ok (rm_nil w) hs (fun _ => 0) 1 0 0 0 1 7 0 (by omega) (by omega) (by omega) (by omega) (by omega) right_alloc hf
  have e1 : nO [] (fun _ => 0) 1 0 0 0 1 7 = [ob7] := by rfl
  have e2 : nR [] [] (fun _ => 0) 1 0 0 0 1 7 0 = upd (fun _ => 0) 0 7 := by rfl
  have e3 : nV [] [] (fun _ => 0) 1 0 0 0 1 7 0 = 7 := if_pos (.inl rfl)
  have e4 : nQ [] 1 0 = [] := rfl
  rw [e1, e2, e3, e4] at h
  exact h
/-- The example's model. -/
def M7 (w : World) (Ao Aq : Option Addr) (co cq : Nat) (x : Ov) : Prop := RL w Ao [x] ∧ x.o = ob7 ∧ Rc w Aq 0 2 []
theorem M7.gb {w w' : World} {Ao Aq : Option Addr} {co cq : Nat} {x : Ov} (h : M7 w Ao Aq co cq x) (g : w.grownBy w' none) : M7 w' Ao Aq co cq x := ⟨h.1.gb g, h.2.1, h.2.2.gb g⟩
theorem M7.of {w : World} {v : Value} (h : RM w v [ob7] []) : ∃ Ao co Aq cq x, v = .agg #[.slice Ao 1 co, .slice Aq 0 cq] ∧ M7 w Ao Aq co cq x := by
  obtain ⟨Ao, co, Aq, cq, L, rfl, ho, hL, hQ⟩ := h
  have hl : L.length = 1 := by have := congrArg List.length ho; simpa [obs] using this
  obtain ⟨x, rfl⟩ := List.length_eq_one_iff.1 hl
  have hx : x.o = ob7 := by
    have h0 : [x.o] = [ob7] := ho
    exact (List.cons.inj h0).1
  exact ⟨Ao, co, Aq, cq, x, rfl, hL, hx, hQ⟩
def Fnd7 (w : World) (e : Ending) (w' : World) : Prop := ∃ Ap cp An cn, e = .returned (.tuple #[.agg #[.int .i64 7, .int .i64 0, .int .i64 1, .bool false, .bool false, .slice Ap 0 cp, .slice An 1 cn, .bool false], .bool true]) ∧ w.grownBy w' none
section
variable {w : World} {Ao Aq : Option Addr} {co cq : Nat} {x : Ov}
theorem M7.find (h : M7 w Ao Aq co cq x) : Calls Try.prog 15 #[.agg #[.slice Ao 1 co, .slice Aq 0 cq], .int .i64 7] w (Fnd7 w) := by
  have := find_some Ao Aq co cq 0 [x] 7 0 w h.1 (by simp [obs, plc, h.2.1, ob7]) (by simp) (by simp [h.2.1, ob7]) (by simp [h.2.1, ob7])
  rw [List.getElem_cons_zero, h.2.1] at this
  refine this.mono ?_
  rintro e w2 ⟨Ap, cp, An, cn, rfl, _, _, g⟩
  exact ⟨Ap, cp, An, cn, rfl, g⟩
theorem M7.read (h : M7 w Ao Aq co cq x) : Calls Try.prog 12 #[.agg #[.slice Ao 1 co, .slice Aq 0 cq], .agg #[.int .i64 7, .int .i64 0, .int .i64 0, .int .i64 0, .int .i64 0, .int .i64 0], .agg #[.int .i64 6, .int .i64 1, .int .i64 0, .int .i64 0, .int .i64 0], .int .i64 0, .int .i64 0] w (DoP w [ob7] [] (upd (fun _ => 0) 0 7) 0 143) :=
  do_flt (v := .agg #[.slice Ao 1 co, .slice Aq 0 cq]) (O := [ob7]) (Q := []) ⟨Ao, co, Aq, cq, [x], rfl, by simp [obs, h.2.1], h.1, h.2.2⟩ ⟨by simp, by simp, by simp [ob7]⟩ (upd (fun _ => 0) 0 7) 6 1 0 0 0 0 0 (by omega) (by omega) (by omega) (by omega) (by omega) right_read1 (by decide)
theorem M7.same (h : M7 w Ao Aq co cq x) : Calls Try.prog 13 #[.agg #[.slice Ao 1 co, .slice Aq 0 cq], .agg #[.slice none 0 0, .slice none 0 0]] w fun e w' => e = .returned (.bool false) ∧ w.grownBy w' none := by
  have := same_any Ao Aq none none co cq 0 0 [x] [] [] [] w h.1 h.2.2 ⟨Rc.zero, by simp⟩ Rc.zero
  rw [show decide (obs [x] = obs [] ∧ ([] : List (Int × Int)) = []) = false from by simp [obs]] at this
  exact this
theorem M7.canon (h : M7 w Ao Aq co cq x) (g : Nat) (hb : Blk w g 24 #[.int .i64 7, .int .i64 0, .int .i64 0, .int .i64 0, .int .i64 0, .int .i64 0]) : Calls Try.prog 17 #[.agg #[.slice Ao 1 co, .slice Aq 0 cq], .slice (some ⟨g, 0, none⟩) 6 6] w fun e w' => (∃ A c, e = .returned (.slice A 1 c)) ∧ w.grownBy w' none :=
  canon_any Ao Aq (some ⟨g, 0, none⟩) co cq 0 6 x w h.1 (by rw [h.2.1]; rfl) (by rw [h.2.1]; rfl) (by rw [h.2.1]; rfl) (by rw [h.2.1]; simp [ob7]) ⟨rfl, by omega, fun _ => ⟨g, 0, rfl, hb.lt, fun j hj => by rw [Nat.zero_add, hb.cell]; rcases (by omega : j = 0 ∨ j = 1 ∨ j = 2 ∨ j = 3 ∨ j = 4 ∨ j = 5) with rfl | rfl | rfl | rfl | rfl | rfl <;> rfl⟩⟩
end
theorem kp7 {W W' : World} {a0 a1 a2 a3 a4 a5 a6 : Addr} {v0 v1 v2 v3 v4 v5 v6 : Value} (h : W.cell? a0 = some v0 ∧ W.cell? a1 = some v1 ∧ W.cell? a2 = some v2 ∧ W.cell? a3 = some v3 ∧ W.cell? a4 = some v4 ∧ W.cell? a5 = some v5 ∧ W.cell? a6 = some v6) (g : W.grownBy W' none) : W'.cell? a0 = some v0 ∧ W'.cell? a1 = some v1 ∧ W'.cell? a2 = some v2 ∧ W'.cell? a3 = some v3 ∧ W'.cell? a4 = some v4 ∧ W'.cell? a5 = some v5 ∧ W'.cell? a6 = some v6 :=
  ⟨cellk h.1 g, cellk h.2.1 g, cellk h.2.2.1 g, cellk h.2.2.2.1 g, cellk h.2.2.2.2.1 g, cellk h.2.2.2.2.2.1 g, cellk h.2.2.2.2.2.2 g⟩
set_option maxRecDepth 100000 in
set_option maxHeartbeats 4000000 in
theorem awake_any (w : World) : Calls Try.prog 8 #[] w fun e w' => e = .returned (.bool true) ∧ w.grownBy w' none := by
  go_enter Try.func8, Try.ntmps8
  go_wp2_with fail
  refine (do_first w).mono ?_
  rintro e w1 ⟨v1, rfl, hm, hg⟩
  obtain ⟨Ao, co, Aq, cq, x, rfl, hx⟩ := M7.of hm
  have HX := Lib.hid hx
  have HG := Lib.hid hg
  clear hm hx hg
  rw [show rcs (upd (fun _ => 0) 0 7) = #[.int .i64 7, .int .i64 0, .int .i64 0, .int .i64 0, .int .i64 0, .int .i64 0] from rfl]
  go_wp2_with fail
  obtain ⟨W, hW⟩ : ∃ W, W = ((w1.alloc (.cells #[.slice Ao 1 co, .slice Aq 0 cq] 29)).alloc (.cells #[.int .i64 7, .int .i64 0, .int .i64 0, .int .i64 0, .int .i64 0, .int .i64 0] 24)) := ⟨_, rfl⟩
  rw [← hW]
  have gW : w1.grownBy W none := by rw [hW]; exact grownBy_trans (World.grownBy_alloc _ _ none) (World.grownBy_alloc _ _ none)
  have B1 : Blk W w1.heap.size 29 #[.slice Ao 1 co, .slice Aq 0 cq] := by rw [hW]; exact (Blk.new w1 29 _).gb (World.grownBy_alloc _ _ none) (by simp)
  have B2 : Blk W (w1.heap.size + 1) 24 #[.int .i64 7, .int .i64 0, .int .i64 0, .int .i64 0, .int .i64 0, .int .i64 0] := by
    rw [hW]; have := Blk.new (w1.alloc (.cells #[.slice Ao 1 co, .slice Aq 0 cq] 29)) 24 #[.int .i64 7, .int .i64 0, .int .i64 0, .int .i64 0, .int .i64 0, .int .i64 0]
    simpa using this
  have HB1 := Lib.hid B1
  have HB2 := Lib.hid B2
  replace HX := Lib.hid (HX.out.gb gW)
  replace HG := Lib.hid (grownBy_trans HG.out gW)
  clear hW gW B1 B2
  refine (HX.out.find).mono ?_
  rintro e w2 ⟨Ap, cp, An, cn, rfl, gW⟩
  have cs : w2.cell? ⟨w1.heap.size, 0, none⟩ = some (.slice Ao 1 co) ∧ w2.cell? ⟨w1.heap.size, 1, none⟩ = some (.slice Aq 0 cq) := ⟨(HB1.out.gb gW (by simp)).cell 0, (HB1.out.gb gW (by simp)).cell 1⟩
  obtain ⟨c0, c1⟩ := cs
  have B2 := HB2.out.gb gW (by simp)
  have hlt : w1.heap.size + 1 < w2.heap.size := B2.lt
  have hlt1 : w1.heap.size < w2.heap.size := by omega
  have d0 : w2.cell? ⟨w1.heap.size + 1, 0, none⟩ = some (.int .i64 7) := B2.cell 0
  have d1 : w2.cell? ⟨w1.heap.size + 1, 1, none⟩ = some (.int .i64 0) := B2.cell 1
  have d2 : w2.cell? ⟨w1.heap.size + 1, 2, none⟩ = some (.int .i64 0) := B2.cell 2
  have d3 : w2.cell? ⟨w1.heap.size + 1, 3, none⟩ = some (.int .i64 0) := B2.cell 3
  have d4 : w2.cell? ⟨w1.heap.size + 1, 4, none⟩ = some (.int .i64 0) := B2.cell 4
  have d5 : w2.cell? ⟨w1.heap.size + 1, 5, none⟩ = some (.int .i64 0) := B2.cell 5
  have HGW := Lib.hid gW
  clear gW B2
  go_wp2_with fail
  have gW2 : w2.grownBy (w2.alloc (.cells #[.int .i64 7, .int .i64 0, .int .i64 1, .bool false, .bool false, .slice Ap 0 cp, .slice An 1 cn, .bool false] 41)) none := World.grownBy_alloc _ _ none
  have HXX := Lib.hid (HX.out.gb (grownBy_trans HGW.out gW2))
  replace HB1 := Lib.hid ((HB1.out.gb HGW.out (by simp)).gb gW2 (by simp))
  replace HB2 := Lib.hid ((HB2.out.gb HGW.out (by simp)).gb gW2 (by simp))
  have B3 := Blk.new w2 41 #[.int .i64 7, .int .i64 0, .int .i64 1, .bool false, .bool false, .slice Ap 0 cp, .slice An 1 cn, .bool false]
  have HB3 := Lib.hid B3
  replace HG := Lib.hid (grownBy_trans (grownBy_trans HG.out HGW.out) gW2)
  clear gW2 B3 c0 c1 d0 d1 d2 d3 d4 d5 HGW
  refine (HXX.out.read).mono ?_
  rintro e w3 ⟨v3, rfl, hm, hg⟩
  obtain ⟨A3o, c3o, A3q, c3q, x3, rfl, hx3⟩ := M7.of hm
  clear hx3 hm
  have HX3 := Lib.hid (HXX.out.gb hg)
  have HG3 := Lib.hid (grownBy_trans HG.out hg)
  have B1 := HB1.out.gb hg (by simp)
  have B2 := HB2.out.gb hg (by simp)
  have B3 := HB3.out.gb hg (by simp)
  clear HXX HX HG HB1 HB2 HB3 hg
  have HB1 := Lib.hid B1
  have HB2 := Lib.hid B2
  have HB3 := Lib.hid B3
  clear B1 B2 B3
  rw [show rcs (upd (fun _ => 0) 0 7) = #[.int .i64 7, .int .i64 0, .int .i64 0, .int .i64 0, .int .i64 0, .int .i64 0] from rfl]
  go_wp2_with fail
  obtain ⟨W4, hW4⟩ : ∃ W4, W4 = ((w3.alloc (.cells #[.slice A3o 1 c3o, .slice A3q 0 c3q] 29)).alloc (.cells #[.int .i64 7, .int .i64 0, .int .i64 0, .int .i64 0, .int .i64 0, .int .i64 0] 24)) := ⟨_, rfl⟩
  rw [← hW4]
  have gW : w3.grownBy W4 none := by rw [hW4]; exact grownBy_trans (World.grownBy_alloc _ _ none) (World.grownBy_alloc _ _ none)
  have HX4 := Lib.hid (HX3.out.gb gW)
  have HG4 := Lib.hid (grownBy_trans HG3.out gW)
  have B1 := HB1.out.gb gW (by simp)
  have B2 := HB2.out.gb gW (by simp)
  have B3 := HB3.out.gb gW (by simp)
  have sb : W4.cell? ⟨w1.heap.size, 0, none⟩ = some (.slice Ao 1 co) ∧ W4.cell? ⟨w1.heap.size, 1, none⟩ = some (.slice Aq 0 cq) ∧ W4.cell? ⟨w1.heap.size + 1, 0, none⟩ = some (.int .i64 7) ∧ W4.cell? ⟨w2.heap.size, 1, none⟩ = some (.int .i64 0) ∧ W4.cell? ⟨w2.heap.size, 2, none⟩ = some (.int .i64 1) ∧ W4.cell? ⟨w2.heap.size, 3, none⟩ = some (.bool false) ∧ W4.cell? ⟨w2.heap.size, 4, none⟩ = some (.bool false) := ⟨B1.cell 0, B1.cell 1, B2.cell 0, B3.cell 1, B3.cell 2, B3.cell 3, B3.cell 4⟩
  have HC2 := Lib.hid B2
  clear hW4 gW B1 B2 B3 HX3 HG3 HB1 HB2 HB3
  go_region_held3 (fun w' => w'.cell? ⟨w1.heap.size, 0, none⟩ = some (.slice Ao 1 co) ∧ w'.cell? ⟨w1.heap.size, 1, none⟩ = some (.slice Aq 0 cq) ∧ w'.cell? ⟨w1.heap.size + 1, 0, none⟩ = some (.int .i64 7) ∧ w'.cell? ⟨w2.heap.size, 1, none⟩ = some (.int .i64 0) ∧ w'.cell? ⟨w2.heap.size, 2, none⟩ = some (.int .i64 1) ∧ w'.cell? ⟨w2.heap.size, 3, none⟩ = some (.bool false) ∧ w'.cell? ⟨w2.heap.size, 4, none⟩ = some (.bool false))
    (first | with_reducible exact sB | with_reducible exact sA | with_reducible exact kp7 sb (gb_drew _ none))
    (first | (go_at_call 13; (with_reducible refine (HX4.out.gb (gb_drew W4 none)).same.mono ?_); rintro e wA ⟨rfl, gA⟩; have sA := kp7 (kp7 sb (gb_drew _ none)) gA) | (go_at_call 17; (with_reducible refine ((HX4.out.gb (gb_drew W4 none)).gb gA).canon (w1.heap.size + 1) ((HC2.out.gb (gb_drew W4 none) (by simp)).gb gA (by simp)) |>.mono ?_); rintro e wB ⟨⟨AB, cB, rfl⟩, gB⟩; have sB := kp7 sA gB))
  have HGB := Lib.hid (grownBy_trans HG4.out (grownBy_trans (grownBy_trans (gb_drew W4 none) gA) gB))
  clear gA gB sA sB sb
  go_wp2_with fail
  go_ret
  exact ⟨rfl, HGB.out⟩
end Go.Proofs.Yteieljkkcnpfmaa
