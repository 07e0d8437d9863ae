/-
  form: each kind's word and parts.
-/
import Derived.Test.YteieljkkcnpfmaaBase
import Derived.Laws.EntriesVeiled
import Derived.Deep.Cut
namespace Go.Proofs.Yteieljkkcnpfmaa
open Go.ChangeShapes Go.WideShapes Go.ChangeAt Go.RowKit
set_option linter.unusedVariables false

/-- A part: which field, from where, to where. -/
structure Pt where
  j : Nat
  lo : Int
  hi : Int
def pv (p : Pt) : List Value := [.func (.func (34 + p.j)) #[] #[], .int .i64 p.lo, .int .i64 p.hi]
def pvs (P : List Pt) : List Value := P.flatMap pv
/-- What form tells of a kind. -/
def FormP (w : World) (str : ByteArray) (P : List Pt) (e : Ending) (w' : World) : Prop :=
  ∃ A c, e = .returned (.tuple #[.string str, .slice A P.length c]) ∧ Rc w' A P.length 3 (pvs P) ∧ w.grownBy w' none
theorem FormP.of {w W : World} {str : ByteArray} {P : List Pt} {n : Nat} (B : Nat) (cs : Array Value) (hn : P.length = n) (hb : Blk W B 77 cs) (hc : cs.toList = pvs P) (hl : n ≤ 3) (hg : w.grownBy W none) : FormP w str P (.returned (.tuple #[.string str, .slice (some ⟨B, 0, none⟩) n n])) W := by
  have hlen : ∀ P : List Pt, (pvs P).length = P.length * 3 := by
    intro P
    induction P with
    | nil => rfl
    | cons x P ih => simp only [pvs, List.flatMap_cons, List.length_append, List.length_cons] at ih ⊢; rw [ih]; simp [pv]; omega
  subst hn
  refine ⟨_, _, rfl, ⟨hlen P, by omega, fun _ => ⟨B, 0, rfl, hb.lt, fun j hj => ?_⟩⟩, hg⟩
  rw [Nat.zero_add, hb.cell, ← hc]
  simp

def six (w : World) : World := (((((w.alloc (.cells #[.func (.func 35) #[] #[], .int .i64 0, .int .i64 5] 77)).alloc (.cells #[.func (.func 36) #[] #[], .int .i64 0, .int .i64 5] 77)).alloc (.cells #[.func (.func 37) #[] #[], .int .i64 0, .int .i64 7] 77)).alloc (.cells #[.func (.func 37) #[] #[], .int .i64 0, .int .i64 4] 77)).alloc (.cells #[.func (.func 38) #[] #[], .int .i64 0, .int .i64 4] 77)).alloc (.cells #[.func (.func 38) #[] #[], .int .i64 (-1000000), .int .i64 1000000] 77)
theorem six_gb (w : World) : w.grownBy (six w) none := by
  unfold six
  repeat (first | exact grownBy_refl _ _ | refine grownBy_trans ?_ (World.grownBy_alloc _ _ none))
theorem six_blk (w : World) : Blk (six w) w.heap.size 77 #[.func (.func 35) #[] #[], .int .i64 0, .int .i64 5] ∧ Blk (six w) (w.heap.size + 1) 77 #[.func (.func 36) #[] #[], .int .i64 0, .int .i64 5] ∧ Blk (six w) (w.heap.size + 1 + 1) 77 #[.func (.func 37) #[] #[], .int .i64 0, .int .i64 7] ∧
    Blk (six w) (w.heap.size + 1 + 1 + 1) 77 #[.func (.func 37) #[] #[], .int .i64 0, .int .i64 4] ∧ Blk (six w) (w.heap.size + 1 + 1 + 1 + 1) 77 #[.func (.func 38) #[] #[], .int .i64 0, .int .i64 4] ∧ Blk (six w) (w.heap.size + 1 + 1 + 1 + 1 + 1) 77 #[.func (.func 38) #[] #[], .int .i64 (-1000000), .int .i64 1000000] := by
  unfold six
  have a0 := Blk.new w 77 #[.func (.func 35) #[] #[], .int .i64 0, .int .i64 5]
  generalize hw1 : w.alloc (.cells #[.func (.func 35) #[] #[], .int .i64 0, .int .i64 5] 77) = w1 at *
  have e1 : w1.heap.size = w.heap.size + 1 := by rw [← hw1]; simp
  clear hw1
  have a1 := Blk.new w1 77 #[.func (.func 36) #[] #[], .int .i64 0, .int .i64 5]
  replace a0 := a0.gb (World.grownBy_alloc w1 (.cells #[.func (.func 36) #[] #[], .int .i64 0, .int .i64 5] 77) none) (by simp)
  generalize hw2 : w1.alloc (.cells #[.func (.func 36) #[] #[], .int .i64 0, .int .i64 5] 77) = w2 at *
  have e2 : w2.heap.size = w1.heap.size + 1 := by rw [← hw2]; simp
  clear hw2
  have a2 := Blk.new w2 77 #[.func (.func 37) #[] #[], .int .i64 0, .int .i64 7]
  have g2 := World.grownBy_alloc w2 (.cells #[.func (.func 37) #[] #[], .int .i64 0, .int .i64 7] 77) none
  replace a0 := a0.gb g2 (by simp); replace a1 := a1.gb g2 (by simp); clear g2
  generalize hw3 : w2.alloc (.cells #[.func (.func 37) #[] #[], .int .i64 0, .int .i64 7] 77) = w3 at *
  have e3 : w3.heap.size = w2.heap.size + 1 := by rw [← hw3]; simp
  clear hw3
  have a3 := Blk.new w3 77 #[.func (.func 37) #[] #[], .int .i64 0, .int .i64 4]
  have g3 := World.grownBy_alloc w3 (.cells #[.func (.func 37) #[] #[], .int .i64 0, .int .i64 4] 77) none
  replace a0 := a0.gb g3 (by simp); replace a1 := a1.gb g3 (by simp); replace a2 := a2.gb g3 (by simp); clear g3
  generalize hw4 : w3.alloc (.cells #[.func (.func 37) #[] #[], .int .i64 0, .int .i64 4] 77) = w4 at *
  have e4 : w4.heap.size = w3.heap.size + 1 := by rw [← hw4]; simp
  clear hw4
  have a4 := Blk.new w4 77 #[.func (.func 38) #[] #[], .int .i64 0, .int .i64 4]
  have g4 := World.grownBy_alloc w4 (.cells #[.func (.func 38) #[] #[], .int .i64 0, .int .i64 4] 77) none
  replace a0 := a0.gb g4 (by simp); replace a1 := a1.gb g4 (by simp); replace a2 := a2.gb g4 (by simp); replace a3 := a3.gb g4 (by simp); clear g4
  generalize hw5 : w4.alloc (.cells #[.func (.func 38) #[] #[], .int .i64 0, .int .i64 4] 77) = w5 at *
  have e5 : w5.heap.size = w4.heap.size + 1 := by rw [← hw5]; simp
  clear hw5
  have a5 := Blk.new w5 77 #[.func (.func 38) #[] #[], .int .i64 (-1000000), .int .i64 1000000]
  have g5 := World.grownBy_alloc w5 (.cells #[.func (.func 38) #[] #[], .int .i64 (-1000000), .int .i64 1000000] 77) none
  replace a0 := a0.gb g5 (by simp); replace a1 := a1.gb g5 (by simp); replace a2 := a2.gb g5 (by simp); replace a3 := a3.gb g5 (by simp); replace a4 := a4.gb g5 (by simp); clear g5
  rw [e5, e4, e3, e2, e1] at a5
  rw [e4, e3, e2, e1] at a4
  rw [e3, e2, e1] at a3
  rw [e2, e1] at a2
  rw [e1] at a1
  exact ⟨a0, a1, a2, a3, a4, a5⟩

def word1 : ByteArray := ⟨#[97, 108, 108, 111, 99]⟩
def parts1 : List Pt := [⟨1, 0, 5⟩, ⟨3, 0, 4⟩, ⟨4, 0, 4⟩]
def word2 : ByteArray := ⟨#[102, 105, 110, 97, 108]⟩
def parts2 : List Pt := [⟨1, 0, 5⟩, ⟨3, 0, 4⟩, ⟨4, 0, 4⟩]
def word3 : ByteArray := ⟨#[119, 101, 97, 107]⟩
def parts3 : List Pt := [⟨1, 0, 5⟩, ⟨2, 0, 5⟩]
def word4 : ByteArray := ⟨#[103, 101, 116]⟩
def parts4 : List Pt := [⟨1, 0, 5⟩, ⟨2, 0, 5⟩, ⟨3, 0, 7⟩]
def word5 : ByteArray := ⟨#[112, 117, 116]⟩
def parts5 : List Pt := [⟨1, 0, 5⟩, ⟨3, 0, 7⟩, ⟨2, 0, 5⟩]
def word6 : ByteArray := ⟨#[114, 101, 97, 100]⟩
def parts6 : List Pt := [⟨1, 0, 5⟩, ⟨3, 0, 7⟩]
def word7 : ByteArray := ⟨#[119, 114, 105, 116, 101]⟩
def parts7 : List Pt := [⟨1, 0, 5⟩, ⟨3, 0, 7⟩, ⟨4, -1000000, 1000000⟩]
def word8 : ByteArray := ⟨#[102, 114, 101, 101]⟩
def parts8 : List Pt := [⟨1, 0, 5⟩]
def word9 : ByteArray := ⟨#[108, 111, 97, 100]⟩
def parts9 : List Pt := [⟨1, 0, 5⟩, ⟨2, 0, 5⟩]
def word10 : ByteArray := ⟨#[116, 97, 107, 101]⟩
def parts10 : List Pt := [⟨1, 0, 5⟩]
def word11 : ByteArray := ⟨#[115, 97, 109, 101]⟩
def parts11 : List Pt := [⟨1, 0, 5⟩, ⟨2, 0, 5⟩]
def word12 : ByteArray := ⟨#[109, 111, 118, 101]⟩
def parts12 : List Pt := [⟨1, 0, 5⟩, ⟨2, 0, 5⟩]
def word13 : ByteArray := ⟨#[110, 105, 108]⟩
def parts13 : List Pt := [⟨1, 0, 5⟩]
def word14 : ByteArray := ⟨#[97, 98, 111, 114, 116]⟩
def parts14 : List Pt := []
def word (k : Int) : ByteArray := if k = 1 then word1 else if k = 2 then word2 else if k = 3 then word3 else if k = 4 then word4 else if k = 5 then word5 else if k = 6 then word6 else if k = 7 then word7 else if k = 8 then word8 else if k = 9 then word9 else if k = 10 then word10 else if k = 11 then word11 else if k = 12 then word12 else if k = 13 then word13 else word14
def parts (k : Int) : List Pt := if k = 1 then parts1 else if k = 2 then parts2 else if k = 3 then parts3 else if k = 4 then parts4 else if k = 5 then parts5 else if k = 6 then parts6 else if k = 7 then parts7 else if k = 8 then parts8 else if k = 9 then parts9 else if k = 10 then parts10 else if k = 11 then parts11 else if k = 12 then parts12 else if k = 13 then parts13 else parts14
set_option maxHeartbeats 8000000 in
theorem form_any (k : Int) (h1 : 1 ≤ k) (h14 : k ≤ 14) (w : World) : Calls Try.prog 31 #[.int .i64 k] w (FormP w (word k) (parts k)) := by
  have hk : k = 1 ∨ k = 2 ∨ k = 3 ∨ k = 4 ∨ k = 5 ∨ k = 6 ∨ k = 7 ∨ k = 8 ∨ k = 9 ∨ k = 10 ∨ k = 11 ∨ k = 12 ∨ k = 13 ∨ k = 14 := by omega
  have HK := Lib.hid hk
  clear hk h1 h14
  obtain ⟨Post, hPost⟩ : ∃ Post, Post = FormP w (word k) (parts k) := ⟨_, rfl⟩
  rw [← hPost]
  have HPost := Lib.hid hPost
  clear hPost
  go_enter Try.func31, Try.ntmps31
  go_upto_region 7 with (fail)
  obtain ⟨b0, b1, b2, b3, b4, b5⟩ := six_blk w
  have HG := Lib.hid (six_gb w)
  change Code.wp _ _ _ _ (six w)
  generalize six w = W at *
  have c00 := b0.cell 0; have c01 := b0.cell 1; have c02 := b0.cell 2
  simp only [List.getElem?_toArray, List.getElem?_cons_zero, List.getElem?_cons_succ] at c00 c01 c02
  have c10 := b1.cell 0; have c11 := b1.cell 1; have c12 := b1.cell 2
  simp only [List.getElem?_toArray, List.getElem?_cons_zero, List.getElem?_cons_succ] at c10 c11 c12
  have c20 := b2.cell 0; have c21 := b2.cell 1; have c22 := b2.cell 2
  simp only [List.getElem?_toArray, List.getElem?_cons_zero, List.getElem?_cons_succ] at c20 c21 c22
  have c30 := b3.cell 0; have c31 := b3.cell 1; have c32 := b3.cell 2
  simp only [List.getElem?_toArray, List.getElem?_cons_zero, List.getElem?_cons_succ] at c30 c31 c32
  have c40 := b4.cell 0; have c41 := b4.cell 1; have c42 := b4.cell 2
  simp only [List.getElem?_toArray, List.getElem?_cons_zero, List.getElem?_cons_succ] at c40 c41 c42
  have c50 := b5.cell 0; have c51 := b5.cell 1; have c52 := b5.cell 2
  simp only [List.getElem?_toArray, List.getElem?_cons_zero, List.getElem?_cons_succ] at c50 c51 c52
  clear b0 b1 b2 b3 b4 b5
  rcases HK.out with rfl | rfl | rfl | rfl | rfl | rfl | rfl | rfl | rfl | rfl | rfl | rfl | rfl | rfl
  · have HF : Hid (∀ W (B : Nat) (cs : Array Value), Blk W B 77 cs → cs.toList = pvs parts1 → w.grownBy W none → Post (.returned (.tuple #[.string word1, .slice (some ⟨B, 0, none⟩) 3 3])) W) := fun W B cs h1 h2 h3 => by rw [HPost.out]; exact FormP.of B cs rfl h1 h2 (by omega) h3
    clear HPost HK c10 c11 c12 c20 c21 c22 c50 c51 c52
    go_wp2_with fail
    go_region
    all_goals go_wp2_with fail
    refine HF.out _ _ _ ((Blk.new _ 77 _).gb (gb_drew _ none) (by simp)) rfl ?_
    repeat (first | exact HG.out | refine grownBy_trans ?_ (gb_drew _ none) | refine grownBy_trans ?_ (World.grownBy_alloc _ _ none))
  · have HF : Hid (∀ W (B : Nat) (cs : Array Value), Blk W B 77 cs → cs.toList = pvs parts2 → w.grownBy W none → Post (.returned (.tuple #[.string word2, .slice (some ⟨B, 0, none⟩) 3 3])) W) := fun W B cs h1 h2 h3 => by rw [HPost.out]; exact FormP.of B cs rfl h1 h2 (by omega) h3
    clear HPost HK c10 c11 c12 c20 c21 c22 c50 c51 c52
    go_wp2_with fail
    go_region
    all_goals go_wp2_with fail
    refine HF.out _ _ _ ((Blk.new _ 77 _).gb (gb_drew _ none) (by simp)) rfl ?_
    repeat (first | exact HG.out | refine grownBy_trans ?_ (gb_drew _ none) | refine grownBy_trans ?_ (World.grownBy_alloc _ _ none))
  · have HF : Hid (∀ W (B : Nat) (cs : Array Value), Blk W B 77 cs → cs.toList = pvs parts3 → w.grownBy W none → Post (.returned (.tuple #[.string word3, .slice (some ⟨B, 0, none⟩) 2 2])) W) := fun W B cs h1 h2 h3 => by rw [HPost.out]; exact FormP.of B cs rfl h1 h2 (by omega) h3
    clear HPost HK c20 c21 c22 c30 c31 c32 c40 c41 c42 c50 c51 c52
    go_wp2_with fail
    go_region
    all_goals go_wp2_with fail
    refine HF.out _ _ _ ((Blk.new _ 77 _).gb (gb_drew _ none) (by simp)) rfl ?_
    repeat (first | exact HG.out | refine grownBy_trans ?_ (gb_drew _ none) | refine grownBy_trans ?_ (World.grownBy_alloc _ _ none))
  · have HF : Hid (∀ W (B : Nat) (cs : Array Value), Blk W B 77 cs → cs.toList = pvs parts4 → w.grownBy W none → Post (.returned (.tuple #[.string word4, .slice (some ⟨B, 0, none⟩) 3 3])) W) := fun W B cs h1 h2 h3 => by rw [HPost.out]; exact FormP.of B cs rfl h1 h2 (by omega) h3
    clear HPost HK c30 c31 c32 c40 c41 c42 c50 c51 c52
    go_wp2_with fail
    go_region
    all_goals go_wp2_with fail
    refine HF.out _ _ _ ((Blk.new _ 77 _).gb (gb_drew _ none) (by simp)) rfl ?_
    repeat (first | exact HG.out | refine grownBy_trans ?_ (gb_drew _ none) | refine grownBy_trans ?_ (World.grownBy_alloc _ _ none))
  · have HF : Hid (∀ W (B : Nat) (cs : Array Value), Blk W B 77 cs → cs.toList = pvs parts5 → w.grownBy W none → Post (.returned (.tuple #[.string word5, .slice (some ⟨B, 0, none⟩) 3 3])) W) := fun W B cs h1 h2 h3 => by rw [HPost.out]; exact FormP.of B cs rfl h1 h2 (by omega) h3
    clear HPost HK c30 c31 c32 c40 c41 c42 c50 c51 c52
    go_wp2_with fail
    go_region
    all_goals go_wp2_with fail
    refine HF.out _ _ _ ((Blk.new _ 77 _).gb (gb_drew _ none) (by simp)) rfl ?_
    repeat (first | exact HG.out | refine grownBy_trans ?_ (gb_drew _ none) | refine grownBy_trans ?_ (World.grownBy_alloc _ _ none))
  · have HF : Hid (∀ W (B : Nat) (cs : Array Value), Blk W B 77 cs → cs.toList = pvs parts6 → w.grownBy W none → Post (.returned (.tuple #[.string word6, .slice (some ⟨B, 0, none⟩) 2 2])) W) := fun W B cs h1 h2 h3 => by rw [HPost.out]; exact FormP.of B cs rfl h1 h2 (by omega) h3
    clear HPost HK c10 c11 c12 c30 c31 c32 c40 c41 c42 c50 c51 c52
    go_wp2_with fail
    go_region
    all_goals go_wp2_with fail
    refine HF.out _ _ _ ((Blk.new _ 77 _).gb (gb_drew _ none) (by simp)) rfl ?_
    repeat (first | exact HG.out | refine grownBy_trans ?_ (gb_drew _ none) | refine grownBy_trans ?_ (World.grownBy_alloc _ _ none))
  · have HF : Hid (∀ W (B : Nat) (cs : Array Value), Blk W B 77 cs → cs.toList = pvs parts7 → w.grownBy W none → Post (.returned (.tuple #[.string word7, .slice (some ⟨B, 0, none⟩) 3 3])) W) := fun W B cs h1 h2 h3 => by rw [HPost.out]; exact FormP.of B cs rfl h1 h2 (by omega) h3
    clear HPost HK c10 c11 c12 c30 c31 c32 c40 c41 c42
    go_wp2_with fail
    go_region
    all_goals go_wp2_with fail
    refine HF.out _ _ _ ((Blk.new _ 77 _).gb (gb_drew _ none) (by simp)) rfl ?_
    repeat (first | exact HG.out | refine grownBy_trans ?_ (gb_drew _ none) | refine grownBy_trans ?_ (World.grownBy_alloc _ _ none))
  · have HF : Hid (∀ W (B : Nat) (cs : Array Value), Blk W B 77 cs → cs.toList = pvs parts8 → w.grownBy W none → Post (.returned (.tuple #[.string word8, .slice (some ⟨B, 0, none⟩) 1 1])) W) := fun W B cs h1 h2 h3 => by rw [HPost.out]; exact FormP.of B cs rfl h1 h2 (by omega) h3
    clear HPost HK c10 c11 c12 c20 c21 c22 c30 c31 c32 c40 c41 c42 c50 c51 c52
    go_wp2_with fail
    go_region
    all_goals go_wp2_with fail
    refine HF.out _ _ _ ((Blk.new _ 77 _).gb (gb_drew _ none) (by simp)) rfl ?_
    repeat (first | exact HG.out | refine grownBy_trans ?_ (gb_drew _ none) | refine grownBy_trans ?_ (World.grownBy_alloc _ _ none))
  · have HF : Hid (∀ W (B : Nat) (cs : Array Value), Blk W B 77 cs → cs.toList = pvs parts9 → w.grownBy W none → Post (.returned (.tuple #[.string word9, .slice (some ⟨B, 0, none⟩) 2 2])) W) := fun W B cs h1 h2 h3 => by rw [HPost.out]; exact FormP.of B cs rfl h1 h2 (by omega) h3
    clear HPost HK c20 c21 c22 c30 c31 c32 c40 c41 c42 c50 c51 c52
    go_wp2_with fail
    go_region
    all_goals go_wp2_with fail
    refine HF.out _ _ _ ((Blk.new _ 77 _).gb (gb_drew _ none) (by simp)) rfl ?_
    repeat (first | exact HG.out | refine grownBy_trans ?_ (gb_drew _ none) | refine grownBy_trans ?_ (World.grownBy_alloc _ _ none))
  · have HF : Hid (∀ W (B : Nat) (cs : Array Value), Blk W B 77 cs → cs.toList = pvs parts10 → w.grownBy W none → Post (.returned (.tuple #[.string word10, .slice (some ⟨B, 0, none⟩) 1 1])) W) := fun W B cs h1 h2 h3 => by rw [HPost.out]; exact FormP.of B cs rfl h1 h2 (by omega) h3
    clear HPost HK c10 c11 c12 c20 c21 c22 c30 c31 c32 c40 c41 c42 c50 c51 c52
    go_wp2_with fail
    go_region
    all_goals go_wp2_with fail
    refine HF.out _ _ _ ((Blk.new _ 77 _).gb (gb_drew _ none) (by simp)) rfl ?_
    repeat (first | exact HG.out | refine grownBy_trans ?_ (gb_drew _ none) | refine grownBy_trans ?_ (World.grownBy_alloc _ _ none))
  · have HF : Hid (∀ W (B : Nat) (cs : Array Value), Blk W B 77 cs → cs.toList = pvs parts11 → w.grownBy W none → Post (.returned (.tuple #[.string word11, .slice (some ⟨B, 0, none⟩) 2 2])) W) := fun W B cs h1 h2 h3 => by rw [HPost.out]; exact FormP.of B cs rfl h1 h2 (by omega) h3
    clear HPost HK c20 c21 c22 c30 c31 c32 c40 c41 c42 c50 c51 c52
    go_wp2_with fail
    go_region
    all_goals go_wp2_with fail
    refine HF.out _ _ _ ((Blk.new _ 77 _).gb (gb_drew _ none) (by simp)) rfl ?_
    repeat (first | exact HG.out | refine grownBy_trans ?_ (gb_drew _ none) | refine grownBy_trans ?_ (World.grownBy_alloc _ _ none))
  · have HF : Hid (∀ W (B : Nat) (cs : Array Value), Blk W B 77 cs → cs.toList = pvs parts12 → w.grownBy W none → Post (.returned (.tuple #[.string word12, .slice (some ⟨B, 0, none⟩) 2 2])) W) := fun W B cs h1 h2 h3 => by rw [HPost.out]; exact FormP.of B cs rfl h1 h2 (by omega) h3
    clear HPost HK c20 c21 c22 c30 c31 c32 c40 c41 c42 c50 c51 c52
    go_wp2_with fail
    go_region
    all_goals go_wp2_with fail
    refine HF.out _ _ _ ((Blk.new _ 77 _).gb (gb_drew _ none) (by simp)) rfl ?_
    repeat (first | exact HG.out | refine grownBy_trans ?_ (gb_drew _ none) | refine grownBy_trans ?_ (World.grownBy_alloc _ _ none))
  · have HF : Hid (∀ W (B : Nat) (cs : Array Value), Blk W B 77 cs → cs.toList = pvs parts13 → w.grownBy W none → Post (.returned (.tuple #[.string word13, .slice (some ⟨B, 0, none⟩) 1 1])) W) := fun W B cs h1 h2 h3 => by rw [HPost.out]; exact FormP.of B cs rfl h1 h2 (by omega) h3
    clear HPost HK c10 c11 c12 c20 c21 c22 c30 c31 c32 c40 c41 c42 c50 c51 c52
    go_wp2_with fail
    go_region
    all_goals go_wp2_with fail
    refine HF.out _ _ _ ((Blk.new _ 77 _).gb (gb_drew _ none) (by simp)) rfl ?_
    repeat (first | exact HG.out | refine grownBy_trans ?_ (gb_drew _ none) | refine grownBy_trans ?_ (World.grownBy_alloc _ _ none))
  · have HN : Hid (∀ W, w.grownBy W none → Post (.returned (.tuple #[.string word14, .slice none 0 0])) W) := fun W hg => by rw [HPost.out]; exact ⟨none, 0, rfl, ⟨rfl, by simp [parts, parts14], fun h => by simp [parts, parts14] at h⟩, hg⟩
    clear HPost HK c00 c01 c02 c10 c11 c12 c20 c21 c22 c30 c31 c32 c40 c41 c42 c50 c51 c52
    go_wp2_with fail
    exact HN.out _ HG.out
end Go.Proofs.Yteieljkkcnpfmaa
