/-
  Do, whatever right deed; over what reads as a model.
-/
import Derived.Test.YteieljkkcnpfmaaDoA
import Derived.Test.YteieljkkcnpfmaaDoB
import Derived.Test.YteieljkkcnpfmaaDoC
import Derived.Test.YteieljkkcnpfmaaDoD
import Derived.Test.YteieljkkcnpfmaaDoE
import Derived.Test.YteieljkkcnpfmaaDoF
import Derived.Test.YteieljkkcnpfmaaDoErr
namespace Go.Proofs.Yteieljkkcnpfmaa
open Go.ChangeShapes Go.WideShapes Go.ChangeAt Go.RowKit
set_option linter.unusedVariables false

/-- A model is not great. -/
def Smo (O : List Ob) (Q : List (Int × Int)) : Prop := O.length ≤ 100 ∧ Q.length ≤ 100 ∧ ∀ o ∈ O, o.ps.length ≤ 100 ∧ o.ns.length ≤ 100
theorem Smo.sm {L : List Ov} {Q : List (Int × Int)} (h : Smo (obs L) Q) : Sm L Q := by
  obtain ⟨h1, h2, h3⟩ := h
  exact ⟨by simpa [obs] using h1, h2, fun x hx => h3 x.o (List.mem_map.2 ⟨x, hx, rfl⟩)⟩
/-- The object of a serial is turned. -/
def chg (O : List Ob) (s : Int) (f : Ob → Ob) : List Ob := match tgt O s with
  | none => O
  | some p => O.set p (f (O.getD p ob0))
/-- The object of a serial. -/
def fnd (O : List Ob) (s : Int) : Ob := match tgt O s with
  | none => ob0
  | some p => O.getD p ob0
theorem chg_some {O : List Ob} {s : Int} {p : Nat} (h : tgt O s = some p) (f : Ob → Ob) : chg O s f = O.set p (f (O.getD p ob0)) := by unfold chg; rw [h]
theorem fnd_some {O : List Ob} {s : Int} {p : Nat} (h : tgt O s = some p) : fnd O s = O.getD p ob0 := by unfold fnd; rw [h]
/-- A deed's objects, value, registers, queue. -/
def nO (O : List Ob) (r : Nat → Int) (k : Int) (a b : Nat) (i n fresh : Int) : List Ob :=
  if k = 1 then O ++ [⟨fresh, i, n, false, false, List.replicate i.toNat 0, List.replicate n.toNat 0, false⟩]
  else if k = 2 then O ++ [⟨fresh, i, n, false, true, List.replicate i.toNat 0, List.replicate n.toNat 0, false⟩]
  else if k = 3 then O ++ [⟨fresh, 1, 0, true, false, [r b], [], false⟩]
  else if k = 5 then chg O (r a) (fun o => { o with ps := o.ps.set i.toNat (r b) })
  else if k = 7 then chg O (r a) (fun o => { o with ns := o.ns.set i.toNat n })
  else if k = 8 then chg O (r a) (fun o => { o with fr := true })
  else O
def nV (O : List Ob) (Q : List (Int × Int)) (r : Nat → Int) (k : Int) (a b : Nat) (i n fresh seen : Int) : Int :=
  if k = 1 ∨ k = 2 ∨ k = 3 then fresh
  else if k = 4 ∨ k = 9 then (fnd O (r b)).ps.getD i.toNat 0
  else if k = 6 then (fnd O (r a)).ns.getD i.toNat 0
  else if k = 10 then takeV Q seen
  else if k = 11 then (if r a = r b then 1 else 0)
  else 0
def nR (O : List Ob) (Q : List (Int × Int)) (r : Nat → Int) (k : Int) (a b : Nat) (i n fresh seen : Int) : Nat → Int :=
  if k = 12 then upd r a (r b)
  else if k = 13 then upd r a 0
  else if k = 1 ∨ k = 2 ∨ k = 3 ∨ k = 4 ∨ k = 9 ∨ k = 10 then upd r a (nV O Q r k a b i n fresh seen)
  else r
def nQ (Q : List (Int × Int)) (k seen : Int) : List (Int × Int) := if k = 10 then takeQ Q seen else Q

theorem flt_inv {O : List Ob} {r : Nat → Int} {k : Int} {a b : Nat} {i fresh s : Int} (h4 : 4 ≤ k) (h9 : k ≤ 9) (hs : (if k = 3 ∨ k = 4 ∨ k = 9 then r b else r a) = s) (h : flt O r k a b i fresh = 0) : ∃ p, tgt O s = some p ∧ fltO (O.getD p ob0) k i = 0 := by
  cases ht : tgt O s with
  | none => rw [flt_none (by omega) h9 hs ht] at h; omega
  | some p => rw [flt_obj h4 h9 hs ht] at h; exact ⟨p, rfl, h⟩
theorem fltO_inv {o : Ob} {k i : Int} (h : fltO o k i = 0) : o.fr = false ∧ (k = 8 ∨ (o.sw = decide (k = 9) ∧ i < ((if k = 6 ∨ k = 7 then o.ns.length else o.ps.length : Nat) : Int))) := by
  unfold fltO at h
  split at h
  · omega
  · rename_i h1
    refine ⟨by simpa using h1, ?_⟩
    split at h
    · left; assumption
    · right
      split at h
      · omega
      · rename_i h2
        refine ⟨Decidable.of_not_not h2, ?_⟩
        generalize ((if k = 6 ∨ k = 7 then o.ns.length else o.ps.length : Nat) : Int) = N at *
        by_cases h3 : N ≤ i
        · rw [if_pos h3] at h; omega
        · omega
section
variable {w : World} {v : Value} {O : List Ob} {Q : List (Int × Int)}
theorem do_flt (h : RM w v O Q) (hs : Smo O Q) (r : Nat → Int) (k : Int) (a b : Nat) (i n fresh seen : Int) (hk1 : 1 ≤ k) (hk2 : k ≤ 14) (ha : a < 6) (hb : b < 6) (hi : 0 ≤ i) (hr : RightD (dd k a b i n) (parts k)) (hf : flt O r k a b i fresh ≠ 0) :
    Calls Try.prog 12 #[v, .agg (rcs r), .agg #[.int .i64 k, .int .i64 a, .int .i64 b, .int .i64 i, .int .i64 n], .int .i64 fresh, .int .i64 seen] w (DoP w O Q r 0 (flt O r k a b i fresh)) := by
  obtain ⟨Ao, co, Aq, cq, L, rfl, rfl, hL, hQ⟩ := h
  exact do_err Ao Aq co cq L Q r k a b i n fresh seen w hL hQ hs.sm hk1 hk2 ha hb hi hr hf
theorem do_ok (h : RM w v O Q) (hs : Smo O Q) (r : Nat → Int) (k : Int) (a b : Nat) (i n fresh seen : Int) (hk1 : 1 ≤ k) (hk2 : k ≤ 14) (ha : a < 6) (hb : b < 6) (hi : 0 ≤ i) (hr : RightD (dd k a b i n) (parts k)) (hf : flt O r k a b i fresh = 0) :
    Calls Try.prog 12 #[v, .agg (rcs r), .agg #[.int .i64 k, .int .i64 a, .int .i64 b, .int .i64 i, .int .i64 n], .int .i64 fresh, .int .i64 seen] w (DoP w (nO O r k a b i n fresh) (nQ Q k seen) (nR O Q r k a b i n fresh seen) (nV O Q r k a b i n fresh seen) 0) := by
  obtain ⟨Ao, co, Aq, cq, L, rfl, rfl, hL, hQ⟩ := h
  have hm := hs.sm
  rcases (by omega : k = 1 ∨ k = 2 ∨ k = 3 ∨ k = 4 ∨ k = 5 ∨ k = 6 ∨ k = 7 ∨ k = 8 ∨ k = 9 ∨ k = 10 ∨ k = 11 ∨ k = 12 ∨ k = 13 ∨ k = 14) with rfl | rfl | rfl | rfl | rfl | rfl | rfl | rfl | rfl | rfl | rfl | rfl | rfl | rfl
  · have h3 := hr.ok ⟨3, 0, 4⟩ (by show _ ∈ parts1; simp [parts1])
    have h4 := hr.ok ⟨4, 0, 4⟩ (by show _ ∈ parts1; simp [parts1])
    exact do_alloc Ao Aq co cq L Q r 1 a b i n fresh seen w hL hQ hm hk1 hk2 ha hb hi hr hf rfl h3.2.2.2 h4.2.2.1 h4.2.2.2
  · have h3 := hr.ok ⟨3, 0, 4⟩ (by show _ ∈ parts2; simp [parts2])
    have h4 := hr.ok ⟨4, 0, 4⟩ (by show _ ∈ parts2; simp [parts2])
    exact do_final Ao Aq co cq L Q r 2 a b i n fresh seen w hL hQ hm hk1 hk2 ha hb hi hr hf rfl h3.2.2.2 h4.2.2.1 h4.2.2.2
  · exact do_weak Ao Aq co cq L Q r 3 a b i n fresh seen w hL hQ hm hk1 hk2 ha hb hi hr hf rfl
  · obtain ⟨p, ht, ho⟩ := flt_inv (s := r b) (by omega) (by omega) rfl hf
    obtain ⟨_, h8 | ⟨_, hl⟩⟩ := fltO_inv ho
    · omega
    have hl' : i < (((obs L).getD p ob0).ps.length : Int) := hl
    have hx := do_get Ao Aq co cq L Q r 4 a b i n fresh seen w hL hQ hm hk1 hk2 ha hb hi hr hf rfl p ht i.toNat (by omega) (by omega)
    exact (by rw [← fnd_some ht] at hx; exact hx)
  · obtain ⟨p, ht, ho⟩ := flt_inv (s := r a) (by omega) (by omega) rfl hf
    obtain ⟨_, h8 | ⟨_, hl⟩⟩ := fltO_inv ho
    · omega
    have hl' : i < (((obs L).getD p ob0).ps.length : Int) := hl
    have hx := do_put Ao Aq co cq L Q r 5 a b i n fresh seen w hL hQ hm hk1 hk2 ha hb hi hr hf rfl p ht i.toNat (by omega) (by omega)
    exact (by rw [← chg_some ht (fun o => { o with ps := o.ps.set i.toNat (r b) })] at hx; exact hx)
  · obtain ⟨p, ht, ho⟩ := flt_inv (s := r a) (by omega) (by omega) rfl hf
    obtain ⟨_, h8 | ⟨_, hl⟩⟩ := fltO_inv ho
    · omega
    have hl' : i < (((obs L).getD p ob0).ns.length : Int) := hl
    have hx := do_read Ao Aq co cq L Q r 6 a b i n fresh seen w hL hQ hm hk1 hk2 ha hb hi hr hf rfl p ht i.toNat (by omega) (by omega)
    exact (by rw [← fnd_some ht] at hx; exact hx)
  · obtain ⟨p, ht, ho⟩ := flt_inv (s := r a) (by omega) (by omega) rfl hf
    obtain ⟨_, h8 | ⟨_, hl⟩⟩ := fltO_inv ho
    · omega
    have hl' : i < (((obs L).getD p ob0).ns.length : Int) := hl
    have hx := do_write Ao Aq co cq L Q r 7 a b i n fresh seen w hL hQ hm hk1 hk2 ha hb hi hr hf rfl p ht i.toNat (by omega) (by omega)
    exact (by rw [← chg_some ht (fun o => { o with ns := o.ns.set i.toNat n })] at hx; exact hx)
  · obtain ⟨p, ht, ho⟩ := flt_inv (s := r a) (by omega) (by omega) rfl hf
    have hx := do_free Ao Aq co cq L Q r 8 a b i n fresh seen w hL hQ hm hk1 hk2 ha hb hi hr hf rfl p ht
    exact (by rw [← chg_some ht (fun o => { o with fr := true })] at hx; exact hx)
  · obtain ⟨p, ht, ho⟩ := flt_inv (s := r b) (by omega) (by omega) rfl hf
    obtain ⟨_, h8 | ⟨_, hl⟩⟩ := fltO_inv ho
    · omega
    have hl' : i < (((obs L).getD p ob0).ps.length : Int) := hl
    have hx := do_load Ao Aq co cq L Q r 9 a b i n fresh seen w hL hQ hm hk1 hk2 ha hb hi hr hf rfl p ht i.toNat (by omega) (by omega)
    exact (by rw [← fnd_some ht] at hx; exact hx)
  · exact do_take Ao Aq co cq L Q r 10 a b i n fresh seen w hL hQ hm hk1 hk2 ha hb hi hr hf rfl
  · exact do_same Ao Aq co cq L Q r 11 a b i n fresh seen w hL hQ hm hk1 hk2 ha hb hi hr hf rfl
  · exact do_move Ao Aq co cq L Q r 12 a b i n fresh seen w hL hQ hm hk1 hk2 ha hb hi hr hf rfl
  · exact do_nil Ao Aq co cq L Q r 13 a b i n fresh seen w hL hQ hm hk1 hk2 ha hb hi hr hf rfl
  · exact do_abort Ao Aq co cq L Q r 14 a b i n fresh seen w hL hQ hm hk1 hk2 ha hb hi hr hf rfl
end
end Go.Proofs.Yteieljkkcnpfmaa
