/-
  A region that draws its order, whose LAST operation m writes what others load: the condition S is asked behind every operation but m.
-/
import Derived.Test.YteieljkkcnpfmaaDo1
import Derived.Deep.RegionHeld3
namespace Go.Proofs.Yteieljkkcnpfmaa
set_option linter.unusedVariables false
section
variable {P : Program} {ops : Array Oper} {Q : Exit → Act → World → Prop} {md : Region.Mode} {S : World → Prop} {m : Nat}

/-- Whatever order is picked; S is shown behind every operation but m. -/
def Tl (P : Program) (md : Region.Mode) (ops : Array Oper) (Q : Exit → Act → World → Prop) (S : World → Prop) (m : Nat) : Nat → Array Bool → Act → World → Prop
  | 0, l, a, w => Region.ready md ops l = [] ∧ Q .normal a w
  | n + 1, l, a, w => (Region.ready md ops l = [] → Q .normal a w) ∧ ∀ i ∈ Region.ready md ops l, wpOp P ops Q i (fun a' w' => (i ≠ m → S w') ∧ Tl P md ops Q S m n (l.setIfInBounds i true) a' w') a w

theorem Tl.any : ∀ (n : Nat) (l : Array Bool) (a : Act) (w : World), Tl P md ops Q S m n l a w → wpAny P md ops Q n l a w
  | 0, _, _, _, h => h
  | n + 1, _, _, _, h => ⟨h.1, fun i hi => wpOp_mono (fun a' w' k => Tl.any n _ a' w' k.2) (h.2 i hi)⟩

/-- m waits for i. -/
def waits (md : Region.Mode) (ops : Array Oper) (m i : Nat) : Bool := match ops[m]? with
  | some o => o.after.any fun e => Region.binds md e && e.on == i
  | none => false
theorem not_ready {i : Nat} {l : Array Bool} (hw : waits md ops m i = true) (hi : l.getD i true = false) : m ∉ Region.ready md ops l := by
  intro hm
  obtain ⟨_, o, ho, hall⟩ := mem_ready.1 hm
  unfold waits at hw
  rw [ho] at hw
  simp only [Array.any_eq_true] at hw
  obtain ⟨k, hk, he⟩ := hw
  simp only [Bool.and_eq_true, beq_iff_eq] at he
  have h1 := hall o.after[k] (Array.getElem_mem _) he.1
  rw [he.2] at h1
  rcases Nat.lt_or_ge i l.size with h' | h'
  · simp [h'] at hi h1; rw [hi] at h1; cases h1
  · simp [Array.getElem?_eq_none h'] at h1

theorem Tl.first {i : Nat} {oi : Oper} {v : Value} (hi : ops[i]? = some oi) (hsel : ∀ (j : Nat) (o : Oper) cs b, ops[j]? = some o → o.op ≠ .select cs b)
    (hQ : ∀ c a w, Q (.panic c) (a.put oi.dst v) w → Q (.panic c) a w) (hw : waits md ops m i = true) :
    ∀ (n : Nat) (l : Array Bool) (a : Act) (w : World),
      (∀ j oj, ops[j]? = some oj → j ≠ i → l.getD j true = false → (∀ e ∈ oj.after, Region.binds md e = true → e.on ≠ i) → oi.apart ops oj = true) →
      i ∈ Region.ready md ops l → YieldsIf P ops S oi v a → S w →
      Tl P md ops Q S m n (l.setIfInBounds i true) (a.put oi.dst v) w → Tl P md ops Q S m (n + 1) l a w := by
  intro n
  induction n with
  | zero =>
    intro l a w _ hr hy hS H
    refine ⟨fun h => (by rw [h] at hr; cases hr), fun j hj => ?_⟩
    by_cases hji : j = i
    · subst hji; exact hy.wpOp hi hS ⟨fun _ => hS, H⟩
    · have := ready_mono hj hji
      rw [H.1] at this
      cases this
  | succ n ih =>
    intro l a w hfree hr hy hS H
    refine ⟨fun h => (by rw [h] at hr; cases hr), fun j hj => ?_⟩
    by_cases hji : j = i
    · subst hji; exact hy.wpOp hi hS ⟨fun _ => hS, H⟩
    · have h0 := (mem_ready.1 hr).1
      have hjm : j ≠ m := fun e => not_ready hw h0 (e ▸ hj)
      have h1 := H.2 j (ready_mono hj hji)
      obtain ⟨hjun, oj, hoj, hall⟩ := mem_ready.1 hj
      have hnot : ∀ e ∈ oj.after, Region.binds md e = true → e.on ≠ i := fun e he hb heq => by
        have h2 := hall e he hb
        rw [heq] at h2
        rcases Nat.lt_or_ge i l.size with h' | h'
        · simp [h'] at h0 h2; rw [h0] at h2; cases h2
        · simp [Array.getElem?_eq_none h'] at h2
      have h2 := wpOp_putIf hoj (hfree j oj hoj hji hjun hnot) (fun cs b => hsel i oi cs b hi) (fun cs b => hsel j oj cs b hoj) hQ hy h1
      refine wpOp_mono (fun a' w' k => ⟨fun _ => k.2.1 hjm, ih (l.setIfInBounds j true) a' w' (fun q oq hq hqi hun hno => hfree q oq hq hqi ?_ hno) (ready_mono hr (Ne.symm hji)) k.1 (k.2.1 hjm) ?_⟩) h2
      · by_cases hjq : j = q
        · subst hjq; exact hjun
        · rw [getD_set_ne true hjq] at hun; exact hun
      · rw [Array.setIfInBounds_comm _ _ hji]
        exact k.2.2
/-- Take number i first. -/
theorem Tl.take {i : Nat} {oi : Oper} {v : Value} {n : Nat} {l : Array Bool} {a : Act} {w : World} (hi : ops[i]? = some oi)
    (hs : Region.noSelect ops = true) (hf : Region.free md ops l i = true) (hr : (Region.ready md ops l).contains i = true) (hw : waits md ops m i = true)
    (hQ : ∀ c a w, Q (.panic c) (a.put oi.dst v) w → Q (.panic c) a w) (hy : YieldsIf P ops S oi v a) (hS : S w)
    (h : Tl P md ops Q S m n (l.setIfInBounds i true) (a.put oi.dst v) w) : Tl P md ops Q S m (n + 1) l a w :=
  Tl.first hi (Region.noSelect_spec hs) hQ hw n l a w (Region.free_spec hi hf) (by simpa using hr) hy hS h
/-- All have come up. -/
theorem Tl.done {l : Array Bool} {a : Act} {w : World} (hr : Region.ready md ops l = []) (h : Q .normal a w) : ∀ n, Tl P md ops Q S m n l a w
  | 0 => ⟨hr, h⟩
  | _ + 1 => ⟨fun _ => h, by rw [hr]; simp⟩
/-- One, or either of two, may come up. -/
theorem Tl.one {i : Nat} {o : Oper} {n : Nat} {l : Array Bool} {a : Act} {w : World} (hr : Region.ready md ops l = [i]) (hi : ops[i]? = some o) (hg : o.guard = none)
    (h : ∀ K : Act → World → Prop, Shut (∀ a' w', (i ≠ m → S w') → Tl P md ops Q S m n (l.setIfInBounds i true) a' w' → K a' w') → o.wp P a w K Q) : Tl P md ops Q S m (n + 1) l a w := by
  refine ⟨(fun h0 => by rw [hr] at h0; cases h0), fun j hj => ?_⟩
  rw [hr, List.mem_singleton] at hj
  subst hj
  unfold wpOp
  rw [hi]
  have hw : Region.wanted o (yielded ops a.tmps) = true := by simp [Region.wanted, hg]
  simp only [hw, if_true]
  exact .inl (h _ (fun a' w' h1 h2 => ⟨h1, h2⟩))
theorem Tl.two {i j : Nat} {o p : Oper} {n : Nat} {l : Array Bool} {a : Act} {w : World} (hr : Region.ready md ops l = [i, j]) (hi : ops[i]? = some o) (hj : ops[j]? = some p) (hg : o.guard = none) (hg' : p.guard = none)
    (h : ∀ K : Act → World → Prop, Shut (∀ a' w', (i ≠ m → S w') → Tl P md ops Q S m n (l.setIfInBounds i true) a' w' → K a' w') → o.wp P a w K Q)
    (h' : ∀ K : Act → World → Prop, Shut (∀ a' w', (j ≠ m → S w') → Tl P md ops Q S m n (l.setIfInBounds j true) a' w' → K a' w') → p.wp P a w K Q) : Tl P md ops Q S m (n + 1) l a w := by
  refine ⟨(fun h0 => by rw [hr] at h0; cases h0), fun k hk => ?_⟩
  rw [hr] at hk
  rcases List.mem_cons.1 hk with rfl | hk
  · unfold wpOp
    rw [hi]
    have hw : Region.wanted o (yielded ops a.tmps) = true := by simp [Region.wanted, hg]
    simp only [hw, if_true]
    exact .inl (h _ (fun a' w' h1 h2 => ⟨h1, h2⟩))
  · rw [List.mem_singleton] at hk
    subst hk
    unfold wpOp
    rw [hj]
    have hw : Region.wanted p (yielded ops a.tmps) = true := by simp [Region.wanted, hg']
    simp only [hw, if_true]
    exact .inl (h' _ (fun a' w' h1 h2 => ⟨h1, h2⟩))
theorem Tl.begin {id : Nat} {a : Act} {w : World} (hm : P.follows .mixedOrders = true)
    (h : Tl P .any ops Q S m ops.size (Array.replicate ops.size false) a w.drew) : (Code.region id ops true).wp P Q a w :=
  wp_region_any hm (Tl.any _ _ _ _ h)
end
end Go.Proofs.Yteieljkkcnpfmaa
