/-
  Plain facts on bits of words: which numbers are in, what a set or a clear of one bit does, what the trailing zeros tell. No program in sight.
-/
import Derived.Lib.TrailingZeros
namespace Go.Proofs.YtbojcmaljodpmaaDoor

/-- Is number j in? -/
def bitAt (ws : List Nat) (j : Nat) : Bool := (ws.getD (j / 64) 0).testBit (j % 64)

theorem getD_set (ws : List Nat) (p i v : Nat) (hp : p < ws.length) : (ws.set p v).getD i 0 = if i = p then v else ws.getD i 0 := by
  simp only [List.getD_eq_getElem?_getD, List.getElem?_set]
  by_cases h : p = i
  · subst h; simp [hp]
  · rw [if_neg h, if_neg (fun e => h e.symm)]

theorem bitAt_set (ws : List Nat) (i j : Nat) (hi : i / 64 < ws.length) : bitAt (ws.set (i / 64) (ws.getD (i / 64) 0 ||| 2 ^ (i % 64))) j = (decide (j = i) || bitAt ws j) := by
  unfold bitAt
  rw [getD_set _ _ _ _ hi]
  by_cases h : j / 64 = i / 64
  · rw [if_pos h, Nat.testBit_or, Nat.testBit_two_pow, h]
    by_cases e : j = i
    · subst e; simp
    · have : ¬ i % 64 = j % 64 := by omega
      simp [e, this]
  · rw [if_neg h]
    have e : ¬ j = i := by rintro rfl; exact h rfl
    simp [e]

theorem bitAt_clear (ws : List Nat) (i j : Nat) (hi : i / 64 < ws.length) (hlt : ws.getD (i / 64) 0 < 2 ^ 64) :
    bitAt (ws.set (i / 64) (ws.getD (i / 64) 0 &&& (18446744073709551615 - 2 ^ (i % 64)))) j = (!decide (j = i) && bitAt ws j) := by
  unfold bitAt
  rw [getD_set _ _ _ _ hi]
  have hm : i % 64 < 64 := Nat.mod_lt _ (by omega)
  have hp : 2 ^ (i % 64) < 2 ^ 64 := Nat.pow_lt_pow_right (by omega) hm
  by_cases h : j / 64 = i / 64
  · rw [if_pos h, Nat.testBit_and, h]
    have e0 : (18446744073709551615 - 2 ^ (i % 64) : Nat) = 2 ^ 64 - (2 ^ (i % 64) + 1) := by omega
    rw [e0, Nat.testBit_two_pow_sub_succ hp, Nat.testBit_two_pow]
    by_cases e : j = i
    · subst e; simp
    · have : ¬ i % 64 = j % 64 := by omega
      have hj : j % 64 < 64 := Nat.mod_lt _ (by omega)
      simp [e, this, hj]
  · rw [if_neg h]
    have e : ¬ j = i := by rintro rfl; exact h rfl
    simp [e]

/-- The test that Has makes. -/
theorem has_bit (x k : Nat) : (x / 2 ^ k &&& 1) = (if x.testBit k then 1 else 0) := by
  rw [Nat.and_one_is_mod, Nat.testBit_eq_decide_div_mod_eq]
  by_cases h : x / 2 ^ k % 2 = 1
  · simp [h]
  · have : x / 2 ^ k % 2 = 0 := by omega
    simp [this]

/-- Nothing is left in the word from i on. -/
theorem rest_zero (ws : List Nat) (i j : Nat) (h : ws.getD (i / 64) 0 / 2 ^ (i % 64) = 0) (h1 : i ≤ j) (h2 : j < i + (64 - i % 64)) : bitAt ws j = false := by
  unfold bitAt
  have e : j / 64 = i / 64 := by omega
  rw [e, Nat.testBit_eq_decide_div_mod_eq]
  have hd : ws.getD (i / 64) 0 < 2 ^ (i % 64) := (Nat.div_eq_zero_iff.1 h).resolve_left (by have := Nat.pow_pos (n := i % 64) (show 0 < 2 by omega); omega)
  have hle : 2 ^ (i % 64) ≤ 2 ^ (j % 64) := Nat.pow_le_pow_right (by omega) (by omega)
  have : ws.getD (i / 64) 0 / 2 ^ (j % 64) = 0 := Nat.div_eq_of_lt (by omega)
  rw [this]; rfl

/-- The trailing zeros of what is left lead to the next one that is in. -/
theorem rest_ctz (ws : List Nat) (i : Nat) (hlt : ws.getD (i / 64) 0 < 2 ^ 64) (h : ws.getD (i / 64) 0 / 2 ^ (i % 64) ≠ 0) :
    let c := Lib.ctz 64 (ws.getD (i / 64) 0 / 2 ^ (i % 64))
    c + i % 64 < 64 ∧ bitAt ws (i + c) = true ∧ ∀ j, i ≤ j → j < i + c → bitAt ws j = false := by
  intro c
  generalize hx : ws.getD (i / 64) 0 / 2 ^ (i % 64) = x at h c
  have hm : i % 64 < 64 := Nat.mod_lt _ (by omega)
  have hpos : 0 < 2 ^ (i % 64) := Nat.pow_pos (by omega)
  have hxlt : x < 2 ^ 64 := by
    rw [← hx]; exact Nat.lt_of_le_of_lt (Nat.div_le_self _ _) hlt
  have hxlt2 : x < 2 ^ (64 - i % 64) := by
    rw [← hx, Nat.div_lt_iff_lt_mul hpos, ← Nat.pow_add, show 64 - i % 64 + i % 64 = 64 by omega]
    exact hlt
  have hc : c = Lib.ctzFrom 64 x := by simp only [c, hx, Lib.ctz, if_neg h]
  obtain ⟨m, hxm, hc64⟩ := Lib.ctzFrom_spec 64 x (by omega) hxlt
  rw [← hc] at hxm hc64
  have hb : ∀ k, x.testBit k = (ws.getD (i / 64) 0).testBit (k + i % 64) := by
    intro k
    rw [← hx, Nat.testBit_div_two_pow]
  have hcbit : x.testBit c = true := by
    rw [hxm, Nat.testBit_two_pow_mul]
    simp
  have hcle : c + i % 64 < 64 := by
    rcases Nat.lt_or_ge (c + i % 64) 64 with h1 | h1
    · exact h1
    · have : x.testBit c = false := Nat.testBit_lt_two_pow (Nat.lt_of_lt_of_le hxlt2 (Nat.pow_le_pow_right (by omega) (by omega)))
      rw [this] at hcbit; cases hcbit
  refine ⟨hcle, ?_, ?_⟩
  · unfold bitAt
    rw [show (i + c) / 64 = i / 64 by omega, show (i + c) % 64 = c + i % 64 by omega, ← hb]
    exact hcbit
  · intro j h1 h2
    unfold bitAt
    have e1 : j / 64 = i / 64 := by omega
    have e2 : j % 64 = (j - i) + i % 64 := by omega
    rw [e1, e2, ← hb, hxm, Nat.testBit_two_pow_mul]
    have : ¬ c ≤ j - i := by omega
    simp [this]

/-- Those that are in, from a on and below i, by rising numbers. -/
def mem (S : Nat → Bool) (a i : Nat) : List Nat := (List.range i).filter fun j => decide (a ≤ j) && S j

theorem mem_le (S : Nat → Bool) (a i j : Nat) (hij : i ≤ j) (h : ∀ k, i ≤ k → k < j → a ≤ k → S k = false) : mem S a j = mem S a i := by
  obtain ⟨d, rfl⟩ : ∃ d, j = i + d := ⟨j - i, by omega⟩
  clear hij
  induction d with
  | zero => rfl
  | succ d ih =>
    have ih := ih (fun k h1 h2 => h k h1 (by omega))
    unfold mem at ih ⊢
    rw [show i + (d + 1) = (i + d) + 1 by omega, List.range_succ, List.filter_append, ih]
    have : (decide (a ≤ i + d) && S (i + d)) = false := by
      by_cases ha : a ≤ i + d
      · rw [h (i + d) (by omega) (by omega) ha]; simp
      · simp [ha]
    simp [this]

theorem mem_succ (S : Nat → Bool) (a i : Nat) (ha : a ≤ i) (h : S i = true) : mem S a (i + 1) = mem S a i ++ [i] := by
  unfold mem
  rw [List.range_succ, List.filter_append]
  simp [ha, h]

theorem mem_prefix (S : Nat → Bool) (a i j : Nat) (h : i ≤ j) : mem S a i <+: mem S a j := by
  obtain ⟨d, rfl⟩ : ∃ d, j = i + d := ⟨j - i, by omega⟩
  clear h
  induction d with
  | zero => exact List.prefix_refl _
  | succ d ih =>
    refine ih.trans ?_
    unfold mem
    rw [show i + (d + 1) = (i + d) + 1 by omega, List.range_succ, List.filter_append]
    exact List.prefix_append _ _

theorem mem_self (S : Nat → Bool) (a : Nat) : mem S a a = [] := by
  unfold mem
  rw [List.filter_eq_nil_iff]
  intro j hj
  simp at hj
  simp; omega

theorem mem_sorted (S : Nat → Bool) (a i : Nat) : (mem S a i).Pairwise (· < ·) := by
  unfold mem
  exact List.Pairwise.filter _ List.pairwise_lt_range

/-- How many of them are below 'to'. -/
def cnt (L : List Nat) (to : Int) : Nat := (L.filter fun y : Nat => decide ((y : Int) < to)).length

theorem cnt_all (L : List Nat) (to : Int) (h : ∀ y ∈ L, (y : Int) < to) : cnt L to = L.length := by
  unfold cnt
  rw [List.filter_eq_self.2 (fun y hy => by simpa using h y hy)]

theorem cnt_prefix (L pre : List Nat) (x : Nat) (to : Int) (hs : L.Pairwise (· < ·)) (hp : pre ++ [x] <+: L) (hx : to ≤ x) (h : ∀ y ∈ pre, (y : Int) < to) : cnt L to = pre.length := by
  obtain ⟨r, rfl⟩ := hp
  unfold cnt
  rw [List.filter_append, List.filter_append, List.filter_eq_self.2 (fun y hy => by simpa using h y hy)]
  have h1 : [x].filter (fun y : Nat => decide ((y : Int) < to)) = [] := by
    rw [List.filter_eq_nil_iff]
    intro y hy
    simp at hy
    subst hy
    simp; omega
  have h2 : r.filter (fun y : Nat => decide ((y : Int) < to)) = [] := by
    rw [List.filter_eq_nil_iff]
    intro y hy
    have := (List.pairwise_append.1 hs).2.2 x (by simp) y hy
    simp; omega
  rw [h1, h2]; simp

theorem mem_nil (S : Nat → Bool) (a i : Nat) (h : i ≤ a) : mem S a i = [] := by
  unfold mem
  rw [List.filter_eq_nil_iff]
  intro j hj
  simp at hj
  simp; omega

end Go.Proofs.YtbojcmaljodpmaaDoor
