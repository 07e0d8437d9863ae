/-
  What a log is in memory; contracts of note, Read, Keep, Hold, Undo, New, Reset.
-/
import Derived.Test.YtjeapnhaakppeaaBase
namespace Go.Proofs.Ytjeapnhaakppeaa
open Go.ChangeShapes Go.WideShapes Go.ChangeAt Go.RowKit
set_option linter.unusedVariables false

theorem info3 : (Try.prog.info? 3).map (fun i => (i.zero, i.size, i.bytes)) = some (some (.int .i64 0), 1, 8) := by kernel_rfl
theorem info33 : (Try.prog.info? 33).map (fun i => (i.zero, i.size, i.bytes)) = some (some (.agg #[.int .i64 0, .int .i64 0]), 2, 16) := by kernel_rfl
theorem info38 : (Try.prog.info? 38).map (fun i => (i.zero, i.size, i.bytes)) = some (some (.agg #[.int .i64 0, .int .i64 0, .int .i64 0, .int .i64 0]), 4, 32) := by kernel_rfl

theorem one_int (k : IntKind) (x : Int) : ∀ u ∈ [Value.int k x], u.oneCell' = true := by
  intro u hu
  simp at hu
  subst hu
  rfl

/-- What a list is with one more noted, once, up to a bound. -/
def noteL (xs : List Int) (at_ : Int) (m : Nat) : List Int := if at_ ∈ xs then xs else if xs.length < m then xs ++ [at_] else xs
def noteB (xs : List Int) (at_ : Int) (m : Nat) : Bool := decide (at_ ∈ xs) || decide (xs.length < m)

/-- A block of cells. -/
def Blk (w : World) (g : Nat) (t : TypeId) (cs : Array Value) : Prop := w.heap[g]? = some (.cells cs t (0, 0))
theorem Blk.lt {w : World} {g : Nat} {t : TypeId} {cs : Array Value} (h : Blk w g t cs) : g < w.heap.size := (Array.getElem?_eq_some_iff.1 h).1
theorem Blk.cell {w : World} {g : Nat} {t : TypeId} {cs : Array Value} (h : Blk w g t cs) (i : Nat) : w.cell? ⟨g, i, none⟩ = cs[i]? := cell_of_row w g i cs t (0, 0) h
theorem Blk.free {w : World} {g : Nat} {t : TypeId} {cs : Array Value} (h : Blk w g t cs) (i : Nat) : w.frozen? ⟨g, i, none⟩ = false := by
  unfold Blk at h; simp [World.frozen?, h]
theorem Blk.set {w : World} {g : Nat} {t : TypeId} {cs : Array Value} (h : Blk w g t cs) (i : Nat) (u : Value) : Blk (w.setCell ⟨g, i, none⟩ u) g t (cs.setIfInBounds i u) :=
  heap_setCell_same w g i cs t u h
theorem own_ne {w : World} {base : Nat} {e : TypeId} {size n : Nat} {v : Value} {xs : List Value} {g : Nat} {t : TypeId} {cs : Array Value} (h : w.ownsRow base e size v n xs) (hb : Blk w g t cs) (hne : e ≠ t) : v.ownBlock ≠ some g := by
  rcases h.2 with ⟨rfl, _⟩ | ⟨g', cap, cur, rfl, _, hh, _⟩
  · simp [Value.ownBlock]
  · intro he
    have e' : g' = g := by simpa [Value.ownBlock] using he
    subst e'
    unfold Blk at hb
    rw [hh] at hb
    injection hb with hb
    injection hb with _ ht
    exact hne ht
theorem gb_set (w : World) (g i : Nat) (u : Value) : w.grownBy (w.setCell ⟨g, i, none⟩ u) (some g) :=
  ⟨rfl, rfl, rfl, by simp, fun k _ hk => heap_setCell_other w ⟨g, i, none⟩ k _ (fun e => hk (by simp [e]))⟩

/-- What a step that appends to the row of field i of the block bp leaves. -/
structure Stepped (w w' : World) (bp i : Nat) (cs : Array Value) (e : TypeId) (size : Nat) (v v' : Value) (n : Nat) (xs : List Value) : Prop where
  blk : Blk w' bp 53 (cs.setIfInBounds i v')
  own : w'.ownsRow 0 e size v' n xs
  at_ : v'.ownBlock = v.ownBlock ∨ ∃ g, v'.ownBlock = some g ∧ w.heap.size ≤ g ∧ g < w'.heap.size
  fr : Zf (fun k => k = bp ∨ v.ownBlock = some k) w w'

theorem Stepped.same {w : World} {bp i : Nat} {cs : Array Value} {e : TypeId} {size : Nat} {v : Value} {n : Nat} {xs : List Value} (hb : Blk w bp 53 cs) (hi : cs[i]? = some v) (ho : w.ownsRow 0 e size v n xs) : Stepped w w bp i cs e size v v n xs := by
  refine ⟨?_, ho, .inl rfl, Zf.refl _ _⟩
  have : cs.setIfInBounds i v = cs := by
    apply Array.ext
    · simp
    · intro j h1 h2
      rw [Array.getElem_setIfInBounds]
      split
      · next he => subst he; have := Array.getElem?_eq_getElem h2; rw [this] at hi; exact (Option.some.inj hi).symm
      · rfl
  rw [this]; exact hb

/-- The world after an append to the row and a store of the new slice. -/
theorem Stepped.put {w w4 : World} {bp i : Nat} {cs : Array Value} {e : TypeId} {size : Nat} {v v' : Value} {n : Nat} {xs : List Value} {o : Obj} (hb : Blk w bp 53 cs) (hne : v.ownBlock ≠ some bp)
    (hown : w4.ownsRow 0 e size v' n xs) (hg : (w.alloc o).grownBy w4 v.ownBlock) {g : Nat} (hv : v'.ownBlock = some g) (hat : v.ownBlock = some g ∨ g = w.heap.size + 1) (hlt : g < w4.heap.size) :
    Stepped w (w4.setCell ⟨bp, i, none⟩ v') bp i cs e size v v' n xs := by
  have hg0 : w.grownBy w4 v.ownBlock := grownBy_trans (World.grownBy_alloc w o _) hg
  have hb4 : Blk w4 bp 53 cs := (hg0.block bp hb.lt (fun h => hne h.symm)).trans hb
  have hltb := hb.lt
  have hgb : g ≠ bp := by
    rcases hat with h | h
    · rintro rfl; exact hne h
    · omega
  refine ⟨hb4.set i v', hown.kept (gb_set w4 bp i v') (.inr (by rw [hv]; simpa using hgb)), ?_, ?_⟩
  · rcases hat with h | h
    · exact .inl (hv.trans h.symm)
    · exact .inr ⟨g, hv, by omega, by simpa using hlt⟩
  · have a1 : Zf (fun k => k = bp ∨ v.ownBlock = some k) w w4 := Zf.of_gb hg0 (fun g h => .inr h)
    exact a1.trans (Zf.of_gb (gb_set w4 bp i v') (fun g h => by cases h; exact .inl rfl))

def NotePost (w : World) (bp i : Nat) (cs : Array Value) (v : Value) (xs : List Int) (at_ : Int) (m : Nat) (e : Ending) (w' : World) : Prop :=
  e = .returned (.bool (noteB xs at_ m)) ∧ ∃ v', Stepped w w' bp i cs 3 1 v v' (noteL xs at_ m).length (ints (noteL xs at_ m))

set_option maxHeartbeats 1000000 in
theorem note_any (bp i : Nat) (cs : Array Value) (v : Value) (xs : List Int) (at_ : Int) (m : Nat) (w : World) (hb : Blk w bp 53 cs) (hi : cs[i]? = some v) (ho : w.ownsRow 0 3 1 v xs.length (ints xs)) (hl : xs.length ≤ 200) (hm : m ≤ 200) :
    Calls Try.prog 26 #[.pointer (some ⟨bp, i, none⟩), .int .i64 at_, .int .i64 m] w (NotePost w bp i cs v xs at_ m) := by
  have hne := own_ne ho hb (by decide)
  have hsame := Stepped.same hb hi ho
  obtain ⟨A, c, rfl, hrd, hc, hc2⟩ := Rd.of_own ho
  have hcell : w.cell? ⟨bp, i, none⟩ = some (.slice A xs.length c) := by rw [hb.cell, hi]
  have hfree := hb.free i
  have HS := Lib.hid hsame
  clear hsame
  by_cases hin : at_ ∈ xs
  · have HP : Hid (NotePost w bp i cs (.slice A xs.length c) xs at_ m (.returned (.bool true)) w) := by
      have e1 : noteB xs at_ m = true := by simp [noteB, hin]
      have e2 : noteL xs at_ m = xs := if_pos hin
      unfold Hid NotePost; rw [e1, e2]
      exact ⟨rfl, _, HS.out⟩
    have HD : Hid (decide (at_ ∈ xs) = true) := decide_eq_true hin
    clear hin
    generalize NotePost w bp i cs (.slice A xs.length c) xs at_ m = Post at *
    go_enter Try.func26, Try.ntmps26
    go_wp2_with (go_at_call 31; refine (contains_any A xs.length c xs at_ w hrd (by omega)).mono ?_; rw [HD.out]; rintro e w' ⟨rfl, rfl⟩)
    exact HP.out
  · have HD : Hid (decide (at_ ∈ xs) = false) := decide_eq_false hin
    by_cases hfit : xs.length < m
    · have HP : Hid (∀ w' v', Stepped w w' bp i cs 3 1 (.slice A xs.length c) v' (xs.length + 1) (ints xs ++ [.int .i64 at_]) → NotePost w bp i cs (.slice A xs.length c) xs at_ m (.returned (.bool true)) w') := by
        have e1 : noteB xs at_ m = true := by simp [noteB, hfit]
        have e2 : noteL xs at_ m = xs ++ [at_] := by unfold noteL; rw [if_neg hin, if_pos hfit]
        intro w' v' h
        unfold NotePost; rw [e1, e2]
        refine ⟨rfl, v', ?_⟩
        have e3 : (xs ++ [at_]).length = xs.length + 1 := by simp
        have e4 : ints (xs ++ [at_]) = ints xs ++ [.int .i64 at_] := by simp [ints]
        rw [e3, e4]; exact h
      clear hin
      generalize NotePost w bp i cs (.slice A xs.length c) xs at_ m = Post at *
      obtain ⟨i0, hi0, hz0, hz1, hz2⟩ := info_parts info3
      have HI := Lib.hid hi0; have HZ0 := Lib.hid hz0; have HZ1 := Lib.hid hz1; have HZ2 := Lib.hid hz2
      clear hi0 hz0 hz1 hz2
      have HO := Lib.hid ho
      clear ho
      have HB := Lib.hid hb
      have HN := Lib.hid hne
      clear hne
      go_enter Try.func26, Try.ntmps26
      go_wp2_with (first
        | (go_at_call 31; refine (contains_any A xs.length c xs at_ w hrd (by omega)).mono ?_; rw [HD.out]; rintro e w' ⟨rfl, rfl⟩)
        | (at_builtin; go_must (refine wpList_append_lies _ rfl _ _ 22 rfl 0 3 i0 (.int .i64 0) 1 8 Try.underlying22 HI.out HZ0.out HZ1.out HZ2.out rfl (by decide) (.slice A xs.length c) xs.length (ints xs) rfl (HO.out.alloc _) ⟨w.heap.size, 0, none⟩ 1 1 [.int .i64 at_] rfl rfl (cell_one_new _ _ _) (one_int _ _) (by omega) (by unfold maxLen; omega) (by omega) (by omega) (w.heap.size + 1) (by simp) ?_); intro g cap w4 hown4 g4 hat4 hlt4; have k4 : w4.cell? ⟨bp, i, none⟩ = some (.slice A xs.length c) := (World.cell?_of_block (a := ⟨bp, i, none⟩) ((grownBy_trans (World.grownBy_alloc w _ _) g4).block bp HB.out.lt (fun h => HN.out h.symm))).trans hcell; have f4 : w4.frozen? ⟨bp, i, none⟩ = false := (World.frozen?_of_block (a := ⟨bp, i, none⟩) ((grownBy_trans (World.grownBy_alloc w _ _) g4).block bp HB.out.lt (fun h => HN.out h.symm))).trans hfree; have HF := Lib.hid (Stepped.put (i := i) HB.out HN.out hown4 g4 (g := g) rfl hat4 hlt4); clear hown4 g4 hat4 hlt4))
      exact HP.out _ _ HF.out
    · have HP : Hid (NotePost w bp i cs (.slice A xs.length c) xs at_ m (.returned (.bool false)) w) := by
        have e1 : noteB xs at_ m = false := by simp [noteB, hin]; omega
        have e2 : noteL xs at_ m = xs := by unfold noteL; rw [if_neg hin, if_neg hfit]
        unfold Hid NotePost; rw [e1, e2]
        exact ⟨rfl, _, HS.out⟩
      clear hin
      generalize NotePost w bp i cs (.slice A xs.length c) xs at_ m = Post at *
      go_enter Try.func26, Try.ntmps26
      go_wp2_with (go_at_call 31; refine (contains_any A xs.length c xs at_ w hrd (by omega)).mono ?_; rw [HD.out]; rintro e w' ⟨rfl, rfl⟩)
      exact HP.out

/-! ### the log -/
def hv (h : Int × Int) : List Value := [.int .i64 h.1, .int .i64 h.2]
def uv (u : Int × Int × Int × Int) : List Value := [.int .i64 u.1, .int .i64 u.2.1, .int .i64 u.2.2.1, .int .i64 u.2.2.2]
def hvs (H : List (Int × Int)) : List Value := H.flatMap hv
def uvs (U : List (Int × Int × Int × Int)) : List Value := U.flatMap uv

structure LgV (w : World) (bp : Nat) (Z : Nat → Prop) (mr mu : Nat) (R K : List Int) (H : List (Int × Int)) (U : List (Int × Int × Int × Int)) (vR vK vH vU : Value) : Prop where
  blk : Blk w bp 53 #[.int .i64 mr, .int .i64 mu, vR, vK, vH, vU]
  oR : w.ownsRow 0 3 1 vR R.length (ints R)
  oK : w.ownsRow 0 3 1 vK K.length (ints K)
  oH : w.ownsRow 0 33 2 vH H.length (hvs H)
  oU : w.ownsRow 0 38 4 vU U.length (uvs U)
  zR : ∀ g, vR.ownBlock = some g → Z g
  zK : ∀ g, vK.ownBlock = some g → Z g
  zH : ∀ g, vH.ownBlock = some g → Z g
  zU : ∀ g, vU.ownBlock = some g → Z g
  ne : ∀ g, vR.ownBlock = some g → vK.ownBlock ≠ some g
  zb : Z bp
  zl : ∀ k, Z k → k < w.heap.size
  lr : mr ≤ 200
  lu : mu ≤ 200
  nR : R.length ≤ mr
  nK : K.length ≤ mr
  nH : H.length ≤ mu
  nU : U.length ≤ mu

/-- 'bp' is the block of a Log with these bounds and lists; its blocks lie in the zone Z. -/
def Lg (w : World) (bp : Nat) (Z : Nat → Prop) (mr mu : Nat) (R K : List Int) (H : List (Int × Int)) (U : List (Int × Int × Int × Int)) : Prop :=
  ∃ vR vK vH vU, LgV w bp Z mr mu R K H U vR vK vH vU

/-- The zone with the blocks that are new. -/
def zx (Z : Nat → Prop) (w w' : World) : Nat → Prop := fun k => Z k ∨ (w.heap.size ≤ k ∧ k < w'.heap.size)

theorem own_lt {w : World} {base : Nat} {e : TypeId} {size n : Nat} {v : Value} {xs : List Value} (h : w.ownsRow base e size v n xs) {g : Nat} (hg : v.ownBlock = some g) : g < w.heap.size := (h.lt g hg).2
theorem own_row {w : World} {base : Nat} {e : TypeId} {size n : Nat} {v : Value} {xs : List Value} (h : w.ownsRow base e size v n xs) {g : Nat} (hg : v.ownBlock = some g) : ∃ cur, Blk w g e cur := by
  rcases h.2 with ⟨rfl, _⟩ | ⟨g', cap, cur, rfl, _, hh, _⟩
  · simp [Value.ownBlock] at hg
  · have e' : g' = g := by simpa [Value.ownBlock] using hg
    subst e'
    exact ⟨cur, hh⟩
theorem own_own {w : World} {base base' : Nat} {e e' : TypeId} {size size' n n' : Nat} {v v' : Value} {xs xs' : List Value} (h : w.ownsRow base e size v n xs) (h' : w.ownsRow base' e' size' v' n' xs') (hne : e ≠ e') {g : Nat} (hg : v.ownBlock = some g) : v'.ownBlock ≠ some g := by
  obtain ⟨cur, hb⟩ := own_row h hg
  exact own_ne h' hb (fun x => hne x.symm)
theorem own_zf {w w' : World} {Z : Nat → Prop} {base : Nat} {e : TypeId} {size n : Nat} {v : Value} {xs : List Value} (h : w.ownsRow base e size v n xs) (f : Zf Z w w') (hz : ∀ g, v.ownBlock = some g → ¬ Z g) : w'.ownsRow base e size v n xs := by
  refine ⟨h.1, ?_⟩
  rcases h.2 with hn | ⟨g, cap, cur, rfl, hb, hgg, rest⟩
  · exact .inl hn
  · exact .inr ⟨g, cap, cur, rfl, hb, (f.block g (Array.getElem?_eq_some_iff.1 hgg).1 (hz g rfl)).trans hgg, rest⟩
theorem Blk.zf {w w' : World} {Z : Nat → Prop} {g : Nat} {t : TypeId} {cs : Array Value} (h : Blk w g t cs) (f : Zf Z w w') (hz : ¬ Z g) : Blk w' g t cs := (f.block g h.lt hz).trans h

section
variable {w w' : World} {bp : Nat} {Z : Nat → Prop} {mr mu : Nat} {R K : List Int} {H : List (Int × Int)} {U : List (Int × Int × Int × Int)} {vR vK vH vU : Value}

/-- Other blocks may turn. -/
theorem LgV.zf {Z' : Nat → Prop} (h : LgV w bp Z mr mu R K H U vR vK vH vU) (f : Zf Z' w w') (hz : ∀ k, Z k → ¬ Z' k) : LgV w' bp Z mr mu R K H U vR vK vH vU :=
  ⟨h.blk.zf f (hz bp h.zb), own_zf h.oR f (fun g e => hz g (h.zR g e)), own_zf h.oK f (fun g e => hz g (h.zK g e)), own_zf h.oH f (fun g e => hz g (h.zH g e)), own_zf h.oU f (fun g e => hz g (h.zU g e)),
    h.zR, h.zK, h.zH, h.zU, h.ne, h.zb, fun k hk => Nat.lt_of_lt_of_le (h.zl k hk) f.size, h.lr, h.lu, h.nR, h.nK, h.nH, h.nU⟩
theorem Lg.zf {Z' : Nat → Prop} (h : Lg w bp Z mr mu R K H U) (f : Zf Z' w w') (hz : ∀ k, Z k → ¬ Z' k) : Lg w' bp Z mr mu R K H U := by
  obtain ⟨a, b, c, d, h⟩ := h
  exact ⟨a, b, c, d, h.zf f hz⟩
theorem Lg.gb {r : Option Nat} (h : Lg w bp Z mr mu R K H U) (f : w.grownBy w' r) (hr : ∀ g, r = some g → ¬ Z g) : Lg w' bp Z mr mu R K H U :=
  h.zf (Zf.of_gb (Z := fun k => r = some k) f (fun g e => e)) (fun k hk e => hr k e hk)
theorem Lg.wide {Z' : Nat → Prop} (h : Lg w bp Z mr mu R K H U) (hz : ∀ k, Z k → Z' k) (hl : ∀ k, Z' k → k < w.heap.size) : Lg w bp Z' mr mu R K H U := by
  obtain ⟨a, b, c, d, h⟩ := h
  exact ⟨a, b, c, d, h.blk, h.oR, h.oK, h.oH, h.oU, fun g e => hz g (h.zR g e), fun g e => hz g (h.zK g e), fun g e => hz g (h.zH g e), fun g e => hz g (h.zU g e), h.ne, hz bp h.zb, hl, h.lr, h.lu, h.nR, h.nK, h.nH, h.nU⟩

theorem zx_of {v v' : Value} (hz : ∀ g, v.ownBlock = some g → Z g) (hat : v'.ownBlock = v.ownBlock ∨ ∃ g, v'.ownBlock = some g ∧ w.heap.size ≤ g ∧ g < w'.heap.size) : ∀ g, v'.ownBlock = some g → zx Z w w' g := by
  intro g hg
  rcases hat with h | ⟨g', h, h1, h2⟩
  · exact .inl (hz g (h ▸ hg))
  · rw [h] at hg; cases hg; exact .inr ⟨h1, h2⟩

/-- A step on the reads. -/
theorem LgV.stepR {v' : Value} {R' : List Int} (h : LgV w bp Z mr mu R K H U vR vK vH vU) (s : Stepped w w' bp 2 #[.int .i64 mr, .int .i64 mu, vR, vK, vH, vU] 3 1 vR v' R'.length (ints R')) (hn : R'.length ≤ mr) :
    LgV w' bp (zx Z w w') mr mu R' K H U v' vK vH vU ∧ Zf Z w w' := by
  have fr : Zf Z w w' := ⟨s.fr.os, s.fr.tape, s.fr.output, s.fr.size, fun k hk hz => s.fr.block k hk (fun e => by
    rcases e with e | e
    · exact hz (e ▸ h.zb)
    · exact hz (h.zR k e))⟩
  refine ⟨⟨s.blk, s.own, own_zf h.oK s.fr (fun g e => ?_), own_zf h.oH s.fr (fun g e => ?_), own_zf h.oU s.fr (fun g e => ?_), zx_of h.zR s.at_, fun g e => .inl (h.zK g e), fun g e => .inl (h.zH g e), fun g e => .inl (h.zU g e), fun g e => ?_, .inl h.zb, fun k hk => ?_, h.lr, h.lu, hn, h.nK, h.nH, h.nU⟩, fr⟩
  · rintro (x | x)
    · exact own_ne h.oK h.blk (by decide) (x ▸ e)
    · exact h.ne g x e
  · rintro (x | x)
    · exact own_ne h.oH h.blk (by decide) (x ▸ e)
    · exact own_own h.oH h.oR (by decide) e x
  · rintro (x | x)
    · exact own_ne h.oU h.blk (by decide) (x ▸ e)
    · exact own_own h.oU h.oR (by decide) e x
  · rcases s.at_ with x | ⟨g', x, x1, x2⟩
    · exact h.ne g (x ▸ e)
    · intro y
      have := own_lt h.oK y
      rw [x] at e; cases e; omega
  · rcases hk with x | x
    · exact Nat.lt_of_lt_of_le (h.zl k x) s.fr.size
    · exact x.2

theorem LgV.stepK {v' : Value} {K' : List Int} (h : LgV w bp Z mr mu R K H U vR vK vH vU) (s : Stepped w w' bp 3 #[.int .i64 mr, .int .i64 mu, vR, vK, vH, vU] 3 1 vK v' K'.length (ints K')) (hn : K'.length ≤ mr) :
    LgV w' bp (zx Z w w') mr mu R K' H U vR v' vH vU ∧ Zf Z w w' := by
  have fr : Zf Z w w' := ⟨s.fr.os, s.fr.tape, s.fr.output, s.fr.size, fun k hk hz => s.fr.block k hk (fun e => by
    rcases e with e | e
    · exact hz (e ▸ h.zb)
    · exact hz (h.zK k e))⟩
  refine ⟨⟨s.blk, own_zf h.oR s.fr (fun g e => ?_), s.own, own_zf h.oH s.fr (fun g e => ?_), own_zf h.oU s.fr (fun g e => ?_), fun g e => .inl (h.zR g e), zx_of h.zK s.at_, fun g e => .inl (h.zH g e), fun g e => .inl (h.zU g e), fun g e => ?_, .inl h.zb, fun k hk => ?_, h.lr, h.lu, h.nR, hn, h.nH, h.nU⟩, fr⟩
  · rintro (x | x)
    · exact own_ne h.oR h.blk (by decide) (x ▸ e)
    · exact h.ne g e x
  · rintro (x | x)
    · exact own_ne h.oH h.blk (by decide) (x ▸ e)
    · exact own_own h.oH h.oK (by decide) e x
  · rintro (x | x)
    · exact own_ne h.oU h.blk (by decide) (x ▸ e)
    · exact own_own h.oU h.oK (by decide) e x
  · rcases s.at_ with x | ⟨g', x, x1, x2⟩
    · rw [x]; exact h.ne g e
    · intro y
      have := own_lt h.oR e
      rw [x] at y; cases y; omega
  · rcases hk with x | x
    · exact Nat.lt_of_lt_of_le (h.zl k x) s.fr.size
    · exact x.2

theorem LgV.stepH {v' : Value} {H' : List (Int × Int)} (h : LgV w bp Z mr mu R K H U vR vK vH vU) (s : Stepped w w' bp 4 #[.int .i64 mr, .int .i64 mu, vR, vK, vH, vU] 33 2 vH v' H'.length (hvs H')) (hn : H'.length ≤ mu) :
    LgV w' bp (zx Z w w') mr mu R K H' U vR vK v' vU ∧ Zf Z w w' := by
  have fr : Zf Z w w' := ⟨s.fr.os, s.fr.tape, s.fr.output, s.fr.size, fun k hk hz => s.fr.block k hk (fun e => by
    rcases e with e | e
    · exact hz (e ▸ h.zb)
    · exact hz (h.zH k e))⟩
  refine ⟨⟨s.blk, own_zf h.oR s.fr (fun g e => ?_), own_zf h.oK s.fr (fun g e => ?_), s.own, own_zf h.oU s.fr (fun g e => ?_), fun g e => .inl (h.zR g e), fun g e => .inl (h.zK g e), zx_of h.zH s.at_, fun g e => .inl (h.zU g e), h.ne, .inl h.zb, fun k hk => ?_, h.lr, h.lu, h.nR, h.nK, hn, h.nU⟩, fr⟩
  · rintro (x | x)
    · exact own_ne h.oR h.blk (by decide) (x ▸ e)
    · exact own_own h.oR h.oH (by decide) e x
  · rintro (x | x)
    · exact own_ne h.oK h.blk (by decide) (x ▸ e)
    · exact own_own h.oK h.oH (by decide) e x
  · rintro (x | x)
    · exact own_ne h.oU h.blk (by decide) (x ▸ e)
    · exact own_own h.oU h.oH (by decide) e x
  · rcases hk with x | x
    · exact Nat.lt_of_lt_of_le (h.zl k x) s.fr.size
    · exact x.2

theorem LgV.stepU {v' : Value} {U' : List (Int × Int × Int × Int)} (h : LgV w bp Z mr mu R K H U vR vK vH vU) (s : Stepped w w' bp 5 #[.int .i64 mr, .int .i64 mu, vR, vK, vH, vU] 38 4 vU v' U'.length (uvs U')) (hn : U'.length ≤ mu) :
    LgV w' bp (zx Z w w') mr mu R K H U' vR vK vH v' ∧ Zf Z w w' := by
  have fr : Zf Z w w' := ⟨s.fr.os, s.fr.tape, s.fr.output, s.fr.size, fun k hk hz => s.fr.block k hk (fun e => by
    rcases e with e | e
    · exact hz (e ▸ h.zb)
    · exact hz (h.zU k e))⟩
  refine ⟨⟨s.blk, own_zf h.oR s.fr (fun g e => ?_), own_zf h.oK s.fr (fun g e => ?_), own_zf h.oH s.fr (fun g e => ?_), s.own, fun g e => .inl (h.zR g e), fun g e => .inl (h.zK g e), fun g e => .inl (h.zH g e), zx_of h.zU s.at_, h.ne, .inl h.zb, fun k hk => ?_, h.lr, h.lu, h.nR, h.nK, h.nH, hn⟩, fr⟩
  · rintro (x | x)
    · exact own_ne h.oR h.blk (by decide) (x ▸ e)
    · exact own_own h.oR h.oU (by decide) e x
  · rintro (x | x)
    · exact own_ne h.oK h.blk (by decide) (x ▸ e)
    · exact own_own h.oK h.oU (by decide) e x
  · rintro (x | x)
    · exact own_ne h.oH h.blk (by decide) (x ▸ e)
    · exact own_own h.oH h.oU (by decide) e x
  · rcases hk with x | x
    · exact Nat.lt_of_lt_of_le (h.zl k x) s.fr.size
    · exact x.2
end

theorem noteL_len (xs : List Int) (a : Int) (m : Nat) (h : xs.length ≤ m) : (noteL xs a m).length ≤ m := by
  unfold noteL
  split
  · exact h
  · split
    · simp; omega
    · exact h

theorem Stepped.of_drew {w w' : World} {bp i : Nat} {cs : Array Value} {e : TypeId} {size : Nat} {v v' : Value} {n : Nat} {xs : List Value} (s : Stepped w.drew w' bp i cs e size v v' n xs) : Stepped w w' bp i cs e size v v' n xs :=
  ⟨s.blk, s.own, s.at_, ⟨s.fr.os, s.fr.tape, s.fr.output, s.fr.size, s.fr.block⟩⟩

theorem read_any (bp : Nat) (Z : Nat → Prop) (mr mu : Nat) (R K : List Int) (H : List (Int × Int)) (U : List (Int × Int × Int × Int)) (at_ : Int) (w : World) (h : Lg w bp Z mr mu R K H U) :
    Calls Try.prog 15 #[.pointer (some ⟨bp, 0, none⟩), .int .i64 at_] w fun e w' => e = .returned (.bool (noteB R at_ mr)) ∧ Lg w' bp (zx Z w w') mr mu (noteL R at_ mr) K H U ∧ Zf Z w w' := by
  obtain ⟨vR, vK, vH, vU, hV⟩ := h
  have hb := hV.blk
  have hc0 : w.cell? ⟨bp, 0, none⟩ = some (.int .i64 mr) := hb.cell 0
  have HV := Lib.hid hV
  have hlr := hV.lr
  have hnR := hV.nR
  have hnote := note_any bp 2 _ vR R at_ mr w.drew hb rfl hV.oR.drew (by omega) hlr
  have HN := Lib.hid hnote
  clear hnote hV hb
  obtain ⟨b, hbb⟩ : ∃ b, noteB R at_ mr = b := ⟨_, rfl⟩
  rw [hbb]
  have HB := Lib.hid hbb
  clear hbb
  go_enter Try.func15, Try.ntmps15
  go_wp2_with fail
  go_still_tail 11, (by kernel_rfl)
  change wpList _ _ _ _ _ w.drew
  go_wp2_with fail
  refine HN.out.mono ?_
  rintro e w' ⟨he, v', hs⟩
  rw [HB.out] at he
  subst he
  have HF := Lib.hid (HV.out.stepR hs.of_drew (noteL_len _ _ _ hnR))
  clear hs
  go_wp2_with fail
  go_ret
  exact ⟨rfl, ⟨_, _, _, _, HF.out.1⟩, HF.out.2⟩

theorem keep_any (bp : Nat) (Z : Nat → Prop) (mr mu : Nat) (R K : List Int) (H : List (Int × Int)) (U : List (Int × Int × Int × Int)) (at_ : Int) (w : World) (h : Lg w bp Z mr mu R K H U) :
    Calls Try.prog 11 #[.pointer (some ⟨bp, 0, none⟩), .int .i64 at_] w fun e w' => e = .returned (.bool (noteB K at_ mr)) ∧ Lg w' bp (zx Z w w') mr mu R (noteL K at_ mr) H U ∧ Zf Z w w' := by
  obtain ⟨vR, vK, vH, vU, hV⟩ := h
  have hb := hV.blk
  have hc0 : w.cell? ⟨bp, 0, none⟩ = some (.int .i64 mr) := hb.cell 0
  have HV := Lib.hid hV
  have hlr := hV.lr
  have hnR := hV.nK
  have hnote := note_any bp 3 _ vK K at_ mr w.drew hb rfl hV.oK.drew (by omega) hlr
  have HN := Lib.hid hnote
  clear hnote hV hb
  obtain ⟨b, hbb⟩ : ∃ b, noteB K at_ mr = b := ⟨_, rfl⟩
  rw [hbb]
  have HB := Lib.hid hbb
  clear hbb
  go_enter Try.func11, Try.ntmps11
  go_wp2_with fail
  go_still_tail 11, (by kernel_rfl)
  change wpList _ _ _ _ _ w.drew
  go_wp2_with fail
  refine HN.out.mono ?_
  rintro e w' ⟨he, v', hs⟩
  rw [HB.out] at he
  subst he
  have HF := Lib.hid (HV.out.stepK hs.of_drew (noteL_len _ _ _ hnR))
  clear hs
  go_wp2_with fail
  go_ret
  exact ⟨rfl, ⟨_, _, _, _, HF.out.1⟩, HF.out.2⟩

end Go.Proofs.Ytjeapnhaakppeaa
