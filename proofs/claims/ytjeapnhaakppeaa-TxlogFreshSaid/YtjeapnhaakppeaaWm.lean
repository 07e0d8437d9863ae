/-
  A log and any number of rows beside it; slices of undos and of ops that came in.
-/
import Derived.Test.YtjeapnhaakppeaaOpen
namespace Go.Proofs.Ytjeapnhaakppeaa
open Go.ChangeShapes Go.WideShapes Go.ChangeAt Go.RowKit Go.Shelf
open Go.Deep
set_option linter.unusedVariables false

structure Row where
  e : TypeId
  size : Nat
  v : Value
  n : Nat
  xs : List Value
def ir (v : Value) (xs : List Int) : Row := ⟨3, 1, v, xs.length, ints xs⟩
def ur (v : Value) (xs : List (Int × Int × Int × Int)) : Row := ⟨38, 4, v, xs.length, uvs xs⟩
def Apart (r s : Row) : Prop := ∀ g, r.v.ownBlock = some g → s.v.ownBlock ≠ some g
theorem Apart.symm {r s : Row} (h : Apart r s) : Apart s r := fun g e k => h g k e
def Has (w wr : World) (Z : Nat → Prop) (r : Row) : Prop := Ow w wr Z r.e r.size r.v r.n r.xs
theorem Has.gb {w wr w2 : World} {Z : Nat → Prop} {r : Row} (h : Has w wr Z r) (g : wr.grownBy w2 none) : Has w w2 Z r := Ow.gb h g
theorem Has.zf {w wr w2 : World} {Z : Nat → Prop} {r : Row} (h : Has w wr Z r) (f : Zf Z wr w2) : Has w w2 (zx Z wr w2) r := Ow.zf h f

def Wm (w wr : World) (bp n m : Nat) (R K : List Int) (H : List (Int × Int)) (U : List (Int × Int × Int × Int)) (rows : List Row) : Prop :=
  ∃ Z, Sz w wr Z bp n m R K H U ∧ (∀ r ∈ rows, Has w wr Z r) ∧ rows.Pairwise Apart
section
variable {w wr w2 w4 : World} {bp n m : Nat} {R K R' K' : List Int} {H H' : List (Int × Int)} {U U' : List (Int × Int × Int × Int)} {rows pre post : List Row} {Z : Nat → Prop}
theorem Wm.gb (h : Wm w wr bp n m R K H U rows) (g : wr.grownBy w2 none) : Wm w w2 bp n m R K H U rows := by
  obtain ⟨Z, a, b, c⟩ := h
  exact ⟨Z, a.gb g, fun r hr => (b r hr).gb g, c⟩
theorem Wm.gr (h : Wm w wr bp n m R K H U rows) : w.grownBy wr none := by
  obtain ⟨Z, a, b, c⟩ := h
  exact a.gr
theorem Wm.rd {v : Value} {xs : List Int} (h : Wm w wr bp n m R K H U rows) (hr : ir v xs ∈ rows) : ∃ A c, v = .slice A xs.length c ∧ Rd wr A xs.length xs ∧ xs.length ≤ c ∧ c ≤ 9223372036854775807 := by
  obtain ⟨Z, a, b, c⟩ := h
  exact Rd.of_own (b _ hr).1
theorem Wm.ru {v : Value} {xs : List (Int × Int × Int × Int)} (h : Wm w wr bp n m R K H U rows) (hr : ur v xs ∈ rows) : ∃ A c, v = .slice A xs.length c ∧ wr.ownsRow w.heap.size 38 4 (.slice A xs.length c) xs.length (uvs xs) ∧ xs.length ≤ c ∧ (c : Int) ≤ 9223372036854775807 := by
  obtain ⟨Z, a, b, c⟩ := h
  have ho : wr.ownsRow w.heap.size 38 4 v xs.length (uvs xs) := (b _ hr).1
  have ho0 : wr.ownsRow 0 38 4 v xs.length (uvs xs) := ⟨ho.1, ho.2.imp id (fun ⟨g, cap, cur, a, _, b⟩ => ⟨g, cap, cur, a, Nat.zero_le _, b⟩)⟩
  obtain ⟨A, c, rfl, h1, h2⟩ := own_form ho0
  exact ⟨A, c, rfl, ho, h1, h2⟩
theorem Wm.start (h : Sz w wr Z bp n m R K H U) : Wm w wr bp n m R K H U [] := ⟨Z, h, (fun r hr => by simp at hr), List.Pairwise.nil⟩
/-- A nil row more. -/
theorem Wm.more (h : Wm w wr bp n m R K H U rows) (r : Row) (hv : r.v = .slice none 0 0) (hn : r.n = 0) (hx : r.xs = []) : Wm w wr bp n m R K H U (r :: rows) := by
  obtain ⟨Z, a, b, c⟩ := h
  obtain ⟨e, size, v, nn, xs⟩ := r
  simp only at hv hn hx
  subst hv hn hx
  refine ⟨Z, a, fun r hr => ?_, List.Pairwise.cons (fun s hs g e => by simp [Value.ownBlock] at e) c⟩
  rcases List.mem_cons.1 hr with rfl | hr
  · exact ⟨World.ownsRow_nil _ _ _ _, by simp [Value.ownBlock]⟩
  · exact b r hr
theorem Wm.read (h : Wm w wr bp n m R K H U rows) (a : Int) : Calls Try.prog 15 #[.pointer (some ⟨bp, 0, none⟩), .int .i64 a] wr fun e w2 => e = .returned (.bool (noteB R a n)) ∧ Wm w w2 bp n m (noteL R a n) K H U rows := by
  obtain ⟨Z, x, y, z⟩ := h
  exact (read_sz x a).mono fun e w2 hh => ⟨hh.1, _, hh.2.1, fun r hr => (y r hr).zf hh.2.2, z⟩
theorem Wm.keep (h : Wm w wr bp n m R K H U rows) (a : Int) : Calls Try.prog 11 #[.pointer (some ⟨bp, 0, none⟩), .int .i64 a] wr fun e w2 => e = .returned (.bool (noteB K a n)) ∧ Wm w w2 bp n m R (noteL K a n) H U rows := by
  obtain ⟨Z, x, y, z⟩ := h
  exact (keep_sz x a).mono fun e w2 hh => ⟨hh.1, _, hh.2.1, fun r hr => (y r hr).zf hh.2.2, z⟩
theorem Wm.hold (h : Wm w wr bp n m R K H U rows) (a b : Int) : Calls Try.prog 16 #[.pointer (some ⟨bp, 0, none⟩), .agg #[.int .i64 a, .int .i64 b]] wr fun e w2 => e = .returned (.bool (holdB H (a, b) m)) ∧ Wm w w2 bp n m R K (holdL H (a, b) m) U rows := by
  obtain ⟨Z, x, y, z⟩ := h
  exact (hold_sz x a b).mono fun e w2 hh => ⟨hh.1, _, hh.2.1, fun r hr => (y r hr).zf hh.2.2, z⟩
theorem Wm.undo (h : Wm w wr bp n m R K H U rows) (a b c d : Int) : Calls Try.prog 18 #[.pointer (some ⟨bp, 0, none⟩), .agg #[.int .i64 a, .int .i64 b, .int .i64 c, .int .i64 d]] wr fun e w2 => e = .returned (.bool (undoB U m)) ∧ Wm w w2 bp n m R K H (undoL U (a, b, c, d) m) rows := by
  obtain ⟨Z, x, y, z⟩ := h
  exact (undo_sz x a b c d).mono fun e w2 hh => ⟨hh.1, _, hh.2.1, fun r hr => (y r hr).zf hh.2.2, z⟩
theorem Wm.roots (h : Wm w wr bp n m R K H U rows) : Calls Try.prog 13 #[.pointer (some ⟨bp, 0, none⟩)] wr fun e w2 => (∃ A c, e = .returned (.slice A (rootsL R K H U).length c) ∧ Rd w2 A (rootsL R K H U).length (rootsL R K H U)) ∧ Wm w w2 bp n m R K H U rows := by
  obtain ⟨Z, x, y, z⟩ := h
  exact (roots_sz x).mono fun e w2 hh => ⟨hh.1, Z, x.gb hh.2, fun r hr => (y r hr).gb hh.2, z⟩
theorem Wm.reads (h : Wm w wr bp n m R K H U rows) : Calls Try.prog 14 #[.pointer (some ⟨bp, 0, none⟩)] wr fun e w2 => (∃ A c, e = .returned (.slice A R.length c) ∧ Rd w2 A R.length R) ∧ Wm w w2 bp n m R K H U rows := by
  obtain ⟨Z, x, y, z⟩ := h
  exact (reads_sz x).mono fun e w2 hh => ⟨hh.1, Z, x.gb hh.2, fun r hr => (y r hr).gb hh.2, z⟩
theorem Wm.holds (h : Wm w wr bp n m R K H U rows) : Calls Try.prog 17 #[.pointer (some ⟨bp, 0, none⟩)] wr fun e w2 => (∃ A c base, e = .returned (.slice A H.length c) ∧ w2.ownsRow base 33 2 (.slice A H.length c) H.length (hvs H)) ∧ Wm w w2 bp n m R K H U rows := by
  obtain ⟨Z, x, y, z⟩ := h
  exact (holds_sz x).mono fun e w2 hh => ⟨hh.1, Z, x.gb hh.2, fun r hr => (y r hr).gb hh.2, z⟩
theorem Wm.undos (h : Wm w wr bp n m R K H U rows) : Calls Try.prog 20 #[.pointer (some ⟨bp, 0, none⟩)] wr fun e w2 => (∃ A c base, e = .returned (.slice A U.length c) ∧ w2.ownsRow base 38 4 (.slice A U.length c) U.length (uvs U)) ∧ Wm w w2 bp n m R K H U rows := by
  obtain ⟨Z, x, y, z⟩ := h
  exact (undos_sz x).mono fun e w2 hh => ⟨hh.1, Z, x.gb hh.2, fun r hr => (y r hr).gb hh.2, z⟩
theorem Wm.reset (h : Wm w wr bp n m R K H U []) : Calls Try.prog 21 #[.pointer (some ⟨bp, 0, none⟩)] wr fun e w2 => (∃ v, e = .returned v) ∧ Wm w w2 bp n m [] [] [] [] [] := by
  obtain ⟨Z, x, y, z⟩ := h
  exact (reset_sz x).mono fun e w2 hh => ⟨hh.1, Z, hh.2.1, (fun r hr => by simp at hr), List.Pairwise.nil⟩
theorem Wm.drop (h : Wm w wr bp n m R K H U rows) : Wm w wr bp n m R K H U [] := by
  obtain ⟨Z, x, y, z⟩ := h
  exact ⟨Z, x, (fun r hr => by simp at hr), List.Pairwise.nil⟩
/-- What is owned of the row that is appended to. -/
theorem Wm.own {r : Row} (h : Wm w wr bp n m R K H U rows) (hr : r ∈ rows) : wr.ownsRow w.heap.size r.e r.size r.v r.n r.xs := by
  obtain ⟨Z, x, y, z⟩ := h
  exact (y r hr).1
/-- An append to one of the rows. -/
theorem Wm.app {r : Row} {g cap k : Nat} {ys : List Value} {o : Obj} (h : Wm w wr bp n m R K H U (pre ++ r :: post))
    (hown : w4.ownsRow w.heap.size r.e r.size (.slice (some ⟨g, 0, none⟩) k cap) k ys) (hg : (wr.alloc o).grownBy w4 r.v.ownBlock) (hat : r.v.ownBlock = some g ∨ g = wr.heap.size + 1) :
    Wm w w4 bp n m R K H U (pre ++ ⟨r.e, r.size, .slice (some ⟨g, 0, none⟩) k cap, k, ys⟩ :: post) := by
  obtain ⟨Z, x, y, z⟩ := h
  have hr := y r (by simp)
  obtain ⟨s1, s2⟩ := appended x hr hown hg hat
  have hap : ∀ s, s ∈ pre ∨ s ∈ post → Apart s r := by
    intro s hs
    rcases hs with hs | hs
    · exact (List.pairwise_append.1 z).2.2 s hs r (by simp)
    · exact ((List.pairwise_cons.1 (List.pairwise_append.1 z).2.1).1 s hs).symm
  have hlt : ∀ s, s ∈ pre ∨ s ∈ post → ∀ b, s.v.ownBlock = some b → b < wr.heap.size := by
    intro s hs b e
    have : Has w wr Z s := y s (by rcases hs with hs | hs <;> simp [hs])
    exact own_lt this.1 e
  have hkeep : ∀ s, s ∈ pre ∨ s ∈ post → Has w w4 Z s := by
    intro s hs
    have h1 : Has w wr Z s := y s (by rcases hs with hs | hs <;> simp [hs])
    exact Ow.gbr (Ow.gb h1 (World.grownBy_alloc wr o none)) hg (fun b e k => hap s hs b k e)
  have hnew : ∀ s, s ∈ pre ∨ s ∈ post → Apart s ⟨r.e, r.size, .slice (some ⟨g, 0, none⟩) k cap, k, ys⟩ := by
    intro s hs b e k
    have k : g = b := by simpa [Value.ownBlock] using k
    subst k
    rcases hat with q | q
    · exact hap s hs g e q
    · have := hlt s hs g e; omega
  refine ⟨Z, s1, fun s hs => ?_, ?_⟩
  · rcases List.mem_append.1 hs with hs | hs
    · exact hkeep s (.inl hs)
    · rcases List.mem_cons.1 hs with rfl | hs
      · exact s2
      · exact hkeep s (.inr hs)
  · obtain ⟨z1, z2, z3⟩ := List.pairwise_append.1 z
    obtain ⟨z4, z5⟩ := List.pairwise_cons.1 z2
    refine List.pairwise_append.2 ⟨z1, List.pairwise_cons.2 ⟨fun s hs => (hnew s (.inr hs)).symm, z5⟩, fun s hs t ht => ?_⟩
    rcases List.mem_cons.1 ht with rfl | ht
    · exact hnew s (.inl hs)
    · exact z3 s hs t (by simp [ht])
/-- An append to a row of ints. -/
theorem Wm.appi {v : Value} {xs : List Int} {a : Int} {g cap : Nat} {o : Obj} (h : Wm w wr bp n m R K H U (pre ++ ir v xs :: post))
    (hown : w4.ownsRow w.heap.size 3 1 (.slice (some ⟨g, 0, none⟩) (xs.length + 1) cap) (xs.length + 1) (ints xs ++ [.int .i64 a])) (hg : (wr.alloc o).grownBy w4 v.ownBlock) (hat : v.ownBlock = some g ∨ g = wr.heap.size + 1) :
    Wm w w4 bp n m R K H U (pre ++ ir (.slice (some ⟨g, 0, none⟩) (xs.length + 1) cap) (xs ++ [a]) :: post) := by
  have := Wm.app (r := ir v xs) h hown hg hat
  unfold ir at this ⊢
  rw [ints_snoc, List.length_append, List.length_singleton]
  exact this
theorem Wm.appu {v : Value} {xs : List (Int × Int × Int × Int)} {a b c d : Int} {g cap : Nat} {o : Obj} (h : Wm w wr bp n m R K H U (pre ++ ur v xs :: post))
    (hown : w4.ownsRow w.heap.size 38 4 (.slice (some ⟨g, 0, none⟩) (xs.length + 1) cap) (xs.length + 1) (uvs xs ++ [.int .i64 a, .int .i64 b, .int .i64 c, .int .i64 d])) (hg : (wr.alloc o).grownBy w4 v.ownBlock) (hat : v.ownBlock = some g ∨ g = wr.heap.size + 1) :
    Wm w w4 bp n m R K H U (pre ++ ur (.slice (some ⟨g, 0, none⟩) (xs.length + 1) cap) (xs ++ [(a, b, c, d)]) :: post) := by
  have := Wm.app (r := ur v xs) h hown hg hat
  unfold ur at this ⊢
  rw [show uvs (xs ++ [(a, b, c, d)]) = uvs xs ++ [.int .i64 a, .int .i64 b, .int .i64 c, .int .i64 d] from by simp [uvs, uv], List.length_append, List.length_singleton]
  exact this
end

/-! ### slices of structs that came in -/
structure Ss (w : World) (a : Option Addr) (len sz : Nat) (f : Nat → Nat → Int) : Prop where
  le : (len : Int) ≤ 9223372036854775807
  at_ : ∀ i, i < len → ∃ b off, a = some ⟨b, off, none⟩ ∧ b < w.heap.size ∧ ∀ j, j < sz → w.cell? ⟨b, off + i * sz + j, none⟩ = some (.int .i64 (f i j))
  lo : ∀ i j, -9223372036854775808 ≤ f i j
  hi : ∀ i j, f i j ≤ 9223372036854775807

section
variable {H : Type} {enc : TypeId × Value → H} {W : World} {base : Nat} {spare : Nat → Bool} {held : Bool}
theorem ints_of {n : Nat} {cs : List Value} (h : cs.length = n) (hk : ∀ j, j < n → ∃ z : Int, cs[j]? = some (.int .i64 z) ∧ (Lit.int .i64 z).wf = true) :
    ∃ g : Nat → Int, (∀ j, j < n → cs[j]? = some (.int .i64 (g j))) ∧ (∀ j, -9223372036854775808 ≤ g j) ∧ (∀ j, g j ≤ 9223372036854775807) := by
  refine ⟨fun j => if hj : j < n then (hk j hj).choose else 0, fun j hj => ?_, fun j => ?_, fun j => ?_⟩
  · simp only [dif_pos hj]; exact (hk j hj).choose_spec.1
  · by_cases hj : j < n
    · simp only [dif_pos hj]; exact i64_lo (hk j hj).choose_spec.2
    · simp only [dif_neg hj]; omega
  · by_cases hj : j < n
    · simp only [dif_pos hj]; exact i64_hi (hk j hj).choose_spec.2
    · simp only [dif_neg hj]; omega
theorem one_at {n : Nat} {cs : List Value} {j : Nat} {y : Option (DataW H × List MemPlace)} (hj : j < cs.length) (hy : ∃ z, y = some z) (h : DataW.trod enc Try.prog W base spare held n 3 ((cs.drop j).take 1) = y) : ∃ z : Int, cs[j]? = some (.int .i64 z) ∧ (Lit.int .i64 z).wf = true := by
  obtain ⟨z, rfl⟩ := hy
  rw [List.drop_eq_getElem_cons hj] at h
  simp only [List.take_succ_cons, List.take_zero] at h
  obtain ⟨u, e, _, wf⟩ := DataW.trod_int Try.underlying3 h
  simp at e
  exact ⟨u, by rw [List.getElem?_eq_getElem hj, e], wf⟩
theorem trod38 {fuel : Nat} {cs : List Value} {x : DataW H × List MemPlace} (h : DataW.trod enc Try.prog W base spare held fuel 38 cs = some x) :
    cs.length = 4 ∧ ∀ j, j < 4 → ∃ z : Int, cs[j]? = some (.int .i64 z) ∧ (Lit.int .i64 z).wf = true := by
  obtain ⟨ys, n, _, _, hl, hyl, hf⟩ := DataW.trod_struct Try.underlying38 h
  rw [show Try.prog.cellsOf 38 = 4 from by kernel_rfl] at hl
  have hyl : ys.length = 4 := hyl
  have k3 : Try.prog.cellsOf 3 = 1 := by kernel_rfl
  refine ⟨hl, fun j hj => ?_⟩
  have hy : ∃ z, ys[j]? = some z := ⟨_, List.getElem?_eq_getElem (by omega)⟩
  have h0 : DataW.trod enc Try.prog W base spare held n 3 ((cs.drop 0).take (Try.prog.cellsOf 3)) = ys[0]? := hf 0 _ rfl
  have h1 : DataW.trod enc Try.prog W base spare held n 3 ((cs.drop 1).take (Try.prog.cellsOf 3)) = ys[1]? := hf 1 _ rfl
  have h2 : DataW.trod enc Try.prog W base spare held n 3 ((cs.drop 2).take (Try.prog.cellsOf 3)) = ys[2]? := hf 2 _ rfl
  have h3 : DataW.trod enc Try.prog W base spare held n 3 ((cs.drop 3).take (Try.prog.cellsOf 3)) = ys[3]? := hf 3 _ rfl
  rw [k3] at h0 h1 h2 h3
  match j, hj with
  | 0, _ => exact one_at (by omega) hy h0
  | 1, _ => exact one_at (by omega) hy h1
  | 2, _ => exact one_at (by omega) hy h2
  | 3, _ => exact one_at (by omega) hy h3
theorem trod40 {fuel : Nat} {cs : List Value} {x : DataW H × List MemPlace} (h : DataW.trod enc Try.prog W base spare held fuel 40 cs = some x) :
    cs.length = 7 ∧ ∀ j, j < 7 → ∃ z : Int, cs[j]? = some (.int .i64 z) ∧ (Lit.int .i64 z).wf = true := by
  obtain ⟨ys, n, _, _, hl, hyl, hf⟩ := DataW.trod_struct Try.underlying40 h
  rw [show Try.prog.cellsOf 40 = 7 from by kernel_rfl] at hl
  have hyl : ys.length = 4 := hyl
  have k3 : Try.prog.cellsOf 3 = 1 := by kernel_rfl
  have k38 : Try.prog.cellsOf 38 = 4 := by kernel_rfl
  refine ⟨hl, fun j hj => ?_⟩
  have hy : ∀ j, j < 4 → ∃ z, ys[j]? = some z := fun j hj => ⟨_, List.getElem?_eq_getElem (by omega)⟩
  have h0 : DataW.trod enc Try.prog W base spare held n 3 ((cs.drop 0).take (Try.prog.cellsOf 3)) = ys[0]? := hf 0 _ rfl
  have h1 : DataW.trod enc Try.prog W base spare held n 3 ((cs.drop 1).take (Try.prog.cellsOf 3)) = ys[1]? := hf 1 _ rfl
  have h2 : DataW.trod enc Try.prog W base spare held n 3 ((cs.drop 2).take (Try.prog.cellsOf 3)) = ys[2]? := hf 2 _ rfl
  have h3 : DataW.trod enc Try.prog W base spare held n 38 ((cs.drop 3).take (Try.prog.cellsOf 38)) = ys[3]? := hf 3 _ rfl
  rw [k3] at h0 h1 h2
  rw [k38] at h3
  obtain ⟨z3, e3⟩ := hy 3 (by omega)
  rw [e3] at h3
  have hu := (trod38 h3).2
  by_cases hj3 : j < 3
  · match j, hj3 with
    | 0, _ => exact one_at (by omega) (hy 0 (by omega)) h0
    | 1, _ => exact one_at (by omega) (hy 1 (by omega)) h1
    | 2, _ => exact one_at (by omega) (hy 2 (by omega)) h2
  · obtain ⟨z, e, wf⟩ := hu (j - 3) (by omega)
    refine ⟨z, ?_, wf⟩
    rw [List.getElem?_take_of_lt (by omega), List.getElem?_drop] at e
    rw [← e]
    congr 1
    omega
theorem open_ss {t e sz fuel : Nat} {a : Option Addr} {len cap : Nat} {x : DataW H × List MemPlace} (ht : Try.prog.underlying t = some (.slice e)) (hc : Try.prog.cellsOf e = sz) (hs : 0 < sz)
    (ho : ∀ {fuel : Nat} {cs : List Value} {x : DataW H × List MemPlace}, DataW.trod enc Try.prog W base spare held fuel e cs = some x → cs.length = sz ∧ ∀ j, j < sz → ∃ z : Int, cs[j]? = some (.int .i64 z) ∧ (Lit.int .i64 z).wf = true)
    (h : DataW.trod enc Try.prog W base spare held fuel t [.slice a len cap] = some x) : ∃ f, Ss W a len sz f := by
  rcases open_slice ht h with ⟨hcs, _⟩ | ⟨x0, len', cap', m, n, D, Pl, hcs, _, hl, hm, hmm, _, hi⟩
  · simp at hcs
    obtain ⟨rfl, rfl, rfl⟩ := hcs
    exact ⟨fun _ _ => 0, by omega, (fun i hi => by omega), (fun _ _ => by omega), (fun _ _ => by omega)⟩
  · simp at hcs
    obtain ⟨rfl, rfl, rfl⟩ := hcs
    have hml : len ≤ m := by rw [hmm]; split <;> omega
    have key : ∀ i, i < len → ∃ g : Nat → Int, (∀ j, j < sz → W.cell? ((x0.add (i * sz)).add j) = some (.int .i64 (g j))) ∧ (∀ j, -9223372036854775808 ≤ g j) ∧ (∀ j, g j ≤ 9223372036854775807) := by
      intro i hil
      obtain ⟨cs', hcc, ht'⟩ := hi i (by omega)
      rw [hc] at hcc
      obtain ⟨_, hcl, hat⟩ := World.cells?_some hcc
      obtain ⟨q1, q2⟩ := ho ht'
      obtain ⟨g, g1, g2, g3⟩ := ints_of q1 q2
      exact ⟨g, fun j hj => (hat j hj).trans (g1 j hj), g2, g3⟩
    refine ⟨fun i j => if hi : i < len then (key i hi).choose j else 0, by unfold maxLen at hm; omega, fun i hil => ?_, fun i j => ?_, fun i j => ?_⟩
    · obtain ⟨g0, q0, _⟩ := key 0 (by omega)
      have q0 := q0 0 hs
      simp only [Nat.zero_mul] at q0
      have : ∃ b off, x0 = ⟨b, off, none⟩ := by
        obtain ⟨b, off, sp⟩ := x0
        obtain ⟨b', off', e⟩ := add_none q0
        simp [Addr.add] at e
        exact ⟨b, off, by rw [e.2.2]⟩
      obtain ⟨b, off, rfl⟩ := this
      obtain ⟨c0, _, _⟩ := (key i hil).choose_spec
      refine ⟨b, off, rfl, ?_, fun j hj => ?_⟩
      · have := c0 0 hs
        simp only [Addr.add_lit] at this
        exact World.block_lt_of_cell? W _ this
      · have := c0 j hj
        simp only [Addr.add_lit, dif_pos hil] at this ⊢
        exact this
    · by_cases hil : i < len
      · simp only [dif_pos hil]; exact (key i hil).choose_spec.2.1 j
      · simp only [dif_neg hil]; omega
    · by_cases hil : i < len
      · simp only [dif_pos hil]; exact (key i hil).choose_spec.2.2 j
      · simp only [dif_neg hil]; omega
theorem open_undos {fuel : Nat} {a : Option Addr} {len cap : Nat} {x : DataW H × List MemPlace} (h : DataW.trod enc Try.prog W base spare held fuel 43 [.slice a len cap] = some x) : ∃ f, Ss W a len 4 f :=
  open_ss Try.underlying43 (by kernel_rfl) (by omega) trod38 h
theorem open_ops {fuel : Nat} {a : Option Addr} {len cap : Nat} {x : DataW H × List MemPlace} (h : DataW.trod enc Try.prog W base spare held fuel 36 [.slice a len cap] = some x) : ∃ f, Ss W a len 7 f :=
  open_ss Try.underlying36 (by kernel_rfl) (by omega) trod40 h
end
end Go.Proofs.Ytjeapnhaakppeaa
