/-
  Frames, pick; what objects and models are in memory; place.
-/
import Derived.Test.YteieljkkcnpfmaaRows
import Derived.WalkKit
import Derived.ProofKit
import Derived.Below
import Derived.Lib.Hide
import Derived.Outline
import Derived.Laws.Rows
import Derived.IntWalk
import Derived.StillTailTactics
import Derived.RegionTactic
import Derived.Deep.AppendLies
import Derived.Deep.DeepMust
import Derived.Deep.QuietTactic
import Derived.BigQuiet
namespace Go.Proofs.Yteieljkkcnpfmaa
open Go.ChangeShapes Go.WideShapes Go.ChangeAt Go.RowKit
set_option linter.unusedVariables false

theorem ret_bool {b c : Bool} (h : b = c) : Ending.returned (.bool b) = .returned (.bool c) := by rw [h]
theorem ret_int {k : IntKind} {a b : Int} (h : a = b) : Ending.returned (.int k a) = .returned (.int k b) := by rw [h]
theorem grownBy_refl (w : World) (r : Option Nat) : w.grownBy w r := ⟨rfl, rfl, rfl, Nat.le_refl _, fun _ _ _ => rfl⟩
theorem grownBy_trans {a b c : World} {r : Option Nat} (h : a.grownBy b r) (k : b.grownBy c r) : a.grownBy c r :=
  ⟨k.os.trans h.os, k.tape.trans h.tape, k.output.trans h.output, Nat.le_trans h.size k.size, fun i hi hn => (k.block i (Nat.lt_of_lt_of_le hi h.size) hn).trans (h.block i hi hn)⟩
theorem gb_new {a b c : World} {r : Option Nat} (h : a.grownBy b none) (k : b.grownBy c r) (hg : ∀ g, r = some g → a.heap.size ≤ g) : a.grownBy c none :=
  ⟨k.os.trans h.os, k.tape.trans h.tape, k.output.trans h.output, Nat.le_trans h.size k.size, fun i hi hn => (k.block i (Nat.lt_of_lt_of_le hi h.size) (fun e => by have := hg i e.symm; omega)).trans (h.block i hi hn)⟩
theorem gb_drew (w : World) (r : Option Nat) : w.grownBy w.drew r := ⟨rfl, rfl, rfl, Nat.le_refl _, fun _ _ _ => rfl⟩
theorem gb_drewN (w : World) (n : Nat) (r : Option Nat) : w.grownBy (w.drewN n) r := ⟨rfl, rfl, rfl, Nat.le_refl _, fun _ _ _ => rfl⟩
theorem below_of {w w' : World} (h : w.grownBy w' none) : Below w.heap.size w w' := ⟨h.os, h.tape, h.output, h.size, fun k hk => h.block k hk (by simp)⟩
theorem of_below {w w' : World} (h : Below w.heap.size w w') : w.grownBy w' none := ⟨h.os, h.tape, h.output, h.size, fun k hk _ => h.block k hk⟩
theorem gb_set (w : World) (g i : Nat) (u : Value) : w.grownBy (w.setCell ⟨g, i, none⟩ u) (some g) :=
  ⟨rfl, rfl, rfl, by simp, fun k _ hk => heap_setCell_other w ⟨g, i, none⟩ k _ (fun e => hk (by simp [e]))⟩

/-- Only blocks of the zone Z, and new ones, have turned. -/
structure Zf (Z : Nat → Prop) (w w' : World) : Prop where
  os : w'.os = w.os
  tape : w'.tape = w.tape
  output : w'.output = w.output
  size : w.heap.size ≤ w'.heap.size
  block : ∀ k, k < w.heap.size → ¬ Z k → w'.heap[k]? = w.heap[k]?
theorem Zf.refl (Z : Nat → Prop) (w : World) : Zf Z w w := ⟨rfl, rfl, rfl, Nat.le_refl _, fun _ _ _ => rfl⟩
theorem Zf.trans {Z : Nat → Prop} {a b c : World} (h : Zf Z a b) (k : Zf Z b c) : Zf Z a c :=
  ⟨k.os.trans h.os, k.tape.trans h.tape, k.output.trans h.output, Nat.le_trans h.size k.size, fun i hi hn => (k.block i (Nat.lt_of_lt_of_le hi h.size) hn).trans (h.block i hi hn)⟩
theorem Zf.of_gb {Z : Nat → Prop} {a b : World} {r : Option Nat} (h : a.grownBy b r) (hr : ∀ g, r = some g → Z g) : Zf Z a b :=
  ⟨h.os, h.tape, h.output, h.size, fun i hi hn => h.block i hi (fun e => hn (hr i e.symm))⟩
theorem Zf.gb {Z : Nat → Prop} {a b c : World} (h : a.grownBy b none) (k : Zf Z b c) (hz : ∀ i, Z i → a.heap.size ≤ i) : a.grownBy c none :=
  ⟨k.os.trans h.os, k.tape.trans h.tape, k.output.trans h.output, Nat.le_trans h.size k.size, fun i hi hn => (k.block i (Nat.lt_of_lt_of_le hi h.size) (fun z => by have := hz i z; omega)).trans (h.block i hi hn)⟩

def Blk (w : World) (g : Nat) (t : TypeId) (cs : Array Value) : Prop := w.heap[g]? = some (.cells cs t (0, 0))
theorem Blk.lt {w : World} {g : Nat} {t : TypeId} {cs : Array Value} (h : Blk w g t cs) : g < w.heap.size := (Array.getElem?_eq_some_iff.1 h).1
theorem Blk.cell {w : World} {g : Nat} {t : TypeId} {cs : Array Value} (h : Blk w g t cs) (i : Nat) : w.cell? ⟨g, i, none⟩ = cs[i]? := cell_of_row w g i cs t (0, 0) h
theorem Blk.free {w : World} {g : Nat} {t : TypeId} {cs : Array Value} (h : Blk w g t cs) (i : Nat) : w.frozen? ⟨g, i, none⟩ = false := by
  unfold Blk at h; simp [World.frozen?, h]
theorem Blk.gb {w w' : World} {g : Nat} {t : TypeId} {cs : Array Value} {r : Option Nat} (h : Blk w g t cs) (k : w.grownBy w' r) (hr : r ≠ some g) : Blk w' g t cs := (k.block g h.lt (fun e => hr e.symm)).trans h
theorem Blk.zf {w w' : World} {Z : Nat → Prop} {g : Nat} {t : TypeId} {cs : Array Value} (h : Blk w g t cs) (f : Zf Z w w') (hz : ¬ Z g) : Blk w' g t cs := (f.block g h.lt hz).trans h
theorem Blk.new (w : World) (t : TypeId) (cs : Array Value) : Blk (w.alloc (.cells cs t)) w.heap.size t cs := heap_alloc_new w _
theorem Blk.set {w : World} {g : Nat} {t : TypeId} {cs : Array Value} (h : Blk w g t cs) (i : Nat) (u : Value) : Blk (w.setCell ⟨g, i, none⟩ u) g t (cs.setIfInBounds i u) :=
  heap_setCell_same w g i cs t u h

/-! ### pick -/
def pk (c n : Int) : Int := (if c < 0 then -(c + 1) else c) % n
theorem pk_range (c n : Int) (hn : 0 < n) : 0 ≤ pk c n ∧ pk c n < n := by
  unfold pk; exact ⟨Int.emod_nonneg _ (by omega), Int.emod_lt_of_pos _ hn⟩
/-- The number that is picked, as a natural one. -/
theorem pk_nat (c : Int) (n : Nat) (hn : 0 < n) : ∃ k : Nat, pk c n = k ∧ k < n := by
  obtain ⟨h1, h2⟩ := pk_range c n (by omega)
  exact ⟨(pk c n).toNat, by omega, by omega⟩

theorem pick_any (c n : Int) (w : World) (hc : -9223372036854775808 ≤ c) (hn : 0 < n) :
    Calls Try.prog 14 #[.int .i64 c, .int .i64 n] w fun e w' => e = .returned (.int .i64 (pk c n)) ∧ w = w' := by
  by_cases h : c < 0
  · have HP : Hid (pk c n = -(c + 1) % n) := by unfold Hid pk; rw [if_pos h]
    rw [HP.out]
    clear HP
    go_enter Try.func14, Try.ntmps14
    go_wp2
    go_ret
    exact ⟨ret_int (by rw [← Int.neg_tmod, Int.tmod_eq_emod_of_nonneg (by omega)]), rfl⟩
  · have HP : Hid (pk c n = c % n) := by unfold Hid pk; rw [if_neg h]
    rw [HP.out]
    clear HP
    go_enter Try.func14, Try.ntmps14
    go_wp2
    go_ret
    exact ⟨rfl, rfl⟩
theorem pick15_any (c n : Int) (w : World) (hc : -9223372036854775808 ≤ c) (hn : 0 < n) :
    Calls Try.prog 18 #[.int .i64 c, .int .i64 n] w fun e w' => e = .returned (.int .i64 (pk c n)) ∧ w = w' := by
  by_cases h : c < 0
  · have HP : Hid (pk c n = -(c + 1) % n) := by unfold Hid pk; rw [if_pos h]
    rw [HP.out]
    clear HP
    go_enter Try.func18, Try.ntmps18
    go_wp2
    go_ret
    exact ⟨ret_int (by rw [← Int.neg_tmod, Int.tmod_eq_emod_of_nonneg (by omega)]), rfl⟩
  · have HP : Hid (pk c n = c % n) := by unfold Hid pk; rw [if_neg h]
    rw [HP.out]
    clear HP
    go_enter Try.func18, Try.ntmps18
    go_wp2
    go_ret
    exact ⟨rfl, rfl⟩

/-! ### what reads as what -/
def ints (xs : List Int) : List Value := xs.map (Value.int .i64)
theorem ints_length (xs : List Int) : (ints xs).length = xs.length := by simp [ints]
theorem one_ints (xs : List Int) : ∀ u ∈ ints xs, u.oneCell' = true := by
  intro u hu
  obtain ⟨x, _, rfl⟩ := List.mem_map.1 hu
  rfl

/-- The cells vs lie where the slice '.slice A n c' of elements of 'size' cells leads. -/
structure Rc (w : World) (A : Option Addr) (n size : Nat) (vs : List Value) : Prop where
  len : vs.length = n * size
  le : (n : Int) ≤ 9223372036854775807
  at_ : 0 < n → ∃ b off, A = some ⟨b, off, none⟩ ∧ b < w.heap.size ∧ ∀ j, j < n * size → w.cell? ⟨b, off + j, none⟩ = vs[j]?
theorem Rc.gb {w w' : World} {A : Option Addr} {n size : Nat} {vs : List Value} (h : Rc w A n size vs) (g : w.grownBy w' none) : Rc w' A n size vs :=
  ⟨h.len, h.le, fun hn => by
    obtain ⟨b, off, hA, hb, hc⟩ := h.at_ hn
    exact ⟨b, off, hA, Nat.lt_of_lt_of_le hb g.size, fun j hj => (World.cell?_of_block (a := ⟨b, off + j, none⟩) (g.block b hb (by simp))).trans (hc j hj)⟩⟩
theorem Rc.zf {Z : Nat → Prop} {w w' : World} {A : Option Addr} {n size : Nat} {vs : List Value} (h : Rc w A n size vs) (f : Zf Z w w') (hz : ∀ b off, A = some ⟨b, off, none⟩ → ¬ Z b) : Rc w' A n size vs :=
  ⟨h.len, h.le, fun hn => by
    obtain ⟨b, off, hA, hb, hc⟩ := h.at_ hn
    exact ⟨b, off, hA, Nat.lt_of_lt_of_le hb f.size, fun j hj => (World.cell?_of_block (a := ⟨b, off + j, none⟩) (f.block b hb (hz b off hA))).trans (hc j hj)⟩⟩
theorem Rc.of_own {w : World} {base : Nat} {e : TypeId} {size : Nat} {v : Value} {n : Nat} {vs : List Value} (h : w.ownsRow base e size v n vs) : ∃ A c, v = .slice A n c ∧ Rc w A n size vs ∧ n ≤ c ∧ (c : Int) ≤ 9223372036854775807 := by
  rcases h.2 with ⟨rfl, rfl⟩ | ⟨g, cap, cur, rfl, _, hg, hn, hm, hs, ht⟩
  · exact ⟨none, 0, rfl, ⟨h.1, by omega, fun hn => by omega⟩, Nat.le_refl _, by omega⟩
  · unfold maxLen at hm
    refine ⟨some ⟨g, 0, none⟩, cap, rfl, ⟨h.1, by omega, fun _ => ⟨g, 0, rfl, (Array.getElem?_eq_some_iff.1 hg).1, fun j hj => ?_⟩⟩, hn, by omega⟩
    rw [Nat.zero_add]
    exact h.cellAt j hj
abbrev Rd (w : World) (A : Option Addr) (n : Nat) (xs : List Int) : Prop := Rc w A n 1 (ints xs)
theorem Rd.at1 {w : World} {A : Option Addr} {n : Nat} {xs : List Int} (h : Rc w A n 1 (ints xs)) (i : Nat) (hi : i < n) : ∃ b off, A = some ⟨b, off, none⟩ ∧ b < w.heap.size ∧ w.cell? ⟨b, off + i, none⟩ = some (.int .i64 (xs.getD i 0)) := by
  obtain ⟨b, off, hA, hb, hc⟩ := h.at_ (by omega)
  refine ⟨b, off, hA, hb, ?_⟩
  rw [hc i (by omega)]
  have hl := h.len
  rw [ints_length] at hl
  simp [ints, show i < xs.length by omega]

structure Ob where
  s : Int
  sp : Int
  sd : Int
  sw : Bool
  sf : Bool
  ps : List Int
  ns : List Int
  fr : Bool
deriving DecidableEq
def oc (o : Ob) (vp vn : Value) : List Value := [.int .i64 o.s, .int .i64 o.sp, .int .i64 o.sd, .bool o.sw, .bool o.sf, vp, vn, .bool o.fr]
/-- Eight cells that read as an object. -/
def RO (w : World) (o : Ob) (vp vn : Value) : Prop :=
  ∃ Ap cp An cn, vp = .slice Ap o.ps.length cp ∧ vn = .slice An o.ns.length cn ∧ Rd w Ap o.ps.length o.ps ∧ Rd w An o.ns.length o.ns
theorem RO.gb {w w' : World} {o : Ob} {vp vn : Value} (h : RO w o vp vn) (g : w.grownBy w' none) : RO w' o vp vn := by
  obtain ⟨Ap, cp, An, cn, h1, h2, h3, h4⟩ := h
  exact ⟨Ap, cp, An, cn, h1, h2, h3.gb g, h4.gb g⟩
/-- An object with its slices. -/
structure Ov where
  o : Ob
  vp : Value
  vn : Value
def ov (x : Ov) : List Value := oc x.o x.vp x.vn
def ovs (L : List Ov) : List Value := L.flatMap ov
theorem ovs_length (L : List Ov) : (ovs L).length = L.length * 8 := by
  induction L with
  | nil => rfl
  | cons x L ih => simp only [ovs, List.flatMap_cons, List.length_append, List.length_cons] at ih ⊢; rw [ih]; simp [ov, oc]; omega
theorem ovs_get (L : List Ov) (i : Nat) (hi : i < L.length) (j : Nat) (hj : j < 8) : (ovs L)[i * 8 + j]? = (ov L[i])[j]? := by
  induction L generalizing i with
  | nil => simp at hi
  | cons x L ih =>
    have hx : (ov x).length = 8 := rfl
    cases i with
    | zero =>
      simp only [ovs, List.flatMap_cons, Nat.zero_mul, Nat.zero_add, List.getElem_cons_zero]
      rw [List.getElem?_append_left (by omega)]
    | succ i =>
      simp only [ovs, List.flatMap_cons, List.getElem_cons_succ]
      rw [List.getElem?_append_right (by omega)]
      have := ih i (by simpa using hi)
      rw [← this, hx]
      congr 1
      omega
/-- The slice reads as the objects, by their slices. -/
def RL (w : World) (A : Option Addr) (L : List Ov) : Prop := Rc w A L.length 8 (ovs L) ∧ ∀ x ∈ L, RO w x.o x.vp x.vn
theorem RL.gb {w w' : World} {A : Option Addr} {L : List Ov} (h : RL w A L) (g : w.grownBy w' none) : RL w' A L := ⟨h.1.gb g, fun x hx => (h.2 x hx).gb g⟩
/-- The eight cells of an object. -/
theorem RL.cells {w : World} {A : Option Addr} {L : List Ov} (h : RL w A L) (i : Nat) (hi : i < L.length) : ∃ b off, A = some ⟨b, off, none⟩ ∧ b < w.heap.size ∧
    w.cell? ⟨b, off + i * 8, none⟩ = some (.int .i64 L[i].o.s) ∧ w.cell? ⟨b, off + i * 8 + 1, none⟩ = some (.int .i64 L[i].o.sp) ∧ w.cell? ⟨b, off + i * 8 + 2, none⟩ = some (.int .i64 L[i].o.sd) ∧ w.cell? ⟨b, off + i * 8 + 3, none⟩ = some (.bool L[i].o.sw) ∧
    w.cell? ⟨b, off + i * 8 + 4, none⟩ = some (.bool L[i].o.sf) ∧ w.cell? ⟨b, off + i * 8 + 5, none⟩ = some L[i].vp ∧ w.cell? ⟨b, off + i * 8 + 6, none⟩ = some L[i].vn ∧ w.cell? ⟨b, off + i * 8 + 7, none⟩ = some (.bool L[i].o.fr) := by
  obtain ⟨b, off, hA, hb, hc⟩ := h.1.at_ (by omega)
  have key : ∀ j, j < 8 → w.cell? ⟨b, off + i * 8 + j, none⟩ = (ov L[i])[j]? := fun j hj => by
    rw [Nat.add_assoc, hc (i * 8 + j) (by omega), ovs_get L i hi j hj]
  exact ⟨b, off, hA, hb, key 0 (by omega), key 1 (by omega), key 2 (by omega), key 3 (by omega), key 4 (by omega), key 5 (by omega), key 6 (by omega), key 7 (by omega)⟩

/-- Where the first object of a serial is; -1: there is none. -/
def plc : List Ob → Int → Int
  | [], _ => -1
  | o :: l, s => if o.s = s then 0 else if plc l s < 0 then -1 else plc l s + 1
theorem plc_ge (l : List Ob) (s : Int) : -1 ≤ plc l s := by
  induction l with
  | nil => simp [plc]
  | cons o l ih => unfold plc; split <;> (try split) <;> omega
theorem plc_lt (l : List Ob) (s : Int) : plc l s < l.length := by
  induction l with
  | nil => simp [plc]
  | cons o l ih => unfold plc; rw [List.length_cons]; split <;> (try split) <;> omega
theorem plc_at (l : List Ob) (s : Int) (i : Nat) (hi : i < l.length) (h : l[i].s = s) (hn : ∀ j (hj : j < i), l[j].s ≠ s) : plc l s = i := by
  induction l generalizing i with
  | nil => simp at hi
  | cons o l ih =>
    cases i with
    | zero => unfold plc; rw [if_pos (by simpa using h)]; rfl
    | succ i =>
      unfold plc
      rw [if_neg (by have := hn 0 (by omega); simpa using this)]
      have := ih i (by simpa using hi) (by simpa using h) (fun j hj => by have := hn (j + 1) (by omega); simpa using this)
      rw [this, if_neg (by omega)]
      omega
theorem plc_none (l : List Ob) (s : Int) (hn : ∀ j (hj : j < l.length), l[j].s ≠ s) : plc l s = -1 := by
  induction l with
  | nil => rfl
  | cons o l ih =>
    unfold plc
    rw [if_neg (by have := hn 0 (by simp); simpa using this)]
    have := ih (fun j hj => by have := hn (j + 1) (by simpa using hj); simpa using this)
    rw [this, if_pos (by omega)]

def obs (L : List Ov) : List Ob := L.map (·.o)
set_option maxHeartbeats 1000000 in
theorem place_any (A : Option Addr) (c : Nat) (L : List Ov) (s : Int) (w : World) (h : RL w A L) :
    Calls Try.prog 22 #[.slice A L.length c, .int .i64 s] w fun e w' => e = .returned (.int .i64 (plc (obs L) s)) ∧ w = w' := by
  have hle := h.1.le
  have HL := Lib.hid h
  clear h
  obtain ⟨r, hr⟩ : ∃ r, plc (obs L) s = r := ⟨_, rfl⟩
  rw [hr]
  have HR := Lib.hid hr
  clear hr
  go_enter Try.func22, Try.ntmps22
  go_wp2
  go_loop [8] (fun i => ∃ k : Nat, k ≤ L.length ∧ i = .int .i64 k ∧ Hid (∀ j (hj : j < L.length), j < k → L[j].o.s ≠ s)) (fun i => L.length - (intOf i).toNat)
  case atStart => exact ⟨0, Nat.zero_le _, rfl, fun j _ hj => by omega⟩
  case round =>
    obtain ⟨k, hk, rfl, Hno⟩ := hrel
    by_cases hlt : k < L.length
    · obtain ⟨b, off, rfl, hb, hc, _⟩ := HL.out.cells k hlt
      by_cases hv : L[k].o.s = s
      · have HM : Hid (r = k) := by
          unfold Hid; rw [← HR.out]
          exact plc_at _ _ k (by simpa [obs] using hlt) (by simpa [obs] using hv) (fun j hj => by simpa [obs] using Hno.out j (by omega) hj)
        rw [hv] at hc
        clear hv
        go_wp2
        go_ret
        exact ⟨ret_int HM.out.symm, rfl⟩
      · have ht : (L[k].o.s == s) = false := by rw [beq_eq_false_iff_ne]; exact hv
        have Hno2 : Hid (∀ j (hj : j < L.length), j < k + 1 → L[j].o.s ≠ s) := fun j hjl hj => by
          by_cases e : j = k
          · subst e; exact hv
          · exact Hno.out j hjl (by omega)
        clear hv
        generalize L[k].o.s = y at *
        go_wp2
        go_round
        case rel => exact ⟨k + 1, by omega, by go_num, Hno2⟩
        case measure => simp [intOf]; omega
    · have hkk : k = L.length := by omega
      have HM : Hid (r = -1) := by
        unfold Hid; rw [← HR.out]
        exact plc_none _ _ (fun j hj => by have hj : j < L.length := by simpa [obs] using hj
                                           simpa [obs] using Hno.out j hj (by omega))
      go_wp2
      go_ret
      exact ⟨ret_int HM.out.symm, rfl⟩
end Go.Proofs.Yteieljkkcnpfmaa
