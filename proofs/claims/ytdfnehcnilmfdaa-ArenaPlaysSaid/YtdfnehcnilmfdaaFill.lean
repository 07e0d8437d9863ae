/-
  Contracts of the arena's Fill and Move: what each returns, what it leaves of the words; no other block is turned.
-/
import Derived.Test.YtdfnehcnilmfdaaBase
import Derived.IntWalk
namespace Go.Proofs.Ytdfnehcnilmfdaa
open Go.ChangeShapes Go.WideShapes Go.ChangeAt Go.RowKit

/-- The words with 'k' of them, from 'a' on, made 'v'. -/
def flW (ws : List Int) (a : Nat) (v : Int) : Nat → List Int
  | 0 => ws
  | k + 1 => (flW ws a v k).set (a + k) v

theorem flW_length (ws : List Int) (a : Nat) (v : Int) (k : Nat) : (flW ws a v k).length = ws.length := by
  induction k with
  | zero => rfl
  | succ k ih => simp [flW, ih]

theorem fill_in (bp bw : Nat) (ws : List Int) (at_ n v : Int) (w : World) (h : Ar w bp bw ws) (hf : fits ws.length at_ n = true) :
    Calls Try.prog 17 #[.pointer (some ⟨bp, 0, none⟩), .int .i64 at_, .int .i64 n, .int .u64 v] w fun e w' => e = .returned (.int .i64 0) ∧ Ar w' bp bw (flW ws at_.toNat v n.toNat) ∧ w.grownBy w' (some bw) := by
  have hb : 0 ≤ at_ ∧ 0 ≤ n ∧ at_ ≤ ws.length ∧ n ≤ ws.length - at_ := by simpa [fits] using hf
  obtain ⟨b1, b2, b3, b4⟩ := hb
  obtain ⟨a, rfl⟩ := Int.eq_ofNat_of_zero_le b1
  obtain ⟨m, rfl⟩ := Int.eq_ofNat_of_zero_le b2
  rw [Int.toNat_natCast, Int.toNat_natCast]
  have hl := h.le
  have HF := Lib.hid hf
  clear hf
  go_enter Try.func17, Try.ntmps17
  go_wp2_with (go_at_call 23; refine (stretch_any bp bw ws a m w h).mono ?_; rw [HF.out]; rintro e w' ⟨rfl, rfl⟩)
  go_loopw [9, 16] (fun _ i wr => ∃ k : Nat, k ≤ m ∧ i = .int .i64 k ∧ Ar wr bp bw (flW ws a v k) ∧ w.grownBy wr (some bw)) (fun _ i _ => m - (intOf i).toNat)
  case atStart => exact ⟨0, Nat.zero_le _, rfl, h, grownBy_refl _ _⟩
  case round =>
    obtain ⟨k, hk, rfl, hA, hg⟩ := hrel
    by_cases hlt : k < m
    · have hc := hA.cellP
      rw [flW_length] at hc
      have hw := hA.cellW (a + k) (by rw [flW_length]; omega)
      have hfz := hA.free (a + k)
      have hs := hA.set (a + k) v
      generalize hx : (flW ws a v k).getD (a + k) 0 = x at hw
      clear hx
      go_wp2
      go_roundw
      case rel => exact ⟨k + 1, by omega, by go_num, hs.1, grownBy_trans hg hs.2⟩
      case measure => simp [intOf]; omega
    · obtain rfl : k = m := by omega
      go_wp2
      go_ret
      exact ⟨rfl, hA, hg⟩


theorem fill_out (bp bw : Nat) (ws : List Int) (at_ n v : Int) (w : World) (h : Ar w bp bw ws) (hf : fits ws.length at_ n = false) :
    Calls Try.prog 17 #[.pointer (some ⟨bp, 0, none⟩), .int .i64 at_, .int .i64 n, .int .u64 v] w fun e w' => e = .returned (.int .i64 20) ∧ w = w' := by
  have HF := Lib.hid hf
  clear hf
  go_enter Try.func17, Try.ntmps17
  go_wp2_with (go_at_call 23; refine (stretch_any bp bw ws at_ n w h).mono ?_; rw [HF.out]; rintro e w' ⟨rfl, rfl⟩)
  go_ret
  exact ⟨rfl, rfl⟩

def erE (b : Bool) : Int := if b then 0 else 20
def fillW (ws : List Int) (at_ n v : Int) : List Int := if fits ws.length at_ n then flW ws at_.toNat v n.toNat else ws
theorem fillW_length (ws : List Int) (at_ n v : Int) : (fillW ws at_ n v).length = ws.length := by unfold fillW; split <;> simp [flW_length]

theorem fill_any (bp bw : Nat) (ws : List Int) (at_ n v : Int) (w : World) (h : Ar w bp bw ws) :
    Calls Try.prog 17 #[.pointer (some ⟨bp, 0, none⟩), .int .i64 at_, .int .i64 n, .int .u64 v] w fun e w' => e = .returned (.int .i64 (erE (fits ws.length at_ n))) ∧ Ar w' bp bw (fillW ws at_ n v) ∧ w.grownBy w' (some bw) := by
  cases hf : fits ws.length at_ n
  · refine (fill_out bp bw ws at_ n v w h hf).mono ?_
    rintro e w' ⟨rfl, rfl⟩
    simp only [fillW, hf]
    exact ⟨rfl, h, grownBy_refl _ _⟩
  · refine (fill_in bp bw ws at_ n v w h hf).mono ?_
    rintro e w' ⟨rfl, h1⟩
    simp only [fillW, hf]
    exact ⟨rfl, h1⟩

/-- The words with 'n' of them, from 'p' on, laid over those from 'q' on. -/
def mvW (ws : List Int) (p q n : Nat) : List Int := ws.take q ++ ((ws.drop p).take n ++ ws.drop (q + n))
theorem mvW_length (ws : List Int) (p q n : Nat) (hp : p + n ≤ ws.length) (hq : q + n ≤ ws.length) : (mvW ws p q n).length = ws.length := by
  simp [mvW]; omega

theorem step_copy_row {P : Program} {ops : Array Oper} {o : Oper} {a : Act} {w : World} {K : Act → World → Prop} {Q : Exit → Act → World → Prop} {E : Prop} (hgd : o.guard = none) (d s : Operand) (dT sT : TypeId)
    (ho : o.op = .call { callee := .builtin .copy, args := #[d, s], argTypes := #[dT, sT] }) (elem : TypeId) (hu : P.underlying dT = some (.slice elem)) (hsz : (P.info? elem).map (·.size) = some 1)
    (g off : Nat) (ad : Addr) (dLen dCap sLen sCap : Nat) (hd : a.eval d = .slice (some ⟨g, off, none⟩) dLen dCap) (hs : a.eval s = .slice (some ad) sLen sCap)
    (cur : Array Value) (t : TypeId) (hg : w.heap[g]? = some (.cells cur t (0, 0))) (cs : List Value) (hn : cs.length = Nat.min sLen dLen)
    (hsrc : ∀ j v, cs[j]? = some v → w.cell? (ad.add j) = some v)
    (hfit : off + cs.length ≤ cur.size) (h1 : ∀ v ∈ cs, v.oneCell' = true)
    (h : ∀ w', Hid (w'.heap[g]? = some (.cells (cur.toList.take off ++ cs ++ cur.toList.drop (off + cs.length)).toArray t (0, 0))) → w.grownBy w' (some g) → K (a.put o.dst (goInt cs.length)) w') :
    if Region.wanted o (yielded ops a.tmps) = true then Oper.wp P o a w K Q else E := by
  have hw : Region.wanted o (yielded ops a.tmps) = true := by simp [Region.wanted, hgd]
  rw [if_pos hw]
  have hrun := run_copy_row (P := P) w dT sT o.type elem g off dLen dCap ad sLen sCap cur t cs hu hsz hg hn hsrc hfit h1
  unfold Oper.wp
  simp only [execOp, ho, resolve, invoke, builtin, Sem.run_bind, Sem.run_pure, Result.andThen_ok, List.map_toArray, List.map_cons, List.map_nil, hd, hs, hrun]
  exact h _ (show _ = _ from setRow_heap w g _ _ t _ hg) ⟨rfl, rfl, rfl, by simp [World.setRow], fun k _ hk => setRow_other w g k _ (fun e => hk (by simp [e]))⟩

theorem Ar.moved {w w' : World} {bp bw : Nat} {ws : List Int} (h : Ar w bp bw ws) (p q n : Nat) (hp : p + n ≤ ws.length) (hq : q + n ≤ ws.length) (hg : w.grownBy w' (some bw))
    (hr : w'.heap[bw]? = some (.cells ((u64s ws).toList.take q ++ ((ws.drop p).take n).map (Value.int .u64) ++ (u64s ws).toList.drop (q + (((ws.drop p).take n).map (Value.int .u64)).length)).toArray 29 (0, 0))) : Ar w' bp bw (mvW ws p q n) := by
  have hne : bp ≠ bw := by
    rintro rfl
    have := h.ptr.symm.trans h.row
    injection this with this
    injection this with _ ht
    exact absurd ht (by decide)
  have hlt : bp < w.heap.size := by
    rcases Nat.lt_or_ge bp w.heap.size with hlt | hge
    · exact hlt
    · have := h.ptr; rw [Array.getElem?_eq_none hge] at this; cases this
  refine ⟨?_, ?_, by rw [mvW_length ws p q n hp hq]; exact h.le⟩
  · rw [hg.block bp hlt (by simpa using hne), mvW_length ws p q n hp hq]; exact h.ptr
  · rw [hr]
    have e : min n (ws.length - p) = n := by omega
    simp [u64s, mvW, List.map_take, List.map_drop, e]

theorem move_in (bp bw : Nat) (ws : List Int) (p q n : Int) (w : World) (h : Ar w bp bw ws) (hf : fits ws.length p n = true) (hf2 : fits ws.length q n = true) :
    Calls Try.prog 13 #[.pointer (some ⟨bp, 0, none⟩), .int .i64 p, .int .i64 q, .int .i64 n] w fun e w' => e = .returned (.int .i64 0) ∧ Ar w' bp bw (mvW ws p.toNat q.toNat n.toNat) ∧ w.grownBy w' (some bw) := by
  have hb : 0 ≤ p ∧ 0 ≤ n ∧ p ≤ ws.length ∧ n ≤ ws.length - p := by simpa [fits] using hf
  have hb2 : 0 ≤ q ∧ 0 ≤ n ∧ q ≤ ws.length ∧ n ≤ ws.length - q := by simpa [fits] using hf2
  obtain ⟨b1, b2, b3, b4⟩ := hb
  obtain ⟨c1, c2, c3, c4⟩ := hb2
  obtain ⟨a, rfl⟩ := Int.eq_ofNat_of_zero_le b1
  obtain ⟨m, rfl⟩ := Int.eq_ofNat_of_zero_le b2
  obtain ⟨b, rfl⟩ := Int.eq_ofNat_of_zero_le c1
  rw [Int.toNat_natCast, Int.toNat_natCast, Int.toNat_natCast]
  have hl := h.le
  have HF := Lib.hid hf
  have HF2 := Lib.hid hf2
  clear hf hf2
  by_cases hm : m ≤ 0
  · have HE : Hid (mvW ws a b m = ws) := by
      have e : m = 0 := by omega
      subst e; simp [Hid, mvW]
    go_enter Try.func13, Try.ntmps13
    go_wp2_with (go_at_call 23; refine (stretch_any bp bw ws _ _ w h).mono ?_; (first | rw [HF.out] | rw [HF2.out]); rintro e w' ⟨rfl, rfl⟩)
    go_ret
    rw [HE.out]
    exact ⟨rfl, h, grownBy_refl _ _⟩
  · have hm0 : 0 < m := by omega
    have hc := h.cellP
    have hrow := h.row
    have Hsrc := Lib.hid (show ∀ j v, (((ws.drop a).take m).map (Value.int .u64))[j]? = some v → w.cell? ((⟨bw, a, none⟩ : Addr).add j) = some v by
      intro j v hj
      have hjm : j < m := by
        have := (List.getElem?_eq_some_iff.1 hj).1
        simp at this; omega
      have := h.cellW (a + j) (by omega)
      rw [Addr.add_lit, this]
      rw [← hj]
      have hal : a + j < ws.length := by omega
      simp [hjm, hal])
    have Hrow := Lib.hid hrow
    clear hrow
    have b5 : (a : Int) + m ≤ ws.length := by omega
    have c5 : (b : Int) + m ≤ ws.length := by omega
    have b6 : (a : Int) < ws.length := by omega
    have c6 : (b : Int) < ws.length := by omega
    go_enter Try.func13, Try.ntmps13
    go_wp2_with (go_at_call 23; refine (stretch_any bp bw ws _ _ w h).mono ?_; (first | rw [HF.out] | rw [HF2.out]); rintro e w' ⟨rfl, rfl⟩)
    have Hlen : Hid ((((ws.drop a).take m).map (Value.int .u64)).length = m) := by simp [Hid]; omega
    have Hfit : Hid (b + (((ws.drop a).take m).map (Value.int .u64)).length ≤ (u64s ws).size) := by simp [Hid, u64s]; omega
    have Hone := Lib.hid (show ∀ v ∈ ((ws.drop a).take m).map (Value.int .u64), v.oneCell' = true by
      intro v hv
      obtain ⟨x, _, rfl⟩ := List.mem_map.1 hv
      rfl)
    have e1 : IntKind.i64.wrap (↑b + ↑m) = (b : Int) + m := IntWalk.i64_in _ (by omega)
    have e2 : IntKind.i64.wrap (↑a + ↑m) = (a : Int) + m := IntWalk.i64_in _ (by omega)
    have e3 : (0 : Int) ≤ (b : Int) + m := by omega
    have e4 : (0 : Int) ≤ (a : Int) + m := by omega
    have e5 : ((b : Int) + m).toNat = b + m := by omega
    have e6 : ((a : Int) + m).toNat = a + m := by omega
    have e7 : ¬ ws.length = b := by omega
    have e8 : ¬ ws.length = a := by omega
    go_region_law (refine step_copy_row rfl (.tmp 31) (.tmp 40) 22 22 rfl 29 Try.underlying22 (by kernel_rfl) bw b ⟨bw, a, none⟩ m (ws.length - b) m (ws.length - a) rfl rfl (u64s ws) 29 Hrow.out (((ws.drop a).take m).map (Value.int .u64)) (Hlen.out.trans (by simp)) Hsrc.out Hfit.out Hone.out ?_; intro w4 hg4 hb4)
    all_goals
      have hbb : w.grownBy w4 (some bw) := ⟨hb4.os, hb4.tape, hb4.output, hb4.size, hb4.block⟩
      have HA := h.moved a b m (by omega) (by omega) hbb hg4.out
      clear hg4 hb4
      go_wp2
      go_ret
      exact ⟨rfl, HA, hbb⟩

theorem move_out (bp bw : Nat) (ws : List Int) (p q n : Int) (w : World) (h : Ar w bp bw ws) (hf : (fits ws.length p n && fits ws.length q n) = false) :
    Calls Try.prog 13 #[.pointer (some ⟨bp, 0, none⟩), .int .i64 p, .int .i64 q, .int .i64 n] w fun e w' => e = .returned (.int .i64 20) ∧ w = w' := by
  cases h1 : fits ws.length p n
  · have H1 := Lib.hid h1
    clear h1 hf
    go_enter Try.func13, Try.ntmps13
    go_wp2_with (go_at_call 23; refine (stretch_any bp bw ws _ _ w h).mono ?_; rw [H1.out]; rintro e w' ⟨rfl, rfl⟩)
    go_ret
    exact ⟨rfl, rfl⟩
  · rw [h1, Bool.true_and] at hf
    have H1 := Lib.hid h1
    have H2 := Lib.hid hf
    clear h1 hf
    go_enter Try.func13, Try.ntmps13
    go_wp2_with (go_at_call 23; refine (stretch_any bp bw ws _ _ w h).mono ?_; (first | rw [H1.out] | rw [H2.out]); rintro e w' ⟨rfl, rfl⟩)
    go_ret
    exact ⟨rfl, rfl⟩

def moveW (ws : List Int) (p q n : Int) : List Int := if fits ws.length p n && fits ws.length q n then mvW ws p.toNat q.toNat n.toNat else ws
theorem moveW_length (ws : List Int) (p q n : Int) : (moveW ws p q n).length = ws.length := by
  unfold moveW
  split
  · rename_i h
    simp [fits] at h
    exact mvW_length _ _ _ _ (by omega) (by omega)
  · rfl

theorem move_any (bp bw : Nat) (ws : List Int) (p q n : Int) (w : World) (h : Ar w bp bw ws) :
    Calls Try.prog 13 #[.pointer (some ⟨bp, 0, none⟩), .int .i64 p, .int .i64 q, .int .i64 n] w fun e w' => e = .returned (.int .i64 (erE (fits ws.length p n && fits ws.length q n))) ∧ Ar w' bp bw (moveW ws p q n) ∧ w.grownBy w' (some bw) := by
  cases hf : fits ws.length p n && fits ws.length q n
  · refine (move_out bp bw ws p q n w h hf).mono ?_
    rintro e w' ⟨rfl, rfl⟩
    simp only [moveW, hf]
    exact ⟨rfl, h, grownBy_refl _ _⟩
  · have hf' := hf
    rw [Bool.and_eq_true] at hf'
    refine (move_in bp bw ws p q n w h hf'.1 hf'.2).mono ?_
    rintro e w' ⟨rfl, h1⟩
    simp only [moveW, hf]
    exact ⟨rfl, h1⟩

/-! ### pick -/
def pk (c n : Int) : Int := (if c < 0 then -(c + 1) else c) % n
theorem pk_range (c n : Int) (hn : 0 < n) : 0 ≤ pk c n ∧ pk c n < n := by
  unfold pk; exact ⟨Int.emod_nonneg _ (by omega), Int.emod_lt_of_pos _ hn⟩

theorem pick_any (c n : Int) (w : World) (hc : -9223372036854775808 ≤ c) (hn : 0 < n) :
    Calls Try.prog 10 #[.int .i64 c, .int .i64 n] w fun e w' => e = .returned (.int .i64 (pk c n)) ∧ w = w' := by
  by_cases h : c < 0
  · have HP : Hid (pk c n = -(c + 1) % n) := by unfold Hid pk; rw [if_pos h]
    rw [HP.out]
    clear HP
    go_enter Try.func10, Try.ntmps10
    go_wp2
    go_ret
    exact ⟨ret_int (by rw [← Int.neg_tmod, Int.tmod_eq_emod_of_nonneg (by omega)]), rfl⟩
  · have HP : Hid (pk c n = c % n) := by unfold Hid pk; rw [if_neg h]
    rw [HP.out]
    clear HP
    go_enter Try.func10, Try.ntmps10
    go_wp2
    go_ret
    exact ⟨rfl, rfl⟩

/-! ### New -/
theorem info29 : (Try.prog.info? 29).map (fun i => (i.zero, i.size, i.bytes)) = some (some (.int .u64 0), 1, 8) := by kernel_rfl

theorem made_u64 (n : Nat) : madeCells (Value.cells (.int .u64 0)) n = u64s (List.replicate n 0) := by
  apply Array.ext
  · simp [madeCells, u64s]
  · intro i h1 h2
    simp [madeCells, u64s, Value.cells, Nat.mod_one]

theorem new_in (n : Int) (w : World) (h1 : 1 ≤ n) (h2 : n ≤ 65536) :
    Calls Try.prog 11 #[.int .i64 n] w fun e w' => e = .returned (.tuple #[.pointer (some ⟨w.heap.size + 1, 0, none⟩), .int .i64 0]) ∧ Ar w' (w.heap.size + 1) w.heap.size (List.replicate n.toNat 0) ∧ w.grownBy w' none ∧ w'.heap.size = w.heap.size + 2 := by
  obtain ⟨m, rfl⟩ := Int.eq_ofNat_of_zero_le (show 0 ≤ n by omega)
  rw [Int.toNat_natCast]
  obtain ⟨i0, hi, hz0, hz1, hz2⟩ := info_parts info29
  have hmk : ∀ W : World, (Instr.makeSlice 22 (.int .i64 (m : Int)) (.int .i64 (m : Int))).run Try.prog W = .ok (.slice (some ⟨W.heap.size, 0, none⟩) m m) (W.alloc (.cells (u64s (List.replicate m 0)) 29)) := by
    intro W
    have hr := run_make (P := Try.prog) W 22 29 i0 (.int .u64 0) Try.underlying22 hi hz0 .i64 .i64 m m (by omega) (by omega) (by rw [hz2]; omega) (by omega)
    rw [hz1, made_u64] at hr
    simpa using hr
  clear hi hz0 hz1 hz2
  have hfin : Hid (Ar ((w.alloc (.cells (u64s (List.replicate m 0)) 29)).alloc (.cells #[.slice (some ⟨w.heap.size, 0, none⟩) m m] 48)) (w.heap.size + 1) w.heap.size (List.replicate m 0)) := by
    refine ⟨?_, ?_, by simp; omega⟩
    · have := heap_alloc_new (w.alloc (.cells (u64s (List.replicate m 0)) 29)) (.cells #[.slice (some ⟨w.heap.size, 0, none⟩) m m] 48)
      simpa using this
    · rw [Below.heap_alloc _ _ _ (by simp)]
      exact heap_alloc_new w _
  generalize u64s (List.replicate m 0) = Z at hmk hfin
  go_enter Try.func11, Try.ntmps11
  go_wp2
  go_ret2
  refine ⟨rfl, hfin.out, ⟨rfl, rfl, rfl, by simp; omega, fun k hk _ => ?_⟩, by simp⟩
  rw [Below.heap_alloc _ _ _ (by simp; omega), Below.heap_alloc _ _ _ hk]

theorem new_out (n : Int) (w : World) (h : n < 1 ∨ 65536 < n) :
    Calls Try.prog 11 #[.int .i64 n] w fun e w' => e = .returned (.tuple #[.pointer none, .int .i64 1]) ∧ w = w' := by
  rcases h with h | h
  · go_enter Try.func11, Try.ntmps11
    go_wp2
    go_ret2
    exact ⟨rfl, rfl⟩
  · have h2 : 1 ≤ n := by omega
    go_enter Try.func11, Try.ntmps11
    go_wp2
    go_ret2
    exact ⟨rfl, rfl⟩

end Go.Proofs.Ytdfnehcnilmfdaa
