/-
  PROVED: the card of middenheaplaw03.BitmapGoes: it returns true for every input (raw ops) and turns nothing that was there; the library's table is as its text lays it (tied).
-/
import Derived.Test.YtbojcmaljodpmaaDoorOps
import Derived.Deep.RegionHeld3
namespace Go.Proofs.YtbojcmaljodpmaaDoor.bitmapGoes
open Go.ChangeShapes Go.WideShapes Go.ChangeAt Go.RowKit
open Go.ChangeMaps (open_string shut_string)
set_option linter.unusedVariables false

def arrB (S : Nat → Bool) : Array Value := ((List.range 300).map fun j => Value.bool (S j)).toArray

/-- Block b is the law's own array: which numbers are in. -/
def In (w : World) (b : Nat) (S : Nat → Bool) : Prop := w.heap[b]? = some (.cells (arrB S) 26 (0, 0))

section
variable {w w' : World} {b : Nat} {S : Nat → Bool}
theorem In.lt (h : In w b S) : b < w.heap.size := (Array.getElem?_eq_some_iff.1 h).1
theorem In.cell (h : In w b S) (x : Nat) (hx : x < 300) : w.cell? ⟨b, x, none⟩ = some (.bool (S x)) := by
  rw [cell_of_row w b x _ 26 (0, 0) h]
  simp [arrB, hx]
theorem In.free (h : In w b S) (x : Nat) : w.frozen? ⟨b, x, none⟩ = false := by
  unfold In at h
  simp [World.frozen?, h]
theorem In.kept {r : Option Nat} (h : In w b S) (hg : w.grownBy w' r) (hr : some b ≠ r) : In w' b S := (hg.block b h.lt hr).trans h
theorem In.set (h : In w b S) (x : Nat) (v : Bool) : In (w.setCell ⟨b, x, none⟩ (.bool v)) b (upd S x v) := by
  unfold In
  rw [heap_setCell_same w b x _ 26 _ h]
  congr 2
  apply Array.ext
  · simp [arrB]
  · intro i h1 h2
    simp [arrB, upd] at h1 h2 ⊢
    by_cases e : x = i
    · subst e; simp
    · have : ¬ i = x := fun h => e h.symm
      simp [e, this]
end

theorem Sta.drew {w0 w : World} {bp bw bound : Nat} {S : Nat → Bool} (h : Sta w0 w bp bw bound S) : Sta w0 w.drew bp bw bound S :=
  h.kept (gb_drew w none) (by simp) (by simp) (by simp)

theorem zero26 (w : World) : (zeroValue 26).run Tryd.prog w = .ok (.agg (arrB (fun _ => false))) w := by kernel_rfl

theorem mem_len_succ (S : Nat → Bool) (x : Nat) (h : S x = true) : (mem S 0 (x + 1)).length = (mem S 0 x).length + 1 := by
  rw [mem_succ S 0 x (by omega) h]; simp
theorem mem_len_same (S : Nat → Bool) (x : Nat) (h : S x = false) : (mem S 0 (x + 1)).length = (mem S 0 x).length := by
  rw [mem_le S 0 x (x + 1) (by omega) (fun k h1 h2 _ => by have e : k = x := by omega
                                                           rw [e]; exact h)]

theorem nx_at (S : Nat → Bool) (k x B : Nat) (h1 : k ≤ x) (hx : x < B) (h : S x = true) (hn : ∀ y, k ≤ y → y < x → S y = false) : nxV (mem S k B) = .tuple #[.int .i64 (x : Nat), .bool true] := by
  have hp : mem S k (x + 1) <+: mem S k B := mem_prefix _ _ _ _ (by omega)
  have e : mem S k (x + 1) = [x] := by
    rw [mem_succ S k x h1 h, mem_le S k k x h1 (fun y a b _ => hn y a b), mem_self]; rfl
  rw [e] at hp
  obtain ⟨r, hr⟩ := hp
  rw [← hr]
  rfl

set_option maxRecDepth 100000 in
set_option maxHeartbeats 4000000 in
theorem walk (a : Option Addr) (len cap : Nat) (c : Nat → Bool) (f : Nat → Int) (w : World) (hT : Tab w) (hO : IsOps w a len c f) :
    Calls Tryd.prog 3 #[.slice a len cap] w fun e w' => e = .returned (.bool true) ∧ Below w.heap.size w w' := by
  have hlen : (len : Int) ≤ 9223372036854775807 := by have := hO.le; unfold maxLen at this; omega
  have HT := Lib.hid hT
  clear hT
  have hz26 := zero26
  generalize hZ : arrB (fun _ => false) = Z at hz26
  have HZ := Lib.hid hZ
  clear hZ
  go_enter Tryd.func3, Tryd.ntmps3
  go_wp2_with fail
  refine (awake_any w HT.out).mono ?_
  rintro e w1 ⟨rfl, g1, t1⟩
  have HT1 := Lib.hid t1
  clear t1
  go_wp2_with fail
  refine (s_new 300 (by omega) w1 HT1.out).mono ?_
  rintro e w2 ⟨rfl, hA0, g2, hsz⟩
  have hA := hA0.later (gb_new g1 g2 (by simp)) g1.size HT.out.pos
  have hN := g1.size
  have hsz' : w2.heap.size = w1.heap.size + 2 := hsz
  have HS := Lib.hid hsz
  clear hsz hA0 g1 g2
  have hA2 := hA.kept (World.grownBy_alloc w2 (.cells Z 26) none) (by simp) (by simp) (by simp)
  have hI2 : In (w2.alloc (.cells Z 26)) (w1.heap.size + 2) (fun _ => false) := by
    unfold In
    rw [← hsz', HZ.out]
    exact heap_alloc_new w2 _
  clear hsz'
  go_wp2_with fail
  rw [HS.out]
  generalize w1.heap.size = N1 at *
  generalize w2.alloc (.cells Z 26) = w3 at *
  clear hz26 hA
  go_loopw [6] (fun s wr => ∃ (j : Nat) (S : Nat → Bool), s = .int .i64 j ∧ j ≤ len ∧ Sta w wr (N1 + 1) N1 300 S ∧ In wr (N1 + 2) S) (fun s _ => len - (intOf s).toNat)
  case atStart => exact ⟨0, _, rfl, Nat.zero_le _, hA2, hI2⟩
  case round =>
    obtain ⟨j, S, rfl, hj, hAr, hIr⟩ := hrel
    clear hA2 hI2
    have hcs : (j < len ∧ j < 60) ∨ (j < len ∧ ¬ j < 60) ∨ (¬ j < len) := by omega
    rcases hcs with ⟨hlt, h20⟩ | hcs
    · obtain ⟨b, off, rfl, hb, c0, c1⟩ := hO.at_ j hlt
      have d0 := hAr.gr.cell c0 (by simp)
      have d1 := hAr.gr.cell c1 (by simp)
      have hlo := hO.lo j hlt
      clear c0 c1
      generalize f j = y at *
      have hp := pk_range y 300 (by omega)
      obtain ⟨x, hx⟩ := Int.eq_ofNat_of_zero_le hp.1
      have hx2 : x < 300 := by omega
      have HX := Lib.hid hx
      clear hp hx
      have e1 := hIr.cell x hx2
      have e2 := hIr.free x
      have hx3 : (x : Int) < 300 := by omega
      cases hcj : c j
      · rw [hcj] at d0
        clear hcj
        go_wp2_with fail
        refine (pick_any y 300 wr hlo (by omega)).mono ?_
        rw [HX.out]
        rintro e w4 ⟨rfl, rfl⟩
        go_wp2_with fail
        have HA := Lib.hid hAr
        have HI := Lib.hid hIr
        have hSx : ∃ bb, S x = bb := ⟨_, rfl⟩
        obtain ⟨bb, hbb⟩ := hSx
        rw [hbb] at e1
        have HB := Lib.hid hbb
        clear hbb hAr hIr
        go_region_held3 (fun w' => w'.cell? ⟨N1 + 2, x, none⟩ = some (.bool bb)) (go_keep)
          (first | (go_at_call 12; refine (s_set x hx2 (Sta.drew HA.out)).mono ?_; rw [HB.out]; rintro e w5 ⟨rfl, hA5, g5⟩; have k5 : w5.cell? ⟨N1 + 2, x, none⟩ = some (.bool bb) := (World.cell?_of_block (a := ⟨N1 + 2, x, none⟩) (g5.block (N1 + 2) HI.out.lt (by simp))).trans e1; have HA5 := Lib.hid hA5; have HG5 := Lib.hid g5; clear hA5 g5))
        have hI5 : In w5 (N1 + 2) S := (HI.out.kept (gb_drew wr none) (by simp)).kept HG5.out (by simp)
        have f5 := hI5.free x
        have hA6 := HA5.out.kept (r := some (N1 + 2)) (w' := w5.setCell ⟨N1 + 2, x, none⟩ (.bool true)) ⟨rfl, rfl, rfl, by simp, fun k _ hk => heap_setCell_other w5 ⟨N1 + 2, x, none⟩ k _ (fun e => hk (by simp [e]))⟩ (by simp) (by simp) (by simp; omega)
        have hI6 := hI5.set x true
        clear hI5 HA HA5 HG5 HI e1 e2 d0 d1
        cases bb
        all_goals
          go_wp2_with fail
          go_roundw
          case rel => exact ⟨j + 1, _, by go_num, by omega, hA6, hI6⟩
          case measure => simp [intOf]; omega
      · rw [hcj] at d0
        clear hcj
        go_wp2_with fail
        refine (pick_any y 300 wr hlo (by omega)).mono ?_
        rw [HX.out]
        rintro e w4 ⟨rfl, rfl⟩
        go_wp2_with fail
        have HA := Lib.hid hAr
        have HI := Lib.hid hIr
        have hSx : ∃ bb, S x = bb := ⟨_, rfl⟩
        obtain ⟨bb, hbb⟩ := hSx
        rw [hbb] at e1
        have HB := Lib.hid hbb
        clear hbb hAr hIr
        go_region_held3 (fun w' => w'.cell? ⟨N1 + 2, x, none⟩ = some (.bool bb)) (go_keep)
          (first | (go_at_call 11; refine (s_clear x (Sta.drew HA.out)).mono ?_; rw [HB.out]; rintro e w5 ⟨rfl, hA5, g5⟩; have k5 : w5.cell? ⟨N1 + 2, x, none⟩ = some (.bool bb) := (World.cell?_of_block (a := ⟨N1 + 2, x, none⟩) (g5.block (N1 + 2) HI.out.lt (by simp))).trans e1; have HA5 := Lib.hid hA5; have HG5 := Lib.hid g5; clear hA5 g5))
        have hI5 : In w5 (N1 + 2) S := (HI.out.kept (gb_drew wr none) (by simp)).kept HG5.out (by simp)
        have f5 := hI5.free x
        have hA6 := HA5.out.kept (r := some (N1 + 2)) (w' := w5.setCell ⟨N1 + 2, x, none⟩ (.bool false)) ⟨rfl, rfl, rfl, by simp, fun k _ hk => heap_setCell_other w5 ⟨N1 + 2, x, none⟩ k _ (fun e => hk (by simp [e]))⟩ (by simp) (by simp) (by simp; omega)
        have hI6 := hI5.set x false
        clear hI5 HA HA5 HG5 HI e1 e2 d0 d1
        cases bb
        all_goals
          go_wp2_with fail
          go_roundw
          case rel => exact ⟨j + 1, _, by go_num, by omega, hA6, hI6⟩
          case measure => simp [intOf]; omega
    · rcases hcs with ⟨hlt, h20⟩ | hlt
      all_goals
        go_wp2_with fail
        go_loopw [8, 9, 10] (fun s8 s9 s10 wq => ∃ k x : Nat, s8 = .int .i64 k ∧ s9 = .int .i64 ((mem S 0 x).length : Nat) ∧ s10 = .int .i64 x ∧ x ≤ 300 ∧ k ≤ x ∧ Hid (∀ y, k ≤ y → y < x → S y = false) ∧ Sta w wq (N1 + 1) N1 300 S ∧ In wq (N1 + 2) S) (fun _ _ s _ => 300 - (intOf s).toNat)
        case atStart => exact ⟨0, 0, rfl, rfl, rfl, Nat.zero_le _, Nat.le_refl _, fun y h1 h2 => by omega, hAr, hIr⟩
        case round =>
          obtain ⟨k, x, rfl, rfl, rfl, hx, hkx, Hn, hAq, hIq⟩ := hrel
          clear hAr hIr
          have hl : (mem S 0 x).length ≤ 300 := by
            have := List.length_filter_le (fun j => decide (0 ≤ j) && S j) (List.range x)
            rw [List.length_range] at this; unfold mem; omega
          by_cases hx3 : x < 300
          · have e1 := hIq.cell x hx3
            cases hS : S x
            · rw [hS] at e1
              have HN := Lib.hid (mem_len_same S x hS)
              have Hn2 : Hid (∀ y, k ≤ y → y < x + 1 → S y = false) := fun y h1 h2 => by
                by_cases e : y = x
                · rw [e]; exact hS
                · exact Hn.out y h1 (by omega)
              clear hS
              generalize (mem S 0 x).length = nn at *
              go_wp2_with fail
              go_roundw
              case rel => exact ⟨k, x + 1, rfl, by rw [HN.out], by go_num, by omega, by omega, Hn2, hAq, hIq⟩
              case measure => simp [intOf]; omega
            · rw [hS] at e1
              have HN := Lib.hid (mem_len_succ S x hS)
              have HX := Lib.hid (nx_at S k x 300 hkx hx3 hS Hn.out)
              have HSx := Lib.hid hS
              clear hS
              generalize (mem S 0 x).length = nn at *
              go_wp2_with fail
              refine (s_next _ (by omega) (by omega) hAq).mono ?_
              rw [Int.toNat_natCast, HX.out]
              rintro e w5 ⟨rfl, hA5, g5⟩
              have hI5 := hIq.kept g5 (by simp)
              clear hAq hIq e1
              go_wp2_with fail
              refine (s_has x hA5).mono ?_
              rw [HSx.out]
              rintro e w6 ⟨rfl, rfl⟩
              go_wp2_with fail
              go_roundw
              case rel => exact ⟨x + 1, x + 1, by go_num, by rw [HN.out]; go_num, by go_num, by omega, Nat.le_refl _, (fun y h1 h2 => by omega), hA5, hI5⟩
              case measure => simp [intOf]; omega
          · obtain rfl : x = 300 := by omega
            have HX := Lib.hid (nx_none S k 300 Hn.out)
            have HC : Hid (cnt (mem S 0 300) 300 = (mem S 0 300).length) := cnt_mem_big _ _ _ _ (by omega)
            have HC2 : Hid (cnt (mem S 0 300) 1099511627776 = (mem S 0 300).length) := cnt_mem_big _ _ _ _ (by omega)
            go_wp2_with fail
            refine (s_next _ (by omega) (by omega) hAq).mono ?_
            rw [Int.toNat_natCast, HX.out]
            rintro e w5 ⟨rfl, hA5, g5⟩
            go_wp2_with fail
            refine (s_count _ _ (by omega) (by omega) hA5).mono ?_
            rw [show (0 : Int).toNat = 0 from rfl, HC.out]
            rintro e w6 ⟨rfl, hA6, _⟩
            go_wp2_with fail
            refine (s_count _ _ (by omega) (by omega) hA6).mono ?_
            rw [show (-9 : Int).toNat = 0 from rfl, HC2.out]
            rintro e w7 ⟨rfl, hA7, _⟩
            go_wp2_with fail
            go_ret
            exact ⟨ret_bool (by simp), below_of hA7.gr⟩

/-- What the walk gives, for every argument and every world that holds the table. -/
theorem contract (H : Type) (enc : TypeId × Value → H) (W : World) (base : Nat) (args : Array Value) (ds gs : List (DataW H)) (before : List MemPlace)
    (hval : ∀ (j : Nat) t v, Tryd.f3.params[j]? = some t → args[j]? = some v → Value.okWide Tryd.prog W .any base t v)
    (hW : DataW.Whole enc Tryd.prog Tryd.f3.params.toList Rows.bitmapGoesSpec.vars false W args.toList ds gs before) (hL : laidMetH Tryd.prog Rows.bitmapGoesRow.laid W) :
    Calls Tryd.prog 3 args W fun e W' => ∃ v, e = .returned v ∧ Rows.bitmapGoesSpec.post enc Tryd.prog Tryd.f3 false true false false W args v W' := by
  have hW' := hW
  obtain ⟨p, q, hA0, hV, rfl, hfz, hnd⟩ := hW
  have hA : DataW.TrodAll enc Tryd.prog W 0 (fun _ => true) true Tryd.f3.params.toList args.toList ds p := hA0
  rw [Tryd.params3] at hA hval
  obtain ⟨v0, vs0, d0, ds0, p0, q0, hargs, rfl, rfl, h0, r0⟩ := trodAll_cons hA
  obtain ⟨rfl, rfl, rfl⟩ := trodAll_nil r0
  obtain rfl : args = #[v0] := by cases args; simp_all
  obtain ⟨rfl, rfl⟩ := trodVars_none hV
  have k0 := h0
  have lt0 : ∀ x ∈ p0, x.block < W.heap.size := by obtain ⟨m, hm⟩ := k0; exact DataW.trod_lt m _ _ _ hm
  obtain ⟨a, len, cap, rfl⟩ := okWide_slice Tryd.underlying22 (hval 0 22 v0 rfl rfl)
  obtain ⟨c, f, w0⟩ : ∃ c f, IsOps W a len c f := by
    obtain ⟨fuel, hf⟩ := h0
    exact open_ops hf
  clear hA0
  have hTab := tab_of hL
  refine (walk a len cap c f W hTab w0).mono fun e W' ⟨he, bel⟩ => ?_
  subst he
  exact ⟨_, rfl, _, _, _, [], _, [], hW', trodAll_mk1 (shut_bool Tryd.underlying4 _), (trodAll_cons_mk (Below.trod laidOut (by kernel_rfl) (of_decide_eq_true (by kernel_rfl)) k0 bel lt0) trodAll_mk0), rfl, bel.frame _, fun h => by cases h⟩

theorem laid_met (os : Os) : laidMet Tryd.prog Rows.bitmapGoesRow.laid ((laidWorld os).forCall (fun _ _ => 0) ⟨#[], #[.slice none 0 0], []⟩).memory :=
  laidMet_of_run' 8 (by kernel_rfl) (by kernel_rfl)
theorem reads (os : Os) {H : Type} (enc : TypeId × Value → H) : ∃ places, DataW.whole enc Tryd.prog ((laidWorld os).forCall (fun _ _ => 0) ⟨#[], #[.slice none 0 0], []⟩).memory Tryd.f3.params.toList Rows.bitmapGoesSpec.vars false (#[.slice none 0 0] : Array Value).toList 8 = some ([.nil], [], places) :=
  ⟨[], by kernel_rfl⟩

set_option maxRecDepth 100000 in
theorem lifted (os : Os) (started : os.Started) (H : Type) (enc : TypeId × Value → H) (F : Stop.Interp) :
    ReturnsInHanded {} Tryd.checked os 3 .any ((OpenSpec.ofChange Rows.bitmapGoesSpec).preRow enc Tryd.prog Tryd.f3 Rows.bitmapGoesRow.domain false Rows.bitmapGoesRow.laid) (((OpenSpec.ofChange Rows.bitmapGoesSpec).at F).post enc Tryd.prog Tryd.f3 false true false false) := by
  obtain ⟨places, hx⟩ := reads os enc
  refine returnsInHanded_of_row (C := Tryd.checked) (s := OpenSpec.ofChange Rows.bitmapGoesSpec) own started (by kernel_rfl) Tryd.func3
    (witness_row_at (enc := enc) (C := Tryd.checked) false (laidWorld os) #[.slice none 0 0] rfl (by kernel_rfl) (by kernel_rfl) (by kernel_rfl)
      (OpenSpec.preRow_of_cond 8 hx (by kernel_rfl) (fun k hk => by cases hk) (by kernel_rfl) (laid_met os))) ?_
  intro W base args ds gs before hval hW _ _ _ hL _ _
  exact contract H enc W base args ds gs before hval hW hL

theorem said : Rows.BitmapGoesSaid :=
  OpenClaim.holds_of_cond 3 Tryd.f3 rfl rfl rfl rfl rfl rfl rfl ⟨rfl, rfl, rfl, rfl, rfl⟩ rfl rfl rfl rfl rfl (by kernel_rfl) Tryd.func3 (by kernel_rfl)
    (of_decide_eq_true (by kernel_rfl)) (by unfold Func.isWrapper; first | (rw [if_pos (by decide +kernel)]; kernel_rfl) | (rw [if_neg (by decide +kernel)]; exact ⟨rfl, rfl⟩))
    (fun os started H enc _ F => by rw [OpenClaim.pre_eq_preRow]; exact lifted os started H enc F)

theorem plain (f : FuncId) (fn : Func) (hf : Tryd.pinned.checked.prog.funcNamed "middenheap/middenheaplaw03.BitmapGoes" = some f) (hfn : Tryd.pinned.checked.prog.funcs[f]? = some fn) :
    false = Tryd.pinned.checked.prog.looks [] ∧ ∀ (j : Nat) t, fn.params[j]? = some t → Tryd.pinned.checked.prog.wantsStandIn t = false := by
  obtain rfl : f = 3 := Option.some.inj ((show Tryd.prog.funcNamed "middenheap/middenheaplaw03.BitmapGoes" = some 3 by kernel_rfl).symm.trans hf) |>.symm
  obtain rfl : fn = Tryd.f3 := (Option.some.inj (Tryd.func3.symm.trans hfn)).symm
  refine ⟨by kernel_rfl, fun j t ht => ?_⟩
  rw [Tryd.params3] at ht
  have ht2 : t = 22 := by have := Array.mem_of_getElem? ht; simp at this; exact this
  rcases ht2 with rfl
  · exact (show Tryd.prog.wantsStandIn 22 = false by kernel_rfl)

theorem card : Rows.BitmapGoesCardSaid :=
  Claim7.holds_tied_plain_at .later [] _ _ _ _ said (fun _ h => by cases h) (by kernel_rfl) (fun _ h => by cases h) bitmapGoes_row_tie rfl ⟨rfl, rfl⟩ (by kernel_rfl) rfl plain (by kernel_rfl)
end Go.Proofs.YtbojcmaljodpmaaDoor.bitmapGoes

namespace Go.Proofs.YtbojcmaljodpmaaDoor
theorem BitmapGoes_holds : Rows.BitmapGoesCardSaid := bitmapGoes.card
#print axioms BitmapGoes_holds
end Go.Proofs.YtbojcmaljodpmaaDoor
