/-
  Come.
-/
import Derived.Test.YteieljkkcnpfmaaOwnModel
import Derived.Deep.Cut
namespace Go.Proofs.Yteieljkkcnpfmaa
open Go.ChangeShapes Go.WideShapes Go.ChangeAt Go.RowKit
set_option linter.unusedVariables false

def ComeP (w : World) (objs : List Ob) (Q : List (Int × Int)) (e : Ending) (w' : World) : Prop := ∃ v, e = .returned v ∧ RM w' v objs Q ∧ w.grownBy w' none
theorem one_it (x : Int × Int) : ∀ u ∈ it x, u.oneCell' = true := by
  intro u hu
  simp [it] at hu
  rcases hu with rfl | rfl <;> rfl
theorem its_snoc (Q : List (Int × Int)) (x : Int × Int) : its (Q ++ [x]) = its Q ++ it x := by simp [its]

set_option maxHeartbeats 4000000 in
theorem come_any (Ao Aq : Option Addr) (co cq : Nat) (L : List Ov) (Q : List (Int × Int)) (s q : Int) (w : World) (hL : RL w Ao L) (hQ : Rc w Aq Q.length 2 (its Q)) (hs : Sm L Q) :
    Calls Try.prog 16 #[.agg #[.slice Ao L.length co, .slice Aq Q.length cq], .int .i64 s, .int .i64 q] w (ComeP w (obs L) (Q ++ [(s, q)])) := by
  obtain ⟨Post, hPost⟩ : ∃ Post, Post = ComeP w (obs L) (Q ++ [(s, q)]) := ⟨_, rfl⟩
  rw [← hPost]
  have HPost := Lib.hid hPost
  clear hPost
  obtain ⟨wb, hwb⟩ : ∃ wb, wb = (w.alloc (.cells #[.slice Ao L.length co, .slice Aq Q.length cq] 29)).alloc (.cells #[.slice none 0 0, .slice none 0 0] 29) := ⟨_, rfl⟩
  have hg : w.grownBy wb none := by rw [hwb]; exact grownBy_trans (World.grownBy_alloc _ _ none) (World.grownBy_alloc _ _ none)
  have b1 : Blk wb w.heap.size 29 #[.slice Ao L.length co, .slice Aq Q.length cq] := by rw [hwb]; exact (Blk.new w 29 _).gb (World.grownBy_alloc _ _ none) (by simp)
  have b2 : Blk wb (w.heap.size + 1) 29 #[.slice none 0 0, .slice none 0 0] := by
    rw [hwb]; have := Blk.new (w.alloc (.cells #[.slice Ao L.length co, .slice Aq Q.length cq] 29)) 29 #[.slice none 0 0, .slice none 0 0]
    simpa using this
  have HSZ : Hid (wb.heap.size = w.heap.size + 2) := by rw [hwb]; unfold Hid; simp
  have m0 : wb.cell? ⟨w.heap.size, 0, none⟩ = some (.slice Ao L.length co) := b1.cell 0
  have m1 : wb.cell? ⟨w.heap.size, 1, none⟩ = some (.slice Aq Q.length cq) := b1.cell 1
  have HB2 := Lib.hid b2
  have HWB := Lib.hid hwb
  have HG := Lib.hid hg
  have HL := Lib.hid (hL.gb hg)
  have HQ := Lib.hid (hQ.gb hg)
  have HSM := Lib.hid hs
  have hq100 := hs.2.1
  clear hL hQ hs hg hwb b1 b2
  obtain ⟨i0, hi0, hz0, hz1, hz2⟩ := info_parts info43
  have HI := Lib.hid hi0; have HZ0 := Lib.hid hz0; have HZ1 := Lib.hid hz1; have HZ2 := Lib.hid hz2
  clear hi0 hz0 hz1 hz2
  go_enter Try.func16, Try.ntmps16
  go_upto_region 1 with (fail)
  rw [← HWB.out]
  clear HWB
  go_wp2_with fail
  refine (ownModel_any Ao Aq co cq L Q wb HL.out HQ.out HSM.out).mono ?_
  rintro e w2 ⟨vo, vq, L', rfl, hobs, hom, hg2⟩
  obtain ⟨A1, c1', rfl, -, -, -⟩ := Rc.of_own hom.row
  obtain ⟨A2, c2', rfl, -, -, -⟩ := Rc.of_own hom.que
  have hsz2 := hg2.size
  have hgW : w2.grownBy ((w2.alloc (.cells #[.slice A1 L'.length c1', .slice A2 Q.length c2'] 29)).alloc (.cells #[.int .i64 s, .int .i64 q] 43)) none := grownBy_trans (World.grownBy_alloc _ _ none) (World.grownBy_alloc _ _ none)
  have hbB : Blk ((w2.alloc (.cells #[.slice A1 L'.length c1', .slice A2 Q.length c2'] 29)).alloc (.cells #[.int .i64 s, .int .i64 q] 43)) w2.heap.size 29 #[.slice A1 L'.length c1', .slice A2 Q.length c2'] := (Blk.new w2 29 _).gb (World.grownBy_alloc _ _ none) (by simp)
  have hbE : Blk ((w2.alloc (.cells #[.slice A1 L'.length c1', .slice A2 Q.length c2'] 29)).alloc (.cells #[.int .i64 s, .int .i64 q] 43)) (w2.heap.size + 1) 43 (it (s, q)).toArray := by
    have := Blk.new (w2.alloc (.cells #[.slice A1 L'.length c1', .slice A2 Q.length c2'] 29)) 43 #[.int .i64 s, .int .i64 q]
    simp at this
    exact this
  have hom4 := hom.gb hgW
  have HROW := Lib.hid (own_gb0 hom.que hgW)
  have HCE : Hid (∀ j u, (it (s, q))[j]? = some u → ((w2.alloc (.cells #[.slice A1 L'.length c1', .slice A2 Q.length c2'] 29)).alloc (.cells #[.int .i64 s, .int .i64 q] 43)).cell? ((⟨w2.heap.size + 1, 0, none⟩ : Addr).add j) = some u) := fun j u hu => by
    rw [Addr.add_lit, Nat.zero_add, hbE.cell]; simpa using hu
  have HSZ4 : Hid (((w2.alloc (.cells #[.slice A1 L'.length c1', .slice A2 Q.length c2'] 29)).alloc (.cells #[.int .i64 s, .int .i64 q] 43)).heap.size = w2.heap.size + 2) := by unfold Hid; simp
  have HOM := Lib.hid hom4
  have HBB := Lib.hid hbB
  have HR2 : Hid (Blk ((w2.alloc (.cells #[.slice A1 L'.length c1', .slice A2 Q.length c2'] 29)).alloc (.cells #[.int .i64 s, .int .i64 q] 43)) (w.heap.size + 1) 29 #[.slice none 0 0, .slice none 0 0]) := HB2.out.gb (grownBy_trans hg2 hgW) (by simp)
  have HGW : Hid (w.grownBy ((w2.alloc (.cells #[.slice A1 L'.length c1', .slice A2 Q.length c2'] 29)).alloc (.cells #[.int .i64 s, .int .i64 q] 43)) none) := grownBy_trans HG.out (grownBy_trans hg2 hgW)
  have HOBS := Lib.hid hobs
  have x1 : (w2.alloc (.cells #[.slice A1 L'.length c1', .slice A2 Q.length c2'] 29)).cell? ⟨w2.heap.size, 1, none⟩ = some (.slice A2 Q.length c2') := (Blk.new w2 29 #[.slice A1 L'.length c1', .slice A2 Q.length c2']).cell 1
  clear hobs hom hg2 hgW hbB hbE hom4
  go_wp2_with (at_builtin; go_must (refine wpList_append_lies _ rfl _ _ 23 rfl 0 43 i0 (.agg #[.int .i64 0, .int .i64 0]) 2 16 Try.underlying23 HI.out HZ0.out HZ1.out HZ2.out rfl (by decide) (.slice A2 Q.length c2') Q.length (its Q) rfl HROW.out ⟨w2.heap.size + 1, 0, none⟩ 1 1 (it (s, q)) rfl rfl HCE.out (one_it _) (by omega) (by unfold maxLen; omega) (by omega) (by omega) (w2.heap.size + 2) HSZ4.out ?_); intro g cap w8 hown8 g8 hat8 hlt8; have hZ8 : Zf (fun k => (Value.slice A2 Q.length c2').ownBlock = some k) ((w2.alloc (.cells #[.slice A1 L'.length c1', .slice A2 Q.length c2'] 29)).alloc (.cells #[.int .i64 s, .int .i64 q] 43)) w8 := Zf.of_gb g8 (fun z e => e); have hb8 := HBB.out.zf hZ8 (fun e => by have := HOM.out.zq _ e; omega); have c80 : w8.cell? ⟨w2.heap.size, 0, none⟩ = some (.slice A1 L'.length c1') := hb8.cell 0; have c8 : w8.cell? ⟨w2.heap.size, 1, none⟩ = some (.slice A2 Q.length c2') := hb8.cell 1; have f8 := hb8.free 1; have r8 := HR2.out.zf hZ8 (fun e => by have := HOM.out.zq _ e; have := HSZ.out; omega); have s0 : w8.cell? ⟨w.heap.size + 1, 0, none⟩ = some (.slice none 0 0) := r8.cell 0; have s1 : w8.cell? ⟨w.heap.size + 1, 1, none⟩ = some (.slice none 0 0) := r8.cell 1; have sf0 := r8.free 0; have sf1 := r8.free 1; have hnB : ¬ w.heap.size + 1 = w2.heap.size := (by have := HSZ.out; omega); have HO8 := Lib.hid hown8; have HZ8 := Lib.hid hZ8; have HAT := Lib.hid hat8; clear hown8 g8 hat8 hlt8 hZ8 hb8 r8)
  rw [HPost.out]
  refine bodyPost_ret (v := .agg #[.slice A1 L'.length c1', .slice (some ⟨g, 0, none⟩) (Q.length + 1) cap]) (by simp [results, Try.results16, go_sem, s0, s1]) rfl ?_
  have f2 : Zf (fun k => k = w2.heap.size ∨ k = w.heap.size + 1) w8 _ := ((((Zf.refl (fun k => k = w2.heap.size ∨ k = w.heap.size + 1) w8).set (g := w2.heap.size) (i := 1) (u := .slice (some ⟨g, 0, none⟩) (Q.length + 1) cap) (.inl rfl)).set (g := w.heap.size + 1) (i := 0) (u := .slice A1 L'.length c1') (.inr rfl)).set (g := w.heap.size + 1) (i := 1) (u := .slice (some ⟨g, 0, none⟩) (Q.length + 1) cap) (.inr rfl))
  have hsz := HSZ.out
  have hz : ∀ k, (wb.heap.size ≤ k ∧ k < w2.heap.size) → ¬ (k = w2.heap.size ∨ k = w.heap.size + 1) := fun k hk e => by omega
  have hrow := HOM.out.row
  have hq8 : ∀ z, (Value.slice A2 Q.length c2').ownBlock = some z → wb.heap.size ≤ z ∧ z < w2.heap.size := fun z e => HOM.out.zq z e
  have o1 := own_zf (own_zf hrow HZ8.out (fun b e k => own_own hrow HROW.out (by decide) e k)) f2 (fun b e => hz b (HOM.out.zo b e))
  have o2 := (HOM.out.os.zf HZ8.out (fun v hv b e k => by obtain ⟨n', xs', hv'⟩ := HOM.out.os.own hv; exact own_own hv' HROW.out (by decide) e k)).zf f2 (fun v hv b e => hz b (HOM.out.os.z v hv b e))
  have o3 := own_zf HO8.out f2 (fun b e k => by
    have e' : g = b := by simpa [Value.ownBlock] using e
    rcases HAT.out with x | x
    · exact hz g (hq8 g x) (e' ▸ k)
    · omega)
  rw [← HOBS.out]
  refine ⟨_, rfl, ?_, Zf.gb (Zf.gb HGW.out HZ8.out (fun k hk => by have := hq8 k hk; omega)) f2 (fun k hk => by omega)⟩
  obtain ⟨A3, c3, e3, r3, -, -⟩ := Rc.of_own o1
  cases e3
  have hl : (Q ++ [(s, q)]).length = Q.length + 1 := by simp
  refine ⟨A1, c1', some ⟨g, 0, none⟩, cap, L', by rw [hl], rfl, ⟨r3, o2.ro⟩, ?_⟩
  obtain ⟨A4, c4, e4, r4, -, -⟩ := Rc.of_own o3
  cases e4
  rw [hl, its_snoc]
  exact r4
end Go.Proofs.Yteieljkkcnpfmaa
