/-
A begin, a commit taken by a receiver: the program's answer.
-/
import Derived.Test.YtdlhaidlokkmnaaGreatDoorP32
import Derived.Test.YtdlhaidlokkmnaaGreatDoorP20
import Derived.Test.YtdlhaidlokkmnaaGreatDoorP30
import Derived.Test.YtdlhaidlokkmnaaGreatDoorP26
set_option maxRecDepth 100000
set_option maxHeartbeats 16000000
namespace Go.Proofs.YtdlhaidlokkmnaaGreatDoor
open Go.RowKit
theorem begin_any (rv kg : Nat) (w : World) (h : Blk w rv #[.pointer (some ⟨kg, 0, none⟩), .int .u32 0, .pointer none, .slice none 0 0] 169) :
    Calls Tryz.prog 81 #[.pointer (some ⟨rv, 0, none⟩), .agg #[.int .u8 66, .int .u32 5, .int .u64 0, .int .u32 0, .int .u32 0, .int .u32 0, .string ⟨#[]⟩, .int .u8 0, .slice none 0 0, .int .u8 0, .int .u32 0, .int .u32 0, .int .u8 0, .slice none 0 0, .slice none 0 0, .slice none 0 0, .int .u8 0]] w fun e w' => ∃ tb, e = .returned (.int .i64 0) ∧ Blk w' tb #[.int .u32 5, .int .u64 0, .slice none 0 0] 81 ∧ Blk w' rv #[.pointer (some ⟨kg, 0, none⟩), .int .u32 0, .pointer (some ⟨tb, 0, none⟩), .slice none 0 0] 169 ∧ Kp (fun k => k = rv) w w' := by
  have HR := Hm (h.ext (show Ext w (w.alloc (.cells #[.int .u8 66, .int .u32 5, .int .u64 0, .int .u32 0, .int .u32 0, .int .u32 0, .string ⟨#[]⟩, .int .u8 0, .slice none 0 0, .int .u8 0, .int .u32 0, .int .u32 0, .int .u8 0, .slice none 0 0, .slice none 0 0, .slice none 0 0, .int .u8 0] 76)) from (Ext.refl w).alloc _))
  have HM := Hm (Blk.new w #[.int .u8 66, .int .u32 5, .int .u64 0, .int .u32 0, .int .u32 0, .int .u32 0, .string ⟨#[]⟩, .int .u8 0, .slice none 0 0, .int .u8 0, .int .u32 0, .int .u32 0, .int .u8 0, .slice none 0 0, .slice none 0 0, .slice none 0 0, .int .u8 0] 76)
  have HE := Hm (show Ext w (w.alloc (.cells #[.int .u8 66, .int .u32 5, .int .u64 0, .int .u32 0, .int .u32 0, .int .u32 0, .string ⟨#[]⟩, .int .u8 0, .slice none 0 0, .int .u8 0, .int .u32 0, .int .u32 0, .int .u8 0, .slice none 0 0, .slice none 0 0, .slice none 0 0, .int .u8 0] 76)) from (Ext.refl w).alloc _)
  have hrv := h.lt
  clear h
  go_enter Tryz.func81, Tryz.ntmps81
  go_upto_region 1 with (fail)
  obtain ⟨w1, hw1⟩ : ∃ W, W = w.alloc (.cells #[.int .u8 66, .int .u32 5, .int .u64 0, .int .u32 0, .int .u32 0, .int .u32 0, .string ⟨#[]⟩, .int .u8 0, .slice none 0 0, .int .u8 0, .int .u32 0, .int .u32 0, .int .u8 0, .slice none 0 0, .slice none 0 0, .slice none 0 0, .int .u8 0] 76) := ⟨_, rfl⟩
  rw [← hw1] at HR HM HE ⊢
  have hz1 : w.heap.size < w1.heap.size := HM.out.lt
  clear hw1
  have r0 := HR.out.cell
  have rz := HR.out.lt
  have m0 := HM.out.cell
  have mz := HM.out.lt
  go_region_held3 (fun w' => Ext (w1) w' ∧ (∀ b o, b < (w1).heap.size → w'.cell? ⟨b, o, none⟩ = (w1).cell? ⟨b, o, none⟩) ∧ (∀ b o, b < (w1).heap.size → w'.frozen? ⟨b, o, none⟩ = (w1).frozen? ⟨b, o, none⟩)) ((exact held_of (by exact eX))) (fail)
  have HE2 := Hm (show Ext w w1.drew from HE.out.drew)
  have HR2 := Hm (show Blk w1.drew rv _ 169 from Blk.drew HR.out)
  have HM2 := Hm (show Blk w1.drew w.heap.size #[.int .u8 66, .int .u32 5, .int .u64 0, .int .u32 0, .int .u32 0, .int .u32 0, .string ⟨#[]⟩, .int .u8 0, .slice none 0 0, .int .u8 0, .int .u32 0, .int .u32 0, .int .u8 0, .slice none 0 0, .slice none 0 0, .slice none 0 0, .int .u8 0] 76 from Blk.drew HM.out)
  clear r0 rz m0 mz HR HM HE
  obtain ⟨w2, hw2⟩ : ∃ W, W = w1.drew := ⟨_, rfl⟩
  rw [← hw2] at HE2 HR2 HM2 ⊢
  have hz2 : w.heap.size < w2.heap.size := HM2.out.lt
  clear hw2
  have r0 := HR2.out.cell
  have rf := HR2.out.frozen
  have rz := HR2.out.lt
  have m0 := HM2.out.cell
  have mz := HM2.out.lt
  go_wp2
  have hb1 : Blk ((w2.setCell ⟨rv, 2, none⟩ (.pointer (some ⟨w2.heap.size, 0, none⟩))).alloc (.cells #[.int .u32 5, .int .u64 0, .slice none 0 0] 81)) w2.heap.size #[.int .u32 5, .int .u64 0, .slice none 0 0] 81 := Blk.new' _ _ (by simp)
  have hb2 : Blk ((w2.setCell ⟨rv, 2, none⟩ (.pointer (some ⟨w2.heap.size, 0, none⟩))).alloc (.cells #[.int .u32 5, .int .u64 0, .slice none 0 0] 81)) rv #[.pointer (some ⟨kg, 0, none⟩), .int .u32 0, .pointer (some ⟨w2.heap.size, 0, none⟩), .slice none 0 0] 169 := by
    have h := (HR2.out.set 2 (.pointer (some ⟨w2.heap.size, 0, none⟩))).alloc (.cells #[.int .u32 5, .int .u64 0, .slice none 0 0] 81)
    simpa using h
  have hk : Kp (fun k => k = rv) w ((w2.setCell ⟨rv, 2, none⟩ (.pointer (some ⟨w2.heap.size, 0, none⟩))).alloc (.cells #[.int .u32 5, .int .u64 0, .slice none 0 0] 81)) := ((Kp.of_ext (S := fun k => k = rv) HE2.out).trans (Kp.set (S := fun k => k = rv) _ _ rfl) (fun _ h _ => h)).trans (Kp.of_ext ((Ext.refl _).alloc _)) (fun _ h _ => h)
  clear r0 rf rz m0 mz
  go_ret
  exact ⟨_, rfl, hb1, hb2, hk⟩
theorem commit_any (rv kg tb : Nat) (w : World) (h : Blk w rv #[.pointer (some ⟨kg, 0, none⟩), .int .u32 0, .pointer (some ⟨tb, 0, none⟩), .slice none 0 0] 169) (ht : Blk w tb #[.int .u32 5, .int .u64 0, .slice none 0 0] 81) :
    Calls Tryz.prog 83 #[.pointer (some ⟨rv, 0, none⟩), .agg #[.int .u8 67, .int .u32 5, .int .u64 0, .int .u32 0, .int .u32 0, .int .u32 0, .string ⟨#[]⟩, .int .u8 0, .slice none 0 0, .int .u8 0, .int .u32 0, .int .u32 0, .int .u8 0, .slice none 0 0, .slice none 0 0, .slice none 0 0, .int .u8 0]] w fun e w' => e = .returned (.int .i64 0) ∧ Ext w w' := by
  have HR := Hm (h.ext (show Ext w (w.alloc (.cells #[.int .u8 67, .int .u32 5, .int .u64 0, .int .u32 0, .int .u32 0, .int .u32 0, .string ⟨#[]⟩, .int .u8 0, .slice none 0 0, .int .u8 0, .int .u32 0, .int .u32 0, .int .u8 0, .slice none 0 0, .slice none 0 0, .slice none 0 0, .int .u8 0] 76)) from (Ext.refl w).alloc _))
  have HT := Hm (ht.ext (show Ext w (w.alloc (.cells #[.int .u8 67, .int .u32 5, .int .u64 0, .int .u32 0, .int .u32 0, .int .u32 0, .string ⟨#[]⟩, .int .u8 0, .slice none 0 0, .int .u8 0, .int .u32 0, .int .u32 0, .int .u8 0, .slice none 0 0, .slice none 0 0, .slice none 0 0, .int .u8 0] 76)) from (Ext.refl w).alloc _))
  have HM := Hm (Blk.new w #[.int .u8 67, .int .u32 5, .int .u64 0, .int .u32 0, .int .u32 0, .int .u32 0, .string ⟨#[]⟩, .int .u8 0, .slice none 0 0, .int .u8 0, .int .u32 0, .int .u32 0, .int .u8 0, .slice none 0 0, .slice none 0 0, .slice none 0 0, .int .u8 0] 76)
  have HE := Hm (show Ext w (w.alloc (.cells #[.int .u8 67, .int .u32 5, .int .u64 0, .int .u32 0, .int .u32 0, .int .u32 0, .string ⟨#[]⟩, .int .u8 0, .slice none 0 0, .int .u8 0, .int .u32 0, .int .u32 0, .int .u8 0, .slice none 0 0, .slice none 0 0, .slice none 0 0, .int .u8 0] 76)) from (Ext.refl w).alloc _)
  have hrv := h.lt
  have htb := ht.lt
  have hw0 : IntKind.i64.wrap 0 = 0 := by decide
  have c0 := h.cell
  have c0t := ht.cell
  clear h ht
  go_enter Tryz.func83, Tryz.ntmps83
  go_upto_region 3 with (fail)
  clear c0 c0t
  obtain ⟨w1, hw1⟩ : ∃ W, W = w.alloc (.cells #[.int .u8 67, .int .u32 5, .int .u64 0, .int .u32 0, .int .u32 0, .int .u32 0, .string ⟨#[]⟩, .int .u8 0, .slice none 0 0, .int .u8 0, .int .u32 0, .int .u32 0, .int .u8 0, .slice none 0 0, .slice none 0 0, .slice none 0 0, .int .u8 0] 76) := ⟨_, rfl⟩
  rw [← hw1] at HR HM HE HT ⊢
  have hz1 : w.heap.size < w1.heap.size := HM.out.lt
  clear hw1
  have r0 := HR.out.cell
  have rz := HR.out.lt
  have t0 := HT.out.cell
  have tz := HT.out.lt
  have m0 := HM.out.cell
  have mz := HM.out.lt
  go_region_held3 (fun w' => Ext (w1) w' ∧ (∀ b o, b < (w1).heap.size → w'.cell? ⟨b, o, none⟩ = (w1).cell? ⟨b, o, none⟩) ∧ (∀ b o, b < (w1).heap.size → w'.frozen? ⟨b, o, none⟩ = (w1).frozen? ⟨b, o, none⟩)) ((exact held_of (by exact eX))) (fail)
  clear r0 rz m0 mz t0 tz
  have HE2 := Hm (show Ext w w1.drew from HE.out.drew)
  have HR2 := Hm (show Blk w1.drew rv _ 169 from Blk.drew HR.out)
  have HT2 := Hm (show Blk w1.drew tb _ 81 from Blk.drew HT.out)
  have HM2 := Hm (show Blk w1.drew w.heap.size #[.int .u8 67, .int .u32 5, .int .u64 0, .int .u32 0, .int .u32 0, .int .u32 0, .string ⟨#[]⟩, .int .u8 0, .slice none 0 0, .int .u8 0, .int .u32 0, .int .u32 0, .int .u8 0, .slice none 0 0, .slice none 0 0, .slice none 0 0, .int .u8 0] 76 from Blk.drew HM.out)
  obtain ⟨w2, hw2⟩ : ∃ W, W = w1.drew := ⟨_, rfl⟩
  rw [← hw2] at HE2 HR2 HM2 HT2 ⊢
  clear hw2 HR HM HE HT hz1
  have hz2 : w.heap.size < w2.heap.size := HM2.out.lt
  have r0 := HR2.out.cell
  have rz := HR2.out.lt
  have t0 := HT2.out.cell
  have tz := HT2.out.lt
  have m0 := HM2.out.cell
  have mz := HM2.out.lt
  go_upto_region 5 with (fail)
  go_region_held3 (fun w' => Ext (w2) w' ∧ (∀ b o, b < (w2).heap.size → w'.cell? ⟨b, o, none⟩ = (w2).cell? ⟨b, o, none⟩) ∧ (∀ b o, b < (w2).heap.size → w'.frozen? ⟨b, o, none⟩ = (w2).frozen? ⟨b, o, none⟩)) ((exact held_of (by exact eX))) (fail)
  clear r0 rz m0 mz t0 tz
  go_wp2
  go_ret
  exact ⟨rfl, HE2.out.drew⟩
theorem takeB_any (rv kg bb o cp M : Nat) (c : Value) (ps : List RR) (w : World) (h : Blk w rv #[.pointer (some ⟨kg, 0, none⟩), .int .u32 0, .pointer none, .slice none 0 0] 169) (hs : Sl w (.slice (some ⟨bb, o, none⟩) 30 cp) 1 (msgBC.map bcell)) (hcp : 30 ≤ cp) (hk : Kin w) (hc : Ca w M kg c ps) :
    Calls Tryz.prog 53 #[.pointer (some ⟨rv, 0, none⟩), .slice (some ⟨bb, o, none⟩) 30 cp] w fun e w' => ∃ tb, e = .returned (.tuple #[.agg #[.int .u32 0, .int .u64 0, .slice none 0 0], .bool false, .int .i64 17, .int .i64 0]) ∧ Blk w' tb #[.int .u32 5, .int .u64 0, .slice none 0 0] 81 ∧ Blk w' rv #[.pointer (some ⟨kg, 0, none⟩), .int .u32 0, .pointer (some ⟨tb, 0, none⟩), .slice none 0 0] 169 ∧ Kp (fun k => k = rv) w w' := by
  have HPA := Hm (fun W (h : Ext w W) => show Calls Tryz.prog 79 #[.pointer (some ⟨kg, 0, none⟩), .slice (some ⟨bb, o, none⟩) 30 cp] W (fun e w' => e = .returned (.tuple #[.agg #[.int .u8 66, .int .u32 5, .int .u64 0, .int .u32 0, .int .u32 0, .int .u32 0, .string ⟨#[]⟩, .int .u8 0, .slice none 0 0, .int .u8 0, .int .u32 0, .int .u32 0, .int .u8 0, .slice none 0 0, .slice none 0 0, .slice none 0 0, .int .u8 0], .int .i64 17, .int .i64 0]) ∧ Ext W w') from parseB_any bb o cp M kg c ps W (hs.ext h) hcp (hk.ext h) (hc.ext h))
  have HBG := Hm (fun W (h : Blk W rv #[.pointer (some ⟨kg, 0, none⟩), .int .u32 0, .pointer none, .slice none 0 0] 169) => begin_any rv kg W h)
  have HR := Hm h
  have HT0 := Hm (Blk.new w #[.int .u32 0, .int .u64 0, .slice none 0 0] 81)
  have hrv := h.lt
  have r0 := (h.alloc (.cells #[.int .u32 0, .int .u64 0, .slice none 0 0] 81)).cell
  have rz := (h.alloc (.cells #[.int .u32 0, .int .u64 0, .slice none 0 0] 81)).lt
  have hmf : ∀ (fn : Fn) (first cap : Array Value) (w : World), (Instr.makeFunc fn first cap).run Tryz.prog w = .ok (.func fn first cap) w := fun _ _ _ _ => rfl
  clear h hs hk hc
  go_enter Tryz.func53, Tryz.ntmps53
  go_upto_region 2 with (go_at_call 79; refine (HPA.out _ (by exact eX)).mono ?_; rintro e w1 ⟨rfl, hb1⟩; have HX1 := Hm (show Ext w w1 by exact eX); have HT1 := Hm (HT0.out.ext hb1); clear hb1)
  have HM2 := Hm (Blk.new w1 #[.int .u8 66, .int .u32 5, .int .u64 0, .int .u32 0, .int .u32 0, .int .u32 0, .string ⟨#[]⟩, .int .u8 0, .slice none 0 0, .int .u8 0, .int .u32 0, .int .u32 0, .int .u8 0, .slice none 0 0, .slice none 0 0, .slice none 0 0, .int .u8 0] 76)
  have HX2 := Hm (show Ext w (w1.alloc (.cells #[.int .u8 66, .int .u32 5, .int .u64 0, .int .u32 0, .int .u32 0, .int .u32 0, .string ⟨#[]⟩, .int .u8 0, .slice none 0 0, .int .u8 0, .int .u32 0, .int .u32 0, .int .u8 0, .slice none 0 0, .slice none 0 0, .slice none 0 0, .int .u8 0] 76)) from HX1.out.alloc _)
  have HR2 := Hm (HR.out.ext HX2.out)
  have HT2 := Hm (HT1.out.alloc (.cells #[.int .u8 66, .int .u32 5, .int .u64 0, .int .u32 0, .int .u32 0, .int .u32 0, .string ⟨#[]⟩, .int .u8 0, .slice none 0 0, .int .u8 0, .int .u32 0, .int .u32 0, .int .u8 0, .slice none 0 0, .slice none 0 0, .slice none 0 0, .int .u8 0] 76))
  have hne : w.heap.size < w1.heap.size := HT1.out.lt
  obtain ⟨X, hX⟩ : ∃ X, X = w1.heap.size := ⟨_, rfl⟩
  obtain ⟨w2, hw2⟩ : ∃ W, W = w1.alloc (.cells #[.int .u8 66, .int .u32 5, .int .u64 0, .int .u32 0, .int .u32 0, .int .u32 0, .string ⟨#[]⟩, .int .u8 0, .slice none 0 0, .int .u8 0, .int .u32 0, .int .u32 0, .int .u8 0, .slice none 0 0, .slice none 0 0, .slice none 0 0, .int .u8 0] 76) := ⟨_, rfl⟩
  rw [← hX, ← hw2] at HM2
  rw [← hw2] at HX2 HR2 HT2
  rw [← hX, ← hw2]
  rw [← hX] at hne
  clear hX hw2 r0 rz HT0 HT1 HX1 HPA HR
  have m0 := HM2.out.cell
  have mz := HM2.out.lt
  go_wp2_with (first
    | (refine wpList_load_to rfl 76 (.tmp 8) rfl _ _ ?e1 (load17 HM2.out) ?_; (case e1 => go_simp))
    | (go_at_call 81; refine (HBG.out _ HR2.out).mono ?_; rintro e w3 ⟨tb, rfl, hb, hr, hk⟩; have HT3 := Hm hb; have HR3 := Hm hr; have HK3 := Hm hk; have HM3 := Hm (HM2.out.kp hk (show ¬ X = rv by omega)); have HZ3 := Hm (HT2.out.kp hk (show ¬ w.heap.size = rv by omega)); have m3 := HM3.out.cell; have mz3 := HM3.out.lt; have z3 := HZ3.out.cell; have z3f := HZ3.out.frozen; have z3z := HZ3.out.lt; clear hb hr hk m0 mz))
  have hb4 : Blk (((w3.setCell ⟨w.heap.size, 0, none⟩ (.int .u32 0)).setCell ⟨w.heap.size, 1, none⟩ (.int .u64 0)).setCell ⟨w.heap.size, 2, none⟩ (.slice none 0 0)) w.heap.size #[.int .u32 0, .int .u64 0, .slice none 0 0] 81 := by
    simpa using ((HZ3.out.set 0 (.int .u32 0)).set 1 (.int .u64 0)).set 2 (.slice none 0 0)
  have hk4 : Kp (fun k => k = w.heap.size) w3 (((w3.setCell ⟨w.heap.size, 0, none⟩ (.int .u32 0)).setCell ⟨w.heap.size, 1, none⟩ (.int .u64 0)).setCell ⟨w.heap.size, 2, none⟩ (.slice none 0 0)) := ((Kp.set (S := fun k => k = w.heap.size) _ _ rfl).setS rfl _).setS rfl _
  have htn : tb ≠ w.heap.size := fun e => by
    have h1 := HT3.out
    have h2 := HZ3.out
    rw [e] at h1
    unfold Blk at h1 h2
    rw [h1] at h2
    simp at h2
  have hkw : Kp (fun k => k = rv) w (((w3.setCell ⟨w.heap.size, 0, none⟩ (.int .u32 0)).setCell ⟨w.heap.size, 1, none⟩ (.int .u64 0)).setCell ⟨w.heap.size, 2, none⟩ (.slice none 0 0)) := ((((Kp.of_ext (S := fun k => k = rv) HX2.out).trans HK3.out (fun _ h _ => h)).setNew (Nat.le_refl _) _).setNew (Nat.le_refl _) _).setNew (Nat.le_refl _) _
  clear m3 mz3 z3 z3f z3z
  obtain ⟨w4, hw4⟩ : ∃ W, W = ((w3.setCell ⟨w.heap.size, 0, none⟩ (.int .u32 0)).setCell ⟨w.heap.size, 1, none⟩ (.int .u64 0)).setCell ⟨w.heap.size, 2, none⟩ (.slice none 0 0) := ⟨_, rfl⟩
  rw [← hw4] at hb4 hk4 hkw ⊢
  clear hw4
  have c0 := hb4.cell 0
  have c1 := hb4.cell 1
  have c2 := hb4.cell 2
  simp at c0 c1 c2
  have HF := Hm (show Blk w4 tb #[.int .u32 5, .int .u64 0, .slice none 0 0] 81 ∧ Blk w4 rv #[.pointer (some ⟨kg, 0, none⟩), .int .u32 0, .pointer (some ⟨tb, 0, none⟩), .slice none 0 0] 169 ∧ Kp (fun k => k = rv) w w4 from ⟨HT3.out.kp hk4 htn, HR3.out.kp hk4 (show ¬ rv = w.heap.size by omega), hkw⟩)
  simp [bodyPost, results, Tryz.results53, go_sem, c0, c1, c2]
  exact ⟨tb, HF.out⟩
theorem takeC_any (rv kg tb bb o cp M : Nat) (c : Value) (ps : List RR) (w : World) (h : Blk w rv #[.pointer (some ⟨kg, 0, none⟩), .int .u32 0, .pointer (some ⟨tb, 0, none⟩), .slice none 0 0] 169) (ht : Blk w tb #[.int .u32 5, .int .u64 0, .slice none 0 0] 81) (hs : Sl w (.slice (some ⟨bb, o, none⟩) 13 cp) 1 (msgC1.map bcell)) (hcp : 13 ≤ cp) (hk : Kin w) (hc : Ca w M kg c ps) :
    Calls Tryz.prog 53 #[.pointer (some ⟨rv, 0, none⟩), .slice (some ⟨bb, o, none⟩) 13 cp] w fun e w' => e = .returned (.tuple #[.agg #[.int .u32 5, .int .u64 0, .slice none 0 0], .bool true, .int .i64 13, .int .i64 0]) ∧ Blk w' rv #[.pointer (some ⟨kg, 0, none⟩), .int .u32 5, .pointer none, .slice none 0 0] 169 ∧ Kp (fun k => k = rv) w w' := by
  have HPA := Hm (fun W (h : Ext w W) => show Calls Tryz.prog 79 #[.pointer (some ⟨kg, 0, none⟩), .slice (some ⟨bb, o, none⟩) 13 cp] W (fun e w' => e = .returned (.tuple #[.agg #[.int .u8 67, .int .u32 5, .int .u64 0, .int .u32 0, .int .u32 0, .int .u32 0, .string ⟨#[]⟩, .int .u8 0, .slice none 0 0, .int .u8 0, .int .u32 0, .int .u32 0, .int .u8 0, .slice none 0 0, .slice none 0 0, .slice none 0 0, .int .u8 0], .int .i64 13, .int .i64 0]) ∧ Ext W w') from parseC_any bb o cp M kg c ps W (hs.ext h) hcp (hk.ext h) (hc.ext h))
  have HCM := Hm (fun W (h : Blk W rv #[.pointer (some ⟨kg, 0, none⟩), .int .u32 0, .pointer (some ⟨tb, 0, none⟩), .slice none 0 0] 169) (ht : Blk W tb #[.int .u32 5, .int .u64 0, .slice none 0 0] 81) => commit_any rv kg tb W h ht)
  have HR := Hm h
  have HT := Hm ht
  have HT0 := Hm (Blk.new w #[.int .u32 0, .int .u64 0, .slice none 0 0] 81)
  have hrv := h.lt
  have htb := ht.lt
  have r0 := (h.alloc (.cells #[.int .u32 0, .int .u64 0, .slice none 0 0] 81)).cell
  have rz := (h.alloc (.cells #[.int .u32 0, .int .u64 0, .slice none 0 0] 81)).lt
  have hmf : ∀ (fn : Fn) (first cap : Array Value) (w : World), (Instr.makeFunc fn first cap).run Tryz.prog w = .ok (.func fn first cap) w := fun _ _ _ _ => rfl
  have hrt : tb ≠ rv := fun e => by
    subst e
    unfold Blk at h ht
    rw [h] at ht
    simp at ht
  clear h hs hk hc ht
  go_enter Tryz.func53, Tryz.ntmps53
  go_upto_region 2 with (go_at_call 79; refine (HPA.out _ (by exact eX)).mono ?_; rintro e w1 ⟨rfl, hb1⟩; have HX1 := Hm (show Ext w w1 by exact eX); have HT1 := Hm (HT0.out.ext hb1); clear hb1)
  have HM2 := Hm (Blk.new w1 #[.int .u8 67, .int .u32 5, .int .u64 0, .int .u32 0, .int .u32 0, .int .u32 0, .string ⟨#[]⟩, .int .u8 0, .slice none 0 0, .int .u8 0, .int .u32 0, .int .u32 0, .int .u8 0, .slice none 0 0, .slice none 0 0, .slice none 0 0, .int .u8 0] 76)
  have HX2 := Hm (show Ext w (w1.alloc (.cells #[.int .u8 67, .int .u32 5, .int .u64 0, .int .u32 0, .int .u32 0, .int .u32 0, .string ⟨#[]⟩, .int .u8 0, .slice none 0 0, .int .u8 0, .int .u32 0, .int .u32 0, .int .u8 0, .slice none 0 0, .slice none 0 0, .slice none 0 0, .int .u8 0] 76)) from HX1.out.alloc _)
  have HR2 := Hm (HR.out.ext HX2.out)
  have HB2 := Hm (HT.out.ext HX2.out)
  have HT2 := Hm (HT1.out.alloc (.cells #[.int .u8 67, .int .u32 5, .int .u64 0, .int .u32 0, .int .u32 0, .int .u32 0, .string ⟨#[]⟩, .int .u8 0, .slice none 0 0, .int .u8 0, .int .u32 0, .int .u32 0, .int .u8 0, .slice none 0 0, .slice none 0 0, .slice none 0 0, .int .u8 0] 76))
  have hne : w.heap.size < w1.heap.size := HT1.out.lt
  obtain ⟨X, hX⟩ : ∃ X, X = w1.heap.size := ⟨_, rfl⟩
  obtain ⟨w2, hw2⟩ : ∃ W, W = w1.alloc (.cells #[.int .u8 67, .int .u32 5, .int .u64 0, .int .u32 0, .int .u32 0, .int .u32 0, .string ⟨#[]⟩, .int .u8 0, .slice none 0 0, .int .u8 0, .int .u32 0, .int .u32 0, .int .u8 0, .slice none 0 0, .slice none 0 0, .slice none 0 0, .int .u8 0] 76) := ⟨_, rfl⟩
  rw [← hX, ← hw2] at HM2
  rw [← hw2] at HX2 HR2 HT2 HB2
  rw [← hX, ← hw2]
  rw [← hX] at hne
  clear hX hw2 r0 rz HT0 HT1 HX1 HPA HR HT
  have m0 := HM2.out.cell
  have mz := HM2.out.lt
  go_upto_region 17 with (first
    | (refine wpList_load_to rfl 76 (.tmp 8) rfl _ _ ?e1 (load17 HM2.out) ?_; (case e1 => go_simp))
    | (go_at_call 83; refine (HCM.out _ HR2.out HB2.out).mono ?_; rintro e w3 ⟨rfl, hk⟩; have HX3 := Hm (HX2.out.trans hk); have HR3 := Hm (HR2.out.ext hk); have HB3 := Hm (HB2.out.ext hk); have HM3 := Hm (HM2.out.ext hk); have HZ3 := Hm (HT2.out.ext hk); have m3 := HM3.out.cell; have mz3 := HM3.out.lt; clear hk m0 mz))
  clear m3 mz3 HM3 HM2 HX2 HR2 HB2 HT2
  have r3 := HR3.out.cell
  have r3f := HR3.out.frozen
  have r3z := HR3.out.lt
  have b3 := HB3.out.cell
  have b3z := HB3.out.lt
  have z3 := HZ3.out.cell
  have z3f := HZ3.out.frozen
  have z3z := HZ3.out.lt
  go_wp2
  have hra := HR3.out.set 1 (.int .u32 5)
  have hrb := hra.set 2 (.pointer none)
  have hsa : Kp (fun k => k = rv) w3 ((w3.setCell ⟨rv, 1, none⟩ (.int .u32 5)).setCell ⟨rv, 2, none⟩ (.pointer none)) := (Kp.set (S := fun k => k = rv) _ _ rfl).setS rfl _
  have hza := HZ3.out.kp hsa (show ¬ w.heap.size = rv by omega)
  have hka := (Kp.of_ext (S := fun k => k = rv) HX3.out).trans hsa (fun _ h _ => h)
  obtain ⟨w4, hw4⟩ : ∃ W, W = (w3.setCell ⟨rv, 1, none⟩ (.int .u32 5)).setCell ⟨rv, 2, none⟩ (.pointer none) := ⟨_, rfl⟩
  rw [← hw4] at hrb hza hka ⊢
  clear hw4 hsa hra r3 r3f r3z b3 b3z z3 z3f z3z
  have hb5 : Blk (((w4.setCell ⟨w.heap.size, 0, none⟩ (.int .u32 5)).setCell ⟨w.heap.size, 1, none⟩ (.int .u64 0)).setCell ⟨w.heap.size, 2, none⟩ (.slice none 0 0)) w.heap.size #[.int .u32 5, .int .u64 0, .slice none 0 0] 81 := by
    simpa using ((hza.set 0 (.int .u32 5)).set 1 (.int .u64 0)).set 2 (.slice none 0 0)
  have hk5 : Kp (fun k => k = w.heap.size) w4 (((w4.setCell ⟨w.heap.size, 0, none⟩ (.int .u32 5)).setCell ⟨w.heap.size, 1, none⟩ (.int .u64 0)).setCell ⟨w.heap.size, 2, none⟩ (.slice none 0 0)) := ((Kp.set (S := fun k => k = w.heap.size) _ _ rfl).setS rfl _).setS rfl _
  have hr5 := hrb.kp hk5 (show ¬ rv = w.heap.size by omega)
  have hk6 := ((hka.setNew (p := ⟨w.heap.size, 0, none⟩) (Nat.le_refl _) (.int .u32 5)).setNew (p := ⟨w.heap.size, 1, none⟩) (Nat.le_refl _) (.int .u64 0)).setNew (p := ⟨w.heap.size, 2, none⟩) (Nat.le_refl _) (.slice none 0 0)
  obtain ⟨w5, hw5⟩ : ∃ W, W = ((w4.setCell ⟨w.heap.size, 0, none⟩ (.int .u32 5)).setCell ⟨w.heap.size, 1, none⟩ (.int .u64 0)).setCell ⟨w.heap.size, 2, none⟩ (.slice none 0 0) := ⟨_, rfl⟩
  rw [← hw5] at hb5 hr5 hk6 ⊢
  clear hw5 hk5
  have HF := Hm (show Blk (w5.alloc (.cells #[.int .u32 5, .int .u64 0, .slice none 0 0] 81)) rv #[.pointer (some ⟨kg, 0, none⟩), .int .u32 5, .pointer none, .slice none 0 0] 169 ∧ Kp (fun k => k = rv) w (w5.alloc (.cells #[.int .u32 5, .int .u64 0, .slice none 0 0] 81)) from ⟨by have h := hr5.alloc (.cells #[.int .u32 5, .int .u64 0, .slice none 0 0] 81); simpa using h, hk6.trans (Kp.of_ext ((Ext.refl _).alloc _)) (fun _ h _ => h)⟩)
  have hb6 := hb5.alloc (.cells #[.int .u32 5, .int .u64 0, .slice none 0 0] 81)
  obtain ⟨w6, hw6⟩ : ∃ W, W = w5.alloc (.cells #[.int .u32 5, .int .u64 0, .slice none 0 0] 81) := ⟨_, rfl⟩
  rw [← hw6] at hb6 HF ⊢
  clear hw6 hr5 hk6 hb5
  have c0 := hb6.cell 0
  have c1 := hb6.cell 1
  have c2 := hb6.cell 2
  simp at c0 c1 c2
  simp [bodyPost, results, Tryz.results53, go_sem, c0, c1, c2]
  exact HF.out
variable {F : Fence} {n : Nat} {P : Program}
def SeqToldK {α : Type} (F : Fence) (n : Nat) (P : Program) (g : Nat) (lb : Array Value) (encs : α → Array Value) (C : α → World → Prop) (S : List α → Prop) (N : Nat) (Kp : World → World → Prop) (w : World) : Prop :=
  ∀ (l : Nat) (J : List α → World → Prop) (W : World), Below w.heap.size w W → AbidesFrom W.heap.size J →
    (∀ pre x W1, J pre W1 → pre.length < N → C x W1 → YieldAt F (n - 1) P l (encs x) W1 fun e W' => e = .returned (.bool true) ∧ J (pre ++ [x]) W' ∧ Kp W1 W') →
    J [] W →
    CallsIn F n P g (#[.func (.yield l) #[] #[]] ++ lb) W fun e W' => (∃ v, e = .returned v) ∧ ∃ xs, S xs ∧ J xs W'
def goesOnK {α : Type} (B : Nat) (Kp : World → World → Prop) (I : List α → World → Prop) (xs : List α) (W : World) : Exit → Act → World → Prop
  | .normal, _, W' => KeepsFrom B W W' ∧ Kp W W' ∧ I xs W'
  | _, _, _ => False
theorem wpIn_range_toldK {α : Type} {g : Operand} {ps : Array Tmp} {assign body : Code} {Q : Exit → Act → World → Prop} {a : Act} {w : World}
    (hro : F.round = none) (h1 : 1 ≤ n) {gf : Nat} {lb : Array Value} (hg : a.eval g = .func (.func gf) #[] lb) (hFg : F.fn gf) (eg : ∀ args w, (callFunc gf args).run P w = .ok (.enter gf args) w)
    {encs : α → Array Value} {C : α → World → Prop} {S : List α → Prop} {N : Nat} {Kp : World → World → Prop} {w0 : World} (hseq : SeqToldK F (n - 1) P gf lb encs C S N Kp w0) (hb0 : Below w0.heap.size w0 w) (hps : ∀ x, (encs x).size = ps.size)
    (hKt : ∀ {A B C : World}, Kp A B → Kp B C → Kp A C) (hKb : ∀ (W : World) (l : Nat) (r : Loop) (o' : Obj), w.heap.size ≤ l → W.heap[l]? = some (.loop r) → Kp W (W.putObj l o'))
    (I : List α → World → Prop) (hI : OwnFrom w.heap.size I) (h0 : I [] w) (Ax : α → Act → World → Prop)
    (hAx : ∀ x a' W l o', Ax x a' W → w.heap.size ≤ l → (∃ o, W.heap[l]? = some o ∧ o.isCells = false) → Ax x a' (W.putObj l o'))
    (hassign : ∀ (l : Nat) (pre : List α) (x : α) (W : World) (K : Act → World → Prop), I pre W → C x W → (∀ a' W', KeepsFrom w.heap.size W W' → Kp W W' → I pre W' → Ax x a' W' → K a' W') →
      assign.wpIn (F.inRound l) (n - 1 - 1) P (Exit.then K (fun _ _ _ => False)) { tmps := (ps.zip (encs x)).foldl (fun t (p, v) => t.setIfInBounds p v) a.tmps, defers := [] } W)
    (hbody : ∀ (l : Nat) (pre : List α) (x : α) (a' : Act) (W : World), I pre W → pre.length < N → Ax x a' W → body.wpIn (F.inRound l) (n - 1 - 1) P (goesOnK w.heap.size Kp I (pre ++ [x]) W) a' W)
    (hdone : ∀ (D : Nat) (xs : List α) (W : World), w.heap.size ≤ D → S xs → I xs W → W.heap[D]? = some (.deferred (some [])) → Q .normal { a with defers := { target := .collected D, args := #[] } :: a.defers } W) :
    (Code.rangeFunc g ps assign body).wpIn F n P Q a w := by
  refine wpIn_rangeFunc ?_
  intro fn hfn
  rw [hro]
  obtain ⟨rec, hrec⟩ : ∃ rec : LoopState → Option Code → Loop, rec = fun st pe => { state := st, pending := pe, fn, tmps := a.tmps, params := ps, assign, body, defers := w.heap.size } := ⟨_, rfl⟩
  obtain ⟨W1, hW1⟩ : ∃ W1, (w.alloc (.deferred (some []))).alloc (.loop (rec .ready none)) = W1 := ⟨_, rfl⟩
  have hs1 : W1.heap.size = w.heap.size + 2 := by rw [← hW1]; simp
  have hL1 : W1.heap[w.heap.size + 1]? = some (.loop (rec .ready none)) := by
    rw [← hW1]; have := World.alloc_heap_new (w.alloc (.deferred (some []))) (.loop (rec .ready none)); rwa [World.size_alloc] at this
  have hK1 : W1.heap[w.heap.size]? = some (.deferred (some [])) := by
    rw [← hW1]; exact (Below.heap_alloc _ _ _ (by simp)).trans (World.alloc_heap_new w _)
  refine ⟨w.heap.size + 1, [{ target := .collected w.heap.size, args := #[] }], W1, { target := .fn (.func gf) lb, args := #[.func (.yield (w.heap.size + 1)) #[] #[]] }, W1, gf,
    #[.func (.yield (w.heap.size + 1)) #[] #[]] ++ lb, W1, ?_, ?_, ?_, ?_, fun _ => h1, ?_⟩
  · rw [← hW1, hrec]; exact run_enterLoop_outer _ _ _ _ _
  · simp only [resolve, hg]
    simp [go_sem]
  · intro f' hf'; simp [Target.leads] at hf'; subst hf'; exact hFg
  · simp [invoke, go_sem, eg]
  refine (hseq (w.heap.size + 1) (fun pre W => I pre W ∧ W.heap[w.heap.size + 1]? = some (.loop (rec .ready none)) ∧ W.heap[w.heap.size]? = some (.deferred (some []))) W1
    (by rw [← hW1]; exact hb0.trans ((((Below.refl _ w).alloc (Nat.le_refl _) _).alloc (by simp) _).mono hb0.size))
    (fun s A B row hs hg' hr => ⟨hI s A B row hs.1 hg' (fun r e => by obtain ⟨q1, o, q2, q3⟩ := hr r e; exact ⟨by omega, o, q2, Obj.not_cells_of_walk q3⟩), (grownBy_keeps hg' (fun r e => (hr r e).2) hs.2.1 rfl).trans hs.2.1, (grownBy_keeps hg' (fun r e => (hr r e).2) hs.2.2 rfl).trans hs.2.2⟩)
    ?_ ⟨by rw [← hW1]; exact hI.alloc _ (hI.alloc _ h0), hL1, hK1⟩).mono ?_
  · rintro pre x W ⟨hi, hl, hk⟩ hlen hc
    have hlt : w.heap.size + 1 < W.heap.size := (Array.getElem?_eq_some_iff.1 hl).1
    have hy := run_yield (P := P) (args := encs x) hl (by rw [hrec]; exact hps x)
    rw [hrec] at hy
    refine ⟨fn, _, assign, body, hy, roundIn_of_wpIn hfn (hassign _ pre x W _ hi hc (fun a' W' hkp hbl hi' hax => ?_))⟩
    have hl' : W'.heap[w.heap.size + 1]? = some (.loop (rec .ready none)) := hkp.same _ _ (by omega) hl rfl
    have hk' : W'.heap[w.heap.size]? = some (.deferred (some [])) := hkp.same _ _ (Nat.le_refl _) hk rfl
    have hlt' : w.heap.size + 1 < W'.heap.size := (Array.getElem?_eq_some_iff.1 hl').1
    refine ⟨_, run_beginRound hl' (by rw [hrec]), ?_⟩
    obtain ⟨V, hV⟩ : ∃ V, V = W'.putObj (w.heap.size + 1) (.loop { rec .ready none with state := .busy }) := ⟨_, rfl⟩
    have hl2 : V.heap[w.heap.size + 1]? = some (.loop { rec .ready none with state := .busy }) := by rw [hV]; exact World.putObj_heap_same hlt'
    have hk2 : V.heap[w.heap.size]? = some (.deferred (some [])) := by rw [hV]; exact (World.putObj_heap_other (by omega)).trans hk'
    have hVb : Kp W V := by rw [hV]; exact hKt hbl (hKb _ _ _ _ (by omega) hl')
    have hVI : I pre V := by rw [hV]; exact hI.putObj _ hi' (by omega) hl' rfl
    have hVA : Ax x a' V := by rw [hV]; exact hAx x a' W' _ _ hax (by omega) ⟨_, hl', rfl⟩
    rw [← hV]
    refine wpIn_mono (hbody _ pre x a' V hVI hlen hVA) ?_
    rintro e a3 W3 hp
    cases e with
    | normal =>
      obtain ⟨hk3, hkp3, hi3⟩ := hp
      have hl3 := hk3.same _ _ (by omega) hl2 rfl
      have hr := run_endRound (P := P) none hl3
      refine ⟨_, _, hr, rfl, ⟨hI.putObj _ hi3 (by omega) hl3 rfl, ?_, (World.putObj_heap_other (by omega)).trans (hk3.same _ _ (Nat.le_refl _) hk2 rfl)⟩, hKt (hKt hVb hkp3) (hKb _ _ _ _ (by omega) hl3)⟩
      rw [World.putObj_heap_same (Array.getElem?_eq_some_iff.1 hl3).1, hrec]; rfl
    | _ => exact hp.elim
  · rintro e W2 ⟨⟨v, rfl⟩, xs, hS, hi, hl, hk⟩
    exact ⟨none, _, by have := run_endLoop (P := P) hl (by rw [hrec]; simp); rw [hrec] at this; exact this, hdone _ xs _ (Nat.le_refl _) hS (hI.putObj _ hi (by omega) hl rfl) ((World.putObj_heap_other (by omega)).trans hk)⟩
def Obj.stays (u : TypeId) : Obj → Bool
  | .cells _ t _ => t != u
  | .map .. => true
  | .mapIter .. => true
  | .stringIter .. => true
  | _ => false
structure KpY (u : TypeId) (B M : Nat) (W W' : World) : Prop where
  low : Below B W W'
  same : ∀ (k : Nat) (o : Obj), M ≤ k → W.heap[k]? = some o → Obj.stays u o = true → W'.heap[k]? = some o
section
variable {u : TypeId} {B M : Nat} {A W W' : World}
theorem KpY.refl (W : World) : KpY u B M W W := ⟨Below.refl _ _, fun _ _ _ h _ => h⟩
theorem KpY.trans (h : KpY u B M A W) (k : KpY u B M W W') : KpY u B M A W' := ⟨h.low.trans k.low, fun i o hi h1 h2 => k.same i o hi (h.same i o hi h1 h2) h2⟩
theorem KpY.ext (h : Ext W W') (hB : B ≤ W.heap.size) : KpY u B M W W' := ⟨h.mono hB, fun i _o _ h1 _ => (h.block i (Array.getElem?_eq_some_iff.1 h1).1).trans h1⟩
theorem KpY.loop {l : Nat} {r : Loop} (o' : Obj) (hB : B ≤ l) (h : W.heap[l]? = some (.loop r)) : KpY u B M W (W.putObj l o') :=
  ⟨below_putObj W l o' hB, fun i o _ h1 h2 => by
    by_cases e : i = l
    · subst e; rw [h] at h1; cases h1; cases h2
    · exact (World.putObj_heap_other e).trans h1⟩
theorem KpY.blk (h : KpY u B M W W') {b : Nat} {cs : Array Value} {t : TypeId} (hb : M ≤ b) (hk : Blk W b cs t) (ht : t ≠ u) : Blk W' b cs t := h.same b _ hb hk (by simpa [Obj.stays] using ht)
end
open Go.RowKit Go.Maps
theorem Tryz.laidOutS : laidOutB Tryz.prog = true := by kernel_rfl
theorem Tryz.refIsS : RefIs Tryz.prog 66 41 := ⟨Tryz.underlying66, Tryz.underlying41, by kernel_rfl, by kernel_rfl, by kernel_rfl, of_decide_eq_true (by kernel_rfl)⟩
theorem Tryz.rowRefS : (66 : TypeId) < Tryz.prog.types.size := of_decide_eq_true (by kernel_rfl)
theorem Tryz.atRefS : Tryz.prog.keyTypeAt 2 66 = true := by kernel_rfl
theorem Tryz.lawRefS : Keyed Tryz.prog 66 := Tryz.refIsS.law Tryz.laidOutS Tryz.rowRefS Tryz.atRefS
theorem keyRefS {o v : Int} (ho : B32 o) (hv : B32 v) : Go.keyOf Tryz.prog 66 (.agg #[.int .u32 o, .int .u32 v]) = some (litR o v) := Tryz.refIsS.key ho hv
theorem litR_injS {o v o' v' : Int} (ho : B32 o) (hv : B32 v) (ho' : B32 o') (hv' : B32 v') (h : litR o v = litR o' v') : o = o' ∧ v = v' := by
  have h2 := Tryz.lawRefS.inj (keyRefS ho hv) (by rw [h]; exact keyRefS ho' hv')
  simpa using h2
def RVS (v : Value) : Option (DataW Value × List MemPlace) := some (.held v, [])
def SetT (W : World) (m : Nat) (l : List Rf) : Prop := ∃ D : DataW Value, W.ownsMap Tryz.prog 66 RVS m (Maps.size D) D ∧ Maps.size D ≤ l.length ∧ ∀ o v, B32 o → B32 v → D.atKey (litR o v) (.held (.bool false)) = .held (.bool (hasRf l ⟨o, v⟩))
theorem ownsMap_sizeS {W : World} {k : TypeId} {R : Value → Option (DataW Value × List MemPlace)} {b n : Nat} {D : DataW Value} (h : W.ownsMap Tryz.prog k R b n D) : W.ownsMap Tryz.prog k R b (Maps.size D) D := by
  obtain ⟨es, clock, hb, F, hs, rfl⟩ := h
  refine ⟨es, clock, hb, F, ?_, rfl⟩
  rw [Maps.size_eq, length_sorted]; simp
section
variable {W W' : World} {m : Nat} {l : List Rf}
theorem SetT.lt (h : SetT W m l) : m < W.heap.size := by obtain ⟨D, h1, -⟩ := h; exact h1.lt
theorem SetT.made (w : World) : SetT (w.alloc (.map #[] 0)) w.heap.size [] :=
  ⟨.map [], World.ownsMap_made w _ _ _, Nat.le_refl _, fun _ _ _ _ => rfl⟩
theorem SetT.kept (h : SetT W m l) {row : Option Nat} (hg : W.grownBy W' row) (hne : some m ≠ row) : SetT W' m l := by
  obtain ⟨D, h1, h2, h3⟩ := h
  exact ⟨D, h1.kept hg hne, h2, h3⟩
theorem SetT.ext (h : SetT W m l) (he : Ext W W') : SetT W' m l := h.kept (row := none) ⟨he.os, he.tape, he.output, he.size, fun k hk _ => he.block k hk⟩ (by simp)
theorem SetT.kpy (h : SetT W m l) {u : TypeId} {B M : Nat} (hk : KpY u B M W W') (hm : M ≤ m) : SetT W' m l := by
  obtain ⟨D, ⟨es, clock, hb, F, hs, rfl⟩, h2, h3⟩ := h
  exact ⟨_, ⟨es, clock, hk.same m _ hm hb rfl, F, hs, rfl⟩, h2, h3⟩
theorem zeroBoolS (w : World) : (zeroValue 4).run Tryz.prog w = .ok (.bool false) w := Tryz.zeroValue4 w
theorem SetT.look (h : SetT W m l) {o v : Int} (ho : B32 o) (hv : B32 v) : (Instr.lookup 109 (.map (some m)) (.agg #[.int .u32 o, .int .u32 v]) false).run Tryz.prog W = .ok (.bool (hasRf l ⟨o, v⟩)) W := by
  obtain ⟨D, h1, h2, h3⟩ := h
  obtain ⟨y, ps, hrun, hy⟩ := h1.lookup Tryz.lawRefS Tryz.underlying109 (zeroBoolS _) (show RVS (.bool false) = some (.held (.bool false), []) from rfl) (keyRefS ho hv)
  rw [h3 o v ho hv] at hy
  unfold RVS at hy
  simp only [Option.some.injEq, Prod.mk.injEq, DataW.held.injEq] at hy
  rw [← hy.1]; exact hrun
theorem SetT.put {D : DataW Value} {o v : Int} (ho : B32 o) (hv : B32 v) (h1 : W.ownsMap Tryz.prog 66 RVS m (Maps.size D) D) (h2 : Maps.size D ≤ l.length) (h3 : ∀ o v, B32 o → B32 v → D.atKey (litR o v) (.held (.bool false)) = .held (.bool (hasRf l ⟨o, v⟩)))
    (h : W'.ownsMap Tryz.prog 66 RVS m (Maps.size D + 1) (D.put (litR o v) (.held (.bool true)))) : SetT W' m (l ++ [⟨o, v⟩]) := by
  have hk := Tryz.lawRefS.key (keyRefS ho hv)
  have hM := h1.isMap
  refine ⟨_, ownsMap_sizeS h, ?_, fun a b ha hb => ?_⟩
  · rw [Maps.size_put (h1.tidy Tryz.lawRefS), List.length_append]
    split <;> simp <;> omega
  · rw [hasRf_snoc]
    by_cases e : a = o ∧ b = v
    · obtain ⟨rfl, rfl⟩ := e
      rw [Maps.atKey_put_same hM hk, (rfB_true (c := ⟨a, b⟩) (d := ⟨a, b⟩)).2 rfl, Bool.or_true]
    · rw [Maps.atKey_put_other (fun q => e (litR_injS ha hb ho hv q)), h3 a b ha hb]
      have hn : rfB ⟨o, v⟩ ⟨a, b⟩ = false := by
        rw [← Bool.not_eq_true, rfB_true]
        intro q
        injection q with q1 q2
        exact e ⟨q1.symm, q2.symm⟩
      rw [hn, Bool.or_false]
end
end Go.Proofs.YtdlhaidlokkmnaaGreatDoor
