/-
A message of 17 cells read as one, stored as one: of the reference.
-/
import Derived.Test.YtdlhaidlokkmnaaGreatDoorP23
import Derived.Test.YtdlhaidlokkmnaaGreatDoorP8
import Derived.Test.YtdlhaidlokkmnaaGreatDoorP29
import Derived.Test.YtdlhaidlokkmnaaGreatDoorP28
set_option maxRecDepth 100000
set_option maxHeartbeats 16000000
namespace Go.Proofs.YtdlhaidlokkmnaaGreatDoor
open Go.RowKit
theorem rload17 {W : World} {b : Nat} {v0 v1 v2 v3 v4 v5 v6 v7 v8 v9 v10 v11 v12 v13 v14 v15 v16 : Value} (h : Blk W b #[v0, v1, v2, v3, v4, v5, v6, v7, v8, v9, v10, v11, v12, v13, v14, v15, v16] 90) :
    (Instr.loadAt 90 (.pointer (some ⟨b, 0, none⟩))).run Tryz.prog W = .ok (.agg #[v0, v1, v2, v3, v4, v5, v6, v7, v8, v9, v10, v11, v12, v13, v14, v15, v16]) W := by
  have c := h.cell
  have c0 := c 0
  have c1 := c 1
  have c2 := c 2
  have c3 := c 3
  have c4 := c 4
  have c5 := c 5
  have c6 := c 6
  have c7 := c 7
  have c8 := c 8
  have c9 := c 9
  have c10 := c 10
  have c11 := c 11
  have c12 := c 12
  have c13 := c 13
  have c14 := c 14
  have c15 := c 15
  have c16 := c 16
  clear c h
  simp at c0 c1 c2 c3 c4 c5 c6 c7 c8 c9 c10 c11 c12 c13 c14 c15 c16
  simp [go_sem, c0, c1, c2, c3, c4, c5, c6, c7, c8, c9, c10, c11, c12, c13, c14, c15, c16]
theorem rstore17 {W : World} {b : Nat} {u0 u1 u2 u3 u4 u5 u6 u7 u8 u9 u10 u11 u12 u13 u14 u15 u16 : Value} {i0 i1 i2 i3 i4 i5 i7 i9 i10 i11 i12 i16 : Int} {s6 : ByteArray} {a8 a13 a14 a15 : Option Addr} {n8 c8 n13 c13 n14 c14 n15 c15 : Nat} (h : Blk W b #[u0, u1, u2, u3, u4, u5, u6, u7, u8, u9, u10, u11, u12, u13, u14, u15, u16] 90) :
    (Instr.storeAt 90 (.pointer (some ⟨b, 0, none⟩)) (.agg #[.int .u8 i0, .int .u32 i1, .int .u64 i2, .int .u32 i3, .int .u32 i4, .int .u32 i5, .string s6, .int .u8 i7, .slice a8 n8 c8, .int .u8 i9, .int .u32 i10, .int .u32 i11, .int .u8 i12, .slice a13 n13 c13, .slice a14 n14 c14, .slice a15 n15 c15, .int .u8 i16])).run Tryz.prog W = .ok () (((((((((((((((((W.setCell ⟨b, 0, none⟩ (.int .u8 i0)).setCell ⟨b, 1, none⟩ (.int .u32 i1)).setCell ⟨b, 2, none⟩ (.int .u64 i2)).setCell ⟨b, 3, none⟩ (.int .u32 i3)).setCell ⟨b, 4, none⟩ (.int .u32 i4)).setCell ⟨b, 5, none⟩ (.int .u32 i5)).setCell ⟨b, 6, none⟩ (.string s6)).setCell ⟨b, 7, none⟩ (.int .u8 i7)).setCell ⟨b, 8, none⟩ (.slice a8 n8 c8)).setCell ⟨b, 9, none⟩ (.int .u8 i9)).setCell ⟨b, 10, none⟩ (.int .u32 i10)).setCell ⟨b, 11, none⟩ (.int .u32 i11)).setCell ⟨b, 12, none⟩ (.int .u8 i12)).setCell ⟨b, 13, none⟩ (.slice a13 n13 c13)).setCell ⟨b, 14, none⟩ (.slice a14 n14 c14)).setCell ⟨b, 15, none⟩ (.slice a15 n15 c15)).setCell ⟨b, 16, none⟩ (.int .u8 i16)) := by
  have c := h.cell
  have hf := h.frozen
  have c0 := c 0
  have c1 := c 1
  have c2 := c 2
  have c3 := c 3
  have c4 := c 4
  have c5 := c 5
  have c6 := c 6
  have c7 := c 7
  have c8 := c 8
  have c9 := c 9
  have c10 := c 10
  have c11 := c 11
  have c12 := c 12
  have c13 := c 13
  have c14 := c 14
  have c15 := c 15
  have c16 := c 16
  clear c h
  simp at c0 c1 c2 c3 c4 c5 c6 c7 c8 c9 c10 c11 c12 c13 c14 c15 c16
  simp [go_sem, c0, c1, c2, c3, c4, c5, c6, c7, c8, c9, c10, c11, c12, c13, c14, c15, c16, hf]
def mlOf (x : EL) : ML :=
  let r0 : RR := ⟨Rl0, none, 0⟩
  if x.e.kind = 4 then ⟨73, 0, 0, 0, r0, x⟩ else if x.e.kind = 5 then ⟨85, 0, 0, 0, r0, x⟩ else if x.e.kind = 6 then ⟨68, 0, 0, 0, r0, x⟩ else if x.e.kind = 7 then ⟨84, 0, 0, 0, r0, x⟩ else ⟨0, 0, 0, 0, r0, ⟨Ev0, none, 0, none, 0, none, 0⟩⟩
theorem mlOf_m (x : EL) : (mlOf x).m = msgOf x.e := by
  unfold mlOf msgOf
  simp only
  (repeat' split) <;> rfl
theorem mlOf_at {n : Nat} {f : K → List Value} {W : World} {x : EL} (h : x.at n f W) : (mlOf x).at n f W := by
  unfold mlOf
  simp only
  (repeat' split) <;> first | exact ⟨RR.in_zero W, h⟩ | exact ⟨RR.in_zero W, EL.at_zero n f W⟩
theorem ix_0 (h) : ((⟨#[73, 85, 68, 84]⟩ : ByteArray)[(IntKind.u8.wrap 0).toNat]'h).toNat = 73 := by kernel_rfl
theorem ix_1 (h) : ((⟨#[73, 85, 68, 84]⟩ : ByteArray)[(IntKind.u8.wrap 1).toNat]'h).toNat = 85 := by kernel_rfl
theorem ix_2 (h) : ((⟨#[73, 85, 68, 84]⟩ : ByteArray)[(IntKind.u8.wrap 2).toNat]'h).toNat = 68 := by kernel_rfl
theorem ix_3 (h) : ((⟨#[73, 85, 68, 84]⟩ : ByteArray)[(IntKind.u8.wrap 3).toNat]'h).toNat = 84 := by kernel_rfl
theorem res_rof20 {W : World} {b : Nat} {v0 v1 v2 v3 v4 v5 v6 v7 v8 v9 v10 v11 v12 v13 v14 v15 v16 : Value} {tm : Array Value} (h : Blk W b #[v0, v1, v2, v3, v4, v5, v6, v7, v8, v9, v10, v11, v12, v13, v14, v15, v16] 90) (ht : tm.getD 2 undef = .pointer (some ⟨b, 0, none⟩)) :
    (results Tryz.f46 tm).run Tryz.prog W = .ok (.agg #[v0, v1, v2, v3, v4, v5, v6, v7, v8, v9, v10, v11, v12, v13, v14, v15, v16]) W := by
  have c := h.cell
  have c0 := c 0
  have c1 := c 1
  have c2 := c 2
  have c3 := c 3
  have c4 := c 4
  have c5 := c 5
  have c6 := c 6
  have c7 := c 7
  have c8 := c 8
  have c9 := c 9
  have c10 := c 10
  have c11 := c 11
  have c12 := c 12
  have c13 := c 13
  have c14 := c 14
  have c15 := c 15
  have c16 := c 16
  clear c h
  simp at c0 c1 c2 c3 c4 c5 c6 c7 c8 c9 c10 c11 c12 c13 c14 c15 c16
  rw [Array.getD_eq_getD_getElem?] at ht
  simp [results, Tryz.results46, go_sem, ht, c0, c1, c2, c3, c4, c5, c6, c7, c8, c9, c10, c11, c12, c13, c14, c15, c16]
theorem rof20_any (x : EL) (w : World) (h0 : 0 ≤ x.e.kind) (h1 : x.e.kind < 256) :
    Calls Tryz.prog 46 #[x.agg] w fun e w' => e = .returned (mlOf x).agg ∧ Ext w w' := by
  obtain ⟨⟨kd, ao, av, old, b, aa, rs, fl⟩, ba, bc, aad, ac, ra, rc⟩ := x
  unfold EL.agg mlOf
  dsimp only at h0 h1 ⊢
  have HX := Hm (show Blk ((w.alloc (.cells #[.int .u8 kd, .int .u32 ao, .int .u32 av, .int .u8 old, .slice ba b.length bc, .slice aad aa.length ac, .slice ra rs.length rc, .int .u8 fl] 51)).alloc (.cells #[.int .u8 0, .int .u32 0, .int .u64 0, .int .u32 0, .int .u32 0, .int .u32 0, .string ⟨#[]⟩, .int .u8 0, .slice none 0 0, .int .u8 0, .int .u32 0, .int .u32 0, .int .u8 0, .slice none 0 0, .slice none 0 0, .slice none 0 0, .int .u8 0] 90)) w.heap.size #[.int .u8 kd, .int .u32 ao, .int .u32 av, .int .u8 old, .slice ba b.length bc, .slice aad aa.length ac, .slice ra rs.length rc, .int .u8 fl] 51 from (Blk.new _ _ _).alloc _)
  have HZ := Hm (show Blk ((w.alloc (.cells #[.int .u8 kd, .int .u32 ao, .int .u32 av, .int .u8 old, .slice ba b.length bc, .slice aad aa.length ac, .slice ra rs.length rc, .int .u8 fl] 51)).alloc (.cells #[.int .u8 0, .int .u32 0, .int .u64 0, .int .u32 0, .int .u32 0, .int .u32 0, .string ⟨#[]⟩, .int .u8 0, .slice none 0 0, .int .u8 0, .int .u32 0, .int .u32 0, .int .u8 0, .slice none 0 0, .slice none 0 0, .slice none 0 0, .int .u8 0] 90)) (w.heap.size + 1) #[.int .u8 0, .int .u32 0, .int .u64 0, .int .u32 0, .int .u32 0, .int .u32 0, .string ⟨#[]⟩, .int .u8 0, .slice none 0 0, .int .u8 0, .int .u32 0, .int .u32 0, .int .u8 0, .slice none 0 0, .slice none 0 0, .slice none 0 0, .int .u8 0] 90 from Blk.new' (w := w.alloc (.cells #[.int .u8 kd, .int .u32 ao, .int .u32 av, .int .u8 old, .slice ba b.length bc, .slice aad aa.length ac, .slice ra rs.length rc, .int .u8 fl] 51)) _ _ (by simp))
  have HE1 := Hm (show Ext w ((w.alloc (.cells #[.int .u8 kd, .int .u32 ao, .int .u32 av, .int .u8 old, .slice ba b.length bc, .slice aad aa.length ac, .slice ra rs.length rc, .int .u8 fl] 51)).alloc (.cells #[.int .u8 0, .int .u32 0, .int .u64 0, .int .u32 0, .int .u32 0, .int .u32 0, .string ⟨#[]⟩, .int .u8 0, .slice none 0 0, .int .u8 0, .int .u32 0, .int .u32 0, .int .u8 0, .slice none 0 0, .slice none 0 0, .slice none 0 0, .int .u8 0] 90)) from ((Ext.refl w).alloc _).alloc _)
  obtain ⟨w1, hw1⟩ : ∃ W, W = (w.alloc (.cells #[.int .u8 kd, .int .u32 ao, .int .u32 av, .int .u8 old, .slice ba b.length bc, .slice aad aa.length ac, .slice ra rs.length rc, .int .u8 fl] 51)).alloc (.cells #[.int .u8 0, .int .u32 0, .int .u64 0, .int .u32 0, .int .u32 0, .int .u32 0, .string ⟨#[]⟩, .int .u8 0, .slice none 0 0, .int .u8 0, .int .u32 0, .int .u32 0, .int .u8 0, .slice none 0 0, .slice none 0 0, .slice none 0 0, .int .u8 0] 90) := ⟨_, rfl⟩
  rw [← hw1] at HX HZ HE1
  by_cases h4 : kd = 4
  · subst h4
    go_enter Tryz.func46, Tryz.ntmps46
    go_upto_region 1 with (fail)
    rw [← hw1]
    clear hw1
    have gX := HX.out.cell
    have zX := HX.out.lt
    obtain ⟨X, hX⟩ : ∃ X, X = w.heap.size := ⟨_, rfl⟩
    rw [← hX] at gX zX HZ ⊢
    have HXE := Hm hX
    clear hX
    go_upto_region 3 with (fail)
    have hA0 : Hid ((fun w' => Ext (w1) w' ∧ (∀ b o, b < (w1).heap.size → w'.cell? ⟨b, o, none⟩ = (w1).cell? ⟨b, o, none⟩) ∧ (∀ b o, b < (w1).heap.size → w'.frozen? ⟨b, o, none⟩ = (w1).frozen? ⟨b, o, none⟩)) w1.drew) := held_of (by exact eX)
    refine wp_region_head 6 (fun w' => Ext (w1) w' ∧ (∀ b o, b < (w1).heap.size → w'.cell? ⟨b, o, none⟩ = (w1).cell? ⟨b, o, none⟩) ∧ (∀ b o, b < (w1).heap.size → w'.frozen? ⟨b, o, none⟩ = (w1).frozen? ⟨b, o, none⟩)) (by kernel_rfl) (by decide) ?_
    refine HG.on 0 12 hA0.out ?_
    try simp only [Act.put, List.setIfInBounds_toArray, List.set_cons_zero, List.set_cons_succ]
    refine HG.on 1 13 hA0.out ?_
    try simp only [Act.put, List.setIfInBounds_toArray, List.set_cons_zero, List.set_cons_succ]
    refine HG.on 2 14 hA0.out ?_
    try simp only [Act.put, List.setIfInBounds_toArray, List.set_cons_zero, List.set_cons_succ]
    refine HG.on 4 16 hA0.out ?_
    try simp only [Act.put, List.setIfInBounds_toArray, List.set_cons_zero, List.set_cons_succ]
    refine wpHd_take (i := 3) (v := .int .u8 73) rfl (by kernel_rfl) (by kernel_rfl) (by kernel_rfl) (fun _ _ _ h => h) (Or.inl ⟨by rfl, ?_⟩) hA0.out ?_
    · intro w' hS'
      go_simp
      rw [dif_pos (show IntKind.u8.wrap 0 < 4 by decide), ix_0]
      rfl
    try simp only [Act.put, List.setIfInBounds_toArray]
    refine HG.on 5 17 hA0.out ?_
    try simp only [Act.put]
    clear hA0 gX zX
    refine wpHd_tail (by kernel_rfl) ?_
    simp only [List.drop_succ_cons, List.drop_zero]
    obtain ⟨w2, hw2⟩ : ∃ W, W = w1.drew := ⟨_, rfl⟩
    have HZ2 := Hm (show Blk w2 (X + 1) #[.int .u8 0, .int .u32 0, .int .u64 0, .int .u32 0, .int .u32 0, .int .u32 0, .string ⟨#[]⟩, .int .u8 0, .slice none 0 0, .int .u8 0, .int .u32 0, .int .u32 0, .int .u8 0, .slice none 0 0, .slice none 0 0, .slice none 0 0, .int .u8 0] 90 by rw [hw2]; exact HZ.out.ext ((Ext.refl w1).drew))
    have HE2 := Hm (show Ext w w2 by rw [hw2]; exact HE1.out.trans ((Ext.refl w1).drew))
    rw [← hw2]
    clear hw2
    have HS17 := Hm (show (Instr.storeAt 90 (.pointer (some ⟨X + 1, 0, none⟩)) (.agg #[.int .u8 73, .int .u32 0, .int .u64 0, .int .u32 0, .int .u32 0, .int .u32 0, .string ⟨#[]⟩, .int .u8 0, .slice none 0 0, .int .u8 4, .int .u32 ao, .int .u32 av, .int .u8 old, .slice ba b.length bc, .slice aad aa.length ac, .slice ra rs.length rc, .int .u8 fl])).run Tryz.prog w2 = .ok () _ from rstore17 HZ2.out)
    go_wp2_with (refine wpList_store_to rfl 90 (.tmp 2) (.tmp 17) rfl _ _ ?e1 ?e2 HS17.out ?_; (case e1 => go_simp); (case e2 => go_simp))
    refine bodyPost_ret (res_rof20 (Blk.c17 HZ2.out) rfl) rfl ⟨?_, Ext.c17 HE2.out (by have := HXE.out; omega)⟩
    first | rfl | (rw [if_pos rfl]; rfl)
  by_cases h5 : kd = 5
  · subst h5
    go_enter Tryz.func46, Tryz.ntmps46
    go_upto_region 1 with (fail)
    rw [← hw1]
    clear hw1
    have gX := HX.out.cell
    have zX := HX.out.lt
    obtain ⟨X, hX⟩ : ∃ X, X = w.heap.size := ⟨_, rfl⟩
    rw [← hX] at gX zX HZ ⊢
    have HXE := Hm hX
    clear hX
    go_upto_region 3 with (fail)
    have hA0 : Hid ((fun w' => Ext (w1) w' ∧ (∀ b o, b < (w1).heap.size → w'.cell? ⟨b, o, none⟩ = (w1).cell? ⟨b, o, none⟩) ∧ (∀ b o, b < (w1).heap.size → w'.frozen? ⟨b, o, none⟩ = (w1).frozen? ⟨b, o, none⟩)) w1.drew) := held_of (by exact eX)
    refine wp_region_head 6 (fun w' => Ext (w1) w' ∧ (∀ b o, b < (w1).heap.size → w'.cell? ⟨b, o, none⟩ = (w1).cell? ⟨b, o, none⟩) ∧ (∀ b o, b < (w1).heap.size → w'.frozen? ⟨b, o, none⟩ = (w1).frozen? ⟨b, o, none⟩)) (by kernel_rfl) (by decide) ?_
    refine HG.on 0 12 hA0.out ?_
    try simp only [Act.put, List.setIfInBounds_toArray, List.set_cons_zero, List.set_cons_succ]
    refine HG.on 1 13 hA0.out ?_
    try simp only [Act.put, List.setIfInBounds_toArray, List.set_cons_zero, List.set_cons_succ]
    refine HG.on 2 14 hA0.out ?_
    try simp only [Act.put, List.setIfInBounds_toArray, List.set_cons_zero, List.set_cons_succ]
    refine HG.on 4 16 hA0.out ?_
    try simp only [Act.put, List.setIfInBounds_toArray, List.set_cons_zero, List.set_cons_succ]
    refine wpHd_take (i := 3) (v := .int .u8 85) rfl (by kernel_rfl) (by kernel_rfl) (by kernel_rfl) (fun _ _ _ h => h) (Or.inl ⟨by rfl, ?_⟩) hA0.out ?_
    · intro w' hS'
      go_simp
      rw [dif_pos (show IntKind.u8.wrap 1 < 4 by decide), ix_1]
      rfl
    try simp only [Act.put, List.setIfInBounds_toArray]
    refine HG.on 5 17 hA0.out ?_
    try simp only [Act.put]
    clear hA0 gX zX
    refine wpHd_tail (by kernel_rfl) ?_
    simp only [List.drop_succ_cons, List.drop_zero]
    obtain ⟨w2, hw2⟩ : ∃ W, W = w1.drew := ⟨_, rfl⟩
    have HZ2 := Hm (show Blk w2 (X + 1) #[.int .u8 0, .int .u32 0, .int .u64 0, .int .u32 0, .int .u32 0, .int .u32 0, .string ⟨#[]⟩, .int .u8 0, .slice none 0 0, .int .u8 0, .int .u32 0, .int .u32 0, .int .u8 0, .slice none 0 0, .slice none 0 0, .slice none 0 0, .int .u8 0] 90 by rw [hw2]; exact HZ.out.ext ((Ext.refl w1).drew))
    have HE2 := Hm (show Ext w w2 by rw [hw2]; exact HE1.out.trans ((Ext.refl w1).drew))
    rw [← hw2]
    clear hw2
    have HS17 := Hm (show (Instr.storeAt 90 (.pointer (some ⟨X + 1, 0, none⟩)) (.agg #[.int .u8 85, .int .u32 0, .int .u64 0, .int .u32 0, .int .u32 0, .int .u32 0, .string ⟨#[]⟩, .int .u8 0, .slice none 0 0, .int .u8 5, .int .u32 ao, .int .u32 av, .int .u8 old, .slice ba b.length bc, .slice aad aa.length ac, .slice ra rs.length rc, .int .u8 fl])).run Tryz.prog w2 = .ok () _ from rstore17 HZ2.out)
    go_wp2_with (refine wpList_store_to rfl 90 (.tmp 2) (.tmp 17) rfl _ _ ?e1 ?e2 HS17.out ?_; (case e1 => go_simp); (case e2 => go_simp))
    refine bodyPost_ret (res_rof20 (Blk.c17 HZ2.out) rfl) rfl ⟨?_, Ext.c17 HE2.out (by have := HXE.out; omega)⟩
    first | rfl | (rw [if_neg (show ¬ (5 : Int) = 4 by decide), if_pos rfl]; rfl)
  by_cases h6 : kd = 6
  · subst h6
    go_enter Tryz.func46, Tryz.ntmps46
    go_upto_region 1 with (fail)
    rw [← hw1]
    clear hw1
    have gX := HX.out.cell
    have zX := HX.out.lt
    obtain ⟨X, hX⟩ : ∃ X, X = w.heap.size := ⟨_, rfl⟩
    rw [← hX] at gX zX HZ ⊢
    have HXE := Hm hX
    clear hX
    go_upto_region 3 with (fail)
    have hA0 : Hid ((fun w' => Ext (w1) w' ∧ (∀ b o, b < (w1).heap.size → w'.cell? ⟨b, o, none⟩ = (w1).cell? ⟨b, o, none⟩) ∧ (∀ b o, b < (w1).heap.size → w'.frozen? ⟨b, o, none⟩ = (w1).frozen? ⟨b, o, none⟩)) w1.drew) := held_of (by exact eX)
    refine wp_region_head 6 (fun w' => Ext (w1) w' ∧ (∀ b o, b < (w1).heap.size → w'.cell? ⟨b, o, none⟩ = (w1).cell? ⟨b, o, none⟩) ∧ (∀ b o, b < (w1).heap.size → w'.frozen? ⟨b, o, none⟩ = (w1).frozen? ⟨b, o, none⟩)) (by kernel_rfl) (by decide) ?_
    refine HG.on 0 12 hA0.out ?_
    try simp only [Act.put, List.setIfInBounds_toArray, List.set_cons_zero, List.set_cons_succ]
    refine HG.on 1 13 hA0.out ?_
    try simp only [Act.put, List.setIfInBounds_toArray, List.set_cons_zero, List.set_cons_succ]
    refine HG.on 2 14 hA0.out ?_
    try simp only [Act.put, List.setIfInBounds_toArray, List.set_cons_zero, List.set_cons_succ]
    refine HG.on 4 16 hA0.out ?_
    try simp only [Act.put, List.setIfInBounds_toArray, List.set_cons_zero, List.set_cons_succ]
    refine wpHd_take (i := 3) (v := .int .u8 68) rfl (by kernel_rfl) (by kernel_rfl) (by kernel_rfl) (fun _ _ _ h => h) (Or.inl ⟨by rfl, ?_⟩) hA0.out ?_
    · intro w' hS'
      go_simp
      rw [dif_pos (show IntKind.u8.wrap 2 < 4 by decide), ix_2]
      rfl
    try simp only [Act.put, List.setIfInBounds_toArray]
    refine HG.on 5 17 hA0.out ?_
    try simp only [Act.put]
    clear hA0 gX zX
    refine wpHd_tail (by kernel_rfl) ?_
    simp only [List.drop_succ_cons, List.drop_zero]
    obtain ⟨w2, hw2⟩ : ∃ W, W = w1.drew := ⟨_, rfl⟩
    have HZ2 := Hm (show Blk w2 (X + 1) #[.int .u8 0, .int .u32 0, .int .u64 0, .int .u32 0, .int .u32 0, .int .u32 0, .string ⟨#[]⟩, .int .u8 0, .slice none 0 0, .int .u8 0, .int .u32 0, .int .u32 0, .int .u8 0, .slice none 0 0, .slice none 0 0, .slice none 0 0, .int .u8 0] 90 by rw [hw2]; exact HZ.out.ext ((Ext.refl w1).drew))
    have HE2 := Hm (show Ext w w2 by rw [hw2]; exact HE1.out.trans ((Ext.refl w1).drew))
    rw [← hw2]
    clear hw2
    have HS17 := Hm (show (Instr.storeAt 90 (.pointer (some ⟨X + 1, 0, none⟩)) (.agg #[.int .u8 68, .int .u32 0, .int .u64 0, .int .u32 0, .int .u32 0, .int .u32 0, .string ⟨#[]⟩, .int .u8 0, .slice none 0 0, .int .u8 6, .int .u32 ao, .int .u32 av, .int .u8 old, .slice ba b.length bc, .slice aad aa.length ac, .slice ra rs.length rc, .int .u8 fl])).run Tryz.prog w2 = .ok () _ from rstore17 HZ2.out)
    go_wp2_with (refine wpList_store_to rfl 90 (.tmp 2) (.tmp 17) rfl _ _ ?e1 ?e2 HS17.out ?_; (case e1 => go_simp); (case e2 => go_simp))
    refine bodyPost_ret (res_rof20 (Blk.c17 HZ2.out) rfl) rfl ⟨?_, Ext.c17 HE2.out (by have := HXE.out; omega)⟩
    first | rfl | (rw [if_neg (show ¬ (6 : Int) = 4 by decide), if_neg (show ¬ (6 : Int) = 5 by decide), if_pos rfl]; rfl)
  by_cases h7 : kd = 7
  · subst h7
    go_enter Tryz.func46, Tryz.ntmps46
    go_upto_region 1 with (fail)
    rw [← hw1]
    clear hw1
    have gX := HX.out.cell
    have zX := HX.out.lt
    obtain ⟨X, hX⟩ : ∃ X, X = w.heap.size := ⟨_, rfl⟩
    rw [← hX] at gX zX HZ ⊢
    have HXE := Hm hX
    clear hX
    go_upto_region 3 with (fail)
    have hA0 : Hid ((fun w' => Ext (w1) w' ∧ (∀ b o, b < (w1).heap.size → w'.cell? ⟨b, o, none⟩ = (w1).cell? ⟨b, o, none⟩) ∧ (∀ b o, b < (w1).heap.size → w'.frozen? ⟨b, o, none⟩ = (w1).frozen? ⟨b, o, none⟩)) w1.drew) := held_of (by exact eX)
    refine wp_region_head 6 (fun w' => Ext (w1) w' ∧ (∀ b o, b < (w1).heap.size → w'.cell? ⟨b, o, none⟩ = (w1).cell? ⟨b, o, none⟩) ∧ (∀ b o, b < (w1).heap.size → w'.frozen? ⟨b, o, none⟩ = (w1).frozen? ⟨b, o, none⟩)) (by kernel_rfl) (by decide) ?_
    refine HG.on 0 12 hA0.out ?_
    try simp only [Act.put, List.setIfInBounds_toArray, List.set_cons_zero, List.set_cons_succ]
    refine HG.on 1 13 hA0.out ?_
    try simp only [Act.put, List.setIfInBounds_toArray, List.set_cons_zero, List.set_cons_succ]
    refine HG.on 2 14 hA0.out ?_
    try simp only [Act.put, List.setIfInBounds_toArray, List.set_cons_zero, List.set_cons_succ]
    refine HG.on 4 16 hA0.out ?_
    try simp only [Act.put, List.setIfInBounds_toArray, List.set_cons_zero, List.set_cons_succ]
    refine wpHd_take (i := 3) (v := .int .u8 84) rfl (by kernel_rfl) (by kernel_rfl) (by kernel_rfl) (fun _ _ _ h => h) (Or.inl ⟨by rfl, ?_⟩) hA0.out ?_
    · intro w' hS'
      go_simp
      rw [dif_pos (show IntKind.u8.wrap 3 < 4 by decide), ix_3]
      rfl
    try simp only [Act.put, List.setIfInBounds_toArray]
    refine HG.on 5 17 hA0.out ?_
    try simp only [Act.put]
    clear hA0 gX zX
    refine wpHd_tail (by kernel_rfl) ?_
    simp only [List.drop_succ_cons, List.drop_zero]
    obtain ⟨w2, hw2⟩ : ∃ W, W = w1.drew := ⟨_, rfl⟩
    have HZ2 := Hm (show Blk w2 (X + 1) #[.int .u8 0, .int .u32 0, .int .u64 0, .int .u32 0, .int .u32 0, .int .u32 0, .string ⟨#[]⟩, .int .u8 0, .slice none 0 0, .int .u8 0, .int .u32 0, .int .u32 0, .int .u8 0, .slice none 0 0, .slice none 0 0, .slice none 0 0, .int .u8 0] 90 by rw [hw2]; exact HZ.out.ext ((Ext.refl w1).drew))
    have HE2 := Hm (show Ext w w2 by rw [hw2]; exact HE1.out.trans ((Ext.refl w1).drew))
    rw [← hw2]
    clear hw2
    have HS17 := Hm (show (Instr.storeAt 90 (.pointer (some ⟨X + 1, 0, none⟩)) (.agg #[.int .u8 84, .int .u32 0, .int .u64 0, .int .u32 0, .int .u32 0, .int .u32 0, .string ⟨#[]⟩, .int .u8 0, .slice none 0 0, .int .u8 7, .int .u32 ao, .int .u32 av, .int .u8 old, .slice ba b.length bc, .slice aad aa.length ac, .slice ra rs.length rc, .int .u8 fl])).run Tryz.prog w2 = .ok () _ from rstore17 HZ2.out)
    go_wp2_with (refine wpList_store_to rfl 90 (.tmp 2) (.tmp 17) rfl _ _ ?e1 ?e2 HS17.out ?_; (case e1 => go_simp); (case e2 => go_simp))
    refine bodyPost_ret (res_rof20 (Blk.c17 HZ2.out) rfl) rfl ⟨?_, Ext.c17 HE2.out (by have := HXE.out; omega)⟩
    first | rfl | (rw [if_neg (show ¬ (7 : Int) = 4 by decide), if_neg (show ¬ (7 : Int) = 5 by decide), if_neg (show ¬ (7 : Int) = 6 by decide), if_pos rfl]; rfl)
  have hlt : kd < 4 ∨ 7 < kd := by omega
  rcases hlt with hlt | hlt
  · have q1 : decide (kd < 4) = true := decide_eq_true hlt
    go_enter Tryz.func46, Tryz.ntmps46
    go_upto_region 1 with (fail)
    rw [← hw1]
    clear hw1
    have gX := HX.out.cell
    have zX := HX.out.lt
    obtain ⟨X, hX⟩ : ∃ X, X = w.heap.size := ⟨_, rfl⟩
    rw [← hX] at gX zX HZ ⊢
    have HXE := Hm hX
    clear hX
    have HS17 := Hm (show (Instr.storeAt 90 (.pointer (some ⟨X + 1, 0, none⟩)) (.agg #[.int .u8 0, .int .u32 0, .int .u64 0, .int .u32 0, .int .u32 0, .int .u32 0, .string ⟨#[]⟩, .int .u8 0, .slice none 0 0, .int .u8 0, .int .u32 0, .int .u32 0, .int .u8 0, .slice none 0 0, .slice none 0 0, .slice none 0 0, .int .u8 0])).run Tryz.prog w1 = .ok () _ from rstore17 HZ.out)
    go_wp2_with (refine wpList_store_to rfl 90 (.tmp 2) (.tmp 11) rfl _ _ ?e1 ?e2 HS17.out ?_; (case e1 => go_simp); (case e2 => go_simp))
    refine bodyPost_ret (res_rof20 (Blk.c17 HZ.out) rfl) rfl ⟨?_, Ext.c17 HE1.out (by have := HXE.out; omega)⟩
    first | rfl | (rw [if_neg h4, if_neg h5, if_neg h6, if_neg h7]; rfl)
  · have q1 : decide (kd < 4) = false := decide_eq_false (by omega)
    have q2 : decide (7 < kd) = true := decide_eq_true hlt
    go_enter Tryz.func46, Tryz.ntmps46
    go_upto_region 1 with (fail)
    rw [← hw1]
    clear hw1
    have gX := HX.out.cell
    have zX := HX.out.lt
    obtain ⟨X, hX⟩ : ∃ X, X = w.heap.size := ⟨_, rfl⟩
    rw [← hX] at gX zX HZ ⊢
    have HXE := Hm hX
    clear hX
    have HS17 := Hm (show (Instr.storeAt 90 (.pointer (some ⟨X + 1, 0, none⟩)) (.agg #[.int .u8 0, .int .u32 0, .int .u64 0, .int .u32 0, .int .u32 0, .int .u32 0, .string ⟨#[]⟩, .int .u8 0, .slice none 0 0, .int .u8 0, .int .u32 0, .int .u32 0, .int .u8 0, .slice none 0 0, .slice none 0 0, .slice none 0 0, .int .u8 0])).run Tryz.prog w1 = .ok () _ from rstore17 HZ.out)
    go_wp2_with (refine wpList_store_to rfl 90 (.tmp 2) (.tmp 11) rfl _ _ ?e1 ?e2 HS17.out ?_; (case e1 => go_simp); (case e2 => go_simp))
    refine bodyPost_ret (res_rof20 (Blk.c17 HZ.out) rfl) rfl ⟨?_, Ext.c17 HE1.out (by have := HXE.out; omega)⟩
    first | rfl | (rw [if_neg h4, if_neg h5, if_neg h6, if_neg h7]; rfl)
structure Ev.okw (e : Ev) : Prop where
  sm : e.small
  wk : e.wk
  wb : ∀ c ∈ e.b, c.wr
  wa : ∀ c ∈ e.a, c.wr
  ao : B32 e.ao
  av : B32 e.av
  rs : ∀ r ∈ e.rs, B32 r.o ∧ B32 r.v
  fl : 0 ≤ e.fl ∧ e.fl < 256
  k : 0 ≤ e.kind ∧ e.kind < 256
  tb : ∀ c ∈ e.b, c.tw
  ta : ∀ c ∈ e.a, c.tw
theorem Ev.okw_of {e : Ev} (hz : e.sz) (ht : e.tw) (hl : e.lit) : e.okw :=
  ⟨⟨by have := hl.b; omega, by have := hl.a; omega, by have := hl.r; omega⟩, ⟨hz.sb, hz.sa, hz.old.1⟩, fun c hc => ⟨⟨(ht.b c hc).n.1, by have := (ht.b c hc).n.2; omega⟩, (ht.b c hc).s⟩, fun c hc => ⟨⟨(ht.a c hc).n.1, by have := (ht.a c hc).n.2; omega⟩, (ht.a c hc).s⟩,
    ht.at_.o, ht.at_.v, fun r hr => ⟨(ht.r r hr).o, (ht.r r hr).v⟩, hz.fl, hz.kind, ht.b, ht.a⟩
theorem Ev0_okw : Ev0.okw := ⟨⟨Nat.zero_le _, Nat.zero_le _, Nat.zero_le _⟩, ⟨(fun c h => by cases h), (fun c h => by cases h), Int.le_refl _⟩, (fun c h => by cases h), (fun c h => by cases h), ⟨Int.le_refl _, by decide⟩, ⟨Int.le_refl _, by decide⟩, (fun c h => by cases h), ⟨Int.le_refl _, by decide⟩, ⟨Int.le_refl _, by decide⟩, (fun c h => by cases h), (fun c h => by cases h)⟩
theorem usesE_b32 {e : Ev} (h : e.okw) : ∀ r ∈ usesE e, B32 r.o ∧ B32 r.v := by
  unfold usesE
  split
  · intro r hr
    obtain rfl : r = ⟨e.ao, e.av⟩ := by simpa using hr
    exact ⟨h.ao, h.av⟩
  · split
    · exact h.rs
    · intro r hr; cases hr
structure Rl.okw (r : Rl) : Prop where
  len : r.cols.length ≤ 1000
  nm : r.nm.size ≤ 9223372036854775807
  cs : ∀ c ∈ r.cols, c.nm.size ≤ 9223372036854775807
  o : B32 r.oid
  v : B32 r.ver
  id : 0 ≤ r.id ∧ r.id < 256
theorem Rl0_okw : Rl0.okw := ⟨Nat.zero_le _, by decide, (fun c h => by cases h), ⟨Int.le_refl _, by decide⟩, ⟨Int.le_refl _, by decide⟩, ⟨Int.le_refl _, by decide⟩⟩
theorem right_id {r : Rl} (h : r.right = 0) : r.id ≤ 2 := by
  unfold Rl.right at h
  (repeat' split at h) <;> first | omega | cases h
theorem Rl.okw_of {r : Rl} (h : r.right = 0) (hw : r.wb) (hb : B32 r.oid ∧ B32 r.ver) : r.okw :=
  ⟨by have := Rl.cols_le h; omega, hw.nm, hw.cs, hb.1, hb.2, ⟨hw.idn, by have := right_id h; omega⟩⟩
def R0 : RR := ⟨Rl0, none, 0⟩
def E0 : EL := ⟨Ev0, none, 0, none, 0, none, 0⟩
def mlB (x st : Int) : ML := ⟨66, x, st, 0, R0, E0⟩
def mlC (x : Int) (n : Nat) : ML := ⟨67, x, 0, n, R0, E0⟩
def mlR (q : RR) : ML := ⟨82, 0, 0, 0, q, E0⟩
theorem mlC_m (t : TL) : (mlC t.xid t.es.length).m = txMC t.t := by unfold mlC txMC ML.m TL.t; simp only [List.length_map]; rfl
theorem mlR_m {c : List Rl} {r : Rf} {q : RR} (h : q.r = (getR r.o r.v c).getD Rl0) : (mlR q).m = relM c r := by unfold mlR relM ML.m; rw [h]; rfl
theorem mlB_at {n : Nat} {f : K → List Value} (W : World) (x st : Int) : (mlB x st).at n f W := ⟨RR.in_zero W, EL.at_zero n f W⟩
theorem mlC_at {n : Nat} {f : K → List Value} (W : World) (x : Int) (m : Nat) : (mlC x m).at n f W := ⟨RR.in_zero W, EL.at_zero n f W⟩
theorem mlR_at {n : Nat} {f : K → List Value} {W : World} {q : RR} (h : q.in W) : (mlR q).at n f W := ⟨h, EL.at_zero n f W⟩
theorem b32_zero : B32 0 := ⟨Int.le_refl _, by decide⟩
theorem ML.okr_mk {p : ML} (hr : p.r.r.okw) (he : p.e.e.okw) (hk : 0 ≤ p.k ∧ p.k < 256) (hx : B32 p.x) (hst : 0 ≤ p.st ∧ p.st < 18446744073709551616) (hn : B32 p.n) : p.okr :=
  ⟨hr.len, hr.nm, hr.cs, he.sm, he.wk, hk.1, hk.2, hx, hst.1, hst.2, hn, hr.o, hr.v, hr.id, he.wb, he.wa, he.ao, he.av, he.rs, he.fl⟩
theorem z64 : (0 : Int) ≤ 0 ∧ (0 : Int) < 18446744073709551616 := ⟨Int.le_refl _, by decide⟩
theorem mlB_ok {x st : Int} (hx : B32 x) (hst : 0 ≤ st ∧ st < 18446744073709551616) : (mlB x st).ok := ⟨ML.okr_mk Rl0_okw Ev0_okw (show (0 : Int) ≤ 66 ∧ (66 : Int) < 256 by decide) hx hst b32_zero, Nat.le_refl _⟩
theorem mlC_ok {x : Int} {n : Nat} (hx : B32 x) (hn : n < 4294967296) : (mlC x n).ok := ⟨ML.okr_mk Rl0_okw Ev0_okw (show (0 : Int) ≤ 67 ∧ (67 : Int) < 256 by decide) hx z64 ⟨Int.natCast_nonneg _, by show (n : Int) < _; omega⟩, Nat.le_refl _⟩
theorem mlR_ok {q : RR} (h : q.r.okw) (hc : q.r.cols.length ≤ q.c) : (mlR q).ok := ⟨ML.okr_mk h Ev0_okw (show (0 : Int) ≤ 82 ∧ (82 : Int) < 256 by decide) b32_zero z64 b32_zero, hc⟩
theorem okr_msgOf {p : ML} {e : Ev} (h : p.m = msgOf e) (he : e.okw) : p.okr := by
  obtain ⟨k, x, st, n, r, v⟩ := p
  unfold ML.m msgOf at h
  have hz : ∀ (k' : Int) (e' : Ev), (⟨k, x, st, n, r.r, v.e⟩ : Msg) = ⟨k', 0, 0, 0, Rl0, e'⟩ → (0 ≤ k' ∧ k' < 256) → e'.okw → ML.okr ⟨k, x, st, n, r, v⟩ := fun k' e' h1 h2 h3 => by
    simp only [Msg.mk.injEq] at h1
    obtain ⟨rfl, rfl, rfl, rfl, h5, h6⟩ := h1
    exact ML.okr_mk (by show r.r.okw; rw [h5]; exact Rl0_okw) (by show v.e.okw; rw [h6]; exact h3) h2 b32_zero z64 b32_zero
  simp only at h
  split at h
  · exact hz 73 e h ⟨by decide, by decide⟩ he
  split at h
  · exact hz 85 e h ⟨by decide, by decide⟩ he
  split at h
  · exact hz 68 e h ⟨by decide, by decide⟩ he
  split at h
  · exact hz 84 e h ⟨by decide, by decide⟩ he
  · exact hz 0 Ev0 h ⟨by decide, by decide⟩ Ev0_okw
theorem msgOf_r0 (e : Ev) : (msgOf e).r = Rl0 := by
  unfold msgOf
  (repeat' split) <;> rfl
theorem cap_msgOf {p : ML} {e : Ev} (h : p.m = msgOf e) : p.r.r.cols.length ≤ p.r.c := by
  have h1 : p.r.r = Rl0 := (show p.m.r = Rl0 by rw [h]; exact msgOf_r0 e)
  rw [h1]; exact Nat.zero_le _
structure TL.okw (t : TL) : Prop where
  xid : B32 t.xid
  st : 0 ≤ t.st ∧ t.st < 18446744073709551616
  es : ∀ e ∈ t.es, e.e.okw
  n : t.es.length ≤ 600
  r : ∀ e ∈ t.es, e.e.rs.length ≤ 30
theorem TL.okw.lit {t : TL} (h : t.okw) : t.t.lit := ⟨by unfold TL.t; rw [List.length_map]; exact h.n, fun v hv => by
  obtain ⟨e, he, rfl⟩ := List.mem_map.1 hv
  exact h.r e he⟩
end Go.Proofs.YtdlhaidlokkmnaaGreatDoor
