/-
The message of an event: the reference's Of.
-/
import Derived.Test.YtihldginolbooaaGreatDoorP21
import Derived.Test.YtihldginolbooaaGreatDoorP7
import Derived.Test.YtihldginolbooaaGreatDoorP5
namespace Go.Proofs.YtihldginolbooaaGreatDoor
open Go.RowKit

/-- The message of an event that lies somewhere. -/
def mlOf (x : EL) : ML :=
  let r0 : RR := ⟨Rl0, none, 0⟩
  if x.e.kind = 4 then ⟨73, 0, 0, 0, r0, x⟩ else if x.e.kind = 5 then ⟨85, 0, 0, 0, r0, x⟩ else if x.e.kind = 6 then ⟨68, 0, 0, 0, r0, x⟩ else if x.e.kind = 7 then ⟨84, 0, 0, 0, r0, x⟩ else ⟨0, 0, 0, 0, r0, ⟨Ev0, none, 0, none, 0, none, 0⟩⟩
theorem mlOf_m (x : EL) : (mlOf x).m = msgOf x.e := by
  unfold mlOf msgOf
  simp only
  (repeat' split) <;> rfl
theorem mlOf_at {n : Nat} {f : K → List Value} {W : World} {x : EL} (h : x.at n f W) : (mlOf x).at n f W := by
  unfold mlOf
  simp only
  (repeat' split) <;> first | exact ⟨RR.in_zero W, h⟩ | exact ⟨RR.in_zero W, EL.at_zero n f W⟩
theorem ix_0 (h) : ((⟨#[73, 85, 68, 84]⟩ : ByteArray)[(IntKind.u8.wrap 0).toNat]'h).toNat = 73 := by kernel_rfl
theorem ix_1 (h) : ((⟨#[73, 85, 68, 84]⟩ : ByteArray)[(IntKind.u8.wrap 1).toNat]'h).toNat = 85 := by kernel_rfl
theorem ix_2 (h) : ((⟨#[73, 85, 68, 84]⟩ : ByteArray)[(IntKind.u8.wrap 2).toNat]'h).toNat = 68 := by kernel_rfl
theorem ix_3 (h) : ((⟨#[73, 85, 68, 84]⟩ : ByteArray)[(IntKind.u8.wrap 3).toNat]'h).toNat = 84 := by kernel_rfl
set_option maxRecDepth 20000 in
theorem res_rof20 {W : World} {b : Nat} {v0 v1 v2 v3 v4 v5 v6 v7 v8 v9 v10 v11 v12 v13 v14 v15 v16 : Value} {tm : Array Value} (h : Blk W b #[v0, v1, v2, v3, v4, v5, v6, v7, v8, v9, v10, v11, v12, v13, v14, v15, v16] 35) (ht : tm.getD 2 undef = .pointer (some ⟨b, 0, none⟩)) :
    (results Tryz.f17 tm).run Tryz.prog W = .ok (.agg #[v0, v1, v2, v3, v4, v5, v6, v7, v8, v9, v10, v11, v12, v13, v14, v15, v16]) W := by
  have c := h.cell
  have c0 := c 0
  have c1 := c 1
  have c2 := c 2
  have c3 := c 3
  have c4 := c 4
  have c5 := c 5
  have c6 := c 6
  have c7 := c 7
  have c8 := c 8
  have c9 := c 9
  have c10 := c 10
  have c11 := c 11
  have c12 := c 12
  have c13 := c 13
  have c14 := c 14
  have c15 := c 15
  have c16 := c 16
  clear c h
  simp at c0 c1 c2 c3 c4 c5 c6 c7 c8 c9 c10 c11 c12 c13 c14 c15 c16
  rw [Array.getD_eq_getD_getElem?] at ht
  simp [results, Tryz.results17, go_sem, ht, c0, c1, c2, c3, c4, c5, c6, c7, c8, c9, c10, c11, c12, c13, c14, c15, c16]

set_option maxRecDepth 100000 in set_option maxHeartbeats 8000000 in
theorem rof20_any (x : EL) (w : World) (h0 : 0 ≤ x.e.kind) (h1 : x.e.kind < 256) :
    Calls Tryz.prog 17 #[x.agg] w fun e w' => e = .returned (mlOf x).agg ∧ Ext w w' := by
  obtain ⟨⟨kd, ao, av, old, b, aa, rs, fl⟩, ba, bc, aad, ac, ra, rc⟩ := x
  unfold EL.agg mlOf
  dsimp only at h0 h1 ⊢
  have HX := Hid.mk' (show Blk ((w.alloc (.cells #[.int .u8 kd, .int .u32 ao, .int .u32 av, .int .u8 old, .slice ba b.length bc, .slice aad aa.length ac, .slice ra rs.length rc, .int .u8 fl] 33)).alloc (.cells #[.int .u8 0, .int .u32 0, .int .u64 0, .int .u32 0, .int .u32 0, .int .u32 0, .string ⟨#[]⟩, .int .u8 0, .slice none 0 0, .int .u8 0, .int .u32 0, .int .u32 0, .int .u8 0, .slice none 0 0, .slice none 0 0, .slice none 0 0, .int .u8 0] 35)) w.heap.size #[.int .u8 kd, .int .u32 ao, .int .u32 av, .int .u8 old, .slice ba b.length bc, .slice aad aa.length ac, .slice ra rs.length rc, .int .u8 fl] 33 from (Blk.new _ _ _).alloc _)
  have HZ := Hid.mk' (show Blk ((w.alloc (.cells #[.int .u8 kd, .int .u32 ao, .int .u32 av, .int .u8 old, .slice ba b.length bc, .slice aad aa.length ac, .slice ra rs.length rc, .int .u8 fl] 33)).alloc (.cells #[.int .u8 0, .int .u32 0, .int .u64 0, .int .u32 0, .int .u32 0, .int .u32 0, .string ⟨#[]⟩, .int .u8 0, .slice none 0 0, .int .u8 0, .int .u32 0, .int .u32 0, .int .u8 0, .slice none 0 0, .slice none 0 0, .slice none 0 0, .int .u8 0] 35)) (w.heap.size + 1) #[.int .u8 0, .int .u32 0, .int .u64 0, .int .u32 0, .int .u32 0, .int .u32 0, .string ⟨#[]⟩, .int .u8 0, .slice none 0 0, .int .u8 0, .int .u32 0, .int .u32 0, .int .u8 0, .slice none 0 0, .slice none 0 0, .slice none 0 0, .int .u8 0] 35 from Blk.new' (w := w.alloc (.cells #[.int .u8 kd, .int .u32 ao, .int .u32 av, .int .u8 old, .slice ba b.length bc, .slice aad aa.length ac, .slice ra rs.length rc, .int .u8 fl] 33)) _ _ (by simp))
  have HE1 := Hid.mk' (show Ext w ((w.alloc (.cells #[.int .u8 kd, .int .u32 ao, .int .u32 av, .int .u8 old, .slice ba b.length bc, .slice aad aa.length ac, .slice ra rs.length rc, .int .u8 fl] 33)).alloc (.cells #[.int .u8 0, .int .u32 0, .int .u64 0, .int .u32 0, .int .u32 0, .int .u32 0, .string ⟨#[]⟩, .int .u8 0, .slice none 0 0, .int .u8 0, .int .u32 0, .int .u32 0, .int .u8 0, .slice none 0 0, .slice none 0 0, .slice none 0 0, .int .u8 0] 35)) from ((Ext.refl w).alloc _).alloc _)
  obtain ⟨w1, hw1⟩ : ∃ W, W = (w.alloc (.cells #[.int .u8 kd, .int .u32 ao, .int .u32 av, .int .u8 old, .slice ba b.length bc, .slice aad aa.length ac, .slice ra rs.length rc, .int .u8 fl] 33)).alloc (.cells #[.int .u8 0, .int .u32 0, .int .u64 0, .int .u32 0, .int .u32 0, .int .u32 0, .string ⟨#[]⟩, .int .u8 0, .slice none 0 0, .int .u8 0, .int .u32 0, .int .u32 0, .int .u8 0, .slice none 0 0, .slice none 0 0, .slice none 0 0, .int .u8 0] 35) := ⟨_, rfl⟩
  rw [← hw1] at HX HZ HE1
  by_cases h4 : kd = 4
  · subst h4
    go_enter Tryz.func17, Tryz.ntmps17
    go_upto_region 1 with (fail)
    rw [← hw1]
    clear hw1
    have gX := HX.out.cell
    have zX := HX.out.lt
    obtain ⟨X, hX⟩ : ∃ X, X = w.heap.size := ⟨_, rfl⟩
    rw [← hX] at gX zX HZ ⊢
    have HXE := Hid.mk' hX
    clear hX
    go_upto_region 3 with (fail)
    have hA0 : Hid ((fun w' => Ext (w1) w' ∧ (∀ b o, b < (w1).heap.size → w'.cell? ⟨b, o, none⟩ = (w1).cell? ⟨b, o, none⟩) ∧ (∀ b o, b < (w1).heap.size → w'.frozen? ⟨b, o, none⟩ = (w1).frozen? ⟨b, o, none⟩)) w1.drew) := held_of (by exact eX)
    refine wp_region_head 6 (fun w' => Ext (w1) w' ∧ (∀ b o, b < (w1).heap.size → w'.cell? ⟨b, o, none⟩ = (w1).cell? ⟨b, o, none⟩) ∧ (∀ b o, b < (w1).heap.size → w'.frozen? ⟨b, o, none⟩ = (w1).frozen? ⟨b, o, none⟩)) (by kernel_rfl) (by decide) ?_
    refine HG.on 0 12 hA0.out ?_
    try simp only [Act.put, List.setIfInBounds_toArray, List.set_cons_zero, List.set_cons_succ]
    refine HG.on 1 13 hA0.out ?_
    try simp only [Act.put, List.setIfInBounds_toArray, List.set_cons_zero, List.set_cons_succ]
    refine HG.on 2 14 hA0.out ?_
    try simp only [Act.put, List.setIfInBounds_toArray, List.set_cons_zero, List.set_cons_succ]
    refine HG.on 4 16 hA0.out ?_
    try simp only [Act.put, List.setIfInBounds_toArray, List.set_cons_zero, List.set_cons_succ]
    refine wpHd_take (i := 3) (v := .int .u8 73) rfl (by kernel_rfl) (by kernel_rfl) (by kernel_rfl) (fun _ _ _ h => h) (Or.inl ⟨by rfl, ?_⟩) hA0.out ?_
    · intro w' hS'
      go_simp
      rw [dif_pos (show IntKind.u8.wrap 0 < 4 by decide), ix_0]
      rfl
    try simp only [Act.put, List.setIfInBounds_toArray]
    refine HG.on 5 17 hA0.out ?_
    try simp only [Act.put]
    clear hA0 gX zX
    refine wpHd_tail (by kernel_rfl) ?_
    simp only [List.drop_succ_cons, List.drop_zero]
    obtain ⟨w2, hw2⟩ : ∃ W, W = w1.drew := ⟨_, rfl⟩
    have HZ2 := Hid.mk' (show Blk w2 (X + 1) #[.int .u8 0, .int .u32 0, .int .u64 0, .int .u32 0, .int .u32 0, .int .u32 0, .string ⟨#[]⟩, .int .u8 0, .slice none 0 0, .int .u8 0, .int .u32 0, .int .u32 0, .int .u8 0, .slice none 0 0, .slice none 0 0, .slice none 0 0, .int .u8 0] 35 by rw [hw2]; exact HZ.out.ext ((Ext.refl w1).drew))
    have HE2 := Hid.mk' (show Ext w w2 by rw [hw2]; exact HE1.out.trans ((Ext.refl w1).drew))
    rw [← hw2]
    clear hw2
    have HS17 := Hid.mk' (show (Instr.storeAt 35 (.pointer (some ⟨X + 1, 0, none⟩)) (.agg #[.int .u8 73, .int .u32 0, .int .u64 0, .int .u32 0, .int .u32 0, .int .u32 0, .string ⟨#[]⟩, .int .u8 0, .slice none 0 0, .int .u8 4, .int .u32 ao, .int .u32 av, .int .u8 old, .slice ba b.length bc, .slice aad aa.length ac, .slice ra rs.length rc, .int .u8 fl])).run Tryz.prog w2 = .ok () _ from rstore17 HZ2.out)
    go_wp2_with (refine wpList_store_to rfl 35 (.tmp 2) (.tmp 17) rfl _ _ ?e1 ?e2 HS17.out ?_; (case e1 => go_simp); (case e2 => go_simp))
    refine bodyPost_ret (res_rof20 (Blk.c17 HZ2.out) rfl) rfl ⟨?_, Ext.c17 HE2.out (by have := HXE.out; omega)⟩
    first | rfl | (rw [if_pos rfl]; rfl)
  by_cases h5 : kd = 5
  · subst h5
    go_enter Tryz.func17, Tryz.ntmps17
    go_upto_region 1 with (fail)
    rw [← hw1]
    clear hw1
    have gX := HX.out.cell
    have zX := HX.out.lt
    obtain ⟨X, hX⟩ : ∃ X, X = w.heap.size := ⟨_, rfl⟩
    rw [← hX] at gX zX HZ ⊢
    have HXE := Hid.mk' hX
    clear hX
    go_upto_region 3 with (fail)
    have hA0 : Hid ((fun w' => Ext (w1) w' ∧ (∀ b o, b < (w1).heap.size → w'.cell? ⟨b, o, none⟩ = (w1).cell? ⟨b, o, none⟩) ∧ (∀ b o, b < (w1).heap.size → w'.frozen? ⟨b, o, none⟩ = (w1).frozen? ⟨b, o, none⟩)) w1.drew) := held_of (by exact eX)
    refine wp_region_head 6 (fun w' => Ext (w1) w' ∧ (∀ b o, b < (w1).heap.size → w'.cell? ⟨b, o, none⟩ = (w1).cell? ⟨b, o, none⟩) ∧ (∀ b o, b < (w1).heap.size → w'.frozen? ⟨b, o, none⟩ = (w1).frozen? ⟨b, o, none⟩)) (by kernel_rfl) (by decide) ?_
    refine HG.on 0 12 hA0.out ?_
    try simp only [Act.put, List.setIfInBounds_toArray, List.set_cons_zero, List.set_cons_succ]
    refine HG.on 1 13 hA0.out ?_
    try simp only [Act.put, List.setIfInBounds_toArray, List.set_cons_zero, List.set_cons_succ]
    refine HG.on 2 14 hA0.out ?_
    try simp only [Act.put, List.setIfInBounds_toArray, List.set_cons_zero, List.set_cons_succ]
    refine HG.on 4 16 hA0.out ?_
    try simp only [Act.put, List.setIfInBounds_toArray, List.set_cons_zero, List.set_cons_succ]
    refine wpHd_take (i := 3) (v := .int .u8 85) rfl (by kernel_rfl) (by kernel_rfl) (by kernel_rfl) (fun _ _ _ h => h) (Or.inl ⟨by rfl, ?_⟩) hA0.out ?_
    · intro w' hS'
      go_simp
      rw [dif_pos (show IntKind.u8.wrap 1 < 4 by decide), ix_1]
      rfl
    try simp only [Act.put, List.setIfInBounds_toArray]
    refine HG.on 5 17 hA0.out ?_
    try simp only [Act.put]
    clear hA0 gX zX
    refine wpHd_tail (by kernel_rfl) ?_
    simp only [List.drop_succ_cons, List.drop_zero]
    obtain ⟨w2, hw2⟩ : ∃ W, W = w1.drew := ⟨_, rfl⟩
    have HZ2 := Hid.mk' (show Blk w2 (X + 1) #[.int .u8 0, .int .u32 0, .int .u64 0, .int .u32 0, .int .u32 0, .int .u32 0, .string ⟨#[]⟩, .int .u8 0, .slice none 0 0, .int .u8 0, .int .u32 0, .int .u32 0, .int .u8 0, .slice none 0 0, .slice none 0 0, .slice none 0 0, .int .u8 0] 35 by rw [hw2]; exact HZ.out.ext ((Ext.refl w1).drew))
    have HE2 := Hid.mk' (show Ext w w2 by rw [hw2]; exact HE1.out.trans ((Ext.refl w1).drew))
    rw [← hw2]
    clear hw2
    have HS17 := Hid.mk' (show (Instr.storeAt 35 (.pointer (some ⟨X + 1, 0, none⟩)) (.agg #[.int .u8 85, .int .u32 0, .int .u64 0, .int .u32 0, .int .u32 0, .int .u32 0, .string ⟨#[]⟩, .int .u8 0, .slice none 0 0, .int .u8 5, .int .u32 ao, .int .u32 av, .int .u8 old, .slice ba b.length bc, .slice aad aa.length ac, .slice ra rs.length rc, .int .u8 fl])).run Tryz.prog w2 = .ok () _ from rstore17 HZ2.out)
    go_wp2_with (refine wpList_store_to rfl 35 (.tmp 2) (.tmp 17) rfl _ _ ?e1 ?e2 HS17.out ?_; (case e1 => go_simp); (case e2 => go_simp))
    refine bodyPost_ret (res_rof20 (Blk.c17 HZ2.out) rfl) rfl ⟨?_, Ext.c17 HE2.out (by have := HXE.out; omega)⟩
    first | rfl | (rw [if_neg (show ¬ (5 : Int) = 4 by decide), if_pos rfl]; rfl)
  by_cases h6 : kd = 6
  · subst h6
    go_enter Tryz.func17, Tryz.ntmps17
    go_upto_region 1 with (fail)
    rw [← hw1]
    clear hw1
    have gX := HX.out.cell
    have zX := HX.out.lt
    obtain ⟨X, hX⟩ : ∃ X, X = w.heap.size := ⟨_, rfl⟩
    rw [← hX] at gX zX HZ ⊢
    have HXE := Hid.mk' hX
    clear hX
    go_upto_region 3 with (fail)
    have hA0 : Hid ((fun w' => Ext (w1) w' ∧ (∀ b o, b < (w1).heap.size → w'.cell? ⟨b, o, none⟩ = (w1).cell? ⟨b, o, none⟩) ∧ (∀ b o, b < (w1).heap.size → w'.frozen? ⟨b, o, none⟩ = (w1).frozen? ⟨b, o, none⟩)) w1.drew) := held_of (by exact eX)
    refine wp_region_head 6 (fun w' => Ext (w1) w' ∧ (∀ b o, b < (w1).heap.size → w'.cell? ⟨b, o, none⟩ = (w1).cell? ⟨b, o, none⟩) ∧ (∀ b o, b < (w1).heap.size → w'.frozen? ⟨b, o, none⟩ = (w1).frozen? ⟨b, o, none⟩)) (by kernel_rfl) (by decide) ?_
    refine HG.on 0 12 hA0.out ?_
    try simp only [Act.put, List.setIfInBounds_toArray, List.set_cons_zero, List.set_cons_succ]
    refine HG.on 1 13 hA0.out ?_
    try simp only [Act.put, List.setIfInBounds_toArray, List.set_cons_zero, List.set_cons_succ]
    refine HG.on 2 14 hA0.out ?_
    try simp only [Act.put, List.setIfInBounds_toArray, List.set_cons_zero, List.set_cons_succ]
    refine HG.on 4 16 hA0.out ?_
    try simp only [Act.put, List.setIfInBounds_toArray, List.set_cons_zero, List.set_cons_succ]
    refine wpHd_take (i := 3) (v := .int .u8 68) rfl (by kernel_rfl) (by kernel_rfl) (by kernel_rfl) (fun _ _ _ h => h) (Or.inl ⟨by rfl, ?_⟩) hA0.out ?_
    · intro w' hS'
      go_simp
      rw [dif_pos (show IntKind.u8.wrap 2 < 4 by decide), ix_2]
      rfl
    try simp only [Act.put, List.setIfInBounds_toArray]
    refine HG.on 5 17 hA0.out ?_
    try simp only [Act.put]
    clear hA0 gX zX
    refine wpHd_tail (by kernel_rfl) ?_
    simp only [List.drop_succ_cons, List.drop_zero]
    obtain ⟨w2, hw2⟩ : ∃ W, W = w1.drew := ⟨_, rfl⟩
    have HZ2 := Hid.mk' (show Blk w2 (X + 1) #[.int .u8 0, .int .u32 0, .int .u64 0, .int .u32 0, .int .u32 0, .int .u32 0, .string ⟨#[]⟩, .int .u8 0, .slice none 0 0, .int .u8 0, .int .u32 0, .int .u32 0, .int .u8 0, .slice none 0 0, .slice none 0 0, .slice none 0 0, .int .u8 0] 35 by rw [hw2]; exact HZ.out.ext ((Ext.refl w1).drew))
    have HE2 := Hid.mk' (show Ext w w2 by rw [hw2]; exact HE1.out.trans ((Ext.refl w1).drew))
    rw [← hw2]
    clear hw2
    have HS17 := Hid.mk' (show (Instr.storeAt 35 (.pointer (some ⟨X + 1, 0, none⟩)) (.agg #[.int .u8 68, .int .u32 0, .int .u64 0, .int .u32 0, .int .u32 0, .int .u32 0, .string ⟨#[]⟩, .int .u8 0, .slice none 0 0, .int .u8 6, .int .u32 ao, .int .u32 av, .int .u8 old, .slice ba b.length bc, .slice aad aa.length ac, .slice ra rs.length rc, .int .u8 fl])).run Tryz.prog w2 = .ok () _ from rstore17 HZ2.out)
    go_wp2_with (refine wpList_store_to rfl 35 (.tmp 2) (.tmp 17) rfl _ _ ?e1 ?e2 HS17.out ?_; (case e1 => go_simp); (case e2 => go_simp))
    refine bodyPost_ret (res_rof20 (Blk.c17 HZ2.out) rfl) rfl ⟨?_, Ext.c17 HE2.out (by have := HXE.out; omega)⟩
    first | rfl | (rw [if_neg (show ¬ (6 : Int) = 4 by decide), if_neg (show ¬ (6 : Int) = 5 by decide), if_pos rfl]; rfl)
  by_cases h7 : kd = 7
  · subst h7
    go_enter Tryz.func17, Tryz.ntmps17
    go_upto_region 1 with (fail)
    rw [← hw1]
    clear hw1
    have gX := HX.out.cell
    have zX := HX.out.lt
    obtain ⟨X, hX⟩ : ∃ X, X = w.heap.size := ⟨_, rfl⟩
    rw [← hX] at gX zX HZ ⊢
    have HXE := Hid.mk' hX
    clear hX
    go_upto_region 3 with (fail)
    have hA0 : Hid ((fun w' => Ext (w1) w' ∧ (∀ b o, b < (w1).heap.size → w'.cell? ⟨b, o, none⟩ = (w1).cell? ⟨b, o, none⟩) ∧ (∀ b o, b < (w1).heap.size → w'.frozen? ⟨b, o, none⟩ = (w1).frozen? ⟨b, o, none⟩)) w1.drew) := held_of (by exact eX)
    refine wp_region_head 6 (fun w' => Ext (w1) w' ∧ (∀ b o, b < (w1).heap.size → w'.cell? ⟨b, o, none⟩ = (w1).cell? ⟨b, o, none⟩) ∧ (∀ b o, b < (w1).heap.size → w'.frozen? ⟨b, o, none⟩ = (w1).frozen? ⟨b, o, none⟩)) (by kernel_rfl) (by decide) ?_
    refine HG.on 0 12 hA0.out ?_
    try simp only [Act.put, List.setIfInBounds_toArray, List.set_cons_zero, List.set_cons_succ]
    refine HG.on 1 13 hA0.out ?_
    try simp only [Act.put, List.setIfInBounds_toArray, List.set_cons_zero, List.set_cons_succ]
    refine HG.on 2 14 hA0.out ?_
    try simp only [Act.put, List.setIfInBounds_toArray, List.set_cons_zero, List.set_cons_succ]
    refine HG.on 4 16 hA0.out ?_
    try simp only [Act.put, List.setIfInBounds_toArray, List.set_cons_zero, List.set_cons_succ]
    refine wpHd_take (i := 3) (v := .int .u8 84) rfl (by kernel_rfl) (by kernel_rfl) (by kernel_rfl) (fun _ _ _ h => h) (Or.inl ⟨by rfl, ?_⟩) hA0.out ?_
    · intro w' hS'
      go_simp
      rw [dif_pos (show IntKind.u8.wrap 3 < 4 by decide), ix_3]
      rfl
    try simp only [Act.put, List.setIfInBounds_toArray]
    refine HG.on 5 17 hA0.out ?_
    try simp only [Act.put]
    clear hA0 gX zX
    refine wpHd_tail (by kernel_rfl) ?_
    simp only [List.drop_succ_cons, List.drop_zero]
    obtain ⟨w2, hw2⟩ : ∃ W, W = w1.drew := ⟨_, rfl⟩
    have HZ2 := Hid.mk' (show Blk w2 (X + 1) #[.int .u8 0, .int .u32 0, .int .u64 0, .int .u32 0, .int .u32 0, .int .u32 0, .string ⟨#[]⟩, .int .u8 0, .slice none 0 0, .int .u8 0, .int .u32 0, .int .u32 0, .int .u8 0, .slice none 0 0, .slice none 0 0, .slice none 0 0, .int .u8 0] 35 by rw [hw2]; exact HZ.out.ext ((Ext.refl w1).drew))
    have HE2 := Hid.mk' (show Ext w w2 by rw [hw2]; exact HE1.out.trans ((Ext.refl w1).drew))
    rw [← hw2]
    clear hw2
    have HS17 := Hid.mk' (show (Instr.storeAt 35 (.pointer (some ⟨X + 1, 0, none⟩)) (.agg #[.int .u8 84, .int .u32 0, .int .u64 0, .int .u32 0, .int .u32 0, .int .u32 0, .string ⟨#[]⟩, .int .u8 0, .slice none 0 0, .int .u8 7, .int .u32 ao, .int .u32 av, .int .u8 old, .slice ba b.length bc, .slice aad aa.length ac, .slice ra rs.length rc, .int .u8 fl])).run Tryz.prog w2 = .ok () _ from rstore17 HZ2.out)
    go_wp2_with (refine wpList_store_to rfl 35 (.tmp 2) (.tmp 17) rfl _ _ ?e1 ?e2 HS17.out ?_; (case e1 => go_simp); (case e2 => go_simp))
    refine bodyPost_ret (res_rof20 (Blk.c17 HZ2.out) rfl) rfl ⟨?_, Ext.c17 HE2.out (by have := HXE.out; omega)⟩
    first | rfl | (rw [if_neg (show ¬ (7 : Int) = 4 by decide), if_neg (show ¬ (7 : Int) = 5 by decide), if_neg (show ¬ (7 : Int) = 6 by decide), if_pos rfl]; rfl)
  have hlt : kd < 4 ∨ 7 < kd := by omega
  rcases hlt with hlt | hlt
  · have q1 : decide (kd < 4) = true := decide_eq_true hlt
    go_enter Tryz.func17, Tryz.ntmps17
    go_upto_region 1 with (fail)
    rw [← hw1]
    clear hw1
    have gX := HX.out.cell
    have zX := HX.out.lt
    obtain ⟨X, hX⟩ : ∃ X, X = w.heap.size := ⟨_, rfl⟩
    rw [← hX] at gX zX HZ ⊢
    have HXE := Hid.mk' hX
    clear hX
    have HS17 := Hid.mk' (show (Instr.storeAt 35 (.pointer (some ⟨X + 1, 0, none⟩)) (.agg #[.int .u8 0, .int .u32 0, .int .u64 0, .int .u32 0, .int .u32 0, .int .u32 0, .string ⟨#[]⟩, .int .u8 0, .slice none 0 0, .int .u8 0, .int .u32 0, .int .u32 0, .int .u8 0, .slice none 0 0, .slice none 0 0, .slice none 0 0, .int .u8 0])).run Tryz.prog w1 = .ok () _ from rstore17 HZ.out)
    go_wp2_with (refine wpList_store_to rfl 35 (.tmp 2) (.tmp 11) rfl _ _ ?e1 ?e2 HS17.out ?_; (case e1 => go_simp); (case e2 => go_simp))
    refine bodyPost_ret (res_rof20 (Blk.c17 HZ.out) rfl) rfl ⟨?_, Ext.c17 HE1.out (by have := HXE.out; omega)⟩
    first | rfl | (rw [if_neg h4, if_neg h5, if_neg h6, if_neg h7]; rfl)
  · have q1 : decide (kd < 4) = false := decide_eq_false (by omega)
    have q2 : decide (7 < kd) = true := decide_eq_true hlt
    go_enter Tryz.func17, Tryz.ntmps17
    go_upto_region 1 with (fail)
    rw [← hw1]
    clear hw1
    have gX := HX.out.cell
    have zX := HX.out.lt
    obtain ⟨X, hX⟩ : ∃ X, X = w.heap.size := ⟨_, rfl⟩
    rw [← hX] at gX zX HZ ⊢
    have HXE := Hid.mk' hX
    clear hX
    have HS17 := Hid.mk' (show (Instr.storeAt 35 (.pointer (some ⟨X + 1, 0, none⟩)) (.agg #[.int .u8 0, .int .u32 0, .int .u64 0, .int .u32 0, .int .u32 0, .int .u32 0, .string ⟨#[]⟩, .int .u8 0, .slice none 0 0, .int .u8 0, .int .u32 0, .int .u32 0, .int .u8 0, .slice none 0 0, .slice none 0 0, .slice none 0 0, .int .u8 0])).run Tryz.prog w1 = .ok () _ from rstore17 HZ.out)
    go_wp2_with (refine wpList_store_to rfl 35 (.tmp 2) (.tmp 11) rfl _ _ ?e1 ?e2 HS17.out ?_; (case e1 => go_simp); (case e2 => go_simp))
    refine bodyPost_ret (res_rof20 (Blk.c17 HZ.out) rfl) rfl ⟨?_, Ext.c17 HE1.out (by have := HXE.out; omega)⟩
    first | rfl | (rw [if_neg h4, if_neg h5, if_neg h6, if_neg h7]; rfl)

end Go.Proofs.YtihldginolbooaaGreatDoor

/-
Does a law look at so much?
-/
namespace Go.Proofs.YtihldginolbooaaGreatDoor
open Go.RowKit

def GreatK (l : List K) (cols : List Col) (nm : ByteArray) (w : World) (e : Ending) (w' : World) : Prop :=
  ∃ g : Bool, e = .returned (.bool g) ∧ (g = false → (∀ c ∈ l, c.v.s.size ≤ 3000) ∧ (∀ c ∈ cols, c.nm.size ≤ 60) ∧ l.length ≤ 20 ∧ cols.length ≤ 20 ∧ nm.size ≤ 60) ∧ Ext w w'

set_option maxRecDepth 100000 in set_option maxHeartbeats 4000000 in
theorem greatK_any (l : List K) (a : Option Addr) (cap : Nat) (oid ver : Int) (nm : ByteArray) (id : Int) (cols : List Col) (a2 : Option Addr) (cap2 : Nat) (w : World) (hl : Sl w (.slice a l.length cap) 6 (l.map K.rc)) (hl2 : Sl w (.slice a2 cols.length cap2) 3 (cols.map Col.cells))
    (hlen : l.length ≤ 9223372036854775807) (hlen2 : cols.length ≤ 9223372036854775807) (hs : ∀ c ∈ l, c.v.s.size ≤ 9223372036854775807) (hs2 : ∀ c ∈ cols, c.nm.size ≤ 9223372036854775807) (hnm : nm.size ≤ 9223372036854775807) :
    Calls Tryz.prog 47 #[.slice a l.length cap, .agg #[.int .u32 oid, .int .u32 ver, .string nm, .int .u8 id, .slice a2 cols.length cap2]] w (GreatK l cols nm w) := by
  have HL := Hid.mk' hl
  have HL2 := Hid.mk' hl2
  have HS := Hid.mk' hs
  have HS2 := Hid.mk' hs2
  clear hl hl2 hs hs2
  go_enter Tryz.func47, Tryz.ntmps47
  go_wp2
  go_loopw [5] (fun i wr => ∃ k : Nat, k ≤ l.length ∧ i = .int .i64 k ∧ Hid (∀ j (hj : j < l.length), j < k → l[j].v.s.size ≤ 3000) ∧ Hid (Ext (w.alloc (.cells #[.int .u32 oid, .int .u32 ver, .string nm, .int .u8 id, .slice a2 cols.length cap2] 29)) wr)) (fun i _ => l.length - (intOf i).toNat)
  case atStart => exact ⟨0, Nat.zero_le _, rfl, fun j _ h => by omega, Ext.refl _⟩
  case round =>
    obtain ⟨k, hk, rfl, hrel, hE⟩ := hrel
    have hEw : Hid (Ext w wr) := Hid.mk' (((Ext.refl w).alloc _).trans hE.out)
    by_cases hlt : k < l.length
    · obtain ⟨b, o, rfl, hb, hx⟩ := HL.out.at_ (i := k) (by simpa using hlt)
      obtain ⟨f0, f1, f2, f3, f4, f5⟩ := K.rcAt hlt hx hb hEw.out
      have hbw : b < wr.heap.size := Nat.lt_of_lt_of_le hb hEw.out.size
      have hsz := HS.out _ (List.getElem_mem hlt)
      clear hx
      by_cases h3 : 3000 < l[k].v.s.size
      · go_wp2
        go_ret
        exact ⟨true, rfl, (fun h => by cases h), hEw.out⟩
      · have h4 : l[k].v.s.size ≤ 3000 := by omega
        go_wp2
        go_roundw
        case rel => exact ⟨k + 1, by omega, by go_num, fun j hj hjk => by
          by_cases e : j = k
          · subst e; exact h4
          · exact hrel.out j hj (by omega), hE⟩
        case measure => simp [intOf]; omega
    · have hkk : k = l.length := by omega
      have H3 : Hid (∀ c ∈ l, c.v.s.size ≤ 3000) := Hid.mk' (fun c hc => by
        obtain ⟨i, hi, rfl⟩ := List.getElem_of_mem hc
        exact hrel.out i hi (by omega))
      subst hkk
      clear hrel
      have hBx := (Blk.new w #[.int .u32 oid, .int .u32 ver, .string nm, .int .u8 id, .slice a2 cols.length cap2] 29).ext hE.out
      have g0 := hBx.cell
      have z0 := hBx.lt
      clear hBx
      go_wp2
      obtain ⟨wo, rfl⟩ : ∃ wo : World, wo = wr := ⟨_, rfl⟩
      go_loopw [6] (fun i wr => ∃ k : Nat, k ≤ cols.length ∧ i = .int .i64 k ∧ Hid (∀ j (hj : j < cols.length), j < k → cols[j].nm.size ≤ 60) ∧ wr = wo) (fun i _ => cols.length - (intOf i).toNat)
      case atStart => exact ⟨0, Nat.zero_le _, rfl, fun j _ h => by omega, rfl⟩
      case round =>
        obtain ⟨k, hk, rfl, hrel, rfl⟩ := hrel
        by_cases hlt : k < cols.length
        · obtain ⟨b, o, rfl, hb, hx⟩ := HL2.out.at_ (i := k) (by simpa using hlt)
          obtain ⟨f0, f1, f2⟩ := Col.at_ hlt hx hb hEw.out
          have hbw : b < wr.heap.size := Nat.lt_of_lt_of_le hb hEw.out.size
          have hsz := HS2.out _ (List.getElem_mem hlt)
          clear hx
          by_cases h3 : 60 < cols[k].nm.size
          · go_wp2
            go_ret
            exact ⟨true, rfl, (fun h => by cases h), hEw.out⟩
          · have h4 : cols[k].nm.size ≤ 60 := by omega
            go_wp2
            go_roundw
            case rel => exact ⟨k + 1, by omega, by go_num, fun j hj hjk => by
              by_cases e : j = k
              · subst e; exact h4
              · exact hrel.out j hj (by omega), (by first | trivial | rfl)⟩
            case measure => simp [intOf]; omega
        · have hkk : k = cols.length := by omega
          have H4 : Hid (∀ c ∈ cols, c.nm.size ≤ 60) := Hid.mk' (fun c hc => by
            obtain ⟨i, hi, rfl⟩ := List.getElem_of_mem hc
            exact hrel.out i hi (by omega))
          subst hkk
          clear hrel
          by_cases c1 : 20 < l.length
          · go_wp2
            go_ret
            exact ⟨_, rfl, fun h => by simp at h; try omega, hEw.out⟩
          · have c1' : l.length ≤ 20 := by omega
            by_cases c2 : 20 < cols.length
            · go_wp2
              go_ret
              exact ⟨_, rfl, fun h => by simp at h; try omega, hEw.out⟩
            · have c2' : cols.length ≤ 20 := by omega
              go_wp2
              go_ret
              exact ⟨_, rfl, fun h => ⟨H3.out, H4.out, c1', c2', by simp at h; omega⟩, hEw.out⟩

end Go.Proofs.YtihldginolbooaaGreatDoor
