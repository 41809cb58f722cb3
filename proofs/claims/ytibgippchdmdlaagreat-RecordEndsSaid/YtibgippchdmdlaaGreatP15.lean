/-
The awake of the laws of records.
-/
import Derived.ProofKit
import Derived.OpenShut
import Derived.Deep.Slices
import Derived.Carry
import Derived.Test.YtibgippchdmdlaaGreatP14
namespace Go.Proofs.YtibgippchdmdlaaGreat
open Go.RowKit HG

def aw15 : Rl := ⟨1, 2, ⟨#[116]⟩, 0, [⟨⟨#[97]⟩, 1, false⟩]⟩
theorem aw15_up : ofUp [aw15] 1 = [aw15] := by rfl
theorem aw15_ofE : ofE [aw15] = 0 := by decide
theorem aw15_ofPl : ofPl [aw15] = 1 := by decide
theorem aw15_wb : aw15.wb := ⟨by show 1 ≤ 9223372036854775807; omega, by intro c hc; simp [aw15] at hc; subst hc; show 1 ≤ 9223372036854775807; omega, by show 1 ≤ 5864062014634; omega, Int.le_refl 0⟩
theorem own_trunc15 {e : Ev} (hk : rowedB e.kind = false) : ownB e = true ↔ (rfB ⟨e.ao, e.av⟩ ⟨0, 0⟩ = true ∧ e.old = 0 ∧ e.b = [] ∧ e.a = []) := by
  unfold ownB Ev.only
  rw [if_neg (by rw [hk]; simp), evB_true, rfB_true]
  obtain ⟨k, ao, av, old, b, a, rs, fl⟩ := e
  simp only [Ev.mk.injEq, Rf.mk.injEq, true_and, and_true]
  constructor
  · rintro ⟨h1, h2, h3, h4, h5⟩; exact ⟨⟨h1, h2⟩, h3, h4, h5⟩
  · rintro ⟨⟨h1, h2⟩, h3, h4, h5⟩; exact ⟨h1, h2, h3, h4, h5⟩
theorem aw15_own (rs : List Rf) : ownB ⟨7, 0, 0, 0, [], [], rs, 0⟩ = true := (own_trunc15 (e := ⟨7, 0, 0, 0, [], [], rs, 0⟩) rfl).2 ⟨rfB_true.2 rfl, rfl, rfl, rfl⟩
theorem aw15_e : evE (⟨7, 0, 0, 0, [], [], [⟨1, 2⟩], 0⟩ : Ev) [aw15] = 0 := by
  unfold evE
  rw [if_neg (by simp only; omega), if_neg (by rw [aw15_own]; simp), if_pos rfl]
  unfold truncE
  rw [if_neg (by simp), if_neg (by
    rw [risB_true.2 (fun i h => by simp at h)]
    simp), if_neg (by decide), if_neg (by simp only; omega)]
theorem aw15_b1 : sevens 5 ++ sevens 300 = [5, 172, 2] := by rw [sevens_lt (x := 5) (by decide), sevens_ge (x := 300) (by decide), sevens_lt (by decide)]; rfl
theorem aw15_b2 : ((0 : Int) :: sevens 1) ++ refsBy [⟨1, 2⟩] = [0, 1, 1, 2] := by
  unfold refsBy
  simp only [List.map_cons, List.map_nil, List.flatten_cons, List.flatten_nil, List.append_nil]
  rw [sevens_lt (x := 1) (by decide), show Int.toNat 1 = 1 from rfl, show Int.toNat 2 = 2 from rfl, sevens_lt (x := 1) (by decide), sevens_lt (x := 2) (by decide)]; rfl

set_option maxRecDepth 100000 in set_option maxHeartbeats 8000000 in
theorem awake15_any (w : World) : Calls Tryz.prog 16 #[] w fun e w' => e = .returned (.bool true) ∧ Ext w w' := by
  have HPB := Hid.mk' (fun W => putBegin_any 5 300 W (by decide) (by decide))
  have HOF := Hid.mk' (cof_any [⟨aw15, some ⟨w.heap.size, 0, none⟩, 1⟩] (some ⟨((w.alloc (.cells #[.string ⟨#[97]⟩, .int .u8 1, .bool false] 130))).heap.size, 0, none⟩) 1 (((w.alloc (.cells #[.string ⟨#[97]⟩, .int .u8 1, .bool false] 130)).alloc (.cells #[.int .u32 1, .int .u32 2, .string ⟨#[116]⟩, .int .u8 0, .slice (some ⟨w.heap.size, 0, none⟩) 1 1] 112)))
    ⟨Sl.new ((w.alloc (.cells #[.string ⟨#[97]⟩, .int .u8 1, .bool false] 130))) #[.int .u32 1, .int .u32 2, .string ⟨#[116]⟩, .int .u8 0, .slice (some ⟨w.heap.size, 0, none⟩) 1 1] 112 5 1 1 _ rfl (RR.len _) rfl, fun p hp => by simp at hp; subst hp; exact (((Sl.new w #[.string ⟨#[97]⟩, .int .u8 1, .bool false] 130 3 1 1 [[.string ⟨#[97]⟩, .int .u8 1, .bool false]] rfl (by intro xs hxs; simp at hxs; subst hxs; rfl) rfl)).ext ((Ext.refl _).alloc _))⟩
    (fun p hp => by simp at hp; subst hp; exact Nat.le_refl _) (fun p hp => by simp at hp; subst hp; exact aw15_wb) (by simp))
  unfold COfPost at HOF
  simp only [World.size_alloc, List.map_cons, List.map_nil, List.length_cons, List.length_nil, Nat.zero_add, aw15_ofE, aw15_ofPl, aw15_up] at HOF
  go_enter Tryz.func16, Tryz.ntmps16
  go_upto_region 4 with (go_at_call 40; refine HOF.out.mono ?_; rintro e w1 ⟨pv, rfl, h1, -, hb1⟩; obtain ⟨rfl, c, qs, hc, hq⟩ := h1 (by first | exact rfl | exact trivial); have HC := Hid.mk' hc; have HQ := Hid.mk' hq; have HB1 := Hid.mk' (show Ext w w1 from (((Ext.refl w).alloc _).alloc _).trans hb1); clear h1 hc hq hb1)
  have HCD : Hid (Ca ((w1.alloc (.cells #[.int .u32 1, .int .u32 2] 45))) _ _ c qs) := Hid.mk' (HC.out.ext ((Ext.refl _).alloc _))
  have HAT : Hid (EL.at 5 K.pc ((w1.alloc (.cells #[.int .u32 1, .int .u32 2] 45))) ⟨(⟨7, 0, 0, 0, [], [], [⟨1, 2⟩], 0⟩ : Ev), none, 0, none, 0, some ⟨w1.heap.size, 0, none⟩, 1⟩) := Hid.mk' ⟨nilRowP _, nilRowP _, Sl.new w1 #[.int .u32 1, .int .u32 2] 45 2 1 1 (([⟨1, 2⟩] : List Rf).map Rf.cells) rfl (by intro xs hxs; simp at hxs; subst hxs; rfl) rfl⟩
  have HPUT := Hid.mk' (recput7_any _ 1 _ _ c qs _ HAT.out ⟨Nat.zero_le _, Nat.zero_le _, show 1 ≤ 1000 by omega⟩ ⟨(fun c hc => by cases hc), (fun c hc => by cases hc), Int.le_refl 0⟩ HCD.out rfl (by rw [HQ.out]; exact aw15_e) (show 1 ≤ 8 by omega) (fun r hr => by simp at hr; subst hr; exact ⟨by decide, by decide⟩) (.inl rfl))
  have HEW : Hid (Ext w ((w1.alloc (.cells #[.int .u32 1, .int .u32 2] 45)))) := Hid.mk' (HB1.out.alloc _)
  unfold EL.agg at HPUT
  simp only [List.length_nil, List.length_cons, Nat.zero_add] at HPUT
  clear HCD HAT HQ HC HOF HB1
  go_upto_region 5 with (go_at_call 12; refine HPUT.out.mono ?_; rintro e w5 ⟨v5, rfl, ho5, hb5⟩; have HO5 := Hid.mk' ho5; have HE5 := Hid.mk' (HEW.out.trans hb5); clear ho5 hb5)
  rw [aw15_b2] at HO5
  obtain ⟨SA, hSA⟩ : ∃ S, S = strOfNums (sevens 5 ++ sevens 300) := ⟨_, rfl⟩
  obtain ⟨SB, hSB⟩ : ∃ S, S = strOfNums [0, 1, 1, 2] := ⟨_, rfl⟩
  have HSA := Hid.mk' hSA
  have HSA3 : Hid (SA = strOfNums [5, 172, 2]) := Hid.mk' (by rw [hSA, aw15_b1])
  have HSB := Hid.mk' hSB
  clear hSA hSB HPUT HEW
  refine wp_region_head 21 (fun w' => Ext w5 w' ∧ (convert 40 9 v5).run Tryz.prog w' = .ok (.string SB) w') (by kernel_rfl) (by decide) ?_
  have hA0 : Hid ((fun w' => Ext w5 w' ∧ (convert 40 9 v5).run Tryz.prog w' = .ok (.string SB) w') w5.drew) := Hid.mk' ⟨(Ext.refl w5).drew, by rw [HSB.out]; exact conv_Sl (HO5.out.sl.ext (Ext.refl w5).drew)⟩
  refine wpHd_two (i := 0) (j := 2) rfl rfl rfl rfl (by kernel_rfl) (fun KK hK => ?_) (fun KK hK => ?_)
  · go_simp
    refine (HPB.out _).mono ?_
    rintro e w6 ⟨v6, rfl, ho6, hb6⟩
    have HO6 := Hid.mk' ho6
    have HE6 : Hid (Ext w5 w6) := Hid.mk' ((Ext.refl w5).drew.trans hb6)
    have HZ0 : Hid (∀ W, Ext w6 W → (fun w' => Ext w5 w' ∧ (convert 40 9 v5).run Tryz.prog w' = .ok (.string SB) w') W) := Hid.mk' (fun W h => ⟨HE6.out.trans h, by rw [HSB.out]; exact conv_Sl (HO5.out.sl.ext (HE6.out.trans h))⟩)
    refine hK.out _ _ (HZ0.out _ (Ext.refl _)) (fun hA => ?_)
    clear hK KK hA hA0 ho6 hb6
    have HZ1 : Hid (∀ W, Ext w6 W → (fun w' => (Ext w5 w' ∧ (convert 40 9 v5).run Tryz.prog w' = .ok (.string SB) w') ∧ (convert 40 9 v6).run Tryz.prog w' = .ok (.string SA) w') W) := Hid.mk' (fun W h => ⟨HZ0.out _ h, by rw [HSA.out]; exact conv_Sl (HO6.out.sl.ext h)⟩)
    have hA1 : Hid ((fun w' => (Ext w5 w' ∧ (convert 40 9 v5).run Tryz.prog w' = .ok (.string SB) w') ∧ (convert 40 9 v6).run Tryz.prog w' = .ok (.string SA) w') w6) := Hid.mk' (HZ1.out _ (Ext.refl _))
    refine wpHd_str (S' := (fun w' => (Ext w5 w' ∧ (convert 40 9 v5).run Tryz.prog w' = .ok (.string SB) w') ∧ (convert 40 9 v6).run Tryz.prog w' = .ok (.string SA) w')) (fun w' h => h.1) _ _ _ _ ?_
    (refine wpHd_takeD (i := 1) (d := some 29) (v := ?_) rfl rfl (by kernel_rfl) (by kernel_rfl) (by kernel_rfl) (fun _ _ _ h => h) (Or.inl ⟨by rfl, ?_⟩) hA1.out ?_; rotate_left 1; (· intro w' hS'; have hc' := hS'.2; go_simp; try with_reducible rfl))
    try simp only [Act.put, List.setIfInBounds_toArray, List.set_cons_zero, List.set_cons_succ]
    refine wpHd_one (i := 2) rfl rfl (by kernel_rfl) (fun KK hK => ?_)
    go_simp
    refine hK.out _ _ (HZ1.out _ ((Ext.refl _).alloc _)) (fun hA => ?_)
    clear hK KK hA hA1
    have HF := Hid.mk' (fresh_bytes w6 [5, 172, 2] 3 rfl)
    have HZ2 : Hid (∀ W, Ext (w6.alloc (.cells #[.int .u8 5, .int .u8 172, .int .u8 2] 5)) W → (fun w' => ((Ext w5 w' ∧ (convert 40 9 v5).run Tryz.prog w' = .ok (.string SB) w') ∧ (convert 40 9 v6).run Tryz.prog w' = .ok (.string SA) w') ∧ (convert 40 9 (.slice (some ⟨w6.heap.size, 0, none⟩) 3 3)).run Tryz.prog w' = .ok (.string SA) w') W) := Hid.mk' (fun W h => ⟨HZ1.out _ (((Ext.refl w6).alloc _).trans h), by rw [HSA3.out]; exact conv_Sl (HF.out.ext h)⟩)
    obtain ⟨wz, hwz⟩ : ∃ x, x = w6.alloc (.cells #[.int .u8 5, .int .u8 172, .int .u8 2] 5) := ⟨_, rfl⟩
    rw [← hwz] at HZ2 ⊢
    clear hwz HF
    have hA2 : Hid ((fun w' => ((Ext w5 w' ∧ (convert 40 9 v5).run Tryz.prog w' = .ok (.string SB) w') ∧ (convert 40 9 v6).run Tryz.prog w' = .ok (.string SA) w') ∧ (convert 40 9 (.slice (some ⟨w6.heap.size, 0, none⟩) 3 3)).run Tryz.prog w' = .ok (.string SA) w') wz) := Hid.mk' (HZ2.out _ (Ext.refl _))
    refine wpHd_str (S' := (fun w' => ((Ext w5 w' ∧ (convert 40 9 v5).run Tryz.prog w' = .ok (.string SB) w') ∧ (convert 40 9 v6).run Tryz.prog w' = .ok (.string SA) w') ∧ (convert 40 9 (.slice (some ⟨w6.heap.size, 0, none⟩) 3 3)).run Tryz.prog w' = .ok (.string SA) w')) (fun w' h => h.1) _ _ _ _ ?_
    (refine wpHd_takeD (i := 3) (d := some 31) (v := ?_) rfl rfl (by kernel_rfl) (by kernel_rfl) (by kernel_rfl) (fun _ _ _ h => h) (Or.inl ⟨by rfl, ?_⟩) hA2.out ?_; rotate_left 1; (· intro w' hS'; have hc' := hS'.2; go_simp; try with_reducible rfl))
    try simp only [Act.put, List.setIfInBounds_toArray, List.set_cons_zero, List.set_cons_succ]
    (refine wpHd_takeD (i := 4) (d := some 32) (v := ?_) rfl rfl (by kernel_rfl) (by kernel_rfl) (by kernel_rfl) (fun _ _ _ h => h) (Or.inl ⟨by rfl, ?_⟩) hA2.out ?_; rotate_left 1; (· intro w' hS'; clear hS'; go_simp; try with_reducible rfl))
    try simp only [Act.put, List.setIfInBounds_toArray, List.set_cons_zero, List.set_cons_succ]
    (refine wpHd_takeD (i := 5) (d := some 33) (v := ?_) rfl rfl (by kernel_rfl) (by kernel_rfl) (by kernel_rfl) (fun _ _ _ h => h) (Or.inl ⟨by rfl, ?_⟩) hA2.out ?_; rotate_left 1; (· intro w' hS'; clear hS'; go_simp; try with_reducible rfl))
    try simp only [Act.put, List.setIfInBounds_toArray, List.set_cons_zero, List.set_cons_succ]
    (refine wpHd_takeD (i := 6) (d := some 34) (v := ?_) rfl rfl (by kernel_rfl) (by kernel_rfl) (by kernel_rfl) (fun _ _ _ h => h) (Or.inl ⟨by rfl, ?_⟩) hA2.out ?_; rotate_left 1; (· intro w' hS'; clear hS'; go_simp; try with_reducible rfl))
    try simp only [Act.put, List.setIfInBounds_toArray, List.set_cons_zero, List.set_cons_succ]
    (refine wpHd_takeD (i := 7) (d := some 35) (v := ?_) rfl rfl (by kernel_rfl) (by kernel_rfl) (by kernel_rfl) (fun _ _ _ h => h) (Or.inl ⟨by rfl, ?_⟩) hA2.out ?_; rotate_left 1; (· intro w' hS'; clear hS'; go_simp; try with_reducible rfl))
    try simp only [Act.put, List.setIfInBounds_toArray, List.set_cons_zero, List.set_cons_succ]
    (refine wpHd_takeD (i := 8) (d := some 36) (v := ?_) rfl rfl (by kernel_rfl) (by kernel_rfl) (by kernel_rfl) (fun _ _ _ h => h) (Or.inl ⟨by rfl, ?_⟩) hA2.out ?_; rotate_left 1; (· intro w' hS'; clear hS'; go_simp; try with_reducible rfl))
    try simp only [Act.put, List.setIfInBounds_toArray, List.set_cons_zero, List.set_cons_succ]
    (refine wpHd_takeD (i := 9) (d := some 37) (v := ?_) rfl rfl (by kernel_rfl) (by kernel_rfl) (by kernel_rfl) (fun _ _ _ h => h) (Or.inl ⟨by rfl, ?_⟩) hA2.out ?_; rotate_left 1; (· intro w' hS'; clear hS'; go_simp; try with_reducible rfl))
    try simp only [Act.put, List.setIfInBounds_toArray, List.set_cons_zero, List.set_cons_succ]
    (refine wpHd_takeD (i := 10) (d := some 38) (v := ?_) rfl rfl (by kernel_rfl) (by kernel_rfl) (by kernel_rfl) (fun _ _ _ h => h) (Or.inl ⟨by rfl, ?_⟩) hA2.out ?_; rotate_left 1; (· intro w' hS'; clear hS'; go_simp; try with_reducible rfl))
    try simp only [Act.put, List.setIfInBounds_toArray, List.set_cons_zero, List.set_cons_succ]
    (refine wpHd_takeD (i := 11) (d := some 39) (v := ?_) rfl rfl (by kernel_rfl) (by kernel_rfl) (by kernel_rfl) (fun _ _ _ h => h) (Or.inl ⟨by rfl, ?_⟩) hA2.out ?_; rotate_left 1; (· intro w' hS'; clear hS'; go_simp; try with_reducible rfl))
    try simp only [Act.put, List.setIfInBounds_toArray, List.set_cons_zero, List.set_cons_succ]
    (refine wpHd_takeD (i := 12) (d := some 40) (v := ?_) rfl rfl (by kernel_rfl) (by kernel_rfl) (by kernel_rfl) (fun _ _ _ h => h) (Or.inl ⟨by rfl, ?_⟩) hA2.out ?_; rotate_left 1; (· intro w' hS'; clear hS'; go_simp; try with_reducible rfl))
    try simp only [Act.put, List.setIfInBounds_toArray, List.set_cons_zero, List.set_cons_succ]
    (refine wpHd_takeD (i := 13) (d := some 41) (v := ?_) rfl rfl (by kernel_rfl) (by kernel_rfl) (by kernel_rfl) (fun _ _ _ h => h) (Or.inl ⟨by rfl, ?_⟩) hA2.out ?_; rotate_left 1; (· intro w' hS'; clear hS'; go_simp; try with_reducible rfl))
    try simp only [Act.put, List.setIfInBounds_toArray, List.set_cons_zero, List.set_cons_succ]
    (refine wpHd_takeD (i := 14) (d := some 42) (v := ?_) rfl rfl (by kernel_rfl) (by kernel_rfl) (by kernel_rfl) (fun _ _ _ h => h) (Or.inl ⟨by rfl, ?_⟩) hA2.out ?_; rotate_left 1; (· intro w' hS'; clear hS'; go_simp; try with_reducible rfl))
    try simp only [Act.put, List.setIfInBounds_toArray, List.set_cons_zero, List.set_cons_succ]
    (refine wpHd_takeD (i := 15) (d := some 43) (v := ?_) rfl rfl (by kernel_rfl) (by kernel_rfl) (by kernel_rfl) (fun _ _ _ h => h) (Or.inl ⟨by rfl, ?_⟩) hA2.out ?_; rotate_left 1; (· intro w' hS'; clear hS'; go_simp; try with_reducible rfl))
    try simp only [Act.put, List.setIfInBounds_toArray, List.set_cons_zero, List.set_cons_succ]
    (refine wpHd_takeD (i := 16) (d := some 44) (v := ?_) rfl rfl (by kernel_rfl) (by kernel_rfl) (by kernel_rfl) (fun _ _ _ h => h) (Or.inl ⟨by rfl, ?_⟩) hA2.out ?_; rotate_left 1; (· intro w' hS'; have hc' := hS'.1.1.2; go_simp; try with_reducible rfl))
    try simp only [Act.put, List.setIfInBounds_toArray, List.set_cons_zero, List.set_cons_succ]
    refine wpHd_oneG (i := 17) rfl (by rfl) (by kernel_rfl) (fun KK hK => ?_)
    go_simp
    have hB3 : Hid ((fun w' => ((Ext w5 w' ∧ (convert 40 9 v5).run Tryz.prog w' = .ok (.string SB) w') ∧ (convert 40 9 v6).run Tryz.prog w' = .ok (.string SA) w') ∧ (convert 40 9 (.slice (some ⟨w6.heap.size, 0, none⟩) 3 3)).run Tryz.prog w' = .ok (.string SA) w') (wz.alloc (.cells #[.int .u8 0, .int .u8 1, .int .u8 1, .int .u8 2] 5))) := Hid.mk' (HZ2.out _ ((Ext.refl wz).alloc _))
    refine hK.out _ _ hB3.out (fun hA => ?_)
    clear hK KK hA hA2
    have hA3 : Hid ((fun w' => (((Ext w5 w' ∧ (convert 40 9 v5).run Tryz.prog w' = .ok (.string SB) w') ∧ (convert 40 9 v6).run Tryz.prog w' = .ok (.string SA) w') ∧ (convert 40 9 (.slice (some ⟨w6.heap.size, 0, none⟩) 3 3)).run Tryz.prog w' = .ok (.string SA) w') ∧ (convert 40 9 (.slice (some ⟨wz.heap.size, 0, none⟩) 4 4)).run Tryz.prog w' = .ok (.string SB) w') (wz.alloc (.cells #[.int .u8 0, .int .u8 1, .int .u8 1, .int .u8 2] 5))) := Hid.mk' ⟨hB3.out, by rw [HSB.out]; exact conv_Sl (fresh_bytes wz [0, 1, 1, 2] 4 rfl)⟩
    have HEZ : Hid (Ext w5 (wz.alloc (.cells #[.int .u8 0, .int .u8 1, .int .u8 1, .int .u8 2] 5))) := Hid.mk' hB3.out.1.1.1
    clear hB3
    refine wpHd_str (S' := (fun w' => (((Ext w5 w' ∧ (convert 40 9 v5).run Tryz.prog w' = .ok (.string SB) w') ∧ (convert 40 9 v6).run Tryz.prog w' = .ok (.string SA) w') ∧ (convert 40 9 (.slice (some ⟨w6.heap.size, 0, none⟩) 3 3)).run Tryz.prog w' = .ok (.string SA) w') ∧ (convert 40 9 (.slice (some ⟨wz.heap.size, 0, none⟩) 4 4)).run Tryz.prog w' = .ok (.string SB) w')) (fun w' h => h.1) _ _ _ _ ?_
    (refine wpHd_takeD (i := 18) (d := some 46) (v := ?_) rfl rfl (by kernel_rfl) (by kernel_rfl) (by kernel_rfl) (fun _ _ _ h => h) (Or.inl ⟨by rfl, ?_⟩) hA3.out ?_; rotate_left 1; (· intro w' hS'; have hc' := hS'.2; go_simp; try with_reducible rfl))
    try simp only [Act.put, List.setIfInBounds_toArray, List.set_cons_zero, List.set_cons_succ]
    (refine wpHd_takeD (i := 19) (d := some 47) (v := ?_) rfl rfl (by kernel_rfl) (by kernel_rfl) (by kernel_rfl) (fun _ _ _ h => h) (Or.inl ⟨by rfl, ?_⟩) hA3.out ?_; rotate_left 1; (· intro w' hS'; clear hS'; go_simp; try with_reducible rfl))
    try simp only [Act.put, List.setIfInBounds_toArray, List.set_cons_zero, List.set_cons_succ]
    (refine wpHd_takeD (i := 20) (d := some 48) (v := ?_) rfl rfl (by kernel_rfl) (by kernel_rfl) (by kernel_rfl) (fun _ _ _ h => h) (Or.inl ⟨by rfl, ?_⟩) hA3.out ?_; rotate_left 1; (· intro w' hS'; clear hS'; go_simp; try with_reducible rfl))
    try simp only [Act.put, List.setIfInBounds_toArray, List.set_cons_zero, List.set_cons_succ]
    refine wpHd_tail (by kernel_rfl) ?_
    simp only [List.drop_succ_cons, List.drop_zero]
    clear hA3
    go_wp2
    go_ret
    exact ⟨rfl, HE5.out.trans HEZ.out⟩
  · go_simp
    have HZ0 : Hid (∀ W, Ext w5 W → (fun w' => Ext w5 w' ∧ (convert 40 9 v5).run Tryz.prog w' = .ok (.string SB) w') W) := Hid.mk' (fun W h => ⟨h, by rw [HSB.out]; exact conv_Sl (HO5.out.sl.ext h)⟩)
    refine hK.out _ _ (HZ0.out _ (by (repeat (with_reducible (first | exact Ext.refl _ | assumption | exact held_left (by assumption) | apply Ext.drewN | apply Ext.drew | apply Ext.alloc | (refine Ext.setCell ?_ (by first | (simp; done) | (simp; omega) | omega) _) | (refine Ext.trans ?_ (by assumption)) | (refine Ext.trans ?_ (held_left (by assumption)))))))) (fun hA => ?_)
    clear hK KK hA hA0
    have HF : Hid (Sl (w5.drew.alloc (.cells #[.int .u8 5, .int .u8 172, .int .u8 2] 5)) (.slice (some ⟨w5.heap.size, 0, none⟩) 3 3) 1 ([5, 172, 2].map bcell)) := Hid.mk' (fresh_bytes w5.drew [5, 172, 2] 3 rfl)
    have HD : Hid (Ext w5 (w5.drew.alloc (.cells #[.int .u8 5, .int .u8 172, .int .u8 2] 5))) := Hid.mk' (by (repeat (with_reducible (first | exact Ext.refl _ | assumption | exact held_left (by assumption) | apply Ext.drewN | apply Ext.drew | apply Ext.alloc | (refine Ext.setCell ?_ (by first | (simp; done) | (simp; omega) | omega) _) | (refine Ext.trans ?_ (by assumption)) | (refine Ext.trans ?_ (held_left (by assumption)))))))
    have HZ1 : Hid (∀ W, Ext (w5.drew.alloc (.cells #[.int .u8 5, .int .u8 172, .int .u8 2] 5)) W → (fun w' => (Ext w5 w' ∧ (convert 40 9 v5).run Tryz.prog w' = .ok (.string SB) w') ∧ (convert 40 9 (.slice (some ⟨w5.heap.size, 0, none⟩) 3 3)).run Tryz.prog w' = .ok (.string SA) w') W) := Hid.mk' (fun W h => ⟨HZ0.out _ (HD.out.trans h), by rw [HSA3.out]; exact conv_Sl (HF.out.ext h)⟩)
    have hA1 : Hid ((fun w' => (Ext w5 w' ∧ (convert 40 9 v5).run Tryz.prog w' = .ok (.string SB) w') ∧ (convert 40 9 (.slice (some ⟨w5.heap.size, 0, none⟩) 3 3)).run Tryz.prog w' = .ok (.string SA) w') (w5.drew.alloc (.cells #[.int .u8 5, .int .u8 172, .int .u8 2] 5))) := Hid.mk' (HZ1.out _ (Ext.refl _))
    refine wpHd_str (S' := (fun w' => (Ext w5 w' ∧ (convert 40 9 v5).run Tryz.prog w' = .ok (.string SB) w') ∧ (convert 40 9 (.slice (some ⟨w5.heap.size, 0, none⟩) 3 3)).run Tryz.prog w' = .ok (.string SA) w')) (fun w' h => h.1) _ _ _ _ ?_
    (refine wpHd_takeD (i := 3) (d := some 31) (v := ?_) rfl rfl (by kernel_rfl) (by kernel_rfl) (by kernel_rfl) (fun _ _ _ h => h) (Or.inl ⟨by rfl, ?_⟩) hA1.out ?_; rotate_left 1; (· intro w' hS'; have hc' := hS'.2; go_simp; try with_reducible rfl))
    try simp only [Act.put, List.setIfInBounds_toArray, List.set_cons_zero, List.set_cons_succ]
    refine wpHd_one (i := 0) rfl rfl (by kernel_rfl) (fun KK hK => ?_)
    go_simp
    refine (HPB.out _).mono ?_
    rintro e wz ⟨v6, rfl, ho6, hb6⟩
    have HO6 := Hid.mk' ho6
    have HE6 : Hid (Ext (w5.drew.alloc (.cells #[.int .u8 5, .int .u8 172, .int .u8 2] 5)) wz) := Hid.mk' (by first | exact hb6 | exact (Ext.refl _).trans hb6)
    refine hK.out _ _ (HZ1.out _ HE6.out) (fun hA => ?_)
    clear hK KK hA hA1 ho6 hb6
    have HZ2 : Hid (∀ W, Ext wz W → (fun w' => ((Ext w5 w' ∧ (convert 40 9 v5).run Tryz.prog w' = .ok (.string SB) w') ∧ (convert 40 9 (.slice (some ⟨w5.heap.size, 0, none⟩) 3 3)).run Tryz.prog w' = .ok (.string SA) w') ∧ (convert 40 9 v6).run Tryz.prog w' = .ok (.string SA) w') W) := Hid.mk' (fun W h => ⟨HZ1.out _ (HE6.out.trans h), by rw [HSA.out]; exact conv_Sl (HO6.out.sl.ext h)⟩)
    have hA2 : Hid ((fun w' => ((Ext w5 w' ∧ (convert 40 9 v5).run Tryz.prog w' = .ok (.string SB) w') ∧ (convert 40 9 (.slice (some ⟨w5.heap.size, 0, none⟩) 3 3)).run Tryz.prog w' = .ok (.string SA) w') ∧ (convert 40 9 v6).run Tryz.prog w' = .ok (.string SA) w') wz) := Hid.mk' (HZ2.out _ (Ext.refl _))
    refine wpHd_str (S' := (fun w' => ((Ext w5 w' ∧ (convert 40 9 v5).run Tryz.prog w' = .ok (.string SB) w') ∧ (convert 40 9 (.slice (some ⟨w5.heap.size, 0, none⟩) 3 3)).run Tryz.prog w' = .ok (.string SA) w') ∧ (convert 40 9 v6).run Tryz.prog w' = .ok (.string SA) w')) (fun w' h => h.1) _ _ _ _ ?_
    (refine wpHd_takeD (i := 1) (d := some 29) (v := ?_) rfl rfl (by kernel_rfl) (by kernel_rfl) (by kernel_rfl) (fun _ _ _ h => h) (Or.inl ⟨by rfl, ?_⟩) hA2.out ?_; rotate_left 1; (· intro w' hS'; have hc' := hS'.2; go_simp; try with_reducible rfl))
    try simp only [Act.put, List.setIfInBounds_toArray, List.set_cons_zero, List.set_cons_succ]
    (refine wpHd_takeD (i := 4) (d := some 32) (v := ?_) rfl rfl (by kernel_rfl) (by kernel_rfl) (by kernel_rfl) (fun _ _ _ h => h) (Or.inl ⟨by rfl, ?_⟩) hA2.out ?_; rotate_left 1; (· intro w' hS'; clear hS'; go_simp; try with_reducible rfl))
    try simp only [Act.put, List.setIfInBounds_toArray, List.set_cons_zero, List.set_cons_succ]
    (refine wpHd_takeD (i := 5) (d := some 33) (v := ?_) rfl rfl (by kernel_rfl) (by kernel_rfl) (by kernel_rfl) (fun _ _ _ h => h) (Or.inl ⟨by rfl, ?_⟩) hA2.out ?_; rotate_left 1; (· intro w' hS'; clear hS'; go_simp; try with_reducible rfl))
    try simp only [Act.put, List.setIfInBounds_toArray, List.set_cons_zero, List.set_cons_succ]
    (refine wpHd_takeD (i := 6) (d := some 34) (v := ?_) rfl rfl (by kernel_rfl) (by kernel_rfl) (by kernel_rfl) (fun _ _ _ h => h) (Or.inl ⟨by rfl, ?_⟩) hA2.out ?_; rotate_left 1; (· intro w' hS'; clear hS'; go_simp; try with_reducible rfl))
    try simp only [Act.put, List.setIfInBounds_toArray, List.set_cons_zero, List.set_cons_succ]
    (refine wpHd_takeD (i := 7) (d := some 35) (v := ?_) rfl rfl (by kernel_rfl) (by kernel_rfl) (by kernel_rfl) (fun _ _ _ h => h) (Or.inl ⟨by rfl, ?_⟩) hA2.out ?_; rotate_left 1; (· intro w' hS'; clear hS'; go_simp; try with_reducible rfl))
    try simp only [Act.put, List.setIfInBounds_toArray, List.set_cons_zero, List.set_cons_succ]
    (refine wpHd_takeD (i := 8) (d := some 36) (v := ?_) rfl rfl (by kernel_rfl) (by kernel_rfl) (by kernel_rfl) (fun _ _ _ h => h) (Or.inl ⟨by rfl, ?_⟩) hA2.out ?_; rotate_left 1; (· intro w' hS'; clear hS'; go_simp; try with_reducible rfl))
    try simp only [Act.put, List.setIfInBounds_toArray, List.set_cons_zero, List.set_cons_succ]
    (refine wpHd_takeD (i := 9) (d := some 37) (v := ?_) rfl rfl (by kernel_rfl) (by kernel_rfl) (by kernel_rfl) (fun _ _ _ h => h) (Or.inl ⟨by rfl, ?_⟩) hA2.out ?_; rotate_left 1; (· intro w' hS'; clear hS'; go_simp; try with_reducible rfl))
    try simp only [Act.put, List.setIfInBounds_toArray, List.set_cons_zero, List.set_cons_succ]
    (refine wpHd_takeD (i := 10) (d := some 38) (v := ?_) rfl rfl (by kernel_rfl) (by kernel_rfl) (by kernel_rfl) (fun _ _ _ h => h) (Or.inl ⟨by rfl, ?_⟩) hA2.out ?_; rotate_left 1; (· intro w' hS'; clear hS'; go_simp; try with_reducible rfl))
    try simp only [Act.put, List.setIfInBounds_toArray, List.set_cons_zero, List.set_cons_succ]
    (refine wpHd_takeD (i := 11) (d := some 39) (v := ?_) rfl rfl (by kernel_rfl) (by kernel_rfl) (by kernel_rfl) (fun _ _ _ h => h) (Or.inl ⟨by rfl, ?_⟩) hA2.out ?_; rotate_left 1; (· intro w' hS'; clear hS'; go_simp; try with_reducible rfl))
    try simp only [Act.put, List.setIfInBounds_toArray, List.set_cons_zero, List.set_cons_succ]
    (refine wpHd_takeD (i := 12) (d := some 40) (v := ?_) rfl rfl (by kernel_rfl) (by kernel_rfl) (by kernel_rfl) (fun _ _ _ h => h) (Or.inl ⟨by rfl, ?_⟩) hA2.out ?_; rotate_left 1; (· intro w' hS'; clear hS'; go_simp; try with_reducible rfl))
    try simp only [Act.put, List.setIfInBounds_toArray, List.set_cons_zero, List.set_cons_succ]
    (refine wpHd_takeD (i := 13) (d := some 41) (v := ?_) rfl rfl (by kernel_rfl) (by kernel_rfl) (by kernel_rfl) (fun _ _ _ h => h) (Or.inl ⟨by rfl, ?_⟩) hA2.out ?_; rotate_left 1; (· intro w' hS'; clear hS'; go_simp; try with_reducible rfl))
    try simp only [Act.put, List.setIfInBounds_toArray, List.set_cons_zero, List.set_cons_succ]
    (refine wpHd_takeD (i := 14) (d := some 42) (v := ?_) rfl rfl (by kernel_rfl) (by kernel_rfl) (by kernel_rfl) (fun _ _ _ h => h) (Or.inl ⟨by rfl, ?_⟩) hA2.out ?_; rotate_left 1; (· intro w' hS'; clear hS'; go_simp; try with_reducible rfl))
    try simp only [Act.put, List.setIfInBounds_toArray, List.set_cons_zero, List.set_cons_succ]
    (refine wpHd_takeD (i := 15) (d := some 43) (v := ?_) rfl rfl (by kernel_rfl) (by kernel_rfl) (by kernel_rfl) (fun _ _ _ h => h) (Or.inl ⟨by rfl, ?_⟩) hA2.out ?_; rotate_left 1; (· intro w' hS'; clear hS'; go_simp; try with_reducible rfl))
    try simp only [Act.put, List.setIfInBounds_toArray, List.set_cons_zero, List.set_cons_succ]
    (refine wpHd_takeD (i := 16) (d := some 44) (v := ?_) rfl rfl (by kernel_rfl) (by kernel_rfl) (by kernel_rfl) (fun _ _ _ h => h) (Or.inl ⟨by rfl, ?_⟩) hA2.out ?_; rotate_left 1; (· intro w' hS'; have hc' := hS'.1.1.2; go_simp; try with_reducible rfl))
    try simp only [Act.put, List.setIfInBounds_toArray, List.set_cons_zero, List.set_cons_succ]
    refine wpHd_oneG (i := 17) rfl (by rfl) (by kernel_rfl) (fun KK hK => ?_)
    go_simp
    have hB3 : Hid ((fun w' => ((Ext w5 w' ∧ (convert 40 9 v5).run Tryz.prog w' = .ok (.string SB) w') ∧ (convert 40 9 (.slice (some ⟨w5.heap.size, 0, none⟩) 3 3)).run Tryz.prog w' = .ok (.string SA) w') ∧ (convert 40 9 v6).run Tryz.prog w' = .ok (.string SA) w') (wz.alloc (.cells #[.int .u8 0, .int .u8 1, .int .u8 1, .int .u8 2] 5))) := Hid.mk' (HZ2.out _ ((Ext.refl wz).alloc _))
    refine hK.out _ _ hB3.out (fun hA => ?_)
    clear hK KK hA hA2
    have hA3 : Hid ((fun w' => (((Ext w5 w' ∧ (convert 40 9 v5).run Tryz.prog w' = .ok (.string SB) w') ∧ (convert 40 9 (.slice (some ⟨w5.heap.size, 0, none⟩) 3 3)).run Tryz.prog w' = .ok (.string SA) w') ∧ (convert 40 9 v6).run Tryz.prog w' = .ok (.string SA) w') ∧ (convert 40 9 (.slice (some ⟨wz.heap.size, 0, none⟩) 4 4)).run Tryz.prog w' = .ok (.string SB) w') (wz.alloc (.cells #[.int .u8 0, .int .u8 1, .int .u8 1, .int .u8 2] 5))) := Hid.mk' ⟨hB3.out, by rw [HSB.out]; exact conv_Sl (fresh_bytes wz [0, 1, 1, 2] 4 rfl)⟩
    have HEZ : Hid (Ext w5 (wz.alloc (.cells #[.int .u8 0, .int .u8 1, .int .u8 1, .int .u8 2] 5))) := Hid.mk' hB3.out.1.1.1
    clear hB3
    refine wpHd_str (S' := (fun w' => (((Ext w5 w' ∧ (convert 40 9 v5).run Tryz.prog w' = .ok (.string SB) w') ∧ (convert 40 9 (.slice (some ⟨w5.heap.size, 0, none⟩) 3 3)).run Tryz.prog w' = .ok (.string SA) w') ∧ (convert 40 9 v6).run Tryz.prog w' = .ok (.string SA) w') ∧ (convert 40 9 (.slice (some ⟨wz.heap.size, 0, none⟩) 4 4)).run Tryz.prog w' = .ok (.string SB) w')) (fun w' h => h.1) _ _ _ _ ?_
    (refine wpHd_takeD (i := 18) (d := some 46) (v := ?_) rfl rfl (by kernel_rfl) (by kernel_rfl) (by kernel_rfl) (fun _ _ _ h => h) (Or.inl ⟨by rfl, ?_⟩) hA3.out ?_; rotate_left 1; (· intro w' hS'; have hc' := hS'.2; go_simp; try with_reducible rfl))
    try simp only [Act.put, List.setIfInBounds_toArray, List.set_cons_zero, List.set_cons_succ]
    (refine wpHd_takeD (i := 19) (d := some 47) (v := ?_) rfl rfl (by kernel_rfl) (by kernel_rfl) (by kernel_rfl) (fun _ _ _ h => h) (Or.inl ⟨by rfl, ?_⟩) hA3.out ?_; rotate_left 1; (· intro w' hS'; clear hS'; go_simp; try with_reducible rfl))
    try simp only [Act.put, List.setIfInBounds_toArray, List.set_cons_zero, List.set_cons_succ]
    (refine wpHd_takeD (i := 20) (d := some 48) (v := ?_) rfl rfl (by kernel_rfl) (by kernel_rfl) (by kernel_rfl) (fun _ _ _ h => h) (Or.inl ⟨by rfl, ?_⟩) hA3.out ?_; rotate_left 1; (· intro w' hS'; clear hS'; go_simp; try with_reducible rfl))
    try simp only [Act.put, List.setIfInBounds_toArray, List.set_cons_zero, List.set_cons_succ]
    refine wpHd_tail (by kernel_rfl) ?_
    simp only [List.drop_succ_cons, List.drop_zero]
    clear hA3
    go_wp2
    go_ret
    exact ⟨rfl, HE5.out.trans HEZ.out⟩

end Go.Proofs.YtibgippchdmdlaaGreat

/-
Opening any arguments by their types (structs and arrays laid flat; slices), and closing a law's row: true, and all reads as it did.
-/
namespace Go.Proofs.YtibgippchdmdlaaGreat
open Go.RowKit Go.ChangeShapes Go.WideShapes Go.ChangeAt

section
variable {H : Type} {enc : TypeId × Value → H} {P : Program} {w : World} {base : Nat} {spare : Nat → Bool} {held : Bool}

/-- A cell of some type. -/
def Lf (enc : TypeId × Value → H) (P : Program) (w : World) (base : Nat) (spare : Nat → Bool) (held : Bool) (t : TypeId) (c : Value) : Prop := ∃ n x, DataW.trod enc P w base spare held n t [c] = some x

def Lfs (enc : TypeId × Value → H) (P : Program) (w : World) (base : Nat) (spare : Nat → Bool) (held : Bool) : List TypeId → List Value → Prop
  | [], [] => True
  | t :: ts, c :: cs => Lf enc P w base spare held t c ∧ Lfs enc P w base spare held ts cs
  | _, _ => False

theorem Lfs.append : ∀ (ts us : List TypeId) (cs : List Value), Lfs enc P w base spare held ts (cs.take ts.length) → Lfs enc P w base spare held us (cs.drop ts.length) → Lfs enc P w base spare held (ts ++ us) cs
  | [], us, cs, _, h => by simpa using h
  | t :: ts, us, [], h, _ => by simp [Lfs] at h
  | t :: ts, us, c :: cs, h, h' => by
    simp only [List.length_cons, List.take_succ_cons, Lfs] at h
    exact ⟨h.1, Lfs.append ts us cs h.2 (by simpa using h')⟩

def offs (P : Program) : Nat → List Field → List (List TypeId) → Bool
  | _, [], [] => true
  | o, f :: fs, l :: ls => f.offset == o && P.cellsOf f.type == l.length && offs P (o + l.length) fs ls
  | _, _, _ => false

/-- The types of a type's cells. -/
def flat (P : Program) : Nat → TypeId → Option (List TypeId)
  | 0, _ => none
  | k + 1, t =>
    match P.underlying t with
    | some (.struct fs) => (fs.toList.mapM fun f => flat P k f.type).bind fun ls => if offs P 0 fs.toList ls && P.cellsOf t == ls.flatten.length then some ls.flatten else none
    | some (.array n e) => (flat P k e).bind fun l => if P.cellsOf e == l.length && P.cellsOf t == n * l.length then some (List.replicate n l).flatten else none
    | _ => some [t]

theorem trod_single {n : Nat} {t : TypeId} {cs : List Value} {x : DataW H × List MemPlace} (h : DataW.trod enc P w base spare held n t cs = some x)
    (h1 : ∀ fs, P.underlying t ≠ some (.struct fs)) (h2 : ∀ n e, P.underlying t ≠ some (.array n e)) : ∃ c, cs = [c] := by
  cases n with
  | zero => simp [DataW.trod] at h
  | succ n =>
    unfold DataW.trod at h
    split at h
    all_goals first
      | exact ⟨_, rfl⟩
      | (rename_i h3; exact absurd h3 (h1 _))
      | (rename_i h3; exact absurd h3 (h2 _ _))
      | simp at h

theorem offs_open (k : Nat) (ih : ∀ (t : TypeId) (ts : List TypeId) (n : Nat) (cs : List Value) (x : DataW H × List MemPlace), flat P k t = some ts → DataW.trod enc P w base spare held n t cs = some x → Lfs enc P w base spare held ts cs)
    (n : Nat) (cs : List Value) : ∀ (fs : List Field) (ls : List (List TypeId)) (o : Nat), offs P o fs ls = true → (fs.mapM fun f => flat P k f.type) = some ls →
    cs.length = o + ls.flatten.length →
    (∀ f ∈ fs, ∃ y, DataW.trod enc P w base spare held n f.type ((cs.drop f.offset).take (P.cellsOf f.type)) = some y) → Lfs enc P w base spare held ls.flatten (cs.drop o) := by
  intro fs
  induction fs with
  | nil =>
    intro ls o ho hm hl _
    cases ls with
    | nil => simp at hl; rw [List.drop_eq_nil_of_le (by omega)]; trivial
    | cons l ls => simp [offs] at ho
  | cons f fs ih2 =>
    intro ls o ho hm hl hf
    cases ls with
    | nil => simp [offs] at ho
    | cons l ls =>
      simp only [offs, Bool.and_eq_true, beq_iff_eq] at ho
      obtain ⟨⟨ho1, ho2⟩, ho3⟩ := ho
      simp only [List.mapM_cons, Option.bind_eq_bind, Option.bind_eq_some_iff, Option.pure_def, Option.some.injEq, List.cons.injEq] at hm
      obtain ⟨l', h1, ls', h2, rfl, rfl⟩ := hm
      obtain ⟨y, hy⟩ := hf f (by simp)
      rw [ho1, ho2] at hy
      have a1 := ih f.type l' n _ y h1 hy
      simp only [List.flatten_cons, List.length_append] at hl
      have a2 := ih2 ls' (o + l'.length) ho3 h2 (by omega) (fun g hg => hf g (by simp [hg]))
      rw [List.flatten_cons]
      exact Lfs.append l' ls'.flatten _ a1 (by rw [List.drop_drop]; exact a2)

theorem arr_open (l : List TypeId) (e : TypeId) (n : Nat) (he : P.cellsOf e = l.length) (h1 : ∀ cs x, DataW.trod enc P w base spare held n e cs = some x → Lfs enc P w base spare held l cs) (cs : List Value) :
    ∀ (m i : Nat), cs.length = (i + m) * l.length → (∀ j, i ≤ j → j < i + m → ∃ y, DataW.trod enc P w base spare held n e ((cs.drop (j * P.cellsOf e)).take (P.cellsOf e)) = some y) →
    Lfs enc P w base spare held (List.replicate m l).flatten (cs.drop (i * l.length)) := by
  intro m
  induction m with
  | zero => intro i hl _; rw [List.drop_eq_nil_of_le (by simp at hl; omega)]; simp [Lfs]
  | succ m ih =>
    intro i hl hf
    obtain ⟨y, hy⟩ := hf i (by omega) (by omega)
    rw [he] at hy
    have a1 := h1 _ y hy
    have a2 := ih (i + 1) (by rw [hl]; congr 1; omega) (fun j h1 h2 => hf j (by omega) (by omega))
    rw [List.replicate_succ, List.flatten_cons]
    refine Lfs.append l _ _ a1 ?_
    rw [List.drop_drop, ← Nat.succ_mul]
    exact a2

theorem flat_open (k : Nat) : ∀ (t : TypeId) (ts : List TypeId) (n : Nat) (cs : List Value) (x : DataW H × List MemPlace), flat P k t = some ts → DataW.trod enc P w base spare held n t cs = some x → Lfs enc P w base spare held ts cs := by
  induction k with
  | zero => intro t ts n cs x h; simp [flat] at h
  | succ k ih =>
    intro t ts n cs x h hx
    unfold flat at h
    split at h
    · rename_i fs hu
      obtain ⟨xs, m, _, rfl, hlen, hxl, hf⟩ := DataW.trod_struct hu hx
      simp only [Option.bind_eq_some_iff] at h
      obtain ⟨ls, hm, h⟩ := h
      split at h
      · rename_i hc
        rw [Bool.and_eq_true, beq_iff_eq] at hc
        cases h
        have := offs_open k ih m cs fs.toList ls 0 hc.1 hm (by rw [hlen, hc.2, Nat.zero_add]) (fun f hfm => by
          obtain ⟨i, hi, hif⟩ := List.mem_iff_getElem.1 hfm
          have hi' : i < fs.size := by simpa using hi
          have g : fs[i]? = some f := by rw [← hif]; simp [hi']
          have := hf i f g
          rw [List.getElem?_eq_getElem (by omega)] at this
          exact ⟨_, this⟩)
        simpa using this
      · cases h
    · rename_i m e hu
      obtain ⟨xs, q, _, rfl, hlen, hxl, hf⟩ := DataW.trod_array hu hx
      simp only [Option.bind_eq_some_iff] at h
      obtain ⟨l, hl, h⟩ := h
      split at h
      · rename_i hc
        rw [Bool.and_eq_true, beq_iff_eq, beq_iff_eq] at hc
        cases h
        have := arr_open (enc := enc) (P := P) (w := w) (base := base) (spare := spare) (held := held) l e q hc.1 (fun cs y hy => ih e l q cs y hl hy) cs m 0 (by rw [hlen, hc.2, Nat.zero_add]) (fun j _ hj => by
          have := hf j (by omega)
          rw [List.getElem?_eq_getElem (by omega)] at this
          exact ⟨_, this⟩)
        simpa using this
      · cases h
    · rename_i h1 h2
      cases h
      obtain ⟨c, rfl⟩ := trod_single hx (fun fs e => h1 fs e) (fun n e he => h2 n e he)
      exact ⟨⟨n, x, hx⟩, trivial⟩

theorem Lf.int {t : TypeId} {c : Value} {k : IntKind} (h : Lf enc P w base spare held t c) (ht : P.underlying t = some (.int k)) : ∃ n, c = .int k n ∧ (Lit.int k n).wf = true := by
  obtain ⟨m, x, h⟩ := h
  obtain ⟨n, h1, _, h3⟩ := DataW.trod_int ht h
  cases h1
  exact ⟨n, rfl, h3⟩
theorem Lf.string {t : TypeId} {c : Value} (h : Lf enc P w base spare held t c) (ht : P.underlying t = some .string) : ∃ s : ByteArray, c = .string s ∧ s.size ≤ 9223372036854775807 := by
  obtain ⟨m, x, h⟩ := h
  obtain ⟨n, h1, _, h3⟩ := DataW.trod_string ht h
  cases h1
  exact ⟨n, rfl, h3⟩
theorem Lf.bool {t : TypeId} {c : Value} (h : Lf enc P w base spare held t c) (ht : P.underlying t = some .bool) : ∃ b : Bool, c = .bool b := by
  obtain ⟨m, x, h⟩ := h
  obtain ⟨n, h1, _⟩ := DataW.trod_bool ht h
  cases h1
  exact ⟨n, rfl⟩

/-- A slice, opened: its elements' cells, and what each reads as. -/
theorem trod_sl {T E : TypeId} {k n : Nat} {cs : List Value} {x : DataW H × List MemPlace} (ht : P.underlying T = some (.slice E)) (hk : P.cellsOf E = k) (hk0 : 0 < k) (h : DataW.trod enc P w base spare held n T cs = some x) :
    ∃ v xss, cs = [v] ∧ Sl w v k xss ∧ xss.length ≤ 9223372036854775807 ∧ ∀ xs ∈ xss, xs.length = k ∧ ∃ n x, DataW.trod enc P w base spare held n E xs = some x := by
  rcases Go.Deep.open_slice ht h with ⟨rfl, _⟩ | ⟨a, len, cap, m, q, D, Pl, rfl, hb, hl, hm, hmm, _, hx⟩
  · exact ⟨_, [], rfl, ⟨none, 0, rfl, .inl rfl⟩, by simp, by simp⟩
  · have hlm : len ≤ m := by rw [hmm]; split <;> omega
    have hall : ∀ i, i < len → ∃ cs', w.cells? base (a.add (i * k)) k = some cs' ∧ DataW.trod enc P w base spare held q E cs' = some (D i, Pl i) := fun i hi => by
      have := hx i (by omega); rwa [hk] at this
    obtain ⟨C, hC⟩ := Go.Deep.choose_lt hall
    have hcl : cap ≤ 9223372036854775807 := hm
    refine ⟨_, (List.range len).map C, rfl, ?_, by simp; omega, ?_⟩
    · refine ⟨some a, cap, by simp, ?_⟩
      by_cases h0 : len = 0
      · subst h0; exact .inl rfl
      · right
        have hc0 := (World.cells?_some (hC 0 (by omega)).1)
        have e0 : (a.add (0 * k)).add 0 = a := by unfold Addr.add; simp
        have hcell : (w.cell? a).isSome = true := by
          have := hc0.2.2 0 hk0
          rw [e0] at this
          rw [this, List.getElem?_eq_getElem (by omega)]; rfl
        have hsp : a.spot = none := by
          unfold World.cell? at hcell
          split at hcell
          · split at hcell
            · simp at hcell
            · rename_i hs; simpa using hs
          · simp at hcell
        have hlt : a.block < w.heap.size := by
          unfold World.cell? at hcell
          rcases Nat.lt_or_ge a.block w.heap.size with h1 | h1
          · exact h1
          · rw [Array.getElem?_eq_none h1] at hcell; simp at hcell
        refine ⟨a.block, a.off, by cases a; simp at hsp; subst hsp; rfl, hlt, ?_⟩
        intro i hi j hj
        simp only [List.length_map, List.length_range] at hi
        have h2 := (World.cells?_some (hC i hi).1).2.2 j hj
        rw [Go.Deep.add_add] at h2
        have e : a.add (i * k + j) = ⟨a.block, a.off + i * k + j, none⟩ := by
          unfold Addr.add
          split
          · rename_i hz
            have h3 : i * k = 0 := by omega
            have h4 : j = 0 := by omega
            cases a; simp at hsp; subst hsp; simp [h3, h4]
          · cases a; simp at hsp; subst hsp; simp
        rw [e] at h2
        rw [h2]
        simp [hi]
    · intro xs hxs
      simp only [List.mem_map, List.mem_range] at hxs
      obtain ⟨i, hi, rfl⟩ := hxs
      exact ⟨(World.cells?_some (hC i hi).1).2.1, _, _, (hC i hi).2⟩

theorem exists_map {α β : Type} {f : α → β} {p : α → Prop} : ∀ (l : List β), (∀ y ∈ l, ∃ x, y = f x ∧ p x) → ∃ l' : List α, l = l'.map f ∧ ∀ x ∈ l', p x
  | [], _ => ⟨[], rfl, by simp⟩
  | y :: l, h => by
    obtain ⟨x, hx, hp⟩ := h y (by simp)
    obtain ⟨l', hl, hl'⟩ := exists_map l (fun z hz => h z (by simp [hz]))
    exact ⟨x :: l', by rw [hx, hl]; rfl, by intro z hz; rcases List.mem_cons.1 hz with rfl | hz; exact hp; exact hl' z hz⟩

/-- All arguments read as they did. -/
theorem trodAll_stays {W W' : World} (hl : laidOutB P = true) (hE : Ext W W') : ∀ (ts : List TypeId) (vs : List Value) (ds : List (DataW H)) (ps : List MemPlace), (∀ t ∈ ts, P.readableRec t = true ∧ t < P.types.size) →
    DataW.TrodAll enc P W 0 (fun _ => true) true ts vs ds ps → (∀ x ∈ ps, x.block < W.heap.size) → DataW.TrodAll enc P W' 0 (fun b => decide (b < W.heap.size)) true ts vs ds ps
  | [], [], [], ps, _, h, _ => h
  | t :: ts, v :: vs, d :: ds, ps, hr, h, hlt => by
    obtain ⟨p, q, h1, h2, rfl⟩ := h
    refine ⟨p, q, Below.trod hl (hr t (by simp)).1 (hr t (by simp)).2 h1 hE (fun x hx => hlt x (by simp [hx])), ?_, rfl⟩
    exact trodAll_stays hl hE ts vs ds q (fun u hu => hr u (by simp [hu])) h2 (fun x hx => hlt x (by simp [hx]))
  | [], _ :: _, _, _, _, h, _ => by simp [DataW.TrodAll] at h
  | [], [], _ :: _, _, _, h, _ => by simp [DataW.TrodAll] at h
  | _ :: _, [], _, _, _, h, _ => by simp [DataW.TrodAll] at h
  | _ :: _, _ :: _, [], _, _, h, _ => by simp [DataW.TrodAll] at h

/-- A law's row: it answered true; what was there is as it was. -/
theorem post_law {f : Func} {s : ChangeSpec} {apart : Bool} {W W' : World} {args : Array Value} {ds gs : List (DataW H)} {before : List MemPlace} {tb : TypeId}
    (hl : laidOutB P = true) (hb : P.underlying tb = some .bool) (hrt : f.resultTypes = #[tb]) (hr : f.params.toList.all (fun t => P.readableRec t && decide (t < P.types.size)) = true) (hv : s.vars = [])
    (hW : DataW.Whole enc P f.params.toList s.vars apart W args.toList ds gs before)
    (h1 : (s.fn H (ds ++ gs)).results = [.lit (.bool true)]) (h2 : (s.fn H (ds ++ gs)).args = ds) (h3 : (s.fn H (ds ++ gs)).vars = []) (hE : Ext W W') :
    s.post enc P f apart true false false W args (.bool true) W' := by
  have hW' := hW
  have hlt := hW.lt
  obtain ⟨p, q, hA, hV, rfl, _, _⟩ := hW
  refine ⟨ds, gs, p ++ q, [], p, [], hW', ?_, ?_, ?_, Below.frame hE _, fun h => by cases h⟩
  · rw [h1, hrt]
    exact trodAll_mk1 (shut_bool hb true)
  · rw [h2]
    refine trodAll_stays hl hE _ _ _ _ (fun t ht => ?_) hA (fun x hx => by simpa using hlt x (by simp [hx]))
    have := List.all_eq_true.1 hr t ht
    simpa using this
  · rw [hv, h3]; rfl
end

end Go.Proofs.YtibgippchdmdlaaGreat

/-
Arguments of the common types, opened: numbers, strings, slices of anything.
-/
namespace Go.Proofs.YtibgippchdmdlaaGreat
open Go.RowKit Go.ChangeShapes Go.WideShapes Go.ChangeAt

theorem Tryz.ownG : ownKnob Tryz.prog.godebug = none := by kernel_rfl
theorem Tryz.laidOutG : laidOutB Tryz.prog = true := by kernel_rfl

theorem wfG_u8 {n : Int} (h : (Lit.int .u8 n).wf = true) : 0 ≤ n ∧ n < 256 := by
  simp [Lit.wf, IntKind.min, IntKind.max, IntKind.signed, IntKind.bits] at h; omega
theorem wfG_u16 {n : Int} (h : (Lit.int .u16 n).wf = true) : 0 ≤ n ∧ n < 65536 := by
  simp [Lit.wf, IntKind.min, IntKind.max, IntKind.signed, IntKind.bits] at h; omega
theorem wfG_u32 {n : Int} (h : (Lit.int .u32 n).wf = true) : 0 ≤ n ∧ n < 4294967296 := by
  simp [Lit.wf, IntKind.min, IntKind.max, IntKind.signed, IntKind.bits] at h; omega
theorem wfG_u64 {n : Int} (h : (Lit.int .u64 n).wf = true) : 0 ≤ n ∧ n < 18446744073709551616 := by
  simp [Lit.wf, IntKind.min, IntKind.max, IntKind.signed, IntKind.bits] at h; omega
theorem wfG_i64 {n : Int} (h : (Lit.int .i64 n).wf = true) : -9223372036854775808 ≤ n ∧ n < 9223372036854775808 := by
  simp [Lit.wf, IntKind.min, IntKind.max, IntKind.signed, IntKind.bits] at h; omega

section
variable {H : Type} {enc : TypeId × Value → H} {w : World} {base : Nat} {spare : Nat → Bool} {held : Bool} {r : Reach} {base2 : Nat} {v : Value} {d : DataW H} {ps : List MemPlace}

theorem openG_int {P : Program} {t : TypeId} {k : IntKind} (ht : P.underlying t = some (.int k)) (h : DataW.Trod enc P w base spare held t v d ps) (hv : Value.okWide P w r base2 t v) : ∃ n, v = .int k n ∧ (Lit.int k n).wf = true := by
  obtain ⟨m, rfl⟩ := okWide_int ht hv
  obtain ⟨n, hn⟩ := h
  have hl : Lf enc P w base spare held t (.int k m) := ⟨n, _, hn⟩
  obtain ⟨q, hq, hw⟩ := hl.int ht
  cases hq
  exact ⟨m, rfl, hw⟩
theorem openG_string {P : Program} {t : TypeId} (ht : P.underlying t = some .string) (h : DataW.Trod enc P w base spare held t v d ps) (hv : Value.okWide P w r base2 t v) : ∃ s : ByteArray, v = .string s ∧ s.size ≤ 9223372036854775807 := by
  obtain ⟨m, rfl⟩ := okWide_string ht hv
  obtain ⟨n, hn⟩ := h
  have hl : Lf enc P w base spare held t (.string m) := ⟨n, _, hn⟩
  obtain ⟨q, hq, hw⟩ := hl.string ht
  cases hq
  exact ⟨m, rfl, hw⟩
/-- A slice of anything, opened by its element. -/
theorem openG_slice {α : Type} {f : α → List Value} {p : α → Prop} {P : Program} {T E : TypeId} {k : Nat} (ht : P.underlying T = some (.slice E)) (hk : P.cellsOf E = k) (hk0 : 0 < k)
    (ho : ∀ n xs x, DataW.trod enc P w base spare held n E xs = some x → ∃ a, xs = f a ∧ p a)
    (h : DataW.Trod enc P w base spare held T v d ps) (hv : Value.okWide P w r base2 T v) : ∃ l : List α, Sl w v k (l.map f) ∧ l.length ≤ 9223372036854775807 ∧ ∀ a ∈ l, p a := by
  obtain ⟨a, len, cap, rfl⟩ := okWide_slice ht hv
  obtain ⟨n, hn⟩ := h
  obtain ⟨v', xss, hcs, hsl, hlen, hx⟩ := trod_sl ht hk hk0 hn
  have e : v' = .slice a len cap := by simpa [Value.cells] using hcs.symm
  obtain ⟨l, rfl, hl⟩ := exists_map (f := f) (p := p) xss (fun xs hxs => by
    obtain ⟨_, n, x, h⟩ := hx xs hxs
    exact ho n xs x h)
  rw [e] at hsl
  exact ⟨l, hsl, by simpa using hlen, hl⟩
/-- A nil slice of the arguments is the nil one. -/
theorem openG_nil {P : Program} {T E : TypeId} (ht : P.underlying T = some (.slice E)) (h : DataW.Trod enc P w base spare held T v d ps) (hv : Value.okWide P w r base2 T v) : ∀ len cap, v = .slice none len cap → v = .slice none 0 0 := by
  obtain ⟨a, len, cap, rfl⟩ := okWide_slice ht hv
  obtain ⟨n, hn⟩ := h
  intro l c he
  rcases Go.Deep.open_slice ht hn with ⟨e, _⟩ | ⟨a', len', cap', m, q, D, Pl, e, _⟩
  · simpa [Value.cells] using e
  · simp [Value.cells] at e; obtain ⟨rfl, _⟩ := e; simp at he
end

end Go.Proofs.YtibgippchdmdlaaGreat

/-
Arguments of the common types, opened.
-/
namespace Go.Proofs.YtibgippchdmdlaaGreat
open Go.RowKit Go.ChangeShapes Go.WideShapes Go.ChangeAt

section
variable {H : Type} {enc : TypeId × Value → H} {w : World} {base : Nat} {spare : Nat → Bool} {held : Bool} {r : Reach} {base2 : Nat} {v : Value} {d : DataW H} {ps : List MemPlace}

theorem Tryz.flatU8 : flat Tryz.prog 4 5 = some [5] := by kernel_rfl
theorem Tryz.cellsU8 : Tryz.prog.cellsOf 5 = 1 := by kernel_rfl
set_option maxRecDepth 20000 in
theorem openG_bytes (h : DataW.Trod enc Tryz.prog w base spare held 40 v d ps) (hv : Value.okWide Tryz.prog w r base2 40 v) : ∃ l : List Int, Sl w v 1 (l.map bcell) ∧ l.length ≤ 9223372036854775807 ∧ isB l := by
  refine openG_slice (f := bcell) (p := fun x => 0 ≤ x ∧ x < 256) Tryz.underlying40 Tryz.cellsU8 (by decide) (fun n xs x hx => ?_) h hv
  have hl := flat_open 4 _ _ n xs x Tryz.flatU8 hx
  match xs, hl with
  | [c0], ⟨l0, _⟩ =>
    obtain ⟨ty, rfl, h0⟩ := l0.int Tryz.underlying5
    exact ⟨ty, rfl, wfG_u8 h0⟩
end

end Go.Proofs.YtibgippchdmdlaaGreat

/-
Bytes of the arguments that a reader may hold; RecordEnds for integers.
-/
namespace Go.Proofs.YtibgippchdmdlaaGreat
open Go.RowKit Go.ChangeShapes Go.WideShapes Go.ChangeAt

section
variable {H : Type} {enc : TypeId × Value → H} {w : World} {base : Nat} {spare : Nat → Bool} {held : Bool} {r : Reach} {base2 : Nat} {v : Value} {d : DataW H} {ps : List MemPlace}

theorem openG_cap {P : Program} {T E : TypeId} (ht : P.underlying T = some (.slice E)) (h : DataW.Trod enc P w base spare held T v d ps) (hv : Value.okWide P w r base2 T v) : ∀ a len cap, v = .slice a len cap → len ≤ cap ∧ (a = none → cap = 0) := by
  obtain ⟨a0, len0, cap0, rfl⟩ := okWide_slice ht hv
  obtain ⟨n, hn⟩ := h
  intro a len cap he
  rcases Go.Deep.open_slice ht hn with ⟨e, _⟩ | ⟨a', len', cap', m, q, D, Pl, e, _, hl, _⟩
  · simp [Value.cells] at e
    obtain ⟨rfl, rfl, rfl⟩ := e
    injection he with h1 h2 h3
    subst h1; subst h2; subst h3
    exact ⟨Nat.le_refl _, fun _ => rfl⟩
  · simp [Value.cells] at e
    obtain ⟨rfl, rfl, rfl⟩ := e
    injection he with h1 h2 h3
    subst h1; subst h2; subst h3
    exact ⟨hl, fun h => by cases h⟩
set_option maxRecDepth 20000 in
theorem openG_AB (h : DataW.Trod enc Tryz.prog w base spare held 40 v d ps) (hv : Value.okWide Tryz.prog w r base2 40 v) : ∃ l : List Int, AB w v l ∧ l.length ≤ 9223372036854775807 ∧ isB l := by
  obtain ⟨l, h1, h2, h3⟩ := openG_bytes h hv
  exact ⟨l, AB.of_sl h1 (openG_cap Tryz.underlying40 h hv), h2, h3⟩
end

set_option maxRecDepth 20000 in
theorem recordends_int (X Y : Int) (v : Value) (l : List Int) (w : World) (hX : 0 ≤ X ∧ X < 4294967296) (hY : 0 ≤ Y ∧ Y < 18446744073709551616) (hl : AB w v l) (hlen : l.length ≤ 9223372036854775807) (hb : isB l) :
    Calls Tryz.prog 5 #[.int .u32 X, .int .u64 Y, v] w fun e w' => e = .returned (.bool true) ∧ Ext w w' := by
  obtain ⟨x, rfl⟩ := Int.eq_ofNat_of_zero_le hX.1
  obtain ⟨y, rfl⟩ := Int.eq_ofNat_of_zero_le hY.1
  have e1 : (2 : Nat) ^ 32 = 4294967296 := by decide
  have e2 : (2 : Nat) ^ 64 = 18446744073709551616 := by decide
  exact recordends_law awake15_any x y v l w (by omega) (by omega) hl hlen hb

end Go.Proofs.YtibgippchdmdlaaGreat
