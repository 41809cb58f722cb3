/-
The awake of the laws of records.
-/
import Derived.SizedLaws
import Derived.Test.YtjnafppkbhldlaaGreatP24
set_option maxRecDepth 100000
set_option maxHeartbeats 16000000
namespace Go.Proofs.YtjnafppkbhldlaaGreat
open Go.RowKit HG
def aw15 : Rl := ⟨1, 2, ⟨#[116]⟩, 0, [⟨⟨#[97]⟩, 1, false⟩]⟩
theorem aw15_up : ofUp [aw15] 1 = [aw15] := by rfl
theorem aw15_ofE : ofE [aw15] = 0 := by decide
theorem aw15_ofPl : ofPl [aw15] = 1 := by decide
theorem aw15_wb : aw15.wb := ⟨by show 1 ≤ 9223372036854775807; omega, by intro c hc; simp [aw15] at hc; subst hc; show 1 ≤ 9223372036854775807; omega, by show 1 ≤ 5864062014634; omega, Int.le_refl 0⟩
theorem own_trunc15 {e : Ev} (hk : rowedB e.kind = false) : ownB e = true ↔ (rfB ⟨e.ao, e.av⟩ ⟨0, 0⟩ = true ∧ e.old = 0 ∧ e.b = [] ∧ e.a = []) := by
  unfold ownB Ev.only
  rw [if_neg (by rw [hk]; simp), evB_true, rfB_true]
  obtain ⟨k, ao, av, old, b, a, rs, fl⟩ := e
  simp only [Ev.mk.injEq, Rf.mk.injEq, true_and, and_true]
  constructor
  · rintro ⟨h1, h2, h3, h4, h5⟩; exact ⟨⟨h1, h2⟩, h3, h4, h5⟩
  · rintro ⟨⟨h1, h2⟩, h3, h4, h5⟩; exact ⟨h1, h2, h3, h4, h5⟩
theorem aw15_own (rs : List Rf) : ownB ⟨7, 0, 0, 0, [], [], rs, 0⟩ = true := (own_trunc15 (e := ⟨7, 0, 0, 0, [], [], rs, 0⟩) rfl).2 ⟨rfB_true.2 rfl, rfl, rfl, rfl⟩
theorem aw15_e : evE (⟨7, 0, 0, 0, [], [], [⟨1, 2⟩], 0⟩ : Ev) [aw15] = 0 := by
  unfold evE
  rw [if_neg (by simp only; omega), if_neg (by rw [aw15_own]; simp), if_pos rfl]
  unfold truncE
  rw [if_neg (by simp), if_neg (by
    rw [risB_true.2 (fun i h => by simp at h)]
    simp), if_neg (by decide), if_neg (by simp only; omega)]
theorem aw15_b1 : sevens 5 ++ sevens 300 = [5, 172, 2] := by rw [sevens_lt (x := 5) (by decide), sevens_ge (x := 300) (by decide), sevens_lt (by decide)]; rfl
theorem aw15_b2 : ((0 : Int) :: sevens 1) ++ refsBy [⟨1, 2⟩] = [0, 1, 1, 2] := by
  unfold refsBy
  simp only [List.map_cons, List.map_nil, List.flatten_cons, List.flatten_nil, List.append_nil]
  rw [sevens_lt (x := 1) (by decide), show Int.toNat 1 = 1 from rfl, show Int.toNat 2 = 2 from rfl, sevens_lt (x := 1) (by decide), sevens_lt (x := 2) (by decide)]; rfl
theorem awake15_any (w : World) : Calls Tryz.prog 55 #[] w fun e w' => e = .returned (.bool true) ∧ Ext w w' := by
  have HPB := Hm (fun W => putBegin_any 5 300 W (by decide) (by decide))
  have HOF := Hm (cof_any [⟨aw15, some ⟨w.heap.size, 0, none⟩, 1⟩] (some ⟨((w.alloc (.cells #[.string ⟨#[97]⟩, .int .u8 1, .bool false] 217))).heap.size, 0, none⟩) 1 (((w.alloc (.cells #[.string ⟨#[97]⟩, .int .u8 1, .bool false] 217)).alloc (.cells #[.int .u32 1, .int .u32 2, .string ⟨#[116]⟩, .int .u8 0, .slice (some ⟨w.heap.size, 0, none⟩) 1 1] 174)))
    ⟨Sl.new ((w.alloc (.cells #[.string ⟨#[97]⟩, .int .u8 1, .bool false] 217))) #[.int .u32 1, .int .u32 2, .string ⟨#[116]⟩, .int .u8 0, .slice (some ⟨w.heap.size, 0, none⟩) 1 1] 174 5 1 1 _ rfl (RR.len _) rfl, fun p hp => by simp at hp; subst hp; exact (((Sl.new w #[.string ⟨#[97]⟩, .int .u8 1, .bool false] 217 3 1 1 [[.string ⟨#[97]⟩, .int .u8 1, .bool false]] rfl (by intro xs hxs; simp at hxs; subst hxs; rfl) rfl)).ext ((Ext.refl _).alloc _))⟩
    (fun p hp => by simp at hp; subst hp; exact Nat.le_refl _) (fun p hp => by simp at hp; subst hp; exact aw15_wb) (by simp))
  unfold COfPost at HOF
  simp only [World.size_alloc, List.map_cons, List.map_nil, List.length_cons, List.length_nil, Nat.zero_add, aw15_ofE, aw15_ofPl, aw15_up] at HOF
  go_enter Tryz.func55, Tryz.ntmps55
  go_upto_region 4 with (go_at_call 15; refine HOF.out.mono ?_; rintro e w1 ⟨pv, rfl, h1, -, hb1⟩; obtain ⟨rfl, c, qs, hc, hq⟩ := h1 (by first | exact rfl | exact trivial); have HC := Hm hc; have HQ := Hm hq; have HB1 := Hm (show Ext w w1 from (((Ext.refl w).alloc _).alloc _).trans hb1); clear h1 hc hq hb1)
  have HCD : Hid (Ca ((w1.alloc (.cells #[.int .u32 1, .int .u32 2] 94))) _ _ c qs) := Hm (HC.out.ext ((Ext.refl _).alloc _))
  have HAT : Hid (EL.at 5 K.pc ((w1.alloc (.cells #[.int .u32 1, .int .u32 2] 94))) ⟨(⟨7, 0, 0, 0, [], [], [⟨1, 2⟩], 0⟩ : Ev), none, 0, none, 0, some ⟨w1.heap.size, 0, none⟩, 1⟩) := Hm ⟨nilRowP _, nilRowP _, Sl.new w1 #[.int .u32 1, .int .u32 2] 94 2 1 1 (([⟨1, 2⟩] : List Rf).map Rf.cells) rfl (by intro xs hxs; simp at hxs; subst hxs; rfl) rfl⟩
  have HPUT := Hm (recput7_any _ 1 _ _ c qs _ HAT.out ⟨Nat.zero_le _, Nat.zero_le _, show 1 ≤ 1000 by omega⟩ ⟨(fun c hc => by cases hc), (fun c hc => by cases hc), Int.le_refl 0⟩ HCD.out rfl (by rw [HQ.out]; exact aw15_e) (show 1 ≤ 8 by omega) (fun r hr => by simp at hr; subst hr; exact ⟨by decide, by decide⟩) (.inl rfl))
  have HEW : Hid (Ext w ((w1.alloc (.cells #[.int .u32 1, .int .u32 2] 94)))) := Hm (HB1.out.alloc _)
  unfold EL.agg at HPUT
  simp only [List.length_nil, List.length_cons, Nat.zero_add] at HPUT
  clear HCD HAT HQ HC HOF HB1
  go_upto_region 5 with (go_at_call 53; refine HPUT.out.mono ?_; rintro e w5 ⟨v5, rfl, ho5, hb5⟩; have HO5 := Hm ho5; have HE5 := Hm (HEW.out.trans hb5); clear ho5 hb5)
  rw [aw15_b2] at HO5
  obtain ⟨SA, hSA⟩ : ∃ S, S = strOfNums (sevens 5 ++ sevens 300) := ⟨_, rfl⟩
  obtain ⟨SB, hSB⟩ : ∃ S, S = strOfNums [0, 1, 1, 2] := ⟨_, rfl⟩
  have HSA := Hm hSA
  have HSA3 : Hid (SA = strOfNums [5, 172, 2]) := Hm (by rw [hSA, aw15_b1])
  have HSB := Hm hSB
  clear hSA hSB HPUT HEW
  refine wp_region_head 21 (fun w' => Ext w5 w' ∧ (convert 27 9 v5).run Tryz.prog w' = .ok (.string SB) w') (by kernel_rfl) (by decide) ?_
  have hA0 : Hid ((fun w' => Ext w5 w' ∧ (convert 27 9 v5).run Tryz.prog w' = .ok (.string SB) w') w5.drew) := Hm ⟨(Ext.refl w5).drew, by rw [HSB.out]; exact conv_Sl (HO5.out.sl.ext (Ext.refl w5).drew)⟩
  refine wpHd_two (i := 0) (j := 2) rfl rfl rfl rfl (by kernel_rfl) (fun KK hK => ?_) (fun KK hK => ?_)
  · go_simp
    refine (HPB.out _).mono ?_
    rintro e w6 ⟨v6, rfl, ho6, hb6⟩
    have HO6 := Hm ho6
    have HE6 : Hid (Ext w5 w6) := Hm ((Ext.refl w5).drew.trans hb6)
    have HZ0 : Hid (∀ W, Ext w6 W → (fun w' => Ext w5 w' ∧ (convert 27 9 v5).run Tryz.prog w' = .ok (.string SB) w') W) := Hm (fun W h => ⟨HE6.out.trans h, by rw [HSB.out]; exact conv_Sl (HO5.out.sl.ext (HE6.out.trans h))⟩)
    refine hK.out _ _ (HZ0.out _ (Ext.refl _)) (fun hA => ?_)
    clear hK KK hA hA0 ho6 hb6
    have HZ1 : Hid (∀ W, Ext w6 W → (fun w' => (Ext w5 w' ∧ (convert 27 9 v5).run Tryz.prog w' = .ok (.string SB) w') ∧ (convert 27 9 v6).run Tryz.prog w' = .ok (.string SA) w') W) := Hm (fun W h => ⟨HZ0.out _ h, by rw [HSA.out]; exact conv_Sl (HO6.out.sl.ext h)⟩)
    have hA1 : Hid ((fun w' => (Ext w5 w' ∧ (convert 27 9 v5).run Tryz.prog w' = .ok (.string SB) w') ∧ (convert 27 9 v6).run Tryz.prog w' = .ok (.string SA) w') w6) := Hm (HZ1.out _ (Ext.refl _))
    refine wpHd_str (S' := (fun w' => (Ext w5 w' ∧ (convert 27 9 v5).run Tryz.prog w' = .ok (.string SB) w') ∧ (convert 27 9 v6).run Tryz.prog w' = .ok (.string SA) w')) (fun w' h => h.1) _ _ _ _ ?_
    (refine wpHd_takeD (i := 1) (d := some 29) (v := ?_) rfl rfl (by kernel_rfl) (by kernel_rfl) (by kernel_rfl) (fun _ _ _ h => h) (Or.inl ⟨by rfl, ?_⟩) hA1.out ?_; rotate_left 1; (· intro w' hS'; have hc' := hS'.2; go_simp; try with_reducible rfl))
    try simp only [Act.put, List.setIfInBounds_toArray, List.set_cons_zero, List.set_cons_succ]
    refine wpHd_one (i := 2) rfl rfl (by kernel_rfl) (fun KK hK => ?_)
    go_simp
    refine hK.out _ _ (HZ1.out _ ((Ext.refl _).alloc _)) (fun hA => ?_)
    clear hK KK hA hA1
    have HF := Hm (fresh_bytes w6 [5, 172, 2] 3 rfl)
    have HZ2 : Hid (∀ W, Ext (w6.alloc (.cells #[.int .u8 5, .int .u8 172, .int .u8 2] 5)) W → (fun w' => ((Ext w5 w' ∧ (convert 27 9 v5).run Tryz.prog w' = .ok (.string SB) w') ∧ (convert 27 9 v6).run Tryz.prog w' = .ok (.string SA) w') ∧ (convert 27 9 (.slice (some ⟨w6.heap.size, 0, none⟩) 3 3)).run Tryz.prog w' = .ok (.string SA) w') W) := Hm (fun W h => ⟨HZ1.out _ (((Ext.refl w6).alloc _).trans h), by rw [HSA3.out]; exact conv_Sl (HF.out.ext h)⟩)
    obtain ⟨wz, hwz⟩ : ∃ x, x = w6.alloc (.cells #[.int .u8 5, .int .u8 172, .int .u8 2] 5) := ⟨_, rfl⟩
    rw [← hwz] at HZ2 ⊢
    clear hwz HF
    have hA2 : Hid ((fun w' => ((Ext w5 w' ∧ (convert 27 9 v5).run Tryz.prog w' = .ok (.string SB) w') ∧ (convert 27 9 v6).run Tryz.prog w' = .ok (.string SA) w') ∧ (convert 27 9 (.slice (some ⟨w6.heap.size, 0, none⟩) 3 3)).run Tryz.prog w' = .ok (.string SA) w') wz) := Hm (HZ2.out _ (Ext.refl _))
    refine wpHd_str (S' := (fun w' => ((Ext w5 w' ∧ (convert 27 9 v5).run Tryz.prog w' = .ok (.string SB) w') ∧ (convert 27 9 v6).run Tryz.prog w' = .ok (.string SA) w') ∧ (convert 27 9 (.slice (some ⟨w6.heap.size, 0, none⟩) 3 3)).run Tryz.prog w' = .ok (.string SA) w')) (fun w' h => h.1) _ _ _ _ ?_
    (refine wpHd_takeD (i := 3) (d := some 31) (v := ?_) rfl rfl (by kernel_rfl) (by kernel_rfl) (by kernel_rfl) (fun _ _ _ h => h) (Or.inl ⟨by rfl, ?_⟩) hA2.out ?_; rotate_left 1; (· intro w' hS'; have hc' := hS'.2; go_simp; try with_reducible rfl))
    try simp only [Act.put, List.setIfInBounds_toArray, List.set_cons_zero, List.set_cons_succ]
    (refine wpHd_takeD (i := 4) (d := some 32) (v := ?_) rfl rfl (by kernel_rfl) (by kernel_rfl) (by kernel_rfl) (fun _ _ _ h => h) (Or.inl ⟨by rfl, ?_⟩) hA2.out ?_; rotate_left 1; (· intro w' hS'; clear hS'; go_simp; try with_reducible rfl))
    try simp only [Act.put, List.setIfInBounds_toArray, List.set_cons_zero, List.set_cons_succ]
    (refine wpHd_takeD (i := 5) (d := some 33) (v := ?_) rfl rfl (by kernel_rfl) (by kernel_rfl) (by kernel_rfl) (fun _ _ _ h => h) (Or.inl ⟨by rfl, ?_⟩) hA2.out ?_; rotate_left 1; (· intro w' hS'; clear hS'; go_simp; try with_reducible rfl))
    try simp only [Act.put, List.setIfInBounds_toArray, List.set_cons_zero, List.set_cons_succ]
    (refine wpHd_takeD (i := 6) (d := some 34) (v := ?_) rfl rfl (by kernel_rfl) (by kernel_rfl) (by kernel_rfl) (fun _ _ _ h => h) (Or.inl ⟨by rfl, ?_⟩) hA2.out ?_; rotate_left 1; (· intro w' hS'; clear hS'; go_simp; try with_reducible rfl))
    try simp only [Act.put, List.setIfInBounds_toArray, List.set_cons_zero, List.set_cons_succ]
    (refine wpHd_takeD (i := 7) (d := some 35) (v := ?_) rfl rfl (by kernel_rfl) (by kernel_rfl) (by kernel_rfl) (fun _ _ _ h => h) (Or.inl ⟨by rfl, ?_⟩) hA2.out ?_; rotate_left 1; (· intro w' hS'; clear hS'; go_simp; try with_reducible rfl))
    try simp only [Act.put, List.setIfInBounds_toArray, List.set_cons_zero, List.set_cons_succ]
    (refine wpHd_takeD (i := 8) (d := some 36) (v := ?_) rfl rfl (by kernel_rfl) (by kernel_rfl) (by kernel_rfl) (fun _ _ _ h => h) (Or.inl ⟨by rfl, ?_⟩) hA2.out ?_; rotate_left 1; (· intro w' hS'; clear hS'; go_simp; try with_reducible rfl))
    try simp only [Act.put, List.setIfInBounds_toArray, List.set_cons_zero, List.set_cons_succ]
    (refine wpHd_takeD (i := 9) (d := some 37) (v := ?_) rfl rfl (by kernel_rfl) (by kernel_rfl) (by kernel_rfl) (fun _ _ _ h => h) (Or.inl ⟨by rfl, ?_⟩) hA2.out ?_; rotate_left 1; (· intro w' hS'; clear hS'; go_simp; try with_reducible rfl))
    try simp only [Act.put, List.setIfInBounds_toArray, List.set_cons_zero, List.set_cons_succ]
    (refine wpHd_takeD (i := 10) (d := some 38) (v := ?_) rfl rfl (by kernel_rfl) (by kernel_rfl) (by kernel_rfl) (fun _ _ _ h => h) (Or.inl ⟨by rfl, ?_⟩) hA2.out ?_; rotate_left 1; (· intro w' hS'; clear hS'; go_simp; try with_reducible rfl))
    try simp only [Act.put, List.setIfInBounds_toArray, List.set_cons_zero, List.set_cons_succ]
    (refine wpHd_takeD (i := 11) (d := some 39) (v := ?_) rfl rfl (by kernel_rfl) (by kernel_rfl) (by kernel_rfl) (fun _ _ _ h => h) (Or.inl ⟨by rfl, ?_⟩) hA2.out ?_; rotate_left 1; (· intro w' hS'; clear hS'; go_simp; try with_reducible rfl))
    try simp only [Act.put, List.setIfInBounds_toArray, List.set_cons_zero, List.set_cons_succ]
    (refine wpHd_takeD (i := 12) (d := some 40) (v := ?_) rfl rfl (by kernel_rfl) (by kernel_rfl) (by kernel_rfl) (fun _ _ _ h => h) (Or.inl ⟨by rfl, ?_⟩) hA2.out ?_; rotate_left 1; (· intro w' hS'; clear hS'; go_simp; try with_reducible rfl))
    try simp only [Act.put, List.setIfInBounds_toArray, List.set_cons_zero, List.set_cons_succ]
    (refine wpHd_takeD (i := 13) (d := some 41) (v := ?_) rfl rfl (by kernel_rfl) (by kernel_rfl) (by kernel_rfl) (fun _ _ _ h => h) (Or.inl ⟨by rfl, ?_⟩) hA2.out ?_; rotate_left 1; (· intro w' hS'; clear hS'; go_simp; try with_reducible rfl))
    try simp only [Act.put, List.setIfInBounds_toArray, List.set_cons_zero, List.set_cons_succ]
    (refine wpHd_takeD (i := 14) (d := some 42) (v := ?_) rfl rfl (by kernel_rfl) (by kernel_rfl) (by kernel_rfl) (fun _ _ _ h => h) (Or.inl ⟨by rfl, ?_⟩) hA2.out ?_; rotate_left 1; (· intro w' hS'; clear hS'; go_simp; try with_reducible rfl))
    try simp only [Act.put, List.setIfInBounds_toArray, List.set_cons_zero, List.set_cons_succ]
    (refine wpHd_takeD (i := 15) (d := some 43) (v := ?_) rfl rfl (by kernel_rfl) (by kernel_rfl) (by kernel_rfl) (fun _ _ _ h => h) (Or.inl ⟨by rfl, ?_⟩) hA2.out ?_; rotate_left 1; (· intro w' hS'; clear hS'; go_simp; try with_reducible rfl))
    try simp only [Act.put, List.setIfInBounds_toArray, List.set_cons_zero, List.set_cons_succ]
    (refine wpHd_takeD (i := 16) (d := some 44) (v := ?_) rfl rfl (by kernel_rfl) (by kernel_rfl) (by kernel_rfl) (fun _ _ _ h => h) (Or.inl ⟨by rfl, ?_⟩) hA2.out ?_; rotate_left 1; (· intro w' hS'; have hc' := hS'.1.1.2; go_simp; try with_reducible rfl))
    try simp only [Act.put, List.setIfInBounds_toArray, List.set_cons_zero, List.set_cons_succ]
    refine wpHd_oneG (i := 17) rfl (by rfl) (by kernel_rfl) (fun KK hK => ?_)
    go_simp
    have hB3 : Hid ((fun w' => ((Ext w5 w' ∧ (convert 27 9 v5).run Tryz.prog w' = .ok (.string SB) w') ∧ (convert 27 9 v6).run Tryz.prog w' = .ok (.string SA) w') ∧ (convert 27 9 (.slice (some ⟨w6.heap.size, 0, none⟩) 3 3)).run Tryz.prog w' = .ok (.string SA) w') (wz.alloc (.cells #[.int .u8 0, .int .u8 1, .int .u8 1, .int .u8 2] 5))) := Hm (HZ2.out _ ((Ext.refl wz).alloc _))
    refine hK.out _ _ hB3.out (fun hA => ?_)
    clear hK KK hA hA2
    have hA3 : Hid ((fun w' => (((Ext w5 w' ∧ (convert 27 9 v5).run Tryz.prog w' = .ok (.string SB) w') ∧ (convert 27 9 v6).run Tryz.prog w' = .ok (.string SA) w') ∧ (convert 27 9 (.slice (some ⟨w6.heap.size, 0, none⟩) 3 3)).run Tryz.prog w' = .ok (.string SA) w') ∧ (convert 27 9 (.slice (some ⟨wz.heap.size, 0, none⟩) 4 4)).run Tryz.prog w' = .ok (.string SB) w') (wz.alloc (.cells #[.int .u8 0, .int .u8 1, .int .u8 1, .int .u8 2] 5))) := Hm ⟨hB3.out, by rw [HSB.out]; exact conv_Sl (fresh_bytes wz [0, 1, 1, 2] 4 rfl)⟩
    have HEZ : Hid (Ext w5 (wz.alloc (.cells #[.int .u8 0, .int .u8 1, .int .u8 1, .int .u8 2] 5))) := Hm hB3.out.1.1.1
    clear hB3
    refine wpHd_str (S' := (fun w' => (((Ext w5 w' ∧ (convert 27 9 v5).run Tryz.prog w' = .ok (.string SB) w') ∧ (convert 27 9 v6).run Tryz.prog w' = .ok (.string SA) w') ∧ (convert 27 9 (.slice (some ⟨w6.heap.size, 0, none⟩) 3 3)).run Tryz.prog w' = .ok (.string SA) w') ∧ (convert 27 9 (.slice (some ⟨wz.heap.size, 0, none⟩) 4 4)).run Tryz.prog w' = .ok (.string SB) w')) (fun w' h => h.1) _ _ _ _ ?_
    (refine wpHd_takeD (i := 18) (d := some 46) (v := ?_) rfl rfl (by kernel_rfl) (by kernel_rfl) (by kernel_rfl) (fun _ _ _ h => h) (Or.inl ⟨by rfl, ?_⟩) hA3.out ?_; rotate_left 1; (· intro w' hS'; have hc' := hS'.2; go_simp; try with_reducible rfl))
    try simp only [Act.put, List.setIfInBounds_toArray, List.set_cons_zero, List.set_cons_succ]
    (refine wpHd_takeD (i := 19) (d := some 47) (v := ?_) rfl rfl (by kernel_rfl) (by kernel_rfl) (by kernel_rfl) (fun _ _ _ h => h) (Or.inl ⟨by rfl, ?_⟩) hA3.out ?_; rotate_left 1; (· intro w' hS'; clear hS'; go_simp; try with_reducible rfl))
    try simp only [Act.put, List.setIfInBounds_toArray, List.set_cons_zero, List.set_cons_succ]
    (refine wpHd_takeD (i := 20) (d := some 48) (v := ?_) rfl rfl (by kernel_rfl) (by kernel_rfl) (by kernel_rfl) (fun _ _ _ h => h) (Or.inl ⟨by rfl, ?_⟩) hA3.out ?_; rotate_left 1; (· intro w' hS'; clear hS'; go_simp; try with_reducible rfl))
    try simp only [Act.put, List.setIfInBounds_toArray, List.set_cons_zero, List.set_cons_succ]
    refine wpHd_tail (by kernel_rfl) ?_
    simp only [List.drop_succ_cons, List.drop_zero]
    clear hA3
    go_wp2
    go_ret
    exact ⟨rfl, HE5.out.trans HEZ.out⟩
  · go_simp
    have HZ0 : Hid (∀ W, Ext w5 W → (fun w' => Ext w5 w' ∧ (convert 27 9 v5).run Tryz.prog w' = .ok (.string SB) w') W) := Hm (fun W h => ⟨h, by rw [HSB.out]; exact conv_Sl (HO5.out.sl.ext h)⟩)
    refine hK.out _ _ (HZ0.out _ (by exact eX)) (fun hA => ?_)
    clear hK KK hA hA0
    have HF : Hid (Sl (w5.drew.alloc (.cells #[.int .u8 5, .int .u8 172, .int .u8 2] 5)) (.slice (some ⟨w5.heap.size, 0, none⟩) 3 3) 1 ([5, 172, 2].map bcell)) := Hm (fresh_bytes w5.drew [5, 172, 2] 3 rfl)
    have HD : Hid (Ext w5 (w5.drew.alloc (.cells #[.int .u8 5, .int .u8 172, .int .u8 2] 5))) := Hm (by exact eX)
    have HZ1 : Hid (∀ W, Ext (w5.drew.alloc (.cells #[.int .u8 5, .int .u8 172, .int .u8 2] 5)) W → (fun w' => (Ext w5 w' ∧ (convert 27 9 v5).run Tryz.prog w' = .ok (.string SB) w') ∧ (convert 27 9 (.slice (some ⟨w5.heap.size, 0, none⟩) 3 3)).run Tryz.prog w' = .ok (.string SA) w') W) := Hm (fun W h => ⟨HZ0.out _ (HD.out.trans h), by rw [HSA3.out]; exact conv_Sl (HF.out.ext h)⟩)
    have hA1 : Hid ((fun w' => (Ext w5 w' ∧ (convert 27 9 v5).run Tryz.prog w' = .ok (.string SB) w') ∧ (convert 27 9 (.slice (some ⟨w5.heap.size, 0, none⟩) 3 3)).run Tryz.prog w' = .ok (.string SA) w') (w5.drew.alloc (.cells #[.int .u8 5, .int .u8 172, .int .u8 2] 5))) := Hm (HZ1.out _ (Ext.refl _))
    refine wpHd_str (S' := (fun w' => (Ext w5 w' ∧ (convert 27 9 v5).run Tryz.prog w' = .ok (.string SB) w') ∧ (convert 27 9 (.slice (some ⟨w5.heap.size, 0, none⟩) 3 3)).run Tryz.prog w' = .ok (.string SA) w')) (fun w' h => h.1) _ _ _ _ ?_
    (refine wpHd_takeD (i := 3) (d := some 31) (v := ?_) rfl rfl (by kernel_rfl) (by kernel_rfl) (by kernel_rfl) (fun _ _ _ h => h) (Or.inl ⟨by rfl, ?_⟩) hA1.out ?_; rotate_left 1; (· intro w' hS'; have hc' := hS'.2; go_simp; try with_reducible rfl))
    try simp only [Act.put, List.setIfInBounds_toArray, List.set_cons_zero, List.set_cons_succ]
    refine wpHd_one (i := 0) rfl rfl (by kernel_rfl) (fun KK hK => ?_)
    go_simp
    refine (HPB.out _).mono ?_
    rintro e wz ⟨v6, rfl, ho6, hb6⟩
    have HO6 := Hm ho6
    have HE6 : Hid (Ext (w5.drew.alloc (.cells #[.int .u8 5, .int .u8 172, .int .u8 2] 5)) wz) := Hm (by first | exact hb6 | exact (Ext.refl _).trans hb6)
    refine hK.out _ _ (HZ1.out _ HE6.out) (fun hA => ?_)
    clear hK KK hA hA1 ho6 hb6
    have HZ2 : Hid (∀ W, Ext wz W → (fun w' => ((Ext w5 w' ∧ (convert 27 9 v5).run Tryz.prog w' = .ok (.string SB) w') ∧ (convert 27 9 (.slice (some ⟨w5.heap.size, 0, none⟩) 3 3)).run Tryz.prog w' = .ok (.string SA) w') ∧ (convert 27 9 v6).run Tryz.prog w' = .ok (.string SA) w') W) := Hm (fun W h => ⟨HZ1.out _ (HE6.out.trans h), by rw [HSA.out]; exact conv_Sl (HO6.out.sl.ext h)⟩)
    have hA2 : Hid ((fun w' => ((Ext w5 w' ∧ (convert 27 9 v5).run Tryz.prog w' = .ok (.string SB) w') ∧ (convert 27 9 (.slice (some ⟨w5.heap.size, 0, none⟩) 3 3)).run Tryz.prog w' = .ok (.string SA) w') ∧ (convert 27 9 v6).run Tryz.prog w' = .ok (.string SA) w') wz) := Hm (HZ2.out _ (Ext.refl _))
    refine wpHd_str (S' := (fun w' => ((Ext w5 w' ∧ (convert 27 9 v5).run Tryz.prog w' = .ok (.string SB) w') ∧ (convert 27 9 (.slice (some ⟨w5.heap.size, 0, none⟩) 3 3)).run Tryz.prog w' = .ok (.string SA) w') ∧ (convert 27 9 v6).run Tryz.prog w' = .ok (.string SA) w')) (fun w' h => h.1) _ _ _ _ ?_
    (refine wpHd_takeD (i := 1) (d := some 29) (v := ?_) rfl rfl (by kernel_rfl) (by kernel_rfl) (by kernel_rfl) (fun _ _ _ h => h) (Or.inl ⟨by rfl, ?_⟩) hA2.out ?_; rotate_left 1; (· intro w' hS'; have hc' := hS'.2; go_simp; try with_reducible rfl))
    try simp only [Act.put, List.setIfInBounds_toArray, List.set_cons_zero, List.set_cons_succ]
    (refine wpHd_takeD (i := 4) (d := some 32) (v := ?_) rfl rfl (by kernel_rfl) (by kernel_rfl) (by kernel_rfl) (fun _ _ _ h => h) (Or.inl ⟨by rfl, ?_⟩) hA2.out ?_; rotate_left 1; (· intro w' hS'; clear hS'; go_simp; try with_reducible rfl))
    try simp only [Act.put, List.setIfInBounds_toArray, List.set_cons_zero, List.set_cons_succ]
    (refine wpHd_takeD (i := 5) (d := some 33) (v := ?_) rfl rfl (by kernel_rfl) (by kernel_rfl) (by kernel_rfl) (fun _ _ _ h => h) (Or.inl ⟨by rfl, ?_⟩) hA2.out ?_; rotate_left 1; (· intro w' hS'; clear hS'; go_simp; try with_reducible rfl))
    try simp only [Act.put, List.setIfInBounds_toArray, List.set_cons_zero, List.set_cons_succ]
    (refine wpHd_takeD (i := 6) (d := some 34) (v := ?_) rfl rfl (by kernel_rfl) (by kernel_rfl) (by kernel_rfl) (fun _ _ _ h => h) (Or.inl ⟨by rfl, ?_⟩) hA2.out ?_; rotate_left 1; (· intro w' hS'; clear hS'; go_simp; try with_reducible rfl))
    try simp only [Act.put, List.setIfInBounds_toArray, List.set_cons_zero, List.set_cons_succ]
    (refine wpHd_takeD (i := 7) (d := some 35) (v := ?_) rfl rfl (by kernel_rfl) (by kernel_rfl) (by kernel_rfl) (fun _ _ _ h => h) (Or.inl ⟨by rfl, ?_⟩) hA2.out ?_; rotate_left 1; (· intro w' hS'; clear hS'; go_simp; try with_reducible rfl))
    try simp only [Act.put, List.setIfInBounds_toArray, List.set_cons_zero, List.set_cons_succ]
    (refine wpHd_takeD (i := 8) (d := some 36) (v := ?_) rfl rfl (by kernel_rfl) (by kernel_rfl) (by kernel_rfl) (fun _ _ _ h => h) (Or.inl ⟨by rfl, ?_⟩) hA2.out ?_; rotate_left 1; (· intro w' hS'; clear hS'; go_simp; try with_reducible rfl))
    try simp only [Act.put, List.setIfInBounds_toArray, List.set_cons_zero, List.set_cons_succ]
    (refine wpHd_takeD (i := 9) (d := some 37) (v := ?_) rfl rfl (by kernel_rfl) (by kernel_rfl) (by kernel_rfl) (fun _ _ _ h => h) (Or.inl ⟨by rfl, ?_⟩) hA2.out ?_; rotate_left 1; (· intro w' hS'; clear hS'; go_simp; try with_reducible rfl))
    try simp only [Act.put, List.setIfInBounds_toArray, List.set_cons_zero, List.set_cons_succ]
    (refine wpHd_takeD (i := 10) (d := some 38) (v := ?_) rfl rfl (by kernel_rfl) (by kernel_rfl) (by kernel_rfl) (fun _ _ _ h => h) (Or.inl ⟨by rfl, ?_⟩) hA2.out ?_; rotate_left 1; (· intro w' hS'; clear hS'; go_simp; try with_reducible rfl))
    try simp only [Act.put, List.setIfInBounds_toArray, List.set_cons_zero, List.set_cons_succ]
    (refine wpHd_takeD (i := 11) (d := some 39) (v := ?_) rfl rfl (by kernel_rfl) (by kernel_rfl) (by kernel_rfl) (fun _ _ _ h => h) (Or.inl ⟨by rfl, ?_⟩) hA2.out ?_; rotate_left 1; (· intro w' hS'; clear hS'; go_simp; try with_reducible rfl))
    try simp only [Act.put, List.setIfInBounds_toArray, List.set_cons_zero, List.set_cons_succ]
    (refine wpHd_takeD (i := 12) (d := some 40) (v := ?_) rfl rfl (by kernel_rfl) (by kernel_rfl) (by kernel_rfl) (fun _ _ _ h => h) (Or.inl ⟨by rfl, ?_⟩) hA2.out ?_; rotate_left 1; (· intro w' hS'; clear hS'; go_simp; try with_reducible rfl))
    try simp only [Act.put, List.setIfInBounds_toArray, List.set_cons_zero, List.set_cons_succ]
    (refine wpHd_takeD (i := 13) (d := some 41) (v := ?_) rfl rfl (by kernel_rfl) (by kernel_rfl) (by kernel_rfl) (fun _ _ _ h => h) (Or.inl ⟨by rfl, ?_⟩) hA2.out ?_; rotate_left 1; (· intro w' hS'; clear hS'; go_simp; try with_reducible rfl))
    try simp only [Act.put, List.setIfInBounds_toArray, List.set_cons_zero, List.set_cons_succ]
    (refine wpHd_takeD (i := 14) (d := some 42) (v := ?_) rfl rfl (by kernel_rfl) (by kernel_rfl) (by kernel_rfl) (fun _ _ _ h => h) (Or.inl ⟨by rfl, ?_⟩) hA2.out ?_; rotate_left 1; (· intro w' hS'; clear hS'; go_simp; try with_reducible rfl))
    try simp only [Act.put, List.setIfInBounds_toArray, List.set_cons_zero, List.set_cons_succ]
    (refine wpHd_takeD (i := 15) (d := some 43) (v := ?_) rfl rfl (by kernel_rfl) (by kernel_rfl) (by kernel_rfl) (fun _ _ _ h => h) (Or.inl ⟨by rfl, ?_⟩) hA2.out ?_; rotate_left 1; (· intro w' hS'; clear hS'; go_simp; try with_reducible rfl))
    try simp only [Act.put, List.setIfInBounds_toArray, List.set_cons_zero, List.set_cons_succ]
    (refine wpHd_takeD (i := 16) (d := some 44) (v := ?_) rfl rfl (by kernel_rfl) (by kernel_rfl) (by kernel_rfl) (fun _ _ _ h => h) (Or.inl ⟨by rfl, ?_⟩) hA2.out ?_; rotate_left 1; (· intro w' hS'; have hc' := hS'.1.1.2; go_simp; try with_reducible rfl))
    try simp only [Act.put, List.setIfInBounds_toArray, List.set_cons_zero, List.set_cons_succ]
    refine wpHd_oneG (i := 17) rfl (by rfl) (by kernel_rfl) (fun KK hK => ?_)
    go_simp
    have hB3 : Hid ((fun w' => ((Ext w5 w' ∧ (convert 27 9 v5).run Tryz.prog w' = .ok (.string SB) w') ∧ (convert 27 9 (.slice (some ⟨w5.heap.size, 0, none⟩) 3 3)).run Tryz.prog w' = .ok (.string SA) w') ∧ (convert 27 9 v6).run Tryz.prog w' = .ok (.string SA) w') (wz.alloc (.cells #[.int .u8 0, .int .u8 1, .int .u8 1, .int .u8 2] 5))) := Hm (HZ2.out _ ((Ext.refl wz).alloc _))
    refine hK.out _ _ hB3.out (fun hA => ?_)
    clear hK KK hA hA2
    have hA3 : Hid ((fun w' => (((Ext w5 w' ∧ (convert 27 9 v5).run Tryz.prog w' = .ok (.string SB) w') ∧ (convert 27 9 (.slice (some ⟨w5.heap.size, 0, none⟩) 3 3)).run Tryz.prog w' = .ok (.string SA) w') ∧ (convert 27 9 v6).run Tryz.prog w' = .ok (.string SA) w') ∧ (convert 27 9 (.slice (some ⟨wz.heap.size, 0, none⟩) 4 4)).run Tryz.prog w' = .ok (.string SB) w') (wz.alloc (.cells #[.int .u8 0, .int .u8 1, .int .u8 1, .int .u8 2] 5))) := Hm ⟨hB3.out, by rw [HSB.out]; exact conv_Sl (fresh_bytes wz [0, 1, 1, 2] 4 rfl)⟩
    have HEZ : Hid (Ext w5 (wz.alloc (.cells #[.int .u8 0, .int .u8 1, .int .u8 1, .int .u8 2] 5))) := Hm hB3.out.1.1.1
    clear hB3
    refine wpHd_str (S' := (fun w' => (((Ext w5 w' ∧ (convert 27 9 v5).run Tryz.prog w' = .ok (.string SB) w') ∧ (convert 27 9 (.slice (some ⟨w5.heap.size, 0, none⟩) 3 3)).run Tryz.prog w' = .ok (.string SA) w') ∧ (convert 27 9 v6).run Tryz.prog w' = .ok (.string SA) w') ∧ (convert 27 9 (.slice (some ⟨wz.heap.size, 0, none⟩) 4 4)).run Tryz.prog w' = .ok (.string SB) w')) (fun w' h => h.1) _ _ _ _ ?_
    (refine wpHd_takeD (i := 18) (d := some 46) (v := ?_) rfl rfl (by kernel_rfl) (by kernel_rfl) (by kernel_rfl) (fun _ _ _ h => h) (Or.inl ⟨by rfl, ?_⟩) hA3.out ?_; rotate_left 1; (· intro w' hS'; have hc' := hS'.2; go_simp; try with_reducible rfl))
    try simp only [Act.put, List.setIfInBounds_toArray, List.set_cons_zero, List.set_cons_succ]
    (refine wpHd_takeD (i := 19) (d := some 47) (v := ?_) rfl rfl (by kernel_rfl) (by kernel_rfl) (by kernel_rfl) (fun _ _ _ h => h) (Or.inl ⟨by rfl, ?_⟩) hA3.out ?_; rotate_left 1; (· intro w' hS'; clear hS'; go_simp; try with_reducible rfl))
    try simp only [Act.put, List.setIfInBounds_toArray, List.set_cons_zero, List.set_cons_succ]
    (refine wpHd_takeD (i := 20) (d := some 48) (v := ?_) rfl rfl (by kernel_rfl) (by kernel_rfl) (by kernel_rfl) (fun _ _ _ h => h) (Or.inl ⟨by rfl, ?_⟩) hA3.out ?_; rotate_left 1; (· intro w' hS'; clear hS'; go_simp; try with_reducible rfl))
    try simp only [Act.put, List.setIfInBounds_toArray, List.set_cons_zero, List.set_cons_succ]
    refine wpHd_tail (by kernel_rfl) ?_
    simp only [List.drop_succ_cons, List.drop_zero]
    clear hA3
    go_wp2
    go_ret
    exact ⟨rfl, HE5.out.trans HEZ.out⟩
end Go.Proofs.YtjnafppkbhldlaaGreat
namespace Go.Proofs.YtjnafppkbhldlaaGreat
open Go.RowKit
def GreatK (l : List K) (cols : List Col) (nm : ByteArray) (w : World) (e : Ending) (w' : World) : Prop :=
  ∃ g : Bool, e = .returned (.bool g) ∧ (g = false → (∀ c ∈ l, c.v.s.size ≤ 3000) ∧ (∀ c ∈ cols, c.nm.size ≤ 60) ∧ l.length ≤ 20 ∧ cols.length ≤ 20 ∧ nm.size ≤ 60) ∧ Ext w w'
theorem greatK_any (l : List K) (a : Option Addr) (cap : Nat) (oid ver : Int) (nm : ByteArray) (id : Int) (cols : List Col) (a2 : Option Addr) (cap2 : Nat) (w : World) (hl : Sl w (.slice a l.length cap) 6 (l.map K.rc)) (hl2 : Sl w (.slice a2 cols.length cap2) 3 (cols.map Col.cells))
    (hlen : l.length ≤ 9223372036854775807) (hlen2 : cols.length ≤ 9223372036854775807) (hs : ∀ c ∈ l, c.v.s.size ≤ 9223372036854775807) (hs2 : ∀ c ∈ cols, c.nm.size ≤ 9223372036854775807) (hnm : nm.size ≤ 9223372036854775807) :
    Calls Tryz.prog 36 #[.slice a l.length cap, .agg #[.int .u32 oid, .int .u32 ver, .string nm, .int .u8 id, .slice a2 cols.length cap2]] w (GreatK l cols nm w) := by
  have HL := Hm hl
  have HL2 := Hm hl2
  have HS := Hm hs
  have HS2 := Hm hs2
  clear hl hl2 hs hs2
  go_enter Tryz.func36, Tryz.ntmps36
  go_wp2
  go_loopw [5] (fun i wr => ∃ k : Nat, k ≤ l.length ∧ i = .int .i64 k ∧ Hid (∀ j (hj : j < l.length), j < k → l[j].v.s.size ≤ 3000) ∧ Hid (Ext (w.alloc (.cells #[.int .u32 oid, .int .u32 ver, .string nm, .int .u8 id, .slice a2 cols.length cap2] 79)) wr)) (fun i _ => l.length - (intOf i).toNat)
  case atStart => exact ⟨0, Nat.zero_le _, rfl, fun j _ h => by omega, Ext.refl _⟩
  case round =>
    obtain ⟨k, hk, rfl, hrel, hE⟩ := hrel
    have hEw : Hid (Ext w wr) := Hm (((Ext.refl w).alloc _).trans hE.out)
    by_cases hlt : k < l.length
    · obtain ⟨b, o, rfl, hb, hx⟩ := HL.out.at_ (i := k) (by simpa using hlt)
      obtain ⟨f0, f1, f2, f3, f4, f5⟩ := K.rcAt hlt hx hb hEw.out
      have hbw : b < wr.heap.size := Nat.lt_of_lt_of_le hb hEw.out.size
      have hsz := HS.out _ (List.getElem_mem hlt)
      clear hx
      by_cases h3 : 3000 < l[k].v.s.size
      · go_wp2
        go_ret
        exact ⟨true, rfl, (fun h => by cases h), hEw.out⟩
      · have h4 : l[k].v.s.size ≤ 3000 := by omega
        go_wp2
        go_roundw
        case rel => exact ⟨k + 1, by omega, by go_num, fun j hj hjk => by
          by_cases e : j = k
          · subst e; exact h4
          · exact hrel.out j hj (by omega), hE⟩
        case measure => simp [intOf]; omega
    · have hkk : k = l.length := by omega
      have H3 : Hid (∀ c ∈ l, c.v.s.size ≤ 3000) := Hm (fun c hc => by
        obtain ⟨i, hi, rfl⟩ := List.getElem_of_mem hc
        exact hrel.out i hi (by omega))
      subst hkk
      clear hrel
      have hBx := (Blk.new w #[.int .u32 oid, .int .u32 ver, .string nm, .int .u8 id, .slice a2 cols.length cap2] 79).ext hE.out
      have g0 := hBx.cell
      have z0 := hBx.lt
      clear hBx
      go_wp2
      obtain ⟨wo, rfl⟩ : ∃ wo : World, wo = wr := ⟨_, rfl⟩
      go_loopw [6] (fun i wr => ∃ k : Nat, k ≤ cols.length ∧ i = .int .i64 k ∧ Hid (∀ j (hj : j < cols.length), j < k → cols[j].nm.size ≤ 60) ∧ wr = wo) (fun i _ => cols.length - (intOf i).toNat)
      case atStart => exact ⟨0, Nat.zero_le _, rfl, fun j _ h => by omega, rfl⟩
      case round =>
        obtain ⟨k, hk, rfl, hrel, rfl⟩ := hrel
        by_cases hlt : k < cols.length
        · obtain ⟨b, o, rfl, hb, hx⟩ := HL2.out.at_ (i := k) (by simpa using hlt)
          obtain ⟨f0, f1, f2⟩ := Col.at_ hlt hx hb hEw.out
          have hbw : b < wr.heap.size := Nat.lt_of_lt_of_le hb hEw.out.size
          have hsz := HS2.out _ (List.getElem_mem hlt)
          clear hx
          by_cases h3 : 60 < cols[k].nm.size
          · go_wp2
            go_ret
            exact ⟨true, rfl, (fun h => by cases h), hEw.out⟩
          · have h4 : cols[k].nm.size ≤ 60 := by omega
            go_wp2
            go_roundw
            case rel => exact ⟨k + 1, by omega, by go_num, fun j hj hjk => by
              by_cases e : j = k
              · subst e; exact h4
              · exact hrel.out j hj (by omega), (by first | trivial | rfl)⟩
            case measure => simp [intOf]; omega
        · have hkk : k = cols.length := by omega
          have H4 : Hid (∀ c ∈ cols, c.nm.size ≤ 60) := Hm (fun c hc => by
            obtain ⟨i, hi, rfl⟩ := List.getElem_of_mem hc
            exact hrel.out i hi (by omega))
          subst hkk
          clear hrel
          by_cases c1 : 20 < l.length
          · go_wp2
            go_ret
            exact ⟨_, rfl, fun h => by simp at h; try omega, hEw.out⟩
          · have c1' : l.length ≤ 20 := by omega
            by_cases c2 : 20 < cols.length
            · go_wp2
              go_ret
              exact ⟨_, rfl, fun h => by simp at h; try omega, hEw.out⟩
            · have c2' : cols.length ≤ 20 := by omega
              go_wp2
              go_ret
              exact ⟨_, rfl, fun h => ⟨H3.out, H4.out, c1', c2', by simp at h; omega⟩, hEw.out⟩
structure TL where
  xid : Int
  st : Int
  es : List EL
  a : Option Addr
  c : Nat
def TL.vals (x : TL) : List Value := [.int .u32 x.xid, .int .u64 x.st, .slice x.a x.es.length x.c]
def TL.agg (x : TL) : Value := .agg #[.int .u32 x.xid, .int .u64 x.st, .slice x.a x.es.length x.c]
def TL.at (n : Nat) (f : K → List Value) (W : World) (x : TL) : Prop := ES n f W (.slice x.a x.es.length x.c) x.es
theorem TL.at.ext {n : Nat} {f : K → List Value} {W W' : World} {x : TL} (h : x.at n f W) (he : Ext W W') : x.at n f W' := ES.ext h he
theorem TL.at_ {w wr : World} {b o : Nat} {l : List TL} {k : Nat} (hk : k < l.length) (hc : ∀ j, j < 3 → w.cell? ⟨b, o + k * 3 + j, none⟩ = ((l.map TL.vals).getD k [])[j]?) (hb : b < w.heap.size) (hE : Ext w wr) :
    wr.cell? ⟨b, o + k * 3, none⟩ = some (.int .u32 l[k].xid) ∧ wr.cell? ⟨b, o + k * 3 + 1, none⟩ = some (.int .u64 l[k].st) ∧ wr.cell? ⟨b, o + k * 3 + 2, none⟩ = some (.slice l[k].a l[k].es.length l[k].c) := by
  rw [getD_map TL.vals l hk] at hc
  have c := hE.cells.1 b
  exact ⟨(c _ hb).trans (hc 0 (by omega)), (c _ hb).trans (hc 1 (by omega)), (c _ hb).trans (hc 2 (by omega))⟩
structure TS (n : Nat) (f : K → List Value) (W : World) (v : Value) (xs : List TL) : Prop where
  row : Sl W v 3 (xs.map TL.vals)
  sl : ∀ x ∈ xs, x.at n f W
theorem TS.ext {n : Nat} {f : K → List Value} {W W' : World} {v : Value} {xs : List TL} (h : TS n f W v xs) (he : Ext W W') : TS n f W' v xs := ⟨h.row.ext he, fun x hx => (h.sl x hx).ext he⟩
structure Ev.sz (e : Ev) : Prop where
  b : e.b.length ≤ 9223372036854775807
  a : e.a.length ≤ 9223372036854775807
  r : e.rs.length ≤ 9223372036854775807
  sb : ∀ c ∈ e.b, c.wk
  sa : ∀ c ∈ e.a, c.wk
  kind : 0 ≤ e.kind ∧ e.kind < 256
  old : 0 ≤ e.old ∧ e.old < 256
  fl : 0 ≤ e.fl ∧ e.fl < 256
structure TL.sz (x : TL) : Prop where
  n : x.es.length ≤ 1500000000000
  e : ∀ e ∈ x.es, e.e.sz
  xid : 0 ≤ x.xid
structure Ev.lit (e : Ev) : Prop where
  b : e.b.length ≤ 20
  a : e.a.length ≤ 20
  r : e.rs.length ≤ 30
  sb : ∀ c ∈ e.b, c.v.s.size ≤ 3000
  sa : ∀ c ∈ e.a, c.v.s.size ≤ 3000
def manyT (ts : List TL) (k : Nat) : Nat := ((ts.take k).map fun t => t.es.length).sum
structure Lit (ps : List RR) (ts : List TL) : Prop where
  n : ps.length ≤ 70
  t : ts.length ≤ 60
  es : manyT ts ts.length ≤ 600
  e : ∀ t ∈ ts, ∀ e ∈ t.es, e.e.lit
  r : ∀ p ∈ ps, p.r.cols.length ≤ 20
def GreatT (ps : List RR) (ts : List TL) (w : World) (e : Ending) (w' : World) : Prop := ∃ g : Bool, e = .returned (.bool g) ∧ (g = false → Lit ps ts) ∧ Ext w w'
theorem manyT_succ {ts : List TL} {k : Nat} (hk : k < ts.length) : manyT ts (k + 1) = manyT ts k + ts[k].es.length := by
  unfold manyT
  rw [List.take_succ_eq_append_getElem hk, List.map_append, List.sum_append]; simp
theorem manyT_bd {ts : List TL} (h : ∀ t ∈ ts, t.sz) (k : Nat) : manyT ts k ≤ k * 1500000000000 := by
  induction k with
  | zero => exact Nat.le_of_eq (by unfold manyT; rw [Nat.zero_mul]; rfl)
  | succ k ih =>
    by_cases hk : k < ts.length
    · rw [manyT_succ hk, Nat.succ_mul]; exact Nat.add_le_add ih (h _ (List.getElem_mem hk)).n
    · have e : manyT ts (k + 1) = manyT ts k := by unfold manyT; rw [List.take_of_length_le (by omega), List.take_of_length_le (by omega)]
      rw [e]; exact Nat.le_trans ih (Nat.mul_le_mul_right _ (by omega))
structure GrI (ts : List TL) (m : Int) (k : Nat) : Prop where
  mm : ts.length ≤ 60 → m = manyT ts k
  e : ts.length ≤ 60 → m ≤ 600 → ∀ j (h : j < ts.length), j < k → ∀ e ∈ ts[j].es, e.e.lit
theorem GrI.zero (ts : List TL) : GrI ts 0 0 := ⟨fun _ => rfl, fun _ _ j _ h => by omega⟩
theorem GrI.succ {ts : List TL} {m : Int} {k : Nat} (h : GrI ts m k) (hs : ∀ t ∈ ts, t.sz) (hk : k < ts.length) (he : wrap64 (m + (ts[k].es.length : Nat)) ≤ 600 → ∀ e ∈ ts[k].es, e.e.lit) : GrI ts (wrap64 (m + (ts[k].es.length : Nat))) (k + 1) := by
  have hw : ts.length ≤ 60 → wrap64 (m + (ts[k].es.length : Nat)) = manyT ts (k + 1) := fun h60 => by
    have h1 := h.mm h60
    have h2 := manyT_bd hs k
    have h3 := (hs _ (List.getElem_mem hk)).n
    have h4 : k * 1500000000000 ≤ 60 * 1500000000000 := Nat.mul_le_mul_right _ (by omega)
    rw [manyT_succ hk, h1]
    have e : ((manyT ts k : Nat) : Int) + ((ts[k].es.length : Nat) : Int) = ((manyT ts k + ts[k].es.length : Nat) : Int) := by omega
    rw [e]
    exact IntWalk.wrap64_in _ (by omega)
  refine ⟨hw, fun h60 hm j hj hjk => ?_⟩
  by_cases e : j = k
  · subst e; exact he hm
  · refine h.e h60 ?_ j hj (by omega)
    rw [h.mm h60]
    rw [hw h60, manyT_succ hk] at hm
    omega
theorem greatT_any (ps : List RR) (ts : List TL) (a a2 : Option Addr) (c c2 : Nat) (w : World) (hp : RL w (.slice a ps.length c) ps) (ht : TS 6 K.rc w (.slice a2 ts.length c2) ts) (hn : ps.length ≤ 9223372036854775807) (hm : ts.length ≤ 9223372036854775807) (hw : ∀ p ∈ ps, p.r.wb) (hs : ∀ t ∈ ts, t.sz) :
    Calls Tryz.prog 13 #[.slice a ps.length c, .slice a2 ts.length c2] w (GreatT ps ts w) := by
  have HP := Hm hp
  have HT := Hm ht
  have HW := Hm hw
  have HS := Hm hs
  have HGR := Hm (fun W p (h : Ext w W) (hp' : p ∈ ps) => (show Calls Tryz.prog 36 #[.slice none 0 0, p.agg] W (GreatK [] p.r.cols p.r.nm W) from greatK_any [] none 0 p.r.oid p.r.ver p.r.nm p.r.id p.r.cols p.a p.c W ⟨none, 0, rfl, .inl rfl⟩ ((hp.sl p hp').ext h) (by simp) (by have := (hw p hp').n; omega) (by intro c hc; cases hc) (hw p hp').cs (hw p hp').nm))
  have HGK := Hm (fun W (l : List K) (ab : Option Addr) (cb : Nat) (h : Sl W (.slice ab l.length cb) 6 (l.map K.rc)) (h1 : l.length ≤ 9223372036854775807) (h2 : ∀ c ∈ l, K.wk c) => (show Calls Tryz.prog 36 #[.slice ab l.length cb, .agg #[.int .u32 0, .int .u32 0, .string ⟨#[]⟩, .int .u8 0, .slice none 0 0]] W (GreatK l [] ⟨#[]⟩ W) from greatK_any l ab cb 0 0 ⟨#[]⟩ 0 [] none 0 W h ⟨none, 0, rfl, .inl rfl⟩ h1 (by simp) (fun c hc => (h2 c hc).s) (by intro c hc; cases hc) (by show 0 ≤ 9223372036854775807; omega)))
  clear hp ht hw hs
  go_enter Tryz.func13, Tryz.ntmps13
  go_wp2
  go_loopg [5, 6] ts.length (fun z mv i wr => ∃ (m : Int) (k : Nat), z + k = ts.length ∧ i = .int .i64 k ∧ mv = .int .i64 m ∧ Hid (GrI ts m k) ∧ Hid (Ext w wr))
  case atStart => exact ⟨0, 0, by omega, rfl, rfl, Hm (GrI.zero ts), Hm (Ext.refl _)⟩
  case round =>
    obtain ⟨m, k, hzk, rfl, rfl, hG, hE⟩ := hrel
    by_cases hlt : k < ts.length
    · obtain ⟨b, o, rfl, hb, hx⟩ := HT.out.row.at_ (i := k) (by simpa using hlt)
      have HF := Hm (fun W (h : Ext w W) => TL.at_ hlt hx hb h)
      obtain ⟨f0, f1, f2⟩ := HF.out wr hE.out
      have hbw : b < wr.heap.size := Nat.lt_of_lt_of_le hb hE.out.size
      have HES := Hm (HT.out.sl _ (List.getElem_mem hlt))
      have HSZ := Hm (HS.out _ (List.getElem_mem hlt))
      have HNX := Hm (fun he => GrI.succ hG.out HS.out hlt he)
      obtain ⟨t, ht⟩ : ∃ t, t = ts[k] := ⟨_, rfl⟩
      rw [← ht] at HF f0 f1 f2 HES HSZ HNX
      clear ht hx
      obtain ⟨xid, st, es, ta, tc⟩ := t
      simp only at HF f0 f1 f2 HSZ HNX
      have HES2 : Hid (ES 6 K.rc w (.slice ta es.length tc) es) := HES
      clear HES
      obtain ⟨X, hX⟩ : ∃ X, X = wrap64 (m + (es.length : Nat)) := ⟨_, rfl⟩
      rw [← hX] at HNX
      have HX := Hm hX
      clear hX
      obtain ⟨wo, hwo⟩ : ∃ x, x = wr := ⟨_, rfl⟩
      subst hwo
      have HEo := Hm hE.out
      clear hE
      go_wp2
      rw [show wrap64 (m + (es.length : Int)) = X from HX.out.symm]
      go_loopg [7] es.length (fun z2 i wr => ∃ (n : Nat), z2 + n = es.length ∧ i = .int .i64 n ∧ Hid (∀ j (h : j < es.length), j < n → es[j].e.lit) ∧ Hid (Ext wo wr))
      case atStart => exact ⟨0, by omega, rfl, Hm (fun j _ h => by omega), Hm (Ext.refl _)⟩
      case round =>
        obtain ⟨n, hzn, rfl, hL, hE⟩ := hrel
        have HEr := Hm (HEo.out.trans hE.out)
        clear f0 f1 f2
        obtain ⟨f0, f1, f2⟩ := HF.out wr HEr.out
        have hbw2 : b < wr.heap.size := Nat.lt_of_lt_of_le hbw hE.out.size
        by_cases hlt2 : n < es.length
        · by_cases hX6 : X ≤ 600
          · obtain ⟨b2, o2, rfl, hb2, hx2⟩ := HES2.out.row.at_ (i := n) (by simpa using hlt2)
            have hbw3 : b2 < wr.heap.size := Nat.lt_of_lt_of_le hb2 HEr.out.size
            obtain ⟨g0, g1, g2, g3, g4, g5, g6, g7⟩ := EL.at_ hlt2 hx2 hb2 HEr.out
            have hxa := HES2.out.sl _ (List.getElem_mem hlt2)
            have hxs := HSZ.out.e _ (List.getElem_mem hlt2)
            obtain ⟨x, hxx⟩ : ∃ x, x = es[n] := ⟨_, rfl⟩
            rw [← hxx] at g0 g1 g2 g3 g4 g5 g6 g7 hxa hxs
            have HXX := Hm hxx
            have HKB := Hm (fun W (h : Ext w W) => HGK.out W x.e.b x.ba x.bc (hxa.b.ext h) hxs.b hxs.sb)
            have HKA := Hm (fun W (h : Ext w W) => HGK.out W x.e.a x.aa x.ac (hxa.a.ext h) hxs.a hxs.sa)
            have hxr := hxs.r
            have hlen := HSZ.out.n
            obtain ⟨⟨k1, ao1, av1, old1, b1, a1, r1, fl1⟩, ba1, bc1, aa1, ac1, ra1, rc1⟩ := x
            simp only at g0 g1 g2 g3 g4 g5 g6 g7 HKB HKA hxr
            clear hxa hxs hxx hx2
            go_wp2_with (first
              | (go_at_call_of 36 (Value.slice ba1 b1.length bc1); (with_reducible refine (HKB.out _ (by have := HEr.out; exact eX)).mono ?_); rintro e w2 ⟨g, rfl, hg, hb2⟩; (have hE_w2 : Ext (wr.alloc (.cells #[.int .u8 k1, .int .u32 ao1, .int .u32 av1, .int .u8 old1, .slice ba1 b1.length bc1, .slice aa1 a1.length ac1, .slice ra1 r1.length rc1, .int .u8 fl1] 111)) w2 := (by exact eX); obtain ⟨hc_w2, hf_w2⟩ := hE_w2.cells; have hz_w2 := hE_w2.size); have HGB := Hm hg; clear hg; cases g)
              | (go_at_call_of 36 (Value.slice aa1 a1.length ac1); (with_reducible refine (HKA.out _ (by have := HEr.out; exact eX)).mono ?_); rintro e w3 ⟨g, rfl, hg, hb3⟩; (have hE_w3 : Ext (wr.alloc (.cells #[.int .u8 k1, .int .u32 ao1, .int .u32 av1, .int .u8 old1, .slice ba1 b1.length bc1, .slice aa1 a1.length ac1, .slice ra1 r1.length rc1, .int .u8 fl1] 111)) w3 := (by exact eX); obtain ⟨hc_w3, hf_w3⟩ := hE_w3.cells; have hz_w3 := hE_w3.size); have HGA := Hm hg; clear hg; cases g))
            all_goals first
              | (go_ret; exact ⟨true, rfl, (fun h => by cases h), HEr.out.trans (by exact eX)⟩)
              | skip
            have HXL : Hid (es[n].e.lit) := Hm (by
              rw [← HXX.out]
              have hb := HGB.out (by first | exact rfl | exact trivial)
              have ha := HGA.out (by first | exact rfl | exact trivial)
              exact ⟨hb.2.2.1, ha.2.2.1, by show r1.length ≤ 30; omega, hb.1, ha.1⟩)
            go_roundg (es.length - (n + 1))
            case measure => omega
            case rel => exact ⟨n + 1, by omega, by go_num, Hm (fun j hj hjn => by
              by_cases e : j = n
              · subst e; exact HXL.out
              · exact hL.out j hj (by omega)), Hm (hE.out.trans (by exact eX))⟩
          · go_wp2
            go_roundg (ts.length - (k + 1))
            case measure => omega
            case rel => exact ⟨X, k + 1, by omega, by go_num, rfl, Hm (HNX.out (fun h => by omega)), HEr⟩
        · obtain rfl : n = es.length := by omega
          have HNX2 := Hm (HNX.out (fun _ e he => by
            obtain ⟨j, hj, rfl⟩ := List.getElem_of_mem he
            exact hL.out j hj hj))
          go_wp2
          go_roundg (ts.length - (k + 1))
          case measure => omega
          case rel => exact ⟨X, k + 1, by omega, by go_num, rfl, HNX2, HEr⟩
    · obtain rfl : k = ts.length := by omega
      obtain ⟨wo, hwo⟩ : ∃ x, x = wr := ⟨_, rfl⟩
      subst hwo
      go_wp2
      go_loopg [9] ps.length (fun z i wr => ∃ (n : Nat), z + n = ps.length ∧ i = .int .i64 n ∧ Hid (∀ j (h : j < ps.length), j < n → ps[j].r.cols.length ≤ 20) ∧ Hid (Ext wo wr))
      case atStart => exact ⟨0, by omega, rfl, Hm (fun j _ h => by omega), Hm (Ext.refl _)⟩
      case round =>
        obtain ⟨n, hzn, rfl, hL, hF⟩ := hrel
        by_cases hlt2 : n < ps.length
        · obtain ⟨b, o, rfl, hb, hx⟩ := HP.out.row.at_ (i := n) (by simpa using hlt2)
          obtain ⟨f0, f1, f2, f3, f4⟩ := RR.at_ hlt2 hx hb (hE.out.trans hF.out)
          have hbw : b < wr.heap.size := Nat.lt_of_lt_of_le hb (hE.out.trans hF.out).size
          have HPM := Hm (List.getElem_mem hlt2)
          obtain ⟨p, hp⟩ : ∃ p, p = ps[n] := ⟨_, rfl⟩
          rw [← hp] at f0 f1 f2 f3 f4 HPM
          have HPP := Hm hp
          have HGP := Hm (fun W (h : Ext w W) => HGR.out W p h HPM.out)
          unfold RR.agg at HGP
          clear hp hx
          go_wp2_with (go_at_call 36; refine (HGP.out _ (hE.out.trans hF.out)).mono ?_; rintro e w2 ⟨g, rfl, hg, hb2⟩; have HGB := Hm hg; clear hg; cases g)
          all_goals first
            | (go_ret; exact ⟨true, rfl, (fun h => by cases h), (hE.out.trans hF.out).trans (by exact eX)⟩)
            | skip
          go_roundg (ps.length - (n + 1))
          case measure => omega
          case rel => exact ⟨n + 1, by omega, by go_num, Hm (fun j hj hjn => by
            by_cases e : j = n
            · subst e; rw [← HPP.out]; exact (HGB.out (by first | exact rfl | exact trivial)).2.2.2.1
            · exact hL.out j hj (by omega)), Hm (hF.out.trans (by exact eX))⟩
        · obtain rfl : n = ps.length := by omega
          by_cases h6 : 600 < m
          · go_wp2
            go_ret
            exact ⟨true, rfl, (fun h => by cases h), hE.out.trans hF.out⟩
          by_cases h60 : 60 < ts.length
          · go_wp2
            go_ret
            exact ⟨true, ret_bool (by first | (simp; done) | (simp; omega)), (fun h => by cases h), hE.out.trans hF.out⟩
          by_cases h70 : 70 < ps.length
          · go_wp2
            go_ret
            exact ⟨true, ret_bool (by first | (simp; done) | (simp; omega)), (fun h => by cases h), hE.out.trans hF.out⟩
          have HLIT : Hid (Lit ps ts) := Hm (by
            have e1 := hG.out.mm (by omega)
            have e2 := hG.out.e (by omega) (by omega)
            refine ⟨by omega, by omega, by omega, fun t ht e he => ?_, fun p hp => ?_⟩
            · obtain ⟨j, hj, rfl⟩ := List.getElem_of_mem ht
              exact e2 j hj hj e he
            · obtain ⟨j, hj, rfl⟩ := List.getElem_of_mem hp
              exact hL.out j hj hj)
          go_wp2
          go_ret
          exact ⟨false, ret_bool (by first | (simp; done) | (simp; omega)), fun _ => HLIT.out, hE.out.trans hF.out⟩
theorem Tryz.infoRfE : (Tryz.prog.info? 94).map (fun i => (i.zero, i.size, i.bytes)) = some (some (.agg #[.int .u32 0, .int .u32 0]), 2, 8) := by kernel_rfl
theorem eown_any (kind ao av old : Int) (lb la : List K) (rs : List Rf) (fl : Int) (ba aa ra : Option Addr) (bc ac rc : Nat) (w : World) (hb : Sl w (.slice ba lb.length bc) 6 (lb.map K.rc)) (ha : Sl w (.slice aa la.length ac) 6 (la.map K.rc)) (hr : Sl w (.slice ra rs.length rc) 2 (rs.map Rf.cells)) (hnb : lb.length ≤ 1000) (hna : la.length ≤ 1000) (hnr : rs.length ≤ 1000) :
    Calls Tryz.prog 54 #[.agg #[.int .u8 kind, .int .u32 ao, .int .u32 av, .int .u8 old, .slice ba lb.length bc, .slice aa la.length ac, .slice ra rs.length rc, .int .u8 fl]] w fun e w' => ∃ b1 c1 a1 d1 r1 e1, e = .returned (.agg #[.int .u8 kind, .int .u32 ao, .int .u32 av, .int .u8 old, .slice b1 lb.length c1, .slice a1 la.length d1, .slice r1 rs.length e1, .int .u8 fl]) ∧ (⟨⟨kind, ao, av, old, lb, la, rs, fl⟩, b1, c1, a1, d1, r1, e1⟩ : EL).at 5 K.pc w' ∧ (⟨⟨kind, ao, av, old, lb, la, rs, fl⟩, b1, c1, a1, d1, r1, e1⟩ : EL).on (fun b => w.heap.size ≤ b) ∧ Ext w w' := by
  obtain ⟨i0, hi, hz0, hz1, hz2⟩ := info_parts Tryz.infoRfE
  have HOB := Hm (fun W (h : Ext w W) => ownK_fr lb ba bc W (hb.ext h) hnb)
  have HOA := Hm (fun W (h : Ext w W) => ownK_fr la aa ac W (ha.ext h) hna)
  have HR := Hm hr
  clear hb ha hr
  go_enter Tryz.func54, Tryz.ntmps54
  go_upto_region 1 with (fail)
  go_cut [3] (fun p wx => ∃ X b1 c1 a1 d1, p = .pointer (some ⟨X, 0, none⟩) ∧ Hid (Blk wx X #[.int .u8 kind, .int .u32 ao, .int .u32 av, .int .u8 old, .slice b1 lb.length c1, .slice a1 la.length d1, .slice none 0 0, .int .u8 fl] 120) ∧ Hid (Sl wx (.slice b1 lb.length c1) 5 (lb.map K.pc)) ∧ Hid (Sl wx (.slice a1 la.length d1) 5 (la.map K.pc)) ∧ Hid (lb.map K.pc ≠ [] → ∀ b o, b1 = some ⟨b, o, none⟩ → b ≠ X ∧ w.heap.size + 1 < b) ∧ Hid (la.map K.pc ≠ [] → ∀ b o, a1 = some ⟨b, o, none⟩ → b ≠ X ∧ w.heap.size + 1 < b) ∧ Hid (w.heap.size + 1 < X) ∧ Hid (Ext ((w.alloc (.cells #[.int .u8 kind, .int .u32 ao, .int .u32 av, .int .u8 old, .slice ba lb.length bc, .slice aa la.length ac, .slice ra rs.length rc, .int .u8 fl] 111)).alloc (.cells #[.int .u8 0, .int .u32 0, .int .u32 0, .int .u8 0, .slice none 0 0, .slice none 0 0, .slice none 0 0, .int .u8 0] 120)) wx))
  case first =>
    go_region_held3 (fun w' => Ext (((w.alloc (.cells #[.int .u8 kind, .int .u32 ao, .int .u32 av, .int .u8 old, .slice ba lb.length bc, .slice aa la.length ac, .slice ra rs.length rc, .int .u8 fl] 111)).alloc (.cells #[.int .u8 0, .int .u32 0, .int .u32 0, .int .u8 0, .slice none 0 0, .slice none 0 0, .slice none 0 0, .int .u8 0] 120))) w' ∧ (∀ b o, b < (((w.alloc (.cells #[.int .u8 kind, .int .u32 ao, .int .u32 av, .int .u8 old, .slice ba lb.length bc, .slice aa la.length ac, .slice ra rs.length rc, .int .u8 fl] 111)).alloc (.cells #[.int .u8 0, .int .u32 0, .int .u32 0, .int .u8 0, .slice none 0 0, .slice none 0 0, .slice none 0 0, .int .u8 0] 120))).heap.size → w'.cell? ⟨b, o, none⟩ = (((w.alloc (.cells #[.int .u8 kind, .int .u32 ao, .int .u32 av, .int .u8 old, .slice ba lb.length bc, .slice aa la.length ac, .slice ra rs.length rc, .int .u8 fl] 111)).alloc (.cells #[.int .u8 0, .int .u32 0, .int .u32 0, .int .u8 0, .slice none 0 0, .slice none 0 0, .slice none 0 0, .int .u8 0] 120))).cell? ⟨b, o, none⟩) ∧ (∀ b o, b < (((w.alloc (.cells #[.int .u8 kind, .int .u32 ao, .int .u32 av, .int .u8 old, .slice ba lb.length bc, .slice aa la.length ac, .slice ra rs.length rc, .int .u8 fl] 111)).alloc (.cells #[.int .u8 0, .int .u32 0, .int .u32 0, .int .u8 0, .slice none 0 0, .slice none 0 0, .slice none 0 0, .int .u8 0] 120))).heap.size → w'.frozen? ⟨b, o, none⟩ = (((w.alloc (.cells #[.int .u8 kind, .int .u32 ao, .int .u32 av, .int .u8 old, .slice ba lb.length bc, .slice aa la.length ac, .slice ra rs.length rc, .int .u8 fl] 111)).alloc (.cells #[.int .u8 0, .int .u32 0, .int .u32 0, .int .u8 0, .slice none 0 0, .slice none 0 0, .slice none 0 0, .int .u8 0] 120))).frozen? ⟨b, o, none⟩)) ((exact held_of (by exact eX)))
      (first
        | (go_at_call 42; refine (ref9_any _ _ _).mono ?_; rintro e w2 ⟨rfl, hb2⟩; obtain ⟨hc2, hf2⟩ := hb2.cells; have hz2 := hb2.size; (try simp at hz2); have q2 : w.heap.size + 1 < w2.heap.size := (by omega); (try have p2 : w.heap.size + 1 + 1 < w2.heap.size := (by omega)))
        | (go_at_call_of 44 (Value.slice ba lb.length bc); refine (HOB.out _ (by exact eX)).mono ?_; rintro e w3 ⟨b1, c1, rfl, -, hs3, hb3⟩; have H3 := Hm hs3; clear hs3; obtain ⟨hc3, hf3⟩ := hb3.cells; have hz3 := hb3.size; (try simp at hz3); have q3 : w.heap.size + 1 < w3.heap.size := (by omega); (try have q23 : w2.heap.size < w3.heap.size := (by omega)); (try have p3 : w.heap.size + 1 + 1 < w3.heap.size := (by omega)))
        | (go_at_call_of 44 (Value.slice aa la.length ac); refine (HOA.out _ (by exact eX)).mono ?_; rintro e w4 ⟨a1, d1, rfl, -, hs4, hb4⟩; have H4 := Hm hs4; clear hs4; obtain ⟨hc4, hf4⟩ := hb4.cells; have hz4 := hb4.size; (try simp at hz4); have q4 : w.heap.size + 1 < w4.heap.size := (by omega); (try have p4 : w.heap.size + 1 + 1 < w4.heap.size := (by omega)); (try have q24 : w2.heap.size < w4.heap.size := (by omega)); (try have q35 : w3.heap.size < w4.heap.size := (by omega))))
    all_goals
      go_wp2
      go_meet
      case rel =>
        refine ⟨_, b1, c1, a1, d1, rfl, Hm ?_, Hm ?_, Hm ?_, Hm ?_, Hm ?_, Hm ?_, Hm ?_⟩
        · repeat (with_reducible (first | exact Blk.new _ _ _ | (refine Blk.new' _ _ ?_; (simp; done)) | apply Blk.eight | refine Blk.alloc ?_ _ | refine Blk.drew ?_ | refine Blk.ext ?_ hb4 | refine Blk.ext ?_ hb3 | refine Blk.ext ?_ hb2))
        · first | ((with_reducible refine Fr.sl (Fr.eight (Fr.ext H3.out ?_) ?_)); (· exact eX); (· first | (simp; done) | (simp; omega) | omega | (left; simp; done) | (left; simp; omega) | (right; simp; done) | (right; simp; omega))) | ((with_reducible refine Fr.sl (Fr.ext H3.out ?_)); · exact eX)
        · first | ((with_reducible refine Fr.sl (Fr.eight (Fr.ext H4.out ?_) ?_)); (· exact eX); (· first | (simp; done) | (simp; omega) | omega | (left; simp; done) | (left; simp; omega) | (right; simp; done) | (right; simp; omega))) | ((with_reducible refine Fr.sl (Fr.ext H4.out ?_)); · exact eX)
        · refine fun h0 => Fr.ne2 H3.out ?_ ?_ h0; (· first | (simp; done) | (simp; omega) | omega | (left; simp; done) | (left; simp; omega) | (right; simp; done) | (right; simp; omega)); (· first | omega | (simp; omega) | simp)
        · refine fun h0 => Fr.ne2 H4.out ?_ ?_ h0; (· first | (simp; done) | (simp; omega) | omega | (left; simp; done) | (left; simp; omega) | (right; simp; done) | (right; simp; omega)); (· first | omega | (simp; omega) | simp)
        · first | omega | (simp; omega) | simp
        · first | exact eX | (repeat (with_reducible refine Ext.setCell ?_ (by first | (simp; done) | (simp; omega) | omega) _); exact eX)
  case rest =>
    obtain ⟨X, b1, c1, a1, d1, rfl, HX, HSB, HSA, HNB, HNA, HWX, HE⟩ := hcut
    have HEc := Hm (show Ext w wc from (((Ext.refl w).alloc _).alloc _).trans HE.out)
    have HB1 := Hm (((Blk.new w #[.int .u8 kind, .int .u32 ao, .int .u32 av, .int .u8 old, .slice ba lb.length bc, .slice aa la.length ac, .slice ra rs.length rc, .int .u8 fl] 111).alloc (.cells #[.int .u8 0, .int .u32 0, .int .u32 0, .int .u8 0, .slice none 0 0, .slice none 0 0, .slice none 0 0, .int .u8 0] 120)).ext HE.out)
    have HB2 := Hm ((Blk.new' (w := w.alloc (.cells #[.int .u8 kind, .int .u32 ao, .int .u32 av, .int .u8 old, .slice ba lb.length bc, .slice aa la.length ac, .slice ra rs.length rc, .int .u8 fl] 111)) (b := w.heap.size + 1) #[.int .u8 0, .int .u32 0, .int .u32 0, .int .u8 0, .slice none 0 0, .slice none 0 0, .slice none 0 0, .int .u8 0] 120 (by simp)).ext HE.out)
    clear HOB HOA
    have hzX : X < wc.heap.size := HX.out.lt
    have hzw : w.heap.size < X := by have := HWX.out; omega
    have HZX := Hm (And.intro hzX hzw)
    clear HE
    go_wp2
    go_loopw [4] (fun i wr => ∃ (k : Nat) (va : Option Addr) (vc : Nat), k ≤ rs.length ∧ i = .int .i64 k ∧ Hid (Blk wr X #[.int .u8 kind, .int .u32 ao, .int .u32 av, .int .u8 old, .slice b1 lb.length c1, .slice a1 la.length d1, .slice va k vc, .int .u8 fl] 120) ∧ Hid (wr.ownsRow wc.heap.size 94 2 (.slice va k vc) k ((rs.take k).map Rf.cells).flatten) ∧ Hid (Kp (fun x => x = X) wc wr)) (fun i _ => rs.length - (intOf i).toNat)
    case atStart => exact ⟨0, none, 0, Nat.zero_le _, rfl, HX, Hm (World.ownsRow_nil _ _ _ _), Hm Kp.refl⟩
    case round =>
      obtain ⟨k, va, vc, hk, rfl, hX, hown, hK⟩ := hrel
      have HEW : Hid (Ext w wr) := Hm (Kp.ext HEc.out (fun x hx _ => by have := HZX.out.2; omega) hK.out)
      have HG1 : Hid (Blk wr w.heap.size #[.int .u8 kind, .int .u32 ao, .int .u32 av, .int .u8 old, .slice ba lb.length bc, .slice aa la.length ac, .slice ra rs.length rc, .int .u8 fl] 111) := Hm (HB1.out.kp hK.out (by have := HZX.out.2; omega))
      have g1 := HG1.out.cell
      have z1 := HG1.out.lt
      have gX := hX.out.cell
      have gXf := hX.out.frozen
      have zX := hX.out.lt
      have hzc := hK.out.size
      by_cases hlt : k < rs.length
      · obtain ⟨b, o, rfl, hb, hx⟩ := HR.out.at_ (i := k) (by simpa using hlt)
        have HF := Hm (fun W (h : Ext w W) => Rf.at_ hlt hx hb h)
        have HT : Hid (rs.take (k + 1) = rs.take k ++ [rs[k]]) := Hm (List.take_succ_eq_append_getElem hlt)
        obtain ⟨r, hr⟩ : ∃ r, r = rs[k] := ⟨_, rfl⟩
        rw [← hr] at HF HT
        have HLT : Hid (k < rs.length) := Hm hlt
        have HBW : Hid (b < w.heap.size) := Hm hb
        clear hx hr hb
        have HS : Hid (∀ w', Kp (fun x => wc.heap.size ≤ x) wr w' → (∀ j, w'.cell? ⟨w.heap.size, j, none⟩ = (#[.int .u8 kind, .int .u32 ao, .int .u32 av, .int .u8 old, .slice ba lb.length bc, .slice aa la.length ac, .slice (some ⟨b, o, none⟩) rs.length rc, .int .u8 fl])[j]?) ∧ (∀ j, w'.cell? ⟨X, j, none⟩ = (#[.int .u8 kind, .int .u32 ao, .int .u32 av, .int .u8 old, .slice b1 lb.length c1, .slice a1 la.length d1, .slice va k vc, .int .u8 fl])[j]?) ∧ (∀ j, w'.frozen? ⟨X, j, none⟩ = false) ∧ w'.cell? ⟨b, o + k * 2, none⟩ = some (.int .u32 r.o) ∧ w'.cell? ⟨b, o + k * 2 + 1, none⟩ = some (.int .u32 r.v) ∧ b < w'.heap.size ∧ X < w'.heap.size ∧ w.heap.size < w'.heap.size) := Hm (fun w' h => by
          have hE : Ext w w' := Kp.ext HEc.out (S := fun x => x = X ∨ wc.heap.size ≤ x) (fun x hx _ => by have := HZX.out; omega) ((hK.out.mono (T := fun x => x = X ∨ wc.heap.size ≤ x) (fun x hx _ => .inl hx)).trans h (fun x hx _ => .inr hx))
          have h1 := HG1.out.kp h (by have := HZX.out; omega)
          have h2 := hX.out.kp h (by have := HZX.out; omega)
          obtain ⟨f0, f1⟩ := HF.out w' hE
          exact ⟨h1.cell, h2.cell, h2.frozen, f0, f1, Nat.lt_of_lt_of_le HBW.out hE.size, h2.lt, h1.lt⟩)
        have HOWN := hown
        go_wp2
        clear g1 gX gXf
        have hA0 : Hid ((fun w' => (∀ j, w'.cell? ⟨w.heap.size, j, none⟩ = (#[.int .u8 kind, .int .u32 ao, .int .u32 av, .int .u8 old, .slice ba lb.length bc, .slice aa la.length ac, .slice (some ⟨b, o, none⟩) rs.length rc, .int .u8 fl])[j]?) ∧ (∀ j, w'.cell? ⟨X, j, none⟩ = (#[.int .u8 kind, .int .u32 ao, .int .u32 av, .int .u8 old, .slice b1 lb.length c1, .slice a1 la.length d1, .slice va k vc, .int .u8 fl])[j]?) ∧ (∀ j, w'.frozen? ⟨X, j, none⟩ = false) ∧ w'.cell? ⟨b, o + k * 2, none⟩ = some (.int .u32 r.o) ∧ w'.cell? ⟨b, o + k * 2 + 1, none⟩ = some (.int .u32 r.v) ∧ b < w'.heap.size ∧ X < w'.heap.size ∧ w.heap.size < w'.heap.size) wr.drew) := Hm (HS.out _ (Kp.of_ext (Ext.refl wr).drew))
        refine wp_region_head 10 (fun w' => (∀ j, w'.cell? ⟨w.heap.size, j, none⟩ = (#[.int .u8 kind, .int .u32 ao, .int .u32 av, .int .u8 old, .slice ba lb.length bc, .slice aa la.length ac, .slice (some ⟨b, o, none⟩) rs.length rc, .int .u8 fl])[j]?) ∧ (∀ j, w'.cell? ⟨X, j, none⟩ = (#[.int .u8 kind, .int .u32 ao, .int .u32 av, .int .u8 old, .slice b1 lb.length c1, .slice a1 la.length d1, .slice va k vc, .int .u8 fl])[j]?) ∧ (∀ j, w'.frozen? ⟨X, j, none⟩ = false) ∧ w'.cell? ⟨b, o + k * 2, none⟩ = some (.int .u32 r.o) ∧ w'.cell? ⟨b, o + k * 2 + 1, none⟩ = some (.int .u32 r.v) ∧ b < w'.heap.size ∧ X < w'.heap.size ∧ w.heap.size < w'.heap.size) (by kernel_rfl) (by decide) ?_
        (refine wpHd_take (i := 0) (v := ?_) rfl (by kernel_rfl) (by kernel_rfl) (by kernel_rfl) (fun _ _ _ h => h) (Or.inl ⟨by rfl, ?_⟩) hA0.out ?_; rotate_left 1; · (intro w' hS'; (try dsimp only at hS'); go_split_ands; go_simp; try with_reducible rfl))
        (refine wpHd_take (i := 1) (v := ?_) rfl (by kernel_rfl) (by kernel_rfl) (by kernel_rfl) (fun _ _ _ h => h) (Or.inl ⟨by rfl, ?_⟩) hA0.out ?_; rotate_left 1; · (intro w' hS'; (try dsimp only at hS'); go_split_ands; go_simp; try with_reducible rfl))
        (refine wpHd_take (i := 2) (v := ?_) rfl (by kernel_rfl) (by kernel_rfl) (by kernel_rfl) (fun _ _ _ h => h) (Or.inl ⟨by rfl, ?_⟩) hA0.out ?_; rotate_left 1; · (intro w' hS'; (try dsimp only at hS'); go_split_ands; go_simp; try with_reducible rfl))
        (refine wpHd_take (i := 3) (v := ?_) rfl (by kernel_rfl) (by kernel_rfl) (by kernel_rfl) (fun _ _ _ h => h) (Or.inl ⟨by rfl, ?_⟩) hA0.out ?_; rotate_left 1; · (intro w' hS'; (try dsimp only at hS'); go_split_ands; go_simp; try with_reducible rfl))
        (refine wpHd_take (i := 4) (v := ?_) rfl (by kernel_rfl) (by kernel_rfl) (by kernel_rfl) (fun _ _ _ h => h) (Or.inl ⟨by rfl, ?_⟩) hA0.out ?_; rotate_left 1; · (intro w' hS'; (try dsimp only at hS'); go_split_ands; go_simp; try with_reducible rfl))
        (refine wpHd_take (i := 5) (v := ?_) rfl (by kernel_rfl) (by kernel_rfl) (by kernel_rfl) (fun _ _ _ h => h) (Or.inl ⟨by rfl, ?_⟩) hA0.out ?_; rotate_left 1; · (intro w' hS'; (try dsimp only at hS'); go_split_ands; go_simp; try with_reducible rfl))
        (refine wpHd_take (i := 6) (v := ?_) rfl (by kernel_rfl) (by kernel_rfl) (by kernel_rfl) (fun _ _ _ h => h) (Or.inl ⟨by rfl, ?_⟩) hA0.out ?_; rotate_left 1; · (intro w' hS'; (try dsimp only at hS'); go_split_ands; go_simp; try with_reducible rfl))
        refine wpHd_one (i := 7) rfl rfl (by kernel_rfl) (fun K hK => ?_)
        go_simp
        refine (ref9_any _ _ _).mono ?_
        rintro e w7 ⟨rfl, hb7⟩
        have HB7 : Hid (Ext wr w7) := Hm ((Ext.refl wr).drew.trans hb7)
        refine hK.out _ _ (HS.out _ (Kp.of_ext HB7.out)) (fun hA => ?_)
        clear hK K hA hA0 hb7
        refine wpHd_one (i := 8) rfl rfl (by kernel_rfl) (fun K hK => ?_)
        go_simp
        refine hK.out _ _ (HS.out _ (Kp.of_ext (HB7.out.alloc _))) (fun hA => ?_)
        clear hK K hA
        refine wpHd_one (i := 9) rfl rfl (by kernel_rfl) (fun K hK => ?_)
        refine wp_append_lies _ _ _ 118 (by rfl) wc.heap.size 94 i0 _ 2 8 Tryz.underlying118 hi hz0 hz1 hz2 rfl (by decide) (.slice va k vc) k _ (by rfl) (owns_ext HOWN.out (HB7.out.alloc _)) ⟨_, 0, none⟩ 1 1 r.cells (by rfl) rfl (cells_new _ #[.int .u32 r.o, .int .u32 r.v] _) (by intro u hu; simp [Rf.cells] at hu; rcases hu with rfl | rfl <;> rfl) (by decide) (by unfold maxLen; omega) (by omega) (by have := HB7.out.size; simp; omega) _ rfl ?_
        intro g4 cap4 w4 hown4 hgrow4 hat4 hlt4
        have HO4 := Hm hown4
        have HKG : Hid (Kp (fun x => wc.heap.size ≤ x) wr w4) := Hm ((Kp.of_ext (S := fun x => wc.heap.size ≤ x) (HB7.out.alloc _)).trans (Kp.of_grown hgrow4) (fun x hx _ => (HOWN.out.lt x hx).1))
        refine hK.out _ _ (HS.out _ HKG.out) (fun hA => ?_)
        clear hK K hA hown4 hgrow4 hat4 hlt4
        have hX4 : Hid (Blk w4 X #[.int .u8 kind, .int .u32 ao, .int .u32 av, .int .u8 old, .slice b1 lb.length c1, .slice a1 la.length d1, .slice va k vc, .int .u8 fl] 120) := Hm (hX.out.kp HKG.out (by have := HZX.out; omega))
        have gX := hX4.out.cell
        have gXf := hX4.out.frozen
        have zX := hX4.out.lt
        refine wpHd_tail (by kernel_rfl) ?_
        simp only [List.drop_succ_cons, List.drop_zero]
        go_wp2
        go_roundw
        case rel =>
          refine ⟨k + 1, some ⟨g4, 0, none⟩, cap4, by have := HLT.out; omega, by go_num, Hm ?_, Hm ?_, Hm ?_⟩
          · have := hX4.out.set 6 (.slice (some ⟨g4, 0, none⟩) (k + 1) cap4)
            simpa only [List.setIfInBounds_toArray, List.set_cons_zero, List.set_cons_succ] using this
          · rw [HT.out, List.map_append, List.flatten_append]
            exact owns_set (by simpa using HO4.out) (by show X < _; have := HZX.out; omega) _
          · exact ((hK.out.mono (T := fun x => x = X) (fun x hx _ => hx)).trans (HKG.out) (fun x hx h => by omega)).trans (T := fun x => x = X) (Kp.set _ _ rfl) (fun x hx _ => hx)
        case measure => have := HLT.out; simp [intOf]; omega
      · obtain rfl : k = rs.length := by omega
        rw [List.take_length] at hown
        have HB2r : Hid (Blk wr (w.heap.size + 1) #[.int .u8 0, .int .u32 0, .int .u32 0, .int .u8 0, .slice none 0 0, .slice none 0 0, .slice none 0 0, .int .u8 0] 120) := Hm (HB2.out.kp hK.out (by have := HWX.out; omega))
        have k2 := HB2r.out.cell
        have k2f := HB2r.out.frozen
        have z2 := HB2r.out.lt
        go_wp2
        simp [bodyPost, results, Tryz.results54, go_sem, *]
        have hwr := HZX.out
        have hw2 := HWX.out
        have hSB : Sl wr (.slice b1 lb.length c1) 5 (lb.map K.pc) := Sl.kp HSB.out hK.out (fun h0 b o e => (HNB.out h0 b o e).1)
        have hSA : Sl wr (.slice a1 la.length d1) 5 (la.map K.pc) := Sl.kp HSA.out hK.out (fun h0 b o e => (HNA.out h0 b o e).1)
        have hSR : Sl wr (.slice va rs.length vc) 2 (rs.map Rf.cells) := Sl.of_owns (base := wc.heap.size) (e := 94) (by rw [List.length_map]; exact hown.out) (by intro xs hxs; simp at hxs; obtain ⟨_, _, rfl⟩ := hxs; rfl)
        refine ⟨b1, c1, a1, d1, va, vc, ⟨⟨rfl, rfl⟩, ⟨rfl, rfl⟩, rfl, rfl⟩, ⟨Sl.kp hSB Kp.eight (fun h0 b o e => by have := (HNB.out h0 b o e).2; omega), Sl.kp hSA Kp.eight (fun h0 b o e => by have := (HNA.out h0 b o e).2; omega), Sl.kp hSR Kp.eight (fun h0 b o e => by have := hown.out.lt b (by rw [show va = some ⟨b, o, none⟩ from e]; rfl); omega)⟩, ⟨fun h0 b o e => by have := (HNB.out (fun q => h0 (by simpa using q)) b o e).2; omega, fun h0 b o e => by have := (HNA.out (fun q => h0 (by simpa using q)) b o e).2; omega, fun h0 b o e => by have := hown.out.lt b (by rw [show va = some ⟨b, o, none⟩ from e]; rfl); omega⟩, Kp.ext HEW.out (fun x hx _ => by omega) Kp.eight⟩
theorem eown_el (x : EL) (w : World) (hx : x.at 6 K.rc w) (hnb : x.e.b.length ≤ 1000) (hna : x.e.a.length ≤ 1000) (hnr : x.e.rs.length ≤ 1000) :
    Calls Tryz.prog 54 #[x.agg] w fun e w' => ∃ y : EL, e = .returned y.agg ∧ y.e = x.e ∧ y.at 5 K.pc w' ∧ y.on (fun b => w.heap.size ≤ b) ∧ Ext w w' := by
  obtain ⟨⟨kind, ao, av, old, lb, la, rs, fl⟩, ba, bc, aa, ac, ra, rc⟩ := x
  refine (eown_any kind ao av old lb la rs fl ba aa ra bc ac rc w hx.b hx.a hx.r hnb hna hnr).mono fun e w' h => ?_
  obtain ⟨b1, c1, a1, d1, r1, e1, h1, h2, h3, h4⟩ := h
  exact ⟨⟨⟨kind, ao, av, old, lb, la, rs, fl⟩, b1, c1, a1, d1, r1, e1⟩, h1, rfl, h2, h3, h4⟩
theorem lit_small {e : Ev} (h : e.lit) : e.small := ⟨by have := h.b; omega, by have := h.a; omega, by have := h.r; omega⟩
open Go.RowKit Go.ChangeShapes Go.WideShapes Go.ChangeAt
section
variable {H : Type} {enc : TypeId × Value → H} {P : Program} {w : World} {base : Nat} {spare : Nat → Bool} {held : Bool}
theorem weightsAll_mem {e : TypeId} : ∀ {l : List (DataW H)} {d : DataW H}, d ∈ l → ∀ n ∈ d.weights P e, n ∈ DataW.weightsAll P e l
  | d' :: r, d, hd, n, hn => by
    simp only [DataW.weightsAll, List.mem_append]
    rcases List.mem_cons.1 hd with rfl | h
    · exact Or.inl hn
    · exact Or.inr (weightsAll_mem h n hn)
theorem trod_slW {T E : TypeId} {k n : Nat} {cs : List Value} {x : DataW H × List MemPlace} (ht : P.underlying T = some (.slice E)) (hk : P.cellsOf E = k) (hk0 : 0 < k) (h : DataW.trod enc P w base spare held n T cs = some x) :
    ∃ v xss, cs = [v] ∧ Sl w v k xss ∧ xss.length ≤ 9223372036854775807 ∧ (xss = [] ∨ ∃ q ∈ x.1.weights P T, xss.length * P.bytesOf E ≤ q) ∧ ∀ xs ∈ xss, xs.length = k ∧ ∃ n y, DataW.trod enc P w base spare held n E xs = some y ∧ ∀ q ∈ y.1.weights P E, q ∈ x.1.weights P T := by
  rcases Go.Deep.open_slice ht h with ⟨rfl, rfl⟩ | ⟨a, len, cap, m, q, D, Pl, rfl, hb, hl, hm, hmm, hxx, hx⟩
  · exact ⟨_, [], rfl, ⟨none, 0, rfl, .inl rfl⟩, by simp, .inl rfl, by simp⟩
  · have hlm : len ≤ m := by rw [hmm]; split <;> omega
    have hw : ∀ i, i < len → ∀ q ∈ (D i).weights P E, q ∈ x.1.weights P T := fun i hi q hq => by
      rw [hxx]
      simp only [DataW.weights, ht, List.mem_cons, List.mem_append]
      exact .inr (.inl (weightsAll_mem (List.mem_map.2 ⟨i, List.mem_range.2 hi, rfl⟩) q hq))
    have hall : ∀ i, i < len → ∃ cs', w.cells? base (a.add (i * k)) k = some cs' ∧ DataW.trod enc P w base spare held q E cs' = some (D i, Pl i) := fun i hi => by
      have := hx i (by omega); rwa [hk] at this
    obtain ⟨C, hC⟩ := Go.Deep.choose_lt hall
    have hcl : cap ≤ 9223372036854775807 := hm
    refine ⟨_, (List.range len).map C, rfl, ?_, by simp; omega, .inr ⟨(len + (m - len)) * P.bytesOf E, ?_, ?_⟩, ?_⟩
    · refine ⟨some a, cap, by simp, ?_⟩
      by_cases h0 : len = 0
      · subst h0; exact .inl rfl
      · right
        have hc0 := (World.cells?_some (hC 0 (by omega)).1)
        have e0 : (a.add (0 * k)).add 0 = a := by unfold Addr.add; simp
        have hcell : (w.cell? a).isSome = true := by
          have := hc0.2.2 0 hk0
          rw [e0] at this
          rw [this, List.getElem?_eq_getElem (by omega)]; rfl
        have hsp : a.spot = none := by
          unfold World.cell? at hcell
          split at hcell
          · split at hcell
            · simp at hcell
            · rename_i hs; simpa using hs
          · simp at hcell
        have hlt : a.block < w.heap.size := by
          unfold World.cell? at hcell
          rcases Nat.lt_or_ge a.block w.heap.size with h1 | h1
          · exact h1
          · rw [Array.getElem?_eq_none h1] at hcell; simp at hcell
        refine ⟨a.block, a.off, by cases a; simp at hsp; subst hsp; rfl, hlt, ?_⟩
        intro i hi j hj
        simp only [List.length_map, List.length_range] at hi
        have h2 := (World.cells?_some (hC i hi).1).2.2 j hj
        rw [Go.Deep.add_add] at h2
        have e : a.add (i * k + j) = ⟨a.block, a.off + i * k + j, none⟩ := by
          unfold Addr.add
          split
          · rename_i hz
            have h3 : i * k = 0 := by omega
            have h4 : j = 0 := by omega
            cases a; simp at hsp; subst hsp; simp [h3, h4]
          · cases a; simp at hsp; subst hsp; simp
        rw [e] at h2
        rw [h2]
        simp [hi]
    · rw [hxx]
      simp only [DataW.weights, ht, List.mem_cons, List.length_map, List.length_range, true_or]
    · rw [List.length_map, List.length_range]
      exact Nat.mul_le_mul_right _ (by omega)
    · intro xs hxs
      simp only [List.mem_map, List.mem_range] at hxs
      obtain ⟨i, hi, rfl⟩ := hxs
      exact ⟨(World.cells?_some (hC i hi).1).2.1, _, _, (hC i hi).2, hw i hi⟩
end
theorem Tryz.cellsRelG : Tryz.prog.cellsOf 79 = 5 := by kernel_rfl
theorem Tryz.cellsColsG : Tryz.prog.cellsOf 77 = 1 := by kernel_rfl
theorem Tryz.bytesColG : Tryz.prog.bytesOf 202 = 24 := by kernel_rfl
section
variable {H : Type} {enc : TypeId × Value → H} {w : World} {base : Nat} {spare : Nat → Bool} {held : Bool} {r : Reach} {base2 : Nat} {v : Value} {d : DataW H} {ps : List MemPlace}
theorem openR_one {n : Nat} {cs : List Value} {x : DataW H × List MemPlace} (h : DataW.trod enc Tryz.prog w base spare held n 79 cs = some x) (hwt : ∀ q ∈ x.1.weights Tryz.prog 79, q ≤ reachBytes) :
    ∃ p : RR, cs = p.cells ∧ p.in w ∧ p.r.wb := by
  have hl := flat_open 4 _ _ n cs x Tryz.flatRelG h
  obtain ⟨xs, m, _, rfl, hlen, hxl, hf⟩ := DataW.trod_struct Tryz.underlying79 h
  match cs, hl with
  | [c0, c1, c2, c3, c4], ⟨l0, l1, l2, l3, l4, _⟩ =>
    obtain ⟨oid, rfl, h0⟩ := l0.int Tryz.underlying42
    obtain ⟨ver, rfl, h1⟩ := l1.int Tryz.underlying42
    obtain ⟨nm, rfl, h2⟩ := l2.string Tryz.underlying9
    obtain ⟨id, rfl, h3⟩ := l3.int Tryz.underlying5
    have h4 : DataW.trod enc Tryz.prog w base spare held m 77 ((([Value.int .u32 oid, .int .u32 ver, .string nm, .int .u8 id, c4] : List Value).drop 4).take (Tryz.prog.cellsOf 77)) = xs[3]? := (hf 3 _ rfl).trans rfl
    rw [Tryz.cellsColsG] at h4
    simp only [List.drop_succ_cons, List.drop_zero, List.take_succ_cons, List.take_zero] at h4
    have h3l : 3 < xs.length := by rw [hxl]; decide
    rw [List.getElem?_eq_getElem h3l] at h4
    have hwt2 : ∀ q ∈ (xs[3]).1.weights Tryz.prog 77, q ≤ reachBytes := fun q hq => by
      refine hwt q ?_
      simp only [DataW.weights, Tryz.underlying79]
      refine DataW.weights_mem_each (j := 3) (t := 77) (d := (xs[3]).1) rfl (by rw [List.getElem?_map, List.getElem?_eq_getElem h3l]; rfl) q hq
    obtain ⟨v', xss, hcs, hsl, hlen2, hw2, hx⟩ := trod_slW Tryz.underlying77 Tryz.cellsColG (by decide) h4
    obtain rfl : c4 = v' := by simpa using hcs
    obtain ⟨cols, rfl, hcl⟩ := exists_map (f := Col.cells) (p := fun c => c.nm.size ≤ 9223372036854775807) xss (fun xs hxs => by
      obtain ⟨_, n, x, h, _⟩ := hx xs hxs
      have hl := flat_open 4 _ _ n xs x Tryz.flatColG h
      match xs, hl with
      | [d0, d1, d2], ⟨m0, m1, m2, _⟩ =>
        obtain ⟨s, rfl, hs⟩ := m0.string Tryz.underlying9
        obtain ⟨ty, rfl, _⟩ := m1.int Tryz.underlying5
        obtain ⟨b, rfl⟩ := m2.bool Tryz.underlying4
        exact ⟨⟨s, ty, b⟩, rfl, hs⟩)
    obtain ⟨a, cap, rfl, hshape⟩ := hsl.shape (n := cols.length) (by simp)
    refine ⟨⟨⟨oid, ver, nm, id, cols⟩, a, cap⟩, rfl, hsl, ⟨h2, hcl, ?_, (wfG_u8 h3).1⟩⟩
    rcases hw2 with h0 | ⟨q, hq, hle⟩
    · have : cols = [] := by simpa using h0
      simp [this]
    · have h5 := hwt2 q hq
      rw [Tryz.bytesColG, List.length_map] at hle
      have h6 : reachBytes = 140737488351232 := rfl
      show cols.length ≤ 5864062014634
      omega
theorem openG_rels (h : DataW.Trod enc Tryz.prog w base spare held 22 v d ps) (hv : Value.okWide Tryz.prog w r base2 22 v) (hwt : ∀ q ∈ d.weights Tryz.prog 22, q ≤ reachBytes) :
    ∃ (l : List RR) (a : Option Addr) (cap : Nat), v = .slice a l.length cap ∧ RL w (.slice a l.length cap) l ∧ l.length ≤ 9223372036854775807 ∧ ∀ p ∈ l, p.r.wb := by
  obtain ⟨a, len, cap, rfl⟩ := okWide_slice Tryz.underlying22 hv
  obtain ⟨n, hn⟩ := h
  obtain ⟨v', xss, hcs, hsl, hlen, _, hx⟩ := trod_slW Tryz.underlying22 Tryz.cellsRelG (by decide) hn
  have e : v' = .slice a len cap := by simpa [Value.cells] using hcs.symm
  obtain ⟨l, rfl, hl⟩ := exists_map (f := RR.cells) (p := fun p => p.in w ∧ p.r.wb) xss (fun xs hxs => by
    obtain ⟨_, n, y, h, hq⟩ := hx xs hxs
    exact openR_one h (fun q hm => hwt q (hq q hm)))
  rw [e] at hsl
  obtain ⟨a', cap', he, hshape⟩ := hsl.shape (n := l.length) (by simp)
  simp only [Value.slice.injEq] at he
  obtain ⟨rfl, rfl, rfl⟩ := he
  exact ⟨l, a, cap, rfl, ⟨hsl, fun p hp => (hl p hp).1⟩, by simpa using hlen, fun p hp => (hl p hp).2⟩
theorem Tryz.flatRefG : flat Tryz.prog 4 72 = some [42, 42] := by kernel_rfl
theorem Tryz.cellsRefG : Tryz.prog.cellsOf 72 = 2 := by kernel_rfl
end
end Go.Proofs.YtjnafppkbhldlaaGreat
