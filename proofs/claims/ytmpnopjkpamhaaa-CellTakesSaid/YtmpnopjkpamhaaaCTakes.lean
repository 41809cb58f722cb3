/-
The walk of CellTakes.
-/
import Derived.Test.YtmpnopjkpamhaaaCBackP
import Derived.Test.YtmpnopjkpamhaaaCTake
import Derived.Test.YtmpnopjkpamhaaaRefCTake
import Derived.Test.YtmpnopjkpamhaaaRfrE
import Derived.Test.YtmpnopjkpamhaaaPutOk
import Derived.Test.YtmpnopjkpamhaaaAwake07
namespace Go.Proofs.Ytmpnopjkpamhaaa
open Go.RowKit

theorem eq_cell2 (k ty n : Int) (x y : Nat) (s : ByteArray) (w : World) :
    (binOp .eql 26 (.agg #[.int .u8 k, .int .u8 ty, .int .i64 n, .int .u64 x, .int .u64 y, .string s]) (.agg #[.int .u8 k, .int .u8 ty, .int .i64 n, .int .u64 x, .int .u64 y, .string s])).run Try.prog w = .ok (.bool true) w := by
  simp [go_sem]

set_option maxRecDepth 100000 in set_option maxHeartbeats 1600000 in
theorem ctk_law (v : Value) (lb : List Int) (kind ver : Int) (w : World) (hl : Sl w v 1 (lb.map bcell)) (hib : isB lb) (hlen : lb.length ≤ 9223372036854775807) (hnil : ∀ len cap, v = .slice none len cap → v = .slice none 0 0)
    (hk0 : 0 ≤ kind) (hk1 : kind < 256) :
    Calls Try.prog 6 #[v, .agg #[.int .u8 kind, .int .u8 ver]] w fun e w' => e = .returned (.bool true) ∧ Ext w w' := by
  obtain ⟨ab, capb, rfl, hshape⟩ := hl.shape (n := lb.length) (by simp)
  have HL := Hid.mk' hl
  have HNB : Hid (∀ w1, Ext w w1 → NB w1 (.slice ab lb.length capb) lb) := Hid.mk' (fun w1 h => NB.of_sl (hl.ext h) hnil)
  clear hl hshape hnil
  by_cases h3000 : 3000 < lb.length
  · go_enter Try.func6, Try.ntmps6
    go_wp2
    go_ret
    exact ⟨rfl, by (repeat (with_reducible (first | exact Ext.refl _ | assumption | exact held_left (by assumption) | apply Ext.drewN | apply Ext.drew | apply Ext.alloc | (refine Ext.setCell ?_ (by first | (simp; done) | (simp; omega) | omega) _) | (refine Ext.trans ?_ (by assumption)) | (refine Ext.trans ?_ (held_left (by assumption))))))⟩
  have hl3 : lb.length ≤ 3000 := by omega
  clear h3000
  have HTR := Hid.mk' (fun g d w h => ctake_any g d ⟨lb, 0⟩ kind ver w h hk0 hk1)
  have HTF := Hid.mk' (fun g d w h => rctake_any g d ⟨lb, 0⟩ kind ver w h)
  obtain ⟨V0, S, hQ⟩ : ∃ V0 S, takeC kind ver ⟨lb, 0⟩ = (V0, S) := ⟨_, _, rfl⟩
  rw [hQ] at HTR HTF
  obtain ⟨⟨ck, ⟨ty, n, x, y, s⟩⟩, m⟩ := V0
  simp only [K.agg, K.aggR] at HTR HTF
  have HBK := Hid.mk' (fun w => cback_any ck ty n x y s w)
  have HER := Hid.mk' (fun g d w h => rerr_any g d S w h)
  have HLE := Hid.mk' (fun g d w h => rleft_any g d S w h)
  have HLF := Hid.mk' (fun g d w h => fleft_any g d S w h)
  have hEq := fun w => eq_cell2 ck ty n x y s w
  have HIB := Hid.mk' hib
  clear hQ hib
  go_enter Try.func6, Try.ntmps6
  go_upto_region 3 with (fail)
  all_goals try (go_ret; exact ⟨rfl, by (repeat (with_reducible (first | exact Ext.refl _ | assumption | exact held_left (by assumption) | apply Ext.drewN | apply Ext.drew | apply Ext.alloc | (refine Ext.setCell ?_ (by first | (simp; done) | (simp; omega) | omega) _) | (refine Ext.trans ?_ (by assumption)) | (refine Ext.trans ?_ (held_left (by assumption))))))⟩)
  go_wp2_with (first
    | (go_at_call 19; refine (read_any _ lb _ (HL.out.ext (by (repeat (with_reducible (first | exact Ext.refl _ | assumption | exact held_left (by assumption) | apply Ext.drewN | apply Ext.drew | apply Ext.alloc | (refine Ext.setCell ?_ (by first | (simp; done) | (simp; omega) | omega) _) | (refine Ext.trans ?_ (by assumption)) | (refine Ext.trans ?_ (held_left (by assumption)))))))) (by omega) HIB.out).mono ?_; rintro e w1 ⟨g, rfl, hg, hr, hb1⟩; have HR1 := Hid.mk' hr; have hgl := hr.lt; clear hr)
    | (at_builtin; refine app_bytes rfl _ _ rfl w1.heap.size (.slice (some ⟨w1.heap.size, 0, none⟩) 0 0) [] rfl ?c0 (.slice ab lb.length capb) lb rfl (HNB.out _ (by (repeat (with_reducible (first | exact Ext.refl _ | assumption | exact held_left (by assumption) | apply Ext.drewN | apply Ext.drew | apply Ext.alloc | (refine Ext.setCell ?_ (by first | (simp; done) | (simp; omega) | omega) _) | (refine Ext.trans ?_ (by assumption)) | (refine Ext.trans ?_ (held_left (by assumption)))))))) ?c1 ?c2 ?_))
  case c0 => exact ⟨rfl, .inr ⟨_, 0, #[], rfl, Nat.le_refl _, Blk.new w1 #[] _, Nat.le_refl _, Nat.zero_le _, rfl, rfl⟩⟩
  case c1 => simp; omega
  case c2 => simp
  intro v2 w2 ho2 hgrow
  have hE2 : Ext w1 w2 := OB.grown (W := w1) (v := .slice (some ⟨w1.heap.size, 0, none⟩) 0 0) (l := []) ((Ext.refl w1).alloc _) ⟨rfl, .inr ⟨_, 0, #[], rfl, Nat.le_refl _, Blk.new w1 #[] _, Nat.le_refl _, Nat.zero_le _, rfl, rfl⟩⟩ hgrow
  clear hgrow
  obtain ⟨a2, cap2, rfl⟩ := ho2.shape
  have hf2 := RF.new ho2 HIB.out (by omega) (Nat.le_refl _)
  have HF2 := Hid.mk' hf2
  have HR2 := Hid.mk' ((HR1.out.ext hE2).ext ((Ext.refl w2).alloc (.cells #[.slice a2 lb.length cap2, .int .i64 0, .int .i64 0] 57)))
  have hE02 : Ext (w.alloc (.cells #[.int .u8 kind, .int .u8 ver] 28)) w2 := hb1.trans hE2
  have HE02 := Hid.mk' hE02
  have hsz := hE2.size
  have hE_w2 : Ext (w.alloc (.cells #[.int .u8 kind, .int .u8 ver] 28)) w2 := (by (repeat (with_reducible (first | exact Ext.refl _ | assumption | exact held_left (by assumption) | apply Ext.drewN | apply Ext.drew | apply Ext.alloc | (refine Ext.setCell ?_ (by first | (simp; done) | (simp; omega) | omega) _) | (refine Ext.trans ?_ (by assumption)) | (refine Ext.trans ?_ (held_left (by assumption))))))); obtain ⟨hc_w2, hf_w2⟩ := hE_w2.cells; have hz_w2 := hE_w2.size
  have hz02 : w.heap.size < w2.heap.size := by have := hE02.size; simp at this; omega
  clear ho2 hf2 hb1 hE2 hE02
  go_upto_region 8 with (first
    | (go_at_call 20; refine (HTR.out g _ _ HR2.out).mono ?_; rintro e w3 ⟨rfl, hr3, ht3⟩; have hb3 : Ext (w.alloc (.cells #[.int .u8 kind, .int .u8 ver] 28)) w3 := Tch.ext (HE02.out.alloc _) hg ht3; have hE_w3 : Ext (w.alloc (.cells #[.int .u8 kind, .int .u8 ver] 28)) w3 := (by (repeat (with_reducible (first | exact Ext.refl _ | assumption | exact held_left (by assumption) | apply Ext.drewN | apply Ext.drew | apply Ext.alloc | (refine Ext.setCell ?_ (by first | (simp; done) | (simp; omega) | omega) _) | (refine Ext.trans ?_ (by assumption)) | (refine Ext.trans ?_ (held_left (by assumption))))))); obtain ⟨hc_w3, hf_w3⟩ := hE_w3.cells; have hz_w3 := hE_w3.size; have hz3 := ht3.size; have hz33 : w.heap.size < w3.heap.size := (by simp at hz3; omega); have HR3 := Hid.mk' (hr3.ext ((Ext.refl w3).alloc (.cells #[.int .u8 ck, .int .u8 ty, .int .i64 n, .complex .f64 x y, .string s] 37))); have HF3 := Hid.mk' ((HF2.out.tch ht3 (by omega) (.inl hgl)).ext ((Ext.refl w3).alloc (.cells #[.int .u8 ck, .int .u8 ty, .int .i64 n, .complex .f64 x y, .string s] 37))); have HC3 := Hid.mk' (Blk.new w3 #[.int .u8 ck, .int .u8 ty, .int .i64 n, .complex .f64 x y, .string s] 37); have HE3 := Hid.mk' (hb3.alloc (.cells #[.int .u8 ck, .int .u8 ty, .int .i64 n, .complex .f64 x y, .string s] 37)); clear hr3 ht3 hb3)
    | (go_at_call 21; refine (HTF.out w2.heap.size _ _ HF3.out).mono ?_; rintro e w4 ⟨rfl, hf4, ht4⟩; have HF4 := Hid.mk' hf4; have HR4 := Hid.mk' (HR3.out.tch ht4 (by omega) (.inr (by omega))); have HC4 := Hid.mk' (HC3.out.tch ht4 (by simp at hz3; omega)); have HE4 := Hid.mk' (Tch.ext HE3.out HE02.out.size ht4); clear hf4 ht4))
  have hE5 : Ext w4 (w4.alloc (.cells #[.int .u8 ck, .int .u8 ty, .int .i64 n, .int .u64 x, .int .u64 y, .string s] 26)) := (Ext.refl w4).alloc _
  have HS : Hid (∀ w', Ext (w4.alloc (.cells #[.int .u8 ck, .int .u8 ty, .int .i64 n, .int .u64 x, .int .u64 y, .string s] 26)) w' → Ext (w4.alloc (.cells #[.int .u8 ck, .int .u8 ty, .int .i64 n, .int .u64 x, .int .u64 y, .string s] 26)) w' ∧ (∀ i, w'.cell? ⟨w3.heap.size, i, none⟩ = (#[.int .u8 ck, .int .u8 ty, .int .i64 n, .complex .f64 x y, .string s])[i]?) ∧ (∀ i, w'.cell? ⟨w4.heap.size, i, none⟩ = (#[.int .u8 ck, .int .u8 ty, .int .i64 n, .int .u64 x, .int .u64 y, .string s])[i]?) ∧ w'.cell? ⟨w2.heap.size, 2, none⟩ = some (.int .i64 S.e)) := Hid.mk' (fun w' h => by
    refine ⟨h, ((HC4.out.alloc _).ext h).cell, ((Blk.new w4 _ _).ext h).cell, ?_⟩
    exact ((HF4.out.ext hE5).ext h).bad)
  have HE5 := Hid.mk' hE5
  clear hE5
  go_region_held3 (fun w' => Ext (w4.alloc (.cells #[.int .u8 ck, .int .u8 ty, .int .i64 n, .int .u64 x, .int .u64 y, .string s] 26)) w' ∧ (∀ i, w'.cell? ⟨w3.heap.size, i, none⟩ = (#[.int .u8 ck, .int .u8 ty, .int .i64 n, .complex .f64 x y, .string s])[i]?) ∧ (∀ i, w'.cell? ⟨w4.heap.size, i, none⟩ = (#[.int .u8 ck, .int .u8 ty, .int .i64 n, .int .u64 x, .int .u64 y, .string s])[i]?) ∧ w'.cell? ⟨w2.heap.size, 2, none⟩ = some (.int .i64 S.e)) (exact HS.out _ (by (repeat (with_reducible (first | exact Ext.refl _ | assumption | exact held_left (by assumption) | apply Ext.drewN | apply Ext.drew | apply Ext.alloc | (refine Ext.setCell ?_ (by first | (simp; done) | (simp; omega) | omega) _) | (refine Ext.trans ?_ (by assumption)) | (refine Ext.trans ?_ (held_left (by assumption))))))))
    (first
      | (go_at_call 17; refine (HBK.out _).mono ?_; rintro e w6 ⟨rfl, hb6⟩)
      | (go_at_call 22; refine (HER.out g _ _ (HR4.out.ext (HE5.out.trans (by (repeat (with_reducible (first | exact Ext.refl _ | assumption | exact held_left (by assumption) | apply Ext.drewN | apply Ext.drew | apply Ext.alloc | (refine Ext.setCell ?_ (by first | (simp; done) | (simp; omega) | omega) _) | (refine Ext.trans ?_ (by assumption)) | (refine Ext.trans ?_ (held_left (by assumption)))))))))).mono ?_; rintro e w7 ⟨rfl, rfl⟩)
      | (go_at_call 23; refine (HLE.out g _ _ (HR4.out.ext (HE5.out.trans (by (repeat (with_reducible (first | exact Ext.refl _ | assumption | exact held_left (by assumption) | apply Ext.drewN | apply Ext.drew | apply Ext.alloc | (refine Ext.setCell ?_ (by first | (simp; done) | (simp; omega) | omega) _) | (refine Ext.trans ?_ (by assumption)) | (refine Ext.trans ?_ (held_left (by assumption)))))))))).mono ?_; rintro e w8 ⟨rfl, rfl⟩)
      | (go_at_call 24; refine (HLF.out w2.heap.size _ _ (HF4.out.ext (HE5.out.trans (by (repeat (with_reducible (first | exact Ext.refl _ | assumption | exact held_left (by assumption) | apply Ext.drewN | apply Ext.drew | apply Ext.alloc | (refine Ext.setCell ?_ (by first | (simp; done) | (simp; omega) | omega) _) | (refine Ext.trans ?_ (by assumption)) | (refine Ext.trans ?_ (held_left (by assumption)))))))))).mono ?_; rintro e w9 ⟨rfl, q9, rfl⟩)
      | (go_at_call 11; refine (awake07_any _).mono ?_; rintro e w10 ⟨rfl, hb10⟩))
  go_wp2
  go_ret
  exact ⟨rfl, ((Ext.refl w).alloc _).trans ((HE4.out.trans HE5.out).trans (by (repeat (with_reducible (first | exact Ext.refl _ | assumption | exact held_left (by assumption) | apply Ext.drewN | apply Ext.drew | apply Ext.alloc | (refine Ext.setCell ?_ (by first | (simp; done) | (simp; omega) | omega) _) | (refine Ext.trans ?_ (by assumption)) | (refine Ext.trans ?_ (held_left (by assumption))))))))⟩

end Go.Proofs.Ytmpnopjkpamhaaa
