/-
The walk of ValueTakes.
-/
import Derived.Test.YtkofnmbkfaebcaaVBackP
import Derived.Test.YtkofnmbkfaebcaaRTake
import Derived.Test.YtkofnmbkfaebcaaApp
import Derived.Test.YtkofnmbkfaebcaaEqVal
namespace Go.Proofs.Ytkofnmbkfaebcaa
open Go.RowKit

/-- The reference's reader, made. -/
theorem RF.new {w : World} {base d : Nat} {v : Value} {l : List Int} (h : OB w base v l) (hb : isB l) (hl : l.length ≤ 1000000) (hd : d ≤ base) : RF (w.alloc (.cells #[v, .int .i64 0, .int .i64 0] 109)) w.heap.size d ⟨l, 0⟩ := by
  have hs := (SB.of_own (g := w.heap.size) h (Nat.le_refl _)).ext ((Ext.refl w).alloc (.cells #[v, .int .i64 0, .int .i64 0] 109))
  refine ⟨v, l, 0, Blk.new _ _ _, ?_, Nat.zero_le _, by simp, hb, hl⟩
  obtain ⟨a, cap, rfl, h1, h2, h3⟩ := hs
  refine ⟨a, cap, rfl, h1, h2, h3.imp id ?_⟩
  rintro ⟨b, o, ha, hb, hd2, hc⟩
  exact ⟨b, o, ha, hb, ⟨by omega, hd2.2⟩, hc⟩

set_option maxRecDepth 100000 in set_option maxHeartbeats 1600000 in
theorem vtk_any (v : Value) (lb : List Int) (kind ver : Int) (w : World) (hl : Sl w v 1 (lb.map bcell)) (hib : isB lb) (hlen : lb.length ≤ 9223372036854775807) (hnil : ∀ len cap, v = .slice none len cap → v = .slice none 0 0)
    (hk0 : 0 ≤ kind) (hk1 : kind < 256) :
    Calls Try.prog 13 #[v, .int .u8 kind, .int .u8 ver] w fun e w' => e = .returned (.bool true) ∧ Ext w w' := by
  obtain ⟨ab, capb, rfl, hshape⟩ := hl.shape (n := lb.length) (by simp)
  have HL := Hid.mk' hl
  have HNB : Hid (∀ w1, Ext w w1 → NB w1 (.slice ab lb.length capb) lb) := Hid.mk' (fun w1 h => NB.of_sl (hl.ext h) hnil)
  clear hl hshape hnil
  by_cases h3000 : 3000 < lb.length
  · go_enter Try.func13, Try.ntmps13
    go_wp2
    go_ret
    exact ⟨rfl, Ext.refl _⟩
  have hl3 : lb.length ≤ 3000 := by omega
  clear h3000
  have HTR := Hid.mk' (fun g d w h => vtake_any g d ⟨lb, 0⟩ kind ver w h hk0 hk1)
  have HTF := Hid.mk' (fun g d w h => rtake_any g d ⟨lb, 0⟩ kind ver w h hk0 hk1)
  obtain ⟨V0, S, hQ⟩ : ∃ V0 S, takeV kind ver ⟨lb, 0⟩ = (V0, S) := ⟨_, _, rfl⟩
  rw [hQ] at HTR HTF
  obtain ⟨ty, n, x, y, s⟩ := V0
  simp only at HTR HTF
  have HBK := Hid.mk' (fun w => vback_any ty n x y s w)
  have HER := Hid.mk' (fun g d w h => rerr_any g d S w h)
  have HLE := Hid.mk' (fun g d w h => rleft_any g d S w h)
  have HLF := Hid.mk' (fun g d w h => fleft_any g d S w h)
  have hEq := fun w => eq_val2 ty n x y s w
  have HIB := Hid.mk' hib
  clear hQ hib
  go_enter Try.func13, Try.ntmps13
  go_upto_region 3 with (fail)
  all_goals try (go_ret; exact ⟨rfl, by (repeat (with_reducible (first | exact Ext.refl _ | assumption | exact held_left (by assumption) | apply Ext.drewN | apply Ext.drew | apply Ext.alloc | (refine Ext.setCell ?_ (by first | (simp; done) | (simp; omega) | omega) _) | (refine Ext.trans ?_ (by assumption)) | (refine Ext.trans ?_ (held_left (by assumption))))))⟩)
  go_wp2_with (first
    | (go_at_call 42; refine (read_any _ lb _ HL.out (by omega) HIB.out).mono ?_; rintro e w1 ⟨g, rfl, hg, hr, hb1⟩; have HR1 := Hid.mk' hr; have hgl := hr.lt; clear hr)
    | (at_builtin; refine app_bytes rfl _ _ rfl w1.heap.size (.slice (some ⟨w1.heap.size, 0, none⟩) 0 0) [] rfl ?c0 (.slice ab lb.length capb) lb rfl (HNB.out _ (by (repeat (with_reducible (first | exact Ext.refl _ | assumption | exact held_left (by assumption) | apply Ext.drewN | apply Ext.drew | apply Ext.alloc | (refine Ext.setCell ?_ (by first | (simp; done) | (simp; omega) | omega) _) | (refine Ext.trans ?_ (by assumption)) | (refine Ext.trans ?_ (held_left (by assumption)))))))) ?c1 ?c2 ?_))
  case c0 => exact ⟨rfl, .inr ⟨_, 0, #[], rfl, Nat.le_refl _, Blk.new w1 #[] _, Nat.le_refl _, Nat.zero_le _, rfl, rfl⟩⟩
  case c1 => simp; omega
  case c2 => simp
  intro v2 w2 ho2 hgrow
  have hE2 : Ext w1 w2 := OB.grown (W := w1) (v := .slice (some ⟨w1.heap.size, 0, none⟩) 0 0) (l := []) ((Ext.refl w1).alloc _) ⟨rfl, .inr ⟨_, 0, #[], rfl, Nat.le_refl _, Blk.new w1 #[] _, Nat.le_refl _, Nat.zero_le _, rfl, rfl⟩⟩ hgrow
  clear hgrow
  obtain ⟨a2, cap2, rfl⟩ := ho2.shape
  have hf2 := RF.new ho2 HIB.out (by omega) (Nat.le_refl _)
  have HF2 := Hid.mk' hf2
  have HR2 := Hid.mk' ((HR1.out.ext hE2).ext ((Ext.refl w2).alloc (.cells #[.slice a2 lb.length cap2, .int .i64 0, .int .i64 0] 109)))
  have hE02 : Ext w w2 := hb1.trans hE2
  have HE02 := Hid.mk' hE02
  have hsz := hE2.size
  clear ho2 hf2 hb1 hE2 hE02
  go_upto_region 7 with (first
    | (go_at_call 43; refine (HTR.out g _ _ HR2.out).mono ?_; rintro e w3 ⟨rfl, hr3, ht3⟩; have HR3 := Hid.mk' hr3; have HF3 := Hid.mk' (HF2.out.tch ht3 (by omega) (.inl hgl)); have HE3 := Hid.mk' (Tch.ext (HE02.out.alloc _) hg ht3); clear hr3 ht3)
    | (go_at_call 45; refine (HTF.out w2.heap.size _ _ HF3.out).mono ?_; rintro e w4 ⟨rfl, hf4, ht4⟩; have HF4 := Hid.mk' hf4; have HR4 := Hid.mk' (HR3.out.tch ht4 (by omega) (.inr (by omega))); have HE4 := Hid.mk' (Tch.ext HE3.out HE02.out.size ht4); clear hf4 ht4))
  have hE5 : Ext w4 ((w4.alloc (.cells #[.int .u8 ty, .int .i64 n, .complex .f64 x y, .string s] 29)).alloc (.cells #[.int .u8 ty, .int .i64 n, .int .u64 x, .int .u64 y, .string s] 42)) := ((Ext.refl w4).alloc _).alloc _
  have HS : Hid (∀ w', Ext ((w4.alloc (.cells #[.int .u8 ty, .int .i64 n, .complex .f64 x y, .string s] 29)).alloc (.cells #[.int .u8 ty, .int .i64 n, .int .u64 x, .int .u64 y, .string s] 42)) w' → Ext ((w4.alloc (.cells #[.int .u8 ty, .int .i64 n, .complex .f64 x y, .string s] 29)).alloc (.cells #[.int .u8 ty, .int .i64 n, .int .u64 x, .int .u64 y, .string s] 42)) w' ∧ (∀ b o, b < ((w4.alloc (.cells #[.int .u8 ty, .int .i64 n, .complex .f64 x y, .string s] 29)).alloc (.cells #[.int .u8 ty, .int .i64 n, .int .u64 x, .int .u64 y, .string s] 42)).heap.size → w'.cell? ⟨b, o, none⟩ = ((w4.alloc (.cells #[.int .u8 ty, .int .i64 n, .complex .f64 x y, .string s] 29)).alloc (.cells #[.int .u8 ty, .int .i64 n, .int .u64 x, .int .u64 y, .string s] 42)).cell? ⟨b, o, none⟩) ∧ w'.cell? ⟨w2.heap.size, 2, none⟩ = some (.int .i64 S.e)) := Hid.mk' (fun w' h => by
    refine ⟨h, h.cells.1, ?_⟩
    obtain ⟨_, _, _, hb, -⟩ := HF4.out
    rw [(hE5.trans h).cells.1 _ _ hb.lt, hb.cell 2]; rfl)
  have HE5 := Hid.mk' hE5
  clear hE5
  go_region_held3 (fun w' => Ext ((w4.alloc (.cells #[.int .u8 ty, .int .i64 n, .complex .f64 x y, .string s] 29)).alloc (.cells #[.int .u8 ty, .int .i64 n, .int .u64 x, .int .u64 y, .string s] 42)) w' ∧ (∀ b o, b < ((w4.alloc (.cells #[.int .u8 ty, .int .i64 n, .complex .f64 x y, .string s] 29)).alloc (.cells #[.int .u8 ty, .int .i64 n, .int .u64 x, .int .u64 y, .string s] 42)).heap.size → w'.cell? ⟨b, o, none⟩ = ((w4.alloc (.cells #[.int .u8 ty, .int .i64 n, .complex .f64 x y, .string s] 29)).alloc (.cells #[.int .u8 ty, .int .i64 n, .int .u64 x, .int .u64 y, .string s] 42)).cell? ⟨b, o, none⟩) ∧ w'.cell? ⟨w2.heap.size, 2, none⟩ = some (.int .i64 S.e)) (exact HS.out _ (by (repeat (with_reducible (first | exact Ext.refl _ | assumption | exact held_left (by assumption) | apply Ext.drewN | apply Ext.drew | apply Ext.alloc | (refine Ext.setCell ?_ (by first | (simp; done) | (simp; omega) | omega) _) | (refine Ext.trans ?_ (by assumption)) | (refine Ext.trans ?_ (held_left (by assumption))))))))
    (first
      | (go_at_call 46; refine (HBK.out _).mono ?_; rintro e w6 ⟨rfl, hb6⟩)
      | (go_at_call 44; refine (HER.out g _ _ (HR4.out.ext (HE5.out.trans (by (repeat (with_reducible (first | exact Ext.refl _ | assumption | exact held_left (by assumption) | apply Ext.drewN | apply Ext.drew | apply Ext.alloc | (refine Ext.setCell ?_ (by first | (simp; done) | (simp; omega) | omega) _) | (refine Ext.trans ?_ (by assumption)) | (refine Ext.trans ?_ (held_left (by assumption)))))))))).mono ?_; rintro e w7 ⟨rfl, rfl⟩)
      | (go_at_call 47; refine (HLE.out g _ _ (HR4.out.ext (HE5.out.trans (by (repeat (with_reducible (first | exact Ext.refl _ | assumption | exact held_left (by assumption) | apply Ext.drewN | apply Ext.drew | apply Ext.alloc | (refine Ext.setCell ?_ (by first | (simp; done) | (simp; omega) | omega) _) | (refine Ext.trans ?_ (by assumption)) | (refine Ext.trans ?_ (held_left (by assumption)))))))))).mono ?_; rintro e w8 ⟨rfl, rfl⟩)
      | (go_at_call 48; refine (HLF.out w2.heap.size _ _ (HF4.out.ext (HE5.out.trans (by (repeat (with_reducible (first | exact Ext.refl _ | assumption | exact held_left (by assumption) | apply Ext.drewN | apply Ext.drew | apply Ext.alloc | (refine Ext.setCell ?_ (by first | (simp; done) | (simp; omega) | omega) _) | (refine Ext.trans ?_ (by assumption)) | (refine Ext.trans ?_ (held_left (by assumption)))))))))).mono ?_; rintro e w9 ⟨rfl, q9, rfl⟩)
      | (go_at_call 35; refine (awake06_any _).mono ?_; rintro e w10 ⟨rfl, hb10⟩))
  go_wp2
  go_ret
  exact ⟨rfl, (HE4.out.trans HE5.out).trans (by (repeat (with_reducible (first | exact Ext.refl _ | assumption | exact held_left (by assumption) | apply Ext.drewN | apply Ext.drew | apply Ext.alloc | (refine Ext.setCell ?_ (by first | (simp; done) | (simp; omega) | omega) _) | (refine Ext.trans ?_ (by assumption)) | (refine Ext.trans ?_ (held_left (by assumption)))))))⟩

end Go.Proofs.Ytkofnmbkfaebcaa
