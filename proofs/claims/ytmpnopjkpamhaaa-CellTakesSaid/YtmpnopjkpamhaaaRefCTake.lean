/-
The reference's cell: Take.
-/
import Derived.Test.YtmpnopjkpamhaaaRefCTk
namespace Go.Proofs.Ytmpnopjkpamhaaa
open Go.RowKit

/-- The reference's reader, made. -/
theorem RF.new {w : World} {base d : Nat} {v : Value} {l : List Int} (h : OB w base v l) (hb : isB l) (hl : l.length ≤ 1000000) (hd : d ≤ base) : RF (w.alloc (.cells #[v, .int .i64 0, .int .i64 0] 57)) w.heap.size d ⟨l, 0⟩ := by
  have hs := (SB.of_own (g := w.heap.size) h (Nat.le_refl _)).ext ((Ext.refl w).alloc (.cells #[v, .int .i64 0, .int .i64 0] 57))
  refine ⟨v, l, 0, Blk.new _ _ _, ?_, Nat.zero_le _, by simp, hb, hl⟩
  obtain ⟨a, cap, rfl, h1, h2, h3⟩ := hs
  refine ⟨a, cap, rfl, h1, h2, h3.imp id ?_⟩
  rintro ⟨b, o, ha, hb, hd2, hc⟩
  exact ⟨b, o, ha, hb, ⟨by omega, hd2.2⟩, hc⟩

set_option maxRecDepth 20000 in
theorem res_rctake {W : World} {b : Nat} {k ty n x y : Int} {s : ByteArray} {m : Int} {tm : Array Value} (h : Blk W b #[.int .u8 k, .int .u8 ty, .int .i64 n, .int .u64 x, .int .u64 y, .string s] 26) (ht : tm.getD 6 undef = .pointer (some ⟨b, 0, none⟩)) (hm : tm.getD 7 undef = .int .i64 m) :
    (results Try.f21 tm).run Try.prog W = .ok (.tuple #[.agg #[.int .u8 k, .int .u8 ty, .int .i64 n, .int .u64 x, .int .u64 y, .string s], .int .i64 m]) W := by
  have c := h.cell
  have c0 := c 0
  have c1 := c 1
  have c2 := c 2
  have c3 := c 3
  have c4 := c 4
  have c5 := c 5
  clear c h
  simp at c0 c1 c2 c3 c4 c5
  rw [Array.getD_eq_getD_getElem?] at ht hm
  simp [results, Try.results21, go_sem, ht, hm, c0, c1, c2, c3, c4, c5]

theorem rtake_end {r : (K × Nat) × RS} (h : r.2.e ≠ 0) : finC r = ((K.zero, 0), r.2) := by unfold finC; rw [if_pos h]

set_option maxRecDepth 100000 in set_option maxHeartbeats 1600000 in
theorem rctake_any (g d : Nat) (st : RS) (kind ver : Int) (w : World) (h : RF w g d st) :
    Calls Try.prog 21 #[.pointer (some ⟨g, 0, none⟩), .int .u8 kind, .int .u8 ver] w fun e w' =>
      e = .returned (.tuple #[(takeC kind ver st).1.1.aggR, .int .i64 (takeC kind ver st).1.2]) ∧ RF w' g d (takeC kind ver st).2 ∧ Tch g w w' := by
  have H := Hid.mk' h
  have hg := h.lt
  have HK := Hid.mk' (fun w h => rtk_any g d st kind ver w h)
  clear h
  unfold takeC
  generalize preC kind ver st = R at *
  by_cases he : R.2.e = 0
  · have HFI := Hid.mk' (finC_ok he)
    have HE := Hid.mk' he
    clear he
    go_enter Try.func21, Try.ntmps21
    go_wp2_with (go_at_call 45; refine (HK.out _ (H.out.ext (by (repeat (with_reducible (first | exact Ext.refl _ | assumption | exact held_left (by assumption) | apply Ext.drewN | apply Ext.drew | apply Ext.alloc | (refine Ext.setCell ?_ (by first | (simp; done) | (simp; omega) | omega) _) | (refine Ext.trans ?_ (by assumption)) | (refine Ext.trans ?_ (held_left (by assumption))))))))).mono ?_; rintro e w1 ⟨⟨ck, cty, cn, cx, cy, cs⟩, m, rfl, hc1, hr1, ht1⟩; simp only [K.aggR]; have HC1 := Hid.mk' hc1; have h6 := (Blk.new w #[.int .u8 0, .int .u8 0, .int .i64 0, .int .u64 0, .int .u64 0, .string ByteArray.empty] 26).tch ht1 (by omega); have HB6 := Hid.mk' h6; have k6 := h6.cell; have f6 := h6.frozen; have z6 := h6.lt; have HR1 := Hid.mk' hr1; have bd1 := hr1.bad; have hg1 := hr1.lt; have HT1 : Hid (Tch g w w1) := Hid.mk' (((Tch.refl g w).alloc _).trans ht1); clear h6 hr1 ht1 hc1; rw [HE.out] at bd1)
    refine bodyPost_ret (v := .tuple #[(⟨ck, ⟨cty, cn, cx, cy, cs⟩⟩ : K).aggR, .int .i64 m]) (res_rctake ((Blk.six HB6.out).alloc _) rfl rfl) rfl ⟨?_, by rw [HFI.out]; exact (RF.six HR1.out hg).ext ((Ext.refl _).alloc _), (Tch.six HT1.out (Nat.le_refl _)).alloc _⟩
    rw [HFI.out, ← HC1.out HE.out]
  · have HFI := Hid.mk' (rtake_end he)
    have he2 : (R.2.e != 0) = true := by simpa using he
    clear he
    go_enter Try.func21, Try.ntmps21
    go_wp2_with (go_at_call 45; refine (HK.out _ (H.out.ext (by (repeat (with_reducible (first | exact Ext.refl _ | assumption | exact held_left (by assumption) | apply Ext.drewN | apply Ext.drew | apply Ext.alloc | (refine Ext.setCell ?_ (by first | (simp; done) | (simp; omega) | omega) _) | (refine Ext.trans ?_ (by assumption)) | (refine Ext.trans ?_ (held_left (by assumption))))))))).mono ?_; rintro e w1 ⟨⟨ck, cty, cn, cx, cy, cs⟩, m, rfl, hc1, hr1, ht1⟩; simp only [K.aggR]; have HC1 := Hid.mk' hc1; have h6 := (Blk.new w #[.int .u8 0, .int .u8 0, .int .i64 0, .int .u64 0, .int .u64 0, .string ByteArray.empty] 26).tch ht1 (by omega); have HB6 := Hid.mk' h6; have k6 := h6.cell; have f6 := h6.frozen; have z6 := h6.lt; have HR1 := Hid.mk' hr1; have bd1 := hr1.bad; have hg1 := hr1.lt; have HT1 : Hid (Tch g w w1) := Hid.mk' (((Tch.refl g w).alloc _).trans ht1); clear h6 hr1 ht1 hc1)
    refine bodyPost_ret (v := .tuple #[K.zero.aggR, .int .i64 (0 : Nat)]) (res_rctake ((Blk.six HB6.out).alloc _) rfl rfl) rfl ⟨by rw [HFI.out], by rw [HFI.out]; exact (RF.six HR1.out hg).ext ((Ext.refl _).alloc _), (Tch.six HT1.out (Nat.le_refl _)).alloc _⟩

end Go.Proofs.Ytmpnopjkpamhaaa
