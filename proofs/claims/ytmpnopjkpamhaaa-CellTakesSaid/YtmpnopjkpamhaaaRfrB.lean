/-
The reference's reader: bytes, numbers.
-/
import Derived.Test.YtmpnopjkpamhaaaFive
import Derived.Test.YtmpnopjkpamhaaaTakeW
namespace Go.Proofs.Ytmpnopjkpamhaaa
open Go.RowKit

/-- A part of a slice as a string. -/
theorem conv_part {w : World} {g d : Nat} {a : Option Addr} {L : List Int} {len cap i n : Nat} (h : SB w g d (.slice a len cap) L) (hi : i + n ≤ L.length) (a' : Option Addr) (cap' : Nat)
    (ha : n = 0 ∨ ∀ b o, a = some ⟨b, o, none⟩ → a' = some ⟨b, o + i, none⟩) : (convert 29 9 (.slice a' n cap')).run Try.prog w = .ok (.string (strOfNums ((L.drop i).take n))) w := by
  refine conv_Sl ⟨a', cap', by simp; omega, ?_⟩
  rcases Nat.eq_zero_or_pos n with hz | hz
  · subst hz; exact .inl rfl
  · obtain ⟨a0, c, hv, -, -, hs⟩ := h
    simp only [Value.slice.injEq] at hv
    obtain ⟨rfl, -, -⟩ := hv
    rcases hs with hs | ⟨b, o, hab, hb, -, hc⟩
    · subst hs; simp at hi; omega
    · rcases ha with ha | ha
      · omega
      · refine .inr ⟨b, o + i, ha b o hab, hb, fun k hk j hj => ?_⟩
        obtain rfl : j = 0 := by omega
        simp only [List.length_map, List.length_take, List.length_drop] at hk
        rw [Nat.mul_one, Nat.add_zero, Nat.add_assoc, hc (i + k) (by omega)]
        have h1 : i + k < L.length := by omega
        simp [bcell, List.getD, List.getElem?_map, List.getElem?_eq_getElem h1, show k < n by omega]

set_option maxRecDepth 100000 in set_option maxHeartbeats 1600000 in
theorem fbytes0_any (g d : Nat) (st : RS) (w : World) (h : RF w g d st) :
    Calls Try.prog 82 #[.pointer (some ⟨g, 0, none⟩), .int .u64 0] w (FPost g d w (.string (strOfNums [])) st) := by
  have H := Hid.mk' h
  have HLF := Hid.mk' (fun w h => fleft_any g d st w h)
  obtain ⟨v, L, a, hb, ⟨ad, cap, rfl, hlc, hnc, hs⟩, hat, hl, hB, hlen⟩ := h
  have hc := hb.cell
  have hf := hb.frozen
  have hlt := hb.lt
  have HB := Hid.mk' hb
  have hll : st.l.length ≤ 1000000 := by rw [hl]; split <;> simp <;> omega
  have HS : Hid (SB w g d (.slice ad L.length cap) L) := Hid.mk' ⟨ad, cap, rfl, hlc, hnc, hs⟩
  have HEND : Hid (∀ q k, FPost g d w (.string (strOfNums [])) st (.returned (.string (strOfNums []))) (((w.drewN q).setCell ⟨g, 1, none⟩ (.int .i64 (a : Int))).drewN k)) := Hid.mk' (fun q k => by
    have ht : Tch g w ((w.drewN q).setCell ⟨g, 1, none⟩ (.int .i64 (a : Int))) := (Tch.of_ext ((Ext.refl w).drewN q)).trans ((Tch.refl g _).set 1 _)
    refine ⟨rfl, RF.drewN ⟨_, L, a, by have h := (HB.out.drewN q).set 1 (.int .i64 (a : Int)); simpa using h, HS.out.tch ht (.inr (Nat.le_refl _)), hat, hl, hB, hlen⟩ k, ht.drewN k⟩)
  have HC2 : Hid (∀ q, ((w.drewN q).setCell ⟨g, 1, none⟩ (.int .i64 (a : Int))).cell? ⟨g, 0, none⟩ = some (.slice ad L.length cap) ∧ ((w.drewN q).setCell ⟨g, 1, none⟩ (.int .i64 (a : Int))).cell? ⟨g, 1, none⟩ = some (.int .i64 (a : Int))) := Hid.mk' (fun q => ⟨((HB.out.drewN q).set 1 (.int .i64 (a : Int))).cell 0, ((HB.out.drewN q).set 1 (.int .i64 (a : Int))).cell 1⟩)
  have hcv : ∀ (a' : Option Addr) (cap' : Nat) (w : World), (convert 29 9 (.slice a' 0 cap')).run Try.prog w = .ok (.string (strOfNums [])) w := fun a' cap' w => conv_Sl (l := []) ⟨a', cap', rfl, .inl rfl⟩
  clear hb hl hB hs
  by_cases hca : cap = a
  · subst hca
    go_enter Try.func82, Try.ntmps82
    go_upto_region 5 with (go_at_call 24; refine (HLF.out _ H.out).mono ?_; rintro e w1 ⟨rfl, q1, rfl⟩)
    obtain ⟨hg0, hg1⟩ := HC2.out q1
    obtain ⟨W2, hW2⟩ : ∃ W2 : World, W2 = (w.drewN q1).setCell ⟨g, 1, none⟩ (.int .i64 (cap : Int)) := ⟨_, rfl⟩
    have HE := HEND.out q1
    rw [← hW2] at hg0 hg1 HE ⊢
    have HEE := Hid.mk' HE
    clear hW2 HE
    go_quiet (fail)
    go_wp2
    go_ret
    exact HEE.out nq
  · cases ad with
    | none => have := hnc rfl; omega
    | some ad =>
      clear hnc
      go_enter Try.func82, Try.ntmps82
      go_upto_region 5 with (go_at_call 24; refine (HLF.out _ H.out).mono ?_; rintro e w1 ⟨rfl, q1, rfl⟩)
      obtain ⟨hg0, hg1⟩ := HC2.out q1
      obtain ⟨W2, hW2⟩ : ∃ W2 : World, W2 = (w.drewN q1).setCell ⟨g, 1, none⟩ (.int .i64 (a : Int)) := ⟨_, rfl⟩
      have HE := HEND.out q1
      rw [← hW2] at hg0 hg1 HE ⊢
      have HEE := Hid.mk' HE
      clear hW2 HE
      go_quiet (fail)
      go_wp2
      go_ret
      exact HEE.out nq

set_option maxRecDepth 100000 in set_option maxHeartbeats 1600000 in
theorem fbytes_any (g d : Nat) (st : RS) (n : Nat) (w : World) (h : RF w g d st) (hn : n < 18446744073709551616) :
    Calls Try.prog 82 #[.pointer (some ⟨g, 0, none⟩), .int .u64 n] w (FPost g d w (.string (strOfNums (bytesR n st).1)) (bytesR n st).2) := by
  rcases Nat.eq_zero_or_pos n with hz | hpos
  · subst hz
    have e : bytesR 0 st = ([], st) := by unfold bytesR; rw [if_neg (by omega)]; rfl
    rw [e]
    exact fbytes0_any g d st w h
  have H := Hid.mk' h
  have HLF := Hid.mk' (fun w h => fleft_any g d st w h)
  obtain ⟨v, L, a, hb, ⟨ad, cap, rfl, hlc, hnc, hs⟩, hat, hl, hB, hlen⟩ := h
  have hc := hb.cell
  have hf := hb.frozen
  have hlt := hb.lt
  have HB := Hid.mk' hb
  have HS : Hid (SB w g d (.slice ad L.length cap) L) := Hid.mk' ⟨ad, cap, rfl, hlc, hnc, hs⟩
  have hll : st.l.length ≤ 1000000 := by rw [hl]; split <;> simp <;> omega
  clear hb
  by_cases hk : st.l.length < n
  · have hE : Hid (bytesR n st = ([], giveS st 1)) := Hid.mk' (by unfold bytesR; rw [if_pos hk])
    have HG := Hid.mk' (fun w h => fgive_any g d st 1 w h (by decide))
    clear hs hlc hnc hl
    go_enter Try.func82, Try.ntmps82
    go_wp2_with (first
      | (go_at_call 24; refine (HLF.out _ H.out).mono ?_; rintro e w1 ⟨rfl, q1, rfl⟩)
      | (go_at_call 76; refine (HG.out _ (H.out.drewN q1)).mono ?_; rintro e w2 ⟨rfl, hr, ht⟩; have HR := Hid.mk' hr; have HT := Hid.mk' ht; clear hr ht))
    go_ret
    exact ⟨by rw [hE.out]; rfl, by rw [hE.out]; exact HR.out, (Tch.of_ext ((Ext.refl w).drewN q1)).trans HT.out⟩
  · have hE : Hid (bytesR n st = (st.l.take n, ⟨st.l.drop n, st.e⟩)) := Hid.mk' (by unfold bytesR; rw [if_neg hk])
    have hkn : n ≤ st.l.length := by omega
    clear hk
    by_cases he : st.e = 0
    · have hl2 : st.l = L.drop a := by rw [hl, if_pos he]
      have hal : a + n ≤ L.length := by rw [hl2, List.length_drop] at hkn; omega
      have HL2 := Hid.mk' hl2
      have HE := Hid.mk' he
      clear hl hl2 hs he
      have HLE : Hid (L.drop a = st.l) := Hid.mk' HL2.out.symm
      rw [HE.out] at hc HB
      have hBD := hB
      have HBI := Hid.mk' hB
      have HLEN := Hid.mk' hlen
      have hal' : (a : Int) + n ≤ 1000000 := by omega
      clear hB hBD
      obtain ⟨W2, hW2⟩ : ∃ W2 : Nat → World, ∀ q, W2 q = (w.drewN q).setCell ⟨g, 1, none⟩ (.int .i64 ((a : Int) + (n : Int))) := ⟨_, fun _ => rfl⟩
      have HW2 := Hid.mk' hW2
      have HT2 : Hid (∀ q, Tch g w (W2 q)) := Hid.mk' (fun q => by rw [HW2.out]; exact (Tch.of_ext ((Ext.refl w).drewN q)).trans ((Tch.refl g _).set 1 _))
      have HB2 : Hid (∀ q, Blk (W2 q) g #[.slice ad L.length cap, .int .i64 ((a + n : Nat) : Int), .int .i64 0] 57) := Hid.mk' (fun q => by rw [HW2.out]; have h := (HB.out.drewN q).set 1 (.int .i64 ((a : Int) + (n : Int))); simpa using h)
      have HS2 : Hid (∀ q, SB (W2 q) g d (.slice ad L.length cap) L) := Hid.mk' (fun q => HS.out.tch (HT2.out q) (.inr (Nat.le_refl _)))
      have HCV : Hid (∀ (a' : Option Addr) (cap' : Nat), (n = 0 ∨ ∀ b o, ad = some ⟨b, o, none⟩ → a' = some ⟨b, o + a, none⟩) → ∀ q k, (convert 29 9 (.slice a' n cap')).run Try.prog ((W2 q).drewN k) = .ok (.string (strOfNums (st.l.take n))) ((W2 q).drewN k)) := Hid.mk' (fun a' cap' ha q k => by
        have h := conv_part (g := g) (d := d) (i := a) (n := n) ((HS2.out q).ext ((Ext.refl _).drewN k)) hal a' cap' ha
        rw [HLE.out] at h; exact h)
      have HEND : Hid (∀ q k, FPost g d w (.string (strOfNums (bytesR n st).1)) (bytesR n st).2 (.returned (.string (strOfNums (st.l.take n)))) ((W2 q).drewN k)) := Hid.mk' (fun q k => by
        rw [hE.out]
        refine ⟨rfl, RF.drewN ⟨_, L, a + n, by rw [HE.out]; exact HB2.out q, HS2.out q, hal, ?_, HBI.out, HLEN.out⟩ k, (HT2.out q).drewN k⟩
        show st.l.drop n = _
        rw [if_pos HE.out, ← HLE.out, List.drop_drop])
      have hc2 : ∀ q, (W2 q).cell? ⟨g, 0, none⟩ = some (.slice ad L.length cap) ∧ (W2 q).cell? ⟨g, 1, none⟩ = some (.int .i64 ((a : Int) + (n : Int))) := fun q => ⟨(HB2.out q).cell 0, by rw [(HB2.out q).cell 1]; simp⟩
      have HC2 := Hid.mk' hc2
      clear hW2 hc2
      rcases HS.out with ⟨ad', cap', hv, -, -, hs⟩
      simp only [Value.slice.injEq] at hv
      obtain ⟨rfl, -, rfl⟩ := hv
      have hca : ¬ cap = a := by omega
      rcases hs with hs | ⟨b, o, rfl, -, -, -⟩
      · rw [hs] at hal; simp at hal; omega
      · go_enter Try.func82, Try.ntmps82
        go_upto_region 5 with (go_at_call 24; refine (HLF.out _ H.out).mono ?_; rintro e w1 ⟨rfl, q1, rfl⟩)
        rw [← HW2.out q1]
        obtain ⟨hg0, hg1⟩ := HC2.out q1
        have hcv := HCV.out (some ⟨b, o + a, none⟩) (cap - a) (.inr (fun b' o' h => by cases h; rfl)) q1
        go_quiet (fail)
        go_wp2
        go_ret
        exact HEND.out q1 nq
    · have hl0 : st.l = [] := by rw [hl, if_neg he]
      rw [hl0] at hkn
      simp at hkn
      omega

end Go.Proofs.Ytmpnopjkpamhaaa
