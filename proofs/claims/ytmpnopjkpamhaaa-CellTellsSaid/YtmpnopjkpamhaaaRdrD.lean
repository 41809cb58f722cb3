/-
The program's reader: numbers, bytes, texts, words.
-/
import Derived.Test.YtmpnopjkpamhaaaRdrC
namespace Go.Proofs.Ytmpnopjkpamhaaa
open Go.RowKit

theorem digs_len : ∀ (l : List Int) (n v v' m : Nat) (e : Int), digs l n v = (v', m, e) → m ≤ n + l.length := by
  intro l
  induction l with
  | nil => intro n v v' m e h; simp [digs] at h; omega
  | cons x l ih =>
    intro n v v' m e h
    rw [digs] at h
    (repeat' split at h)
    · simp at h; omega
    · have := ih _ _ _ _ _ h; simp; omega
    · simp at h; omega
    · simp at h; simp; omega
theorem digs_lt : ∀ (l : List Int) (n v : Nat), isB l → n ≤ 9 → v < 128 ^ n → (digs l n v).1 < 18446744073709551616 := by
  intro l
  induction l with
  | nil => intro n v _ _ _; simp [digs]
  | cons x l ih =>
    intro n v hb hn hv
    obtain ⟨h0, h1⟩ := hb.head
    have hp := pow_le9 hn
    rw [digs]
    (repeat' split)
    · simp
    · rename_i h9 h128
      exact ih _ _ hb.tail (by rcases Nat.lt_or_ge n 9 with h3 | h3; omega; exact absurd ⟨by omega, by omega⟩ h9) (dig_lt hv (by omega))
    · simp
    · rename_i h9 h128 _
      have := dig_room (q := (x % 128).toNat) hn (by omega) (fun h => by by_cases h1 : 1 < x; exact absurd ⟨h, h1⟩ h9; omega)
      show v + _ < _
      by_cases hn9 : n = 9
      · have : x ≤ 1 := by by_cases h1 : 1 < x; exact absurd ⟨hn9, h1⟩ h9; omega
        subst hn9
        have h2 : (128 : Nat) ^ 9 = 9223372036854775808 := by decide
        have h3 : (x % 128).toNat * 128 ^ 9 ≤ 1 * 128 ^ 9 := Nat.mul_le_mul_right _ (by omega)
        omega
      · have h5 := dig_lt hv (q := (x % 128).toNat) (by omega)
        have h6 := pow_le9 (n := n + 1) (by omega)
        omega

set_option maxRecDepth 100000 in set_option maxHeartbeats 1600000 in
theorem rbytes_any (g d : Nat) (st : RS) (n : Nat) (w : World) (h : RD w g d st) (hn : n ≤ 9223372036854775807) :
    Calls Try.prog 92 #[.pointer (some ⟨g, 0, none⟩), .int .i64 n] w fun e w' => ∃ v, e = .returned v ∧ SB w' g d v (bytesR n st).1 ∧ RD w' g d (bytesR n st).2 ∧ Tch g w w' := by
  have H := Hid.mk' h
  obtain ⟨v, hb, ⟨a, cap, rfl, hlc, hnc, hs⟩, hok, hlen⟩ := h
  have hc := hb.cell
  have hf := hb.frozen
  have hlt := hb.lt
  have HB := Hid.mk' hb
  have HS : Hid (SB w g d (.slice a st.l.length cap) st.l) := Hid.mk' ⟨a, cap, rfl, hlc, hnc, hs⟩
  clear hb
  by_cases hk : st.l.length < n
  · have hE : Hid (bytesR n st = ([], giveS st 1)) := Hid.mk' (by unfold bytesR; rw [if_pos hk])
    clear hs hok hlc hnc
    go_enter Try.func92, Try.ntmps92
    go_wp2_with (go_at_call 67; refine (giveUp_any g d st 1 _ H.out (by decide)).mono ?_; rintro e w1 ⟨rfl, hr, ht⟩; have HR := Hid.mk' hr; have HT := Hid.mk' ht; clear hr ht)
    go_ret
    exact ⟨_, rfl, by rw [hE.out]; exact SB.nil _ _ _, by rw [hE.out]; exact HR.out, HT.out⟩
  · have hE : Hid (bytesR n st = (st.l.take n, ⟨st.l.drop n, st.e⟩)) := Hid.mk' (by unfold bytesR; rw [if_neg hk])
    have HOK : Hid ((⟨st.l.drop n, st.e⟩ : RS).ok) := Hid.mk' (by have := bytesR_ok hok n; rw [hE.out] at this; exact this)
    have HLE : Hid ((st.l.drop n).length ≤ 1000000) := Hid.mk' (by simp; omega)
    have hnl : n ≤ st.l.length := by omega
    have HNC := Hid.mk' hnc
    clear hok hnc hk
    by_cases hcn : cap = n
    · subst hcn
      have hdl : Hid (st.l.drop cap = []) := Hid.mk' (List.drop_eq_nil_of_le (by omega))
      have hls : (st.l.length : Int) - (cap : Int) = 0 := by omega
      clear hs
      go_enter Try.func92, Try.ntmps92
      go_wp2
      go_ret
      have hTT : ∀ u, Tch g w (w.setCell ⟨g, 0, none⟩ u) := fun u => (Tch.refl g w).set 0 u
      refine ⟨_, rfl, ?_, ?_, hTT _⟩
      · rw [hE.out]; exact (HS.out.take hnl).tch (hTT _) (.inr (Nat.le_refl _))
      · rw [hE.out]
        refine ⟨_, HB.out.set 0 _, ?_, HOK.out, HLE.out⟩
        rw [hdl.out]
        exact SB.zero _ _ _ _ _ (fun _ => rfl)
    · rcases hs with h0 | ⟨b, o, rfl, hb, hne, hcs⟩
      · have hn0 : n = 0 := by rw [h0] at hnl; simpa using hnl
        subst hn0
        cases a with
        | none => exact absurd (HNC.out rfl) hcn
        | some ad =>
          clear h0
          go_enter Try.func92, Try.ntmps92
          go_wp2
          go_ret
          have hTT : ∀ u, Tch g w (w.setCell ⟨g, 0, none⟩ u) := fun u => (Tch.refl g w).set 0 u
          refine ⟨_, rfl, ?_, ?_, hTT _⟩
          · rw [hE.out]; exact (HS.out.take hnl).tch (hTT _) (.inr (Nat.le_refl _))
          · rw [hE.out]
            refine ⟨_, HB.out.set 0 _, ?_, HOK.out, HLE.out⟩
            exact HS.out.tch (hTT _) (.inr (Nat.le_refl _))
      · clear hcs
        go_enter Try.func92, Try.ntmps92
        go_wp2
        go_ret
        have hTT : ∀ u, Tch g w (w.setCell ⟨g, 0, none⟩ u) := fun u => (Tch.refl g w).set 0 u
        refine ⟨_, rfl, ?_, ?_, hTT _⟩
        · rw [hE.out]; exact (HS.out.take hnl).tch (hTT _) (.inr (Nat.le_refl _))
        · rw [hE.out]
          exact ⟨_, HB.out.set 0 _, (HS.out.drop hnl _ _ rfl rfl).tch (hTT _) (.inr (Nat.le_refl _)), HOK.out, HLE.out⟩

theorem sevens_pos2 (x : Nat) : 0 < (sevens x).length := by
  by_cases h : x < 128
  · rw [sevens_lt h]; simp
  · rw [sevens_ge h]; simp

set_option maxRecDepth 100000 in set_option maxHeartbeats 1600000 in
theorem ruint2_any (g d : Nat) (st : RS) (m : Nat) (w : World) (h : RD w g d st) (hm : m < 18446744073709551616) :
    Calls Try.prog 71 #[.pointer (some ⟨g, 0, none⟩), .int .u64 m] w (RPost g d w (.int .u64 (uintR m st).1) (uintR m st).2) := by
  have H := Hid.mk' h
  obtain ⟨v, hb, ⟨a, cap, rfl, hlc, hnc, hs⟩, hok, hlen⟩ := h
  have hc := hb.cell
  have hf := hb.frozen
  have hlt := hb.lt
  have HB := Hid.mk' hb
  have HS : Hid (SB w g d (.slice a st.l.length cap) st.l) := Hid.mk' ⟨a, cap, rfl, hlc, hnc, hs⟩
  clear hb
  obtain ⟨D, hD⟩ : ∃ D, D = digs st.l 0 0 := ⟨_, rfl⟩
  have HDG := Hid.mk' (fun w h => digits_any g d st w h)
  rw [← hD] at HDG
  have hv64 := digs_lt st.l 0 0 hok.2 (by omega) (by decide)
  have hnl : D.2.1 ≤ st.l.length := by
    obtain ⟨d0, d1, d2⟩ := D
    have := digs_len st.l 0 0 d0 d1 d2 hD.symm
    show d1 ≤ _
    omega
  rw [← hD] at hv64
  obtain ⟨d0, d1, d2⟩ := D
  simp only at *
  by_cases hz : d2 = 0
  · subst hz
    by_cases hgt : m < d0
    · have hE : Hid (uintR m st = (0, giveS st 4)) := Hid.mk' (by unfold uintR; simp only [← hD]; rw [if_neg (by simp), if_pos hgt])
      clear hs hok hlc hnc hD
      go_enter Try.func71, Try.ntmps71
      go_wp2_with (first
        | (go_at_call 93; refine (HDG.out _ H.out).mono ?_; rintro e w1 ⟨rfl, rfl⟩)
        | (go_at_call 67; refine (giveUp_any g d st 4 _ H.out (by decide)).mono ?_; rintro e w2 ⟨rfl, hr, ht⟩; have HR := Hid.mk' hr; have HT := Hid.mk' ht; clear hr ht))
      go_ret
      exact ⟨by rw [hE.out]; rfl, by rw [hE.out]; exact HR.out, HT.out⟩
    · have hE : Hid (uintR m st = (d0, ⟨st.l.drop d1, st.e⟩)) := Hid.mk' (by unfold uintR; simp only [← hD]; rw [if_neg (by simp), if_neg hgt])
      have HOK : Hid ((⟨st.l.drop d1, st.e⟩ : RS).ok) := Hid.mk' (by have := uintR_ok hok m; rw [hE.out] at this; exact this)
      have HLE : Hid ((st.l.drop d1).length ≤ 1000000) := Hid.mk' (by simp; omega)
      have hd1 : 1 ≤ d1 := by
        rcases Nat.eq_zero_or_pos d1 with h0 | h0
        · exfalso
          subst h0
          cases hL : st.l with
          | nil => rw [hL] at hD; simp [digs] at hD
          | cons x L =>
            obtain ⟨y, _, h2, _⟩ := digs_inv st.l 0 0 _ _ hok.2 (by omega) hD.symm
            have := sevens_pos2 y
            omega
        · exact h0
      have hge : d0 ≤ m := by omega
      clear hok hD hgt
      rcases hs with h0 | ⟨b, o, rfl, hb, hne, hcs⟩
      · rw [h0] at hnl; simp at hnl; omega
      clear hcs hnc
      have hTT : ∀ u, Tch g w (w.setCell ⟨g, 0, none⟩ u) := fun u => (Tch.refl g w).set 0 u
      have HTT := Hid.mk' hTT
      clear hTT
      by_cases hcn : cap = d1
      · have hdl : Hid (st.l.drop d1 = []) := Hid.mk' (List.drop_eq_nil_of_le (by omega))
        subst hcn
        go_enter Try.func71, Try.ntmps71
        go_wp2_with (go_at_call 93; refine (HDG.out _ H.out).mono ?_; rintro e w1 ⟨rfl, rfl⟩)
        go_ret
        refine ⟨by rw [hE.out]; rfl, ?_, HTT.out _⟩
        rw [hE.out]
        refine ⟨_, HB.out.set 0 _, ?_, HOK.out, HLE.out⟩
        rw [hdl.out]
        first
          | exact SB.zero _ _ _ _ _ (fun _ => rfl)
          | (rw [show st.l.length - cap = 0 by omega]; exact SB.zero _ _ _ _ _ (fun _ => rfl))
      · go_enter Try.func71, Try.ntmps71
        go_wp2_with (go_at_call 93; refine (HDG.out _ H.out).mono ?_; rintro e w1 ⟨rfl, rfl⟩)
        go_ret
        refine ⟨by rw [hE.out]; rfl, ?_, HTT.out _⟩
        rw [hE.out]
        exact ⟨_, HB.out.set 0 _, (HS.out.drop hnl _ _ rfl rfl).tch (HTT.out _) (.inr (Nat.le_refl _)), HOK.out, HLE.out⟩
  · have hE : Hid (uintR m st = (0, giveS st d2)) := Hid.mk' (by unfold uintR; simp only [← hD]; rw [if_pos hz])
    have hz1 : (d2 == 0) = false := by simpa using hz
    have hz2 : (d2 != 0) = true := by simpa using hz
    have HZ := Hid.mk' hz
    clear hs hok hlc hnc hD hz
    go_enter Try.func71, Try.ntmps71
    go_wp2_with (first
      | (go_at_call 93; refine (HDG.out _ H.out).mono ?_; rintro e w1 ⟨rfl, rfl⟩)
      | (go_at_call 67; refine (giveUp_any g d st d2 _ H.out HZ.out).mono ?_; rintro e w2 ⟨rfl, hr, ht⟩; have HR := Hid.mk' hr; have HT := Hid.mk' ht; clear hr ht))
    go_ret
    exact ⟨by rw [hE.out]; rfl, by rw [hE.out]; exact HR.out, HT.out⟩

end Go.Proofs.Ytmpnopjkpamhaaa
