/-
The walk of CatalogOf.
-/
import Derived.Test.YthdjinicmnhgpaaP7
namespace Go.Proofs.Ythdjinicmnhgpaa
open Go.RowKit

theorem upP_16 (ps : List RR) : (upP ps ps.length).length ≤ 64 ∧ ∀ q ∈ upP ps ps.length, q.r.cols.length ≤ 16 :=
  up_n16 (l := ps.map RR.r) (k := ps.length) (upP_r _ _)

set_option maxRecDepth 100000 in set_option maxHeartbeats 4000000 in
theorem catof_law (ps qs : List RR) (a b : Option Addr) (ca cb : Nat) (w : World) (hl : RL w (.slice a ps.length ca) ps) (hm : RL w (.slice b qs.length cb) qs) (hb : ∀ p ∈ ps, p.r.wb) (hc : ∀ p ∈ qs, p.r.wb) (hlen : ps.length ≤ 9223372036854775807) (hlen2 : qs.length ≤ 9223372036854775807) :
    Calls Try.prog 6 #[.slice a ps.length ca, .slice b qs.length cb] w fun e w' => e = .returned (.bool true) ∧ Ext w w' := by
  have HL := Hid.mk' hl
  have HM := Hid.mk' hm
  have HB := Hid.mk' hb
  have HC := Hid.mk' hc
  clear hl hm hb hc
  by_cases h80 : 80 < ps.length
  · go_enter Try.func6, Try.ntmps6
    go_wp2
    go_ret
    exact ⟨rfl, by (repeat (with_reducible (first | exact Ext.refl _ | assumption | exact held_left (by assumption) | apply Ext.drewN | apply Ext.drew | apply Ext.alloc | (refine Ext.setCell ?_ (by first | (simp; done) | (simp; omega) | omega) _) | (refine Ext.trans ?_ (by assumption)) | (refine Ext.trans ?_ (held_left (by assumption))))))⟩
  by_cases h81 : 80 < qs.length
  · go_enter Try.func6, Try.ntmps6
    go_wp2
    go_ret
    exact ⟨rfl, by (repeat (with_reducible (first | exact Ext.refl _ | assumption | exact held_left (by assumption) | apply Ext.drewN | apply Ext.drew | apply Ext.alloc | (refine Ext.setCell ?_ (by first | (simp; done) | (simp; omega) | omega) _) | (refine Ext.trans ?_ (by assumption)) | (refine Ext.trans ?_ (held_left (by assumption))))))⟩
  have HOA := Hid.mk' (fun W (h : Ext w W) => own9_any ps a ca W (HL.out.ext h) (by omega) HB.out)
  have HOB := Hid.mk' (fun W (h : Ext w W) => own9_any qs b cb W (HM.out.ext h) (by omega) HC.out)
  have HRA := Hid.mk' (fun W (h : Ext w W) => rof_any ps a ca W (HL.out.ext h) HB.out hlen)
  have HRB := Hid.mk' (fun W (h : Ext w W) => rof_any qs b cb W (HM.out.ext h) HC.out hlen2)
  unfold ROfPost at HRA HRB
  obtain ⟨EA, hEA⟩ : ∃ E, E = ofE (ps.map RR.r) := ⟨_, rfl⟩
  obtain ⟨NA, hNA⟩ : ∃ E, E = ofPl (ps.map RR.r) := ⟨_, rfl⟩
  obtain ⟨EB, hEB⟩ : ∃ E, E = ofE (qs.map RR.r) := ⟨_, rfl⟩
  obtain ⟨NB, hNB⟩ : ∃ E, E = ofPl (qs.map RR.r) := ⟨_, rfl⟩
  rw [← hEA, ← hNA] at HRA
  rw [← hEB, ← hNB] at HRB
  have HEA := Hid.mk' hEA
  have HNA := Hid.mk' hNA
  have HEB := Hid.mk' hEB
  have HNB := Hid.mk' hNB
  clear hEA hNA hEB hNB HL HM
  by_cases hA : EA = 0
  · subst hA
    by_cases hB : EB = 0
    · subst hB
      have H16 := Hid.mk' (upP_16 ps)
      have H17 := Hid.mk' (upP_16 qs)
      have H18 : Hid (∀ p ∈ upP qs qs.length, p.r.cols.length ≤ 9223372036854775807) := Hid.mk' (fun p hp => by have := H17.out.2 p hp; omega)
      go_enter Try.func6, Try.ntmps6
      go_upto_region 4 with (first | (go_at_call 13; refine (HOA.out _ (Ext.refl _)).mono ?_; rintro e w2 ⟨a2, c2, qs2, rfl, ho2, hb2⟩; have HB2 := Hid.mk' hb2; have HOF := Hid.mk' (cof_any qs2 a2 c2 w2 (by rw [ho2.len]; exact ho2.rl) ho2.cap (ho2.wb HB.out) (by rw [ho2.len]; omega)); rw [ho2.rs, ho2.len] at HOF; unfold COfPost at HOF; rw [← HEA.out, ← HNA.out] at HOF; clear ho2 hb2) | (go_at_call 14; refine HOF.out.mono ?_; rintro e w3 ⟨pv, rfl, h1, -, hb3⟩; obtain ⟨rfl, cc, qc, hcc, hqc⟩ := h1 trivial; have HCC := Hid.mk' hcc; have HQC := Hid.mk' hqc; have HB3 := Hid.mk' (HB2.out.trans hb3); clear h1 hcc hqc hb3))
      clear HOF HOA
      go_upto_region 7 with (go_at_call 12; refine (HRA.out _ HB3.out).mono ?_; rintro e w4 ⟨aw, cw, n, rfl, h1, -, hb4⟩; have HW := Hid.mk' h1; have HX4 := Hid.mk' hb4; have HB4 := Hid.mk' (HB3.out.trans hb4); clear h1 hb4)
      clear HRA
      obtain ⟨rfl, hw0⟩ := HW.out trivial
      go_upto_region 8 with (first | (go_at_call 13; refine (HOB.out _ HB4.out).mono ?_; rintro e w5 ⟨a5, c5, qs5, rfl, ho5, hb5⟩; have HB5 := Hid.mk' (HB4.out.trans hb5); have HX5 := Hid.mk' hb5; have HOG := Hid.mk' (cof_any qs5 a5 c5 w5 (by rw [ho5.len]; exact ho5.rl) ho5.cap (ho5.wb HC.out) (by rw [ho5.len]; omega)); rw [ho5.rs, ho5.len] at HOG; unfold COfPost at HOG; rw [← HEB.out, ← HNB.out] at HOG; clear ho5 hb5) | (go_at_call 14; refine HOG.out.mono ?_; rintro e w6 ⟨pv, rfl, h1, -, hb6⟩; obtain ⟨rfl, dd, qd, hdd, hqd⟩ := h1 trivial; have HDD := Hid.mk' hdd; have HQD := Hid.mk' hqd; have HB6 := Hid.mk' (HB5.out.trans hb6); have HX6 := Hid.mk' (HX5.out.trans hb6); clear h1 hdd hqd hb6))
      clear HOG HOB
      go_upto_region 13 with (go_at_call 12; refine (HRB.out _ HB6.out).mono ?_; rintro e w7 ⟨av, cv, m, rfl, h1, -, hb7⟩; have HV := Hid.mk' h1; have HX7 := Hid.mk' hb7; have HB7 := Hid.mk' (HB6.out.trans hb7); clear h1 hb7)
      clear HRB
      obtain ⟨rfl, hv0⟩ := HV.out trivial
      have HS := Hid.mk' (csame_any _ _ _ _ cc dd qc qd w7 (HCC.out.ext (HX4.out.trans (HX6.out.trans HX7.out))) (HDD.out.ext HX7.out))
      have HR9 := Hid.mk' (fun W (h : Ext w7 W) => rsame9_any (upP ps ps.length) (upP qs qs.length) aw av cw cv W (hw0.ext (HX6.out.trans (HX7.out.trans h))) (hv0.ext h) (by have := H16.out.1; omega) (fun p hp => by have := H16.out.2 p hp; omega) H18.out)
      rw [HQC.out, HQD.out, List.length_map, List.length_map] at HS
      rw [upP_r, upP_r] at HR9
      obtain ⟨B, hB⟩ : ∃ B, B = rlsB (ofUp (ps.map RR.r) ps.length) (ofUp (qs.map RR.r) qs.length) := ⟨_, rfl⟩
      rw [← hB] at HS HR9
      clear hB hw0 hv0 HW HV HCC HDD HQC HQD
      go_wp2_with (first
        | (go_at_call 32; refine HS.out.mono ?_; rintro e w8 ⟨rfl, hb8⟩; have HB8 := Hid.mk' hb8; clear hb8)
        | (go_at_call 17; refine (HR9.out _ HB8.out).mono ?_; rintro e w9 ⟨rfl, hb9⟩; have HB9 := Hid.mk' (HB8.out.trans hb9); clear hb9)
        | (go_at_call 18; refine (awake9_any _).mono ?_; rintro e w10 ⟨rfl, hb10⟩; have HB10 := Hid.mk' hb10; clear hb10))
      go_ret
      exact ⟨rfl, HB7.out.trans (HB9.out.trans HB10.out)⟩
    · have hB1 : (EB == 0) = false := by simpa using hB
      have HZB := Hid.mk' hB
      clear hB
      go_enter Try.func6, Try.ntmps6
      go_upto_region 4 with (first | (go_at_call 13; refine (HOA.out _ (Ext.refl _)).mono ?_; rintro e w2 ⟨a2, c2, qs2, rfl, ho2, hb2⟩; have HB2 := Hid.mk' hb2; have HOF := Hid.mk' (cof_any qs2 a2 c2 w2 (by rw [ho2.len]; exact ho2.rl) ho2.cap (ho2.wb HB.out) (by rw [ho2.len]; omega)); rw [ho2.rs, ho2.len] at HOF; unfold COfPost at HOF; rw [← HEA.out, ← HNA.out] at HOF; clear ho2 hb2) | (go_at_call 14; refine HOF.out.mono ?_; rintro e w3 ⟨pv, rfl, h1, -, hb3⟩; obtain ⟨rfl, cc, qc, hcc, hqc⟩ := h1 trivial; have HCC := Hid.mk' hcc; have HQC := Hid.mk' hqc; have HB3 := Hid.mk' (HB2.out.trans hb3); clear h1 hcc hqc hb3))
      clear HOF HOA
      go_upto_region 7 with (go_at_call 12; refine (HRA.out _ HB3.out).mono ?_; rintro e w4 ⟨aw, cw, n, rfl, h1, -, hb4⟩; have HW := Hid.mk' h1; have HX4 := Hid.mk' hb4; have HB4 := Hid.mk' (HB3.out.trans hb4); clear h1 hb4)
      clear HRA
      go_upto_region 8 with (first | (go_at_call 13; refine (HOB.out _ HB4.out).mono ?_; rintro e w5 ⟨a5, c5, qs5, rfl, ho5, hb5⟩; have HB5 := Hid.mk' (HB4.out.trans hb5); have HX5 := Hid.mk' hb5; have HOG := Hid.mk' (cof_any qs5 a5 c5 w5 (by rw [ho5.len]; exact ho5.rl) ho5.cap (ho5.wb HC.out) (by rw [ho5.len]; omega)); rw [ho5.rs, ho5.len] at HOG; unfold COfPost at HOG; rw [← HEB.out, ← HNB.out] at HOG; clear ho5 hb5) | (go_at_call 14; refine HOG.out.mono ?_; rintro e w6 ⟨pv, rfl, -, h1, hb6⟩; obtain rfl := h1 HZB.out; have HB6 := Hid.mk' (HB5.out.trans hb6); clear h1 hb6))
      clear HOG HOB
      go_wp2_with (first | (go_at_call 12; refine (HRB.out _ HB6.out).mono ?_; rintro e w7 ⟨av, cv, m, rfl, h1, -, hb7⟩; have HV := Hid.mk' h1; have HX7 := Hid.mk' hb7; have HB7 := Hid.mk' (HB6.out.trans hb7); clear h1 hb7) | (go_at_call 18; refine (awake9_any _).mono ?_; rintro e w10 ⟨rfl, hb10⟩; have HB10 := Hid.mk' hb10; clear hb10))
      go_ret
      exact ⟨rfl, HB7.out.trans HB10.out⟩
  · have hA1 : (EA == 0) = false := by simpa using hA
    have HZA := Hid.mk' hA
    clear hA
    by_cases hB : EB = 0
    · subst hB
      go_enter Try.func6, Try.ntmps6
      go_upto_region 4 with (first | (go_at_call 13; refine (HOA.out _ (Ext.refl _)).mono ?_; rintro e w2 ⟨a2, c2, qs2, rfl, ho2, hb2⟩; have HB2 := Hid.mk' hb2; have HOF := Hid.mk' (cof_any qs2 a2 c2 w2 (by rw [ho2.len]; exact ho2.rl) ho2.cap (ho2.wb HB.out) (by rw [ho2.len]; omega)); rw [ho2.rs, ho2.len] at HOF; unfold COfPost at HOF; rw [← HEA.out, ← HNA.out] at HOF; clear ho2 hb2) | (go_at_call 14; refine HOF.out.mono ?_; rintro e w3 ⟨pv, rfl, -, h1, hb3⟩; obtain rfl := h1 HZA.out; have HB3 := Hid.mk' (HB2.out.trans hb3); clear h1 hb3))
      clear HOF HOA
      go_upto_region 7 with (go_at_call 12; refine (HRA.out _ HB3.out).mono ?_; rintro e w4 ⟨aw, cw, n, rfl, h1, -, hb4⟩; have HW := Hid.mk' h1; have HX4 := Hid.mk' hb4; have HB4 := Hid.mk' (HB3.out.trans hb4); clear h1 hb4)
      clear HRA
      go_upto_region 8 with (first | (go_at_call 13; refine (HOB.out _ HB4.out).mono ?_; rintro e w5 ⟨a5, c5, qs5, rfl, ho5, hb5⟩; have HB5 := Hid.mk' (HB4.out.trans hb5); have HX5 := Hid.mk' hb5; have HOG := Hid.mk' (cof_any qs5 a5 c5 w5 (by rw [ho5.len]; exact ho5.rl) ho5.cap (ho5.wb HC.out) (by rw [ho5.len]; omega)); rw [ho5.rs, ho5.len] at HOG; unfold COfPost at HOG; rw [← HEB.out, ← HNB.out] at HOG; clear ho5 hb5) | (go_at_call 14; refine HOG.out.mono ?_; rintro e w6 ⟨pv, rfl, h1, -, hb6⟩; obtain ⟨rfl, dd, qd, hdd, hqd⟩ := h1 trivial; have HDD := Hid.mk' hdd; have HQD := Hid.mk' hqd; have HB6 := Hid.mk' (HB5.out.trans hb6); have HX6 := Hid.mk' (HX5.out.trans hb6); clear h1 hdd hqd hb6))
      clear HOG HOB
      go_wp2_with (first | (go_at_call 12; refine (HRB.out _ HB6.out).mono ?_; rintro e w7 ⟨av, cv, m, rfl, h1, -, hb7⟩; have HV := Hid.mk' h1; have HX7 := Hid.mk' hb7; have HB7 := Hid.mk' (HB6.out.trans hb7); clear h1 hb7) | (go_at_call 18; refine (awake9_any _).mono ?_; rintro e w10 ⟨rfl, hb10⟩; have HB10 := Hid.mk' hb10; clear hb10))
      go_ret
      exact ⟨rfl, HB7.out.trans HB10.out⟩
    · have hB1 : (EB == 0) = false := by simpa using hB
      have HZB := Hid.mk' hB
      clear hB
      go_enter Try.func6, Try.ntmps6
      go_upto_region 4 with (first | (go_at_call 13; refine (HOA.out _ (Ext.refl _)).mono ?_; rintro e w2 ⟨a2, c2, qs2, rfl, ho2, hb2⟩; have HB2 := Hid.mk' hb2; have HOF := Hid.mk' (cof_any qs2 a2 c2 w2 (by rw [ho2.len]; exact ho2.rl) ho2.cap (ho2.wb HB.out) (by rw [ho2.len]; omega)); rw [ho2.rs, ho2.len] at HOF; unfold COfPost at HOF; rw [← HEA.out, ← HNA.out] at HOF; clear ho2 hb2) | (go_at_call 14; refine HOF.out.mono ?_; rintro e w3 ⟨pv, rfl, -, h1, hb3⟩; obtain rfl := h1 HZA.out; have HB3 := Hid.mk' (HB2.out.trans hb3); clear h1 hb3))
      clear HOF HOA
      go_upto_region 7 with (go_at_call 12; refine (HRA.out _ HB3.out).mono ?_; rintro e w4 ⟨aw, cw, n, rfl, h1, -, hb4⟩; have HW := Hid.mk' h1; have HX4 := Hid.mk' hb4; have HB4 := Hid.mk' (HB3.out.trans hb4); clear h1 hb4)
      clear HRA
      go_upto_region 8 with (first | (go_at_call 13; refine (HOB.out _ HB4.out).mono ?_; rintro e w5 ⟨a5, c5, qs5, rfl, ho5, hb5⟩; have HB5 := Hid.mk' (HB4.out.trans hb5); have HX5 := Hid.mk' hb5; have HOG := Hid.mk' (cof_any qs5 a5 c5 w5 (by rw [ho5.len]; exact ho5.rl) ho5.cap (ho5.wb HC.out) (by rw [ho5.len]; omega)); rw [ho5.rs, ho5.len] at HOG; unfold COfPost at HOG; rw [← HEB.out, ← HNB.out] at HOG; clear ho5 hb5) | (go_at_call 14; refine HOG.out.mono ?_; rintro e w6 ⟨pv, rfl, -, h1, hb6⟩; obtain rfl := h1 HZB.out; have HB6 := Hid.mk' (HB5.out.trans hb6); clear h1 hb6))
      clear HOG HOB
      go_wp2_with (first | (go_at_call 12; refine (HRB.out _ HB6.out).mono ?_; rintro e w7 ⟨av, cv, m, rfl, h1, -, hb7⟩; have HV := Hid.mk' h1; have HX7 := Hid.mk' hb7; have HB7 := Hid.mk' (HB6.out.trans hb7); clear h1 hb7) | (go_at_call 18; refine (awake9_any _).mono ?_; rintro e w10 ⟨rfl, hb10⟩; have HB10 := Hid.mk' hb10; clear hb10))
      go_ret
      exact ⟨rfl, HB7.out.trans HB10.out⟩

end Go.Proofs.Ythdjinicmnhgpaa
