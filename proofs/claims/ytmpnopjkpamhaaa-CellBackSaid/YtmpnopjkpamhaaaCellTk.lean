/-
The program's cell: large and first.
-/
import Derived.Test.YtmpnopjkpamhaaaCell
import Derived.Test.YtmpnopjkpamhaaaFive
namespace Go.Proofs.Ytmpnopjkpamhaaa
open Go.RowKit

set_option maxRecDepth 100000 in set_option maxHeartbeats 1600000 in
theorem clr_any (g d : Nat) (st : RS) (w : World) (h : RD w g d st) :
    Calls Try.prog 69 #[.pointer (some ⟨g, 0, none⟩)] w (RPost g d w (.int .i64 (largeR st).1) (largeR st).2) := by
  have H := Hid.mk' h
  have HU := Hid.mk' (fun w h => ruint2_any g d st 2048 w h (by omega))
  have hle := uintR_le (st := st) 2048
  unfold largeR
  simp only
  generalize uintR 2048 st = U at *
  obtain ⟨n, st1⟩ := U
  simp only at *
  clear h
  by_cases h64 : n ≤ 64
  · rw [if_pos h64]
    have HF := Hid.mk' (fun w h => fail_any g d st1 4 w h)
    go_enter Try.func69, Try.ntmps69
    go_wp2_with (first
      | (go_at_call 71; refine (HU.out _ H.out).mono ?_; rintro e w1 ⟨rfl, hr, ht⟩; have HR := Hid.mk' hr; have HT := Hid.mk' ht; clear hr ht)
      | (go_at_call 41; refine (HF.out _ HR.out).mono ?_; rintro e w2 ⟨rfl, hr, ht⟩; have HR2 := Hid.mk' hr; have HT2 := Hid.mk' ht; clear hr ht))
    go_ret
    exact ⟨rfl, HR2.out, HT.out.trans HT2.out⟩
  · rw [if_neg h64]
    have h64' : 64 < n := by omega
    clear h64
    go_enter Try.func69, Try.ntmps69
    go_wp2_with (first
      | (go_at_call 71; refine (HU.out _ H.out).mono ?_; rintro e w1 ⟨rfl, hr, ht⟩; have HR := Hid.mk' hr; have HT := Hid.mk' ht; clear hr ht))
    go_ret
    exact ⟨rfl, HR.out, HT.out⟩

set_option maxRecDepth 100000 in set_option maxHeartbeats 1600000 in
theorem first_same (g d : Nat) (st : RS) (kind : Int) (w : World) (h : RD w g d st) (S : RS) (hb : byteR st = (0, S)) (he : S.e = 0) (hk : kind = 5 ∨ kind = 6) :
    Calls Try.prog 42 #[.pointer (some ⟨g, 0, none⟩), .int .u8 kind] w (CTPost g d w (firstC kind st)) := by
  have H := Hid.mk' h
  have hg := h.lt
  have HB := Hid.mk' (fun w h => rbyte_any g d st w h)
  rw [hb] at HB
  have HER := Hid.mk' (fun w h => rerr_any g d S w h)
  rw [he] at HER
  have HX := Hid.mk' (fun w => texty_yes kind w hk)
  have HO : Hid (firstC kind st = ((⟨1, V.zero⟩, 0), S)) := Hid.mk' (by unfold firstC; rw [hb]; simp only; rw [if_neg (by simpa using he), if_neg (by omega)]; exact if_pos trivial)
  have hB0 := Blk.new w #[.int .u8 0, .int .u8 0, .int .i64 0, .complex .f64 0 0, .string ByteArray.empty] 37
  clear h hb he hk
  go_enter Try.func42, Try.ntmps42
  go_wp2_with (first
    | (go_at_call 68; refine (HB.out _ (H.out.ext (by (repeat (with_reducible (first | exact Ext.refl _ | assumption | exact held_left (by assumption) | apply Ext.drewN | apply Ext.drew | apply Ext.alloc | (refine Ext.setCell ?_ (by first | (simp; done) | (simp; omega) | omega) _) | (refine Ext.trans ?_ (by assumption)) | (refine Ext.trans ?_ (held_left (by assumption))))))))).mono ?_; rintro e w1 ⟨rfl, hr1, ht1⟩; have HR1 := Hid.mk' hr1; have hT1 := hB0.tch ht1 (by omega); have k1 := hT1.cell; have f1 := hT1.frozen; have z1 := hT1.lt; have HT1 : Hid (Tch g w w1) := Hid.mk' (((Tch.refl g w).alloc _).trans ht1); have HB1 := Hid.mk' hT1; clear hr1 ht1 hT1)
    | (go_at_call 22; refine (HER.out _ HR1.out).mono ?_; rintro e w9 ⟨rfl, rfl⟩)
    | (go_at_call 28; refine (HX.out _).mono ?_; rintro e w8 ⟨rfl, rfl⟩))
  refine bodyPost_ret (v := .tuple #[(⟨1, V.zero⟩ : K).agg, .int .i64 (0 : Nat)]) (res_first (Blk.five HB1.out) rfl rfl) rfl ?_
  exact CTPost.mk' ⟨1, V.zero⟩ 0 (by rw [HO.out]) (fun _ => by rw [HO.out]) (RD.five HR1.out hg) (Tch.five HT1.out (Nat.le_refl _))

set_option maxRecDepth 100000 in set_option maxHeartbeats 1600000 in
theorem first_large (g d : Nat) (st : RS) (kind : Int) (w : World) (h : RD w g d st) (S : RS) (hb : byteR st = (2, S)) (he : S.e = 0) (hk : kind = 5 ∨ kind = 6) :
    Calls Try.prog 42 #[.pointer (some ⟨g, 0, none⟩), .int .u8 kind] w (CTPost g d w (firstC kind st)) := by
  have H := Hid.mk' h
  have hg := h.lt
  have HB := Hid.mk' (fun w h => rbyte_any g d st w h)
  rw [hb] at HB
  have HER := Hid.mk' (fun w h => rerr_any g d S w h)
  rw [he] at HER
  have HX := Hid.mk' (fun w => texty_yes kind w hk)
  have HL := Hid.mk' (fun w h => clr_any g d S w h)
  have HO : Hid (firstC kind st = ((fullT kind, (largeR S).1), (largeR S).2)) := Hid.mk' (by unfold firstC; rw [hb]; simp only; rw [if_neg (by simpa using he), if_neg (by omega), if_neg (by decide)]; exact if_pos trivial)
  have hB0 := Blk.new w #[.int .u8 0, .int .u8 0, .int .i64 0, .complex .f64 0 0, .string ByteArray.empty] 37
  generalize largeR S = U at *
  obtain ⟨m, S2⟩ := U
  simp only at HL HO
  clear h hb he hk
  go_enter Try.func42, Try.ntmps42
  go_wp2_with (first
    | (go_at_call 68; refine (HB.out _ (H.out.ext (by (repeat (with_reducible (first | exact Ext.refl _ | assumption | exact held_left (by assumption) | apply Ext.drewN | apply Ext.drew | apply Ext.alloc | (refine Ext.setCell ?_ (by first | (simp; done) | (simp; omega) | omega) _) | (refine Ext.trans ?_ (by assumption)) | (refine Ext.trans ?_ (held_left (by assumption))))))))).mono ?_; rintro e w1 ⟨rfl, hr1, ht1⟩; have HR1 := Hid.mk' hr1; have hT1 := hB0.tch ht1 (by omega); have k1 := hT1.cell; have f1 := hT1.frozen; have z1 := hT1.lt; have HT1 : Hid (Tch g w w1) := Hid.mk' (((Tch.refl g w).alloc _).trans ht1); have HB1 := Hid.mk' hT1; clear hr1 ht1 hT1)
    | (go_at_call 22; refine (HER.out _ HR1.out).mono ?_; rintro e w9 ⟨rfl, rfl⟩)
    | (go_at_call 28; refine (HX.out _).mono ?_; rintro e w8 ⟨rfl, rfl⟩)
    | (go_at_call 18; refine (cof_any kind 0 0 0 ByteArray.empty _).mono ?_; rintro e w7 ⟨rfl, hb7⟩; have hT7 := HB1.out.ext hb7; have HB7 := Hid.mk' hT7; have HR7 := Hid.mk' (HR1.out.ext hb7); have HT7 : Hid (Tch g w w7) := Hid.mk' (HT1.out.trans (Tch.of_ext hb7)); clear hT7)
    | (go_at_call 69; refine (HL.out _ HR7.out).mono ?_; rintro e w2 ⟨rfl, hr2, ht2⟩; have HR2 := Hid.mk' hr2; have hT2 := HB7.out.tch ht2 (by omega); have k2 := hT2.cell; have f2 := hT2.frozen; have z2 := hT2.lt; have HT2 : Hid (Tch g w w2) := Hid.mk' (HT7.out.trans ht2); have HB2 := Hid.mk' hT2; clear hr2 ht2 hT2))
  refine bodyPost_ret (v := .tuple #[(fullT kind).agg, .int .i64 (m : Nat)]) (res_first (Blk.five HB2.out) rfl rfl) rfl ?_
  exact CTPost.mk' (fullT kind) m (by rw [HO.out]) (fun _ => by rw [HO.out]) (RD.five HR2.out hg) (Tch.five HT2.out (Nat.le_refl _))

set_option maxRecDepth 100000 in set_option maxHeartbeats 1600000 in
theorem first_rest (g d : Nat) (st : RS) (kind : Int) (w : World) (h : RD w g d st) (t : Int) (S T : RS) (hb : byteR st = (t, S)) (hk0 : 0 ≤ kind) (hk1 : kind < 256)
    (hc : (S.e ≠ 0 ∧ T = S) ∨ (S.e = 0 ∧ (2 < t ∨ (t ≠ 1 ∧ kind ≠ 5 ∧ kind ≠ 6)) ∧ T = giveS S 7) ∨ (S.e = 0 ∧ t = 1 ∧ T = S))
    (h2 : (firstC kind st).2 = (tailC kind T).2) (h1 : (firstC kind st).2.e = 0 → (firstC kind st).1 = (tailC kind T).1) :
    Calls Try.prog 42 #[.pointer (some ⟨g, 0, none⟩), .int .u8 kind] w (CTPost g d w (firstC kind st)) := by
  have H := Hid.mk' h
  have hg := h.lt
  have HB := Hid.mk' (fun w h => rbyte_any g d st w h)
  rw [hb] at HB
  have HER := Hid.mk' (fun w h => rerr_any g d S w h)
  have HF := Hid.mk' (fun w h => fail_any g d S 7 w h)
  have hB0 := Blk.new w #[.int .u8 0, .int .u8 0, .int .i64 0, .complex .f64 0 0, .string ByteArray.empty] 37
  have HC := Hid.mk' hc
  have H2 := Hid.mk' h2
  have H1 := Hid.mk' h1
  clear h hb hc h1 h2
  go_enter Try.func42, Try.ntmps42
  go_upto_block 0 with (first | (go_at_call 68; refine (HB.out _ (H.out.ext (by (repeat (with_reducible (first | exact Ext.refl _ | assumption | exact held_left (by assumption) | apply Ext.drewN | apply Ext.drew | apply Ext.alloc | (refine Ext.setCell ?_ (by first | (simp; done) | (simp; omega) | omega) _) | (refine Ext.trans ?_ (by assumption)) | (refine Ext.trans ?_ (held_left (by assumption))))))))).mono ?_; rintro e w1 ⟨rfl, hr1, ht1⟩; have HR1 := Hid.mk' hr1; have hT1 := hB0.tch ht1 (by omega); have k1 := hT1.cell; have f1 := hT1.frozen; have z1 := hT1.lt; have HT1 : Hid (Tch g w w1) := Hid.mk' (((Tch.refl g w).alloc _).trans ht1); have HB1 := Hid.mk' hT1; clear hr1 ht1 hT1))
  clear k1 f1 z1
  go_cut [] (fun wx => Hid (RD wx g d T) ∧ Hid (Tch g w wx) ∧ Hid (Blk wx w.heap.size #[.int .u8 0, .int .u8 0, .int .i64 0, .complex .f64 0 0, .string ByteArray.empty] 37))
  case first =>
    as_aux_lemma =>
      rcases HC.out with ⟨he, rfl⟩ | ⟨he, ht, rfl⟩ | ⟨he, rfl, rfl⟩
      · have he2 : (T.e != 0) = true := by simpa using he
        clear he
        go_wp2_with (go_at_call 22; refine (HER.out _ HR1.out).mono ?_; rintro e w9 ⟨rfl, rfl⟩)
        go_meet
        case rel => exact ⟨HR1, HT1, HB1⟩
      · rw [he] at HER
        have hf : failS S 7 = giveS S 7 := by unfold failS; rw [if_pos (by decide)]
        rw [hf] at HF
        clear hf he
        by_cases h3 : 2 < t
        · clear ht
          go_wp2_with (first
            | (go_at_call 22; refine (HER.out _ HR1.out).mono ?_; rintro e w9 ⟨rfl, rfl⟩)
            | (go_at_call 41; refine (HF.out _ HR1.out).mono ?_; rintro e w2 ⟨rfl, hr2, ht2⟩; have HR2 := Hid.mk' hr2; have HT2 := Hid.mk' (HT1.out.trans ht2); have HB2 := Hid.mk' (HB1.out.tch ht2 (by omega)); clear hr2 ht2))
          go_meet
          case rel => exact ⟨HR2, HT2, HB2⟩
        · have ht2 := ht.resolve_left h3
          have htn : (t != 1) = true := by simpa using ht2.1
          have HX := Hid.mk' (fun w => texty_no kind w ht2.2)
          have h3' : t ≤ 2 := by omega
          clear ht ht2 h3
          go_wp2_with (first
            | (go_at_call 22; refine (HER.out _ HR1.out).mono ?_; rintro e w9 ⟨rfl, rfl⟩)
            | (go_at_call 28; refine (HX.out _).mono ?_; rintro e w8 ⟨rfl, rfl⟩)
            | (go_at_call 41; refine (HF.out _ HR1.out).mono ?_; rintro e w2 ⟨rfl, hr2, ht2⟩; have HR2 := Hid.mk' hr2; have HT2 := Hid.mk' (HT1.out.trans ht2); have HB2 := Hid.mk' (HB1.out.tch ht2 (by omega)); clear hr2 ht2))
          go_meet
          case rel => exact ⟨HR2, HT2, HB2⟩
      · rw [he] at HER
        clear he
        go_wp2_with (go_at_call 22; refine (HER.out _ HR1.out).mono ?_; rintro e w9 ⟨rfl, rfl⟩)
        go_meet
        case rel => exact ⟨HR1, HT1, HB1⟩
  case rest =>
    clear HC HER HF HB HR1 HT1 HB1 hB0 H
    obtain ⟨HR1, HT1, HB1⟩ := hcut
    have hok : T.ok := by obtain ⟨_, _, _, hok, _⟩ := HR1.out; exact hok
    have hlen : T.l.length ≤ 1000000 := by obtain ⟨_, _, _, _, hlen⟩ := HR1.out; exact hlen
    by_cases hk : kind = 5 ∨ kind = 6
    · have hto : tailC kind T = textK kind (textR 64 T) := by unfold tailC; rw [if_pos hk]
      have HX := Hid.mk' (fun w => texty_yes kind w hk)
      have HTX := Hid.mk' (fun w h => rtxt_any g d T 64 w h (by decide) (by decide))
      have hsz := textR_len (st := T) 64 hlen
      rw [hto] at H2 H1
      generalize textR 64 T = U at *
      obtain ⟨L, S2⟩ := U
      simp only at HTX hsz
      have hss : (strOfNums L).size ≤ 1000000 := by rw [strOfNums_size]; exact hsz
      generalize hstr : strOfNums L = str at *
      unfold textK at H2 H1
      rw [hstr] at H2 H1
      simp only at H2 H1
      have HVR := Hid.mk' (fun w => vright_any kind 0 0 0 str w (by omega))
      generalize rightV kind 0 ((0 : Nat) : Int) ((0 : Nat) : Int) str = R at *
      have HF := Hid.mk' (fun w h => fail_any g d S2 R w h)
      generalize failS S2 R = S3 at *
      clear hto hok hlen hsz hstr hk
      go_wp2_with (first
        | (go_at_call 28; refine (HX.out _).mono ?_; rintro e w8 ⟨rfl, rfl⟩)
        | (go_at_call 70; refine (HTX.out _ HR1.out).mono ?_; rintro e w2 ⟨rfl, hr2, ht2⟩; have hB2 := HB1.out.tch ht2 (by omega); have hz2 := hB2.lt; have HR2 := Hid.mk' (hr2.ext ((Ext.refl w2).alloc (.cells #[.int .u8 kind, .int .i64 0, .complex .f64 0 0, .string str] 35))); have HT2 : Hid (Tch g w (w2.alloc (.cells #[.int .u8 kind, .int .i64 0, .complex .f64 0 0, .string str] 35))) := Hid.mk' ((HT1.out.trans ht2).alloc _); have HB2 := Hid.mk' (hB2.alloc (.cells #[.int .u8 kind, .int .i64 0, .complex .f64 0 0, .string str] 35)); have HV2 := Hid.mk' (Blk.new w2 #[.int .u8 kind, .int .i64 0, .complex .f64 0 0, .string str] 35); have hg2 := hr2.lt; clear hr2 ht2 hB2)
        | (go_at_call 39; refine (HVR.out _).mono ?_; rintro e w3 ⟨rfl, hb3⟩; have HR3 := Hid.mk' (HR2.out.ext hb3); have HT3 := Hid.mk' (HT2.out.trans (Tch.of_ext hb3)); have HB3 := Hid.mk' (HB2.out.ext hb3); have HV3 := Hid.mk' (HV2.out.ext hb3); clear hb3)
        | (go_at_call 41; refine (HF.out _ HR3.out).mono ?_; rintro e w4 ⟨rfl, hr4, ht4⟩; have HR4 := Hid.mk' hr4; have HT4 := Hid.mk' (HT3.out.trans ht4); have HB4 := Hid.mk' (HB3.out.tch ht4 (by omega)); have hv4 := HV3.out.tch ht4 (by omega); have kv4 := hv4.cell; clear hr4 ht4 hv4)
        | (go_at_call 18; refine (cof_any kind 0 0 0 str _).mono ?_; rintro e w7 ⟨rfl, hb7⟩; have hT7 := HB4.out.ext hb7; have k7 := hT7.cell; have f7 := hT7.frozen; have z7 := hT7.lt; have HB7 := Hid.mk' hT7; have HR7 := Hid.mk' (HR4.out.ext hb7); have HT7 : Hid (Tch g w w7) := Hid.mk' (HT4.out.trans (Tch.of_ext hb7)); clear hT7))
      refine bodyPost_ret (v := .tuple #[(⟨2, ⟨kind, 0, 0, 0, str⟩⟩ : K).agg, .int .i64 (0 : Nat)]) (res_first (Blk.five HB7.out) rfl rfl) rfl ?_
      exact CTPost.mk' ⟨2, ⟨kind, 0, 0, 0, str⟩⟩ 0 H2.out (fun he => (H1.out he).symm) (RD.five HR7.out hg) (Tch.five HT7.out (Nat.le_refl _))
    · have hto : tailC kind T = ((⟨2, (takeV kind 1 T).1⟩, 0), (takeV kind 1 T).2) := by unfold tailC; rw [if_neg hk]
      have HX := Hid.mk' (fun w => texty_no kind w (by omega))
      have HV := Hid.mk' (fun w h => vtake_any g d T kind 1 w h hk0 hk1)
      rw [hto] at H2 H1
      generalize takeV kind 1 T = U at *
      obtain ⟨⟨ty, n, x, y, s⟩, S2⟩ := U
      simp only at HV H2 H1
      clear hto hok hlen hk
      go_wp2_with (first
        | (go_at_call 28; refine (HX.out _).mono ?_; rintro e w8 ⟨rfl, rfl⟩)
        | (go_at_call 44; refine (HV.out _ HR1.out).mono ?_; rintro e w2 ⟨rfl, hr2, ht2⟩; have HR2 := Hid.mk' hr2; have HT2 := Hid.mk' (HT1.out.trans ht2); have HB2 := Hid.mk' (HB1.out.tch ht2 (by omega)); clear hr2 ht2)
        | (go_at_call 18; refine (cof_any _ _ _ _ _ _).mono ?_; rintro e w7 ⟨rfl, hb7⟩; have hT7 := HB2.out.ext hb7; have k7 := hT7.cell; have f7 := hT7.frozen; have z7 := hT7.lt; have HB7 := Hid.mk' hT7; have HR7 := Hid.mk' (HR2.out.ext hb7); have HT7 : Hid (Tch g w w7) := Hid.mk' (HT2.out.trans (Tch.of_ext hb7)); clear hT7))
      refine bodyPost_ret (v := .tuple #[(⟨2, ⟨ty, n, x, y, s⟩⟩ : K).agg, .int .i64 (0 : Nat)]) (res_first (Blk.five HB7.out) rfl rfl) rfl ?_
      exact CTPost.mk' ⟨2, ⟨ty, n, x, y, s⟩⟩ 0 H2.out (fun he => (H1.out he).symm) (RD.five HR7.out hg) (Tch.five HT7.out (Nat.le_refl _))

/-- The program's first cell. -/
theorem first_any (g d : Nat) (st : RS) (kind : Int) (w : World) (h : RD w g d st) (hk0 : 0 ≤ kind) (hk1 : kind < 256) :
    Calls Try.prog 42 #[.pointer (some ⟨g, 0, none⟩), .int .u8 kind] w (CTPost g d w (firstC kind st)) := by
  have hok : st.ok := by obtain ⟨_, _, _, hok, _⟩ := h; exact hok
  obtain ⟨t, S, hb⟩ : ∃ t S, byteR st = (t, S) := ⟨_, _, rfl⟩
  have hSok : S.ok := by have := byteR_ok hok; rw [hb] at this; exact this
  have htr := byteR_rng hok
  rw [hb] at htr
  simp only at htr
  by_cases he : S.e = 0
  · by_cases hbad : 2 < t ∨ (t ≠ 1 ∧ kind ≠ 5 ∧ kind ≠ 6)
    · obtain ⟨e, he2, hg⟩ := giveS_nil (x := 7) (by decide) hSok
      have hF : firstC kind st = ((K.zero, 0), giveS S 7) := by unfold firstC; rw [hb]; simp only; rw [if_neg (by simpa using he), if_pos hbad]
      refine first_rest g d st kind w h t S (giveS S 7) hb hk0 hk1 (.inr (.inl ⟨he, hbad, rfl⟩)) ?_ ?_
      · rw [hF, hg, tailC_gave he2]
      · intro h0; rw [hF, hg] at h0; exact absurd h0 he2
    · have hF : firstC kind st = if t = 0 then ((⟨1, V.zero⟩, 0), S) else if t = 2 then ((fullT kind, (largeR S).1), (largeR S).2) else tailC kind S := by
        unfold firstC tailC; rw [hb]; simp only; rw [if_neg (by simpa using he), if_neg hbad]
      by_cases h0 : t = 0
      · subst h0
        exact first_same g d st kind w h S hb he (by omega)
      · by_cases h2 : t = 2
        · subst h2
          exact first_large g d st kind w h S hb he (by omega)
        · have h1 : t = 1 := by omega
          rw [if_neg h0, if_neg h2] at hF
          refine first_rest g d st kind w h t S S hb hk0 hk1 (.inr (.inr ⟨he, h1, rfl⟩)) (by rw [hF]) (fun _ => by rw [hF])
  · have hF : firstC kind st = ((K.zero, 0), S) := by unfold firstC; rw [hb]; simp only; rw [if_pos he]
    refine first_rest g d st kind w h t S S hb hk0 hk1 (.inl ⟨he, rfl⟩) ?_ ?_
    · rw [hF, gave_form hSok he, tailC_gave he]
    · intro h0; rw [hF] at h0; exact absurd h0 he

end Go.Proofs.Ytmpnopjkpamhaaa
