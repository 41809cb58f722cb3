/-
The program's cell: second.
-/
import Derived.Test.YtmpnopjkpamhaaaCellTk
import Derived.Deep.RegionLaw
namespace Go.Proofs.Ytmpnopjkpamhaaa
open Go.RowKit

theorem uintR_zero {m : Nat} {st S : RS} {n : Nat} (hok : st.ok) (h : uintR m st = (n, S)) (he : S.e ≠ 0) : n = 0 := by
  by_cases h0 : st.e = 0
  · unfold uintR at h
    simp only at h
    split at h
    · exact (Prod.ext_iff.1 h).1.symm
    · split at h
      · exact (Prod.ext_iff.1 h).1.symm
      · have := congrArg (fun z => z.2.e) h
        simp only at this
        exact absurd (this.symm.trans h0) he
  · rw [gave_form hok h0, uintR_gave h0] at h
    exact (Prod.ext_iff.1 h).1.symm

set_option maxRecDepth 100000 in set_option maxHeartbeats 1600000 in
theorem second_same (g d : Nat) (st : RS) (kind : Int) (w : World) (h : RD w g d st) (S : RS) (hb : uintR 66 st = (0, S)) (he : S.e = 0) :
    Calls Try.prog 43 #[.pointer (some ⟨g, 0, none⟩), .int .u8 kind] w (CTPost g d w (secondC kind st)) := by
  have H := Hid.mk' h
  have hg := h.lt
  have HB := Hid.mk' (fun w h => ruint2_any g d st 66 w h (by omega))
  rw [hb] at HB
  have HER := Hid.mk' (fun w h => rerr_any g d S w h)
  rw [he] at HER
  have HO : Hid (secondC kind st = ((⟨1, V.zero⟩, 0), S)) := Hid.mk' (by unfold secondC; rw [hb]; simp only; rw [if_neg (by simpa using he)]; exact if_pos trivial)
  have hB0 := Blk.new w #[.int .u8 0, .int .u8 0, .int .i64 0, .complex .f64 0 0, .string ByteArray.empty] 37
  clear h hb he
  go_enter Try.func43, Try.ntmps43
  go_wp2_with (first
    | (go_at_call 71; refine (HB.out _ (H.out.ext (by (repeat (with_reducible (first | exact Ext.refl _ | assumption | exact held_left (by assumption) | apply Ext.drewN | apply Ext.drew | apply Ext.alloc | (refine Ext.setCell ?_ (by first | (simp; done) | (simp; omega) | omega) _) | (refine Ext.trans ?_ (by assumption)) | (refine Ext.trans ?_ (held_left (by assumption))))))))).mono ?_; rintro e w1 ⟨rfl, hr1, ht1⟩; have HR1 := Hid.mk' hr1; have hT1 := hB0.tch ht1 (by omega); have k1 := hT1.cell; have f1 := hT1.frozen; have z1 := hT1.lt; have HT1 : Hid (Tch g w w1) := Hid.mk' (((Tch.refl g w).alloc _).trans ht1); have HB1 := Hid.mk' hT1; have hg1 := hr1.lt; clear hr1 ht1 hT1)
    | (go_at_call 22; refine (HER.out _ HR1.out).mono ?_; rintro e w9 ⟨rfl, rfl⟩))
  refine bodyPost_ret (v := .tuple #[(⟨1, V.zero⟩ : K).agg, .int .i64 (0 : Nat)]) (res_second (Blk.five HB1.out) rfl rfl) rfl ?_
  exact CTPost.mk' ⟨1, V.zero⟩ 0 (by rw [HO.out]) (fun _ => by rw [HO.out]) (RD.five HR1.out hg) (Tch.five HT1.out (Nat.le_refl _))

set_option maxRecDepth 100000 in set_option maxHeartbeats 1600000 in
theorem second_large (g d : Nat) (st : RS) (kind : Int) (w : World) (h : RD w g d st) (S : RS) (hb : uintR 66 st = (1, S)) (he : S.e = 0) :
    Calls Try.prog 43 #[.pointer (some ⟨g, 0, none⟩), .int .u8 kind] w (CTPost g d w (secondC kind st)) := by
  have H := Hid.mk' h
  have hg := h.lt
  have HB := Hid.mk' (fun w h => ruint2_any g d st 66 w h (by omega))
  rw [hb] at HB
  have HER := Hid.mk' (fun w h => rerr_any g d S w h)
  rw [he] at HER
  have HL := Hid.mk' (fun w h => clr_any g d S w h)
  have HO : Hid (secondC kind st = ((fullT kind, (largeR S).1), (largeR S).2)) := Hid.mk' (by unfold secondC; rw [hb]; simp only; rw [if_neg (by simpa using he), if_neg (by decide)]; exact if_pos trivial)
  have hB0 := Blk.new w #[.int .u8 0, .int .u8 0, .int .i64 0, .complex .f64 0 0, .string ByteArray.empty] 37
  generalize largeR S = U at *
  obtain ⟨m, S2⟩ := U
  simp only at HL HO
  clear h hb he
  go_enter Try.func43, Try.ntmps43
  go_wp2_with (first
    | (go_at_call 71; refine (HB.out _ (H.out.ext (by (repeat (with_reducible (first | exact Ext.refl _ | assumption | exact held_left (by assumption) | apply Ext.drewN | apply Ext.drew | apply Ext.alloc | (refine Ext.setCell ?_ (by first | (simp; done) | (simp; omega) | omega) _) | (refine Ext.trans ?_ (by assumption)) | (refine Ext.trans ?_ (held_left (by assumption))))))))).mono ?_; rintro e w1 ⟨rfl, hr1, ht1⟩; have HR1 := Hid.mk' hr1; have hT1 := hB0.tch ht1 (by omega); have k1 := hT1.cell; have f1 := hT1.frozen; have z1 := hT1.lt; have HT1 : Hid (Tch g w w1) := Hid.mk' (((Tch.refl g w).alloc _).trans ht1); have HB1 := Hid.mk' hT1; have hg1 := hr1.lt; clear hr1 ht1 hT1)
    | (go_at_call 22; refine (HER.out _ HR1.out).mono ?_; rintro e w9 ⟨rfl, rfl⟩)
    | (go_at_call 18; refine (cof_any kind 0 0 0 ByteArray.empty _).mono ?_; rintro e w7 ⟨rfl, hb7⟩; have hT7 := HB1.out.ext hb7; have HB7 := Hid.mk' hT7; have HR7 := Hid.mk' (HR1.out.ext hb7); have HT7 : Hid (Tch g w w7) := Hid.mk' (HT1.out.trans (Tch.of_ext hb7)); clear hT7)
    | (go_at_call 69; refine (HL.out _ HR7.out).mono ?_; rintro e w2 ⟨rfl, hr2, ht2⟩; have HR2 := Hid.mk' hr2; have hT2 := HB7.out.tch ht2 (by omega); have k2 := hT2.cell; have f2 := hT2.frozen; have z2 := hT2.lt; have HT2 : Hid (Tch g w w2) := Hid.mk' (HT7.out.trans ht2); have HB2 := Hid.mk' hT2; clear hr2 ht2 hT2))
  refine bodyPost_ret (v := .tuple #[(fullT kind).agg, .int .i64 (m : Nat)]) (res_second (Blk.five HB2.out) rfl rfl) rfl ?_
  exact CTPost.mk' (fullT kind) m (by rw [HO.out]) (fun _ => by rw [HO.out]) (RD.five HR2.out hg) (Tch.five HT2.out (Nat.le_refl _))

/-- The loop over a text's bytes. -/
def SecRel (g d B : Nat) (w : World) (kind : Int) (L : List Int) (N : Nat) (E : Int) (q : Nat) (wr : World) : Prop :=
  ∃ k, q + k = N ∧ Blk wr B #[.int .u8 kind, .int .i64 0, .complex .f64 0 0, .string (strOfNums (L.take k))] 35 ∧ RD wr g d ⟨L.drop k, E⟩ ∧ Blk wr w.heap.size #[.int .u8 0, .int .u8 0, .int .i64 0, .complex .f64 0 0, .string ByteArray.empty] 37 ∧ Tch g w wr

theorem strOf_append (l m : List Int) : strOfNums l ++ strOfNums m = strOfNums (l ++ m) := by
  unfold strOfNums
  rw [ByteArray.mk_append_mk]
  simp

def SecCase (n : Nat) (S T : RS) (N : Nat) : Prop :=
  (n = 0 ∧ S.e ≠ 0 ∧ T = S ∧ N = 0) ∨ (S.e = 0 ∧ 3 ≤ n ∧ n ≤ 66 ∧ S.l.length < n - 2 ∧ T = giveS S 1 ∧ N = 0 ∧ T.e ≠ 0) ∨ (S.e = 0 ∧ 2 ≤ n ∧ n ≤ 66 ∧ n - 2 ≤ S.l.length ∧ T = S ∧ N = n - 2)

set_option maxRecDepth 100000 in set_option maxHeartbeats 1600000 in
theorem second_rest (g d : Nat) (st : RS) (kind : Int) (w : World) (h : RD w g d st) (n : Nat) (S T : RS) (N : Nat) (hb : uintR 66 st = (n, S)) (hn66 : n ≤ 66)
    (hc : SecCase n S T N)
    (h2 : (secondC kind st).2 = (textK kind (T.l.take N, ⟨T.l.drop N, T.e⟩)).2) (h1 : (secondC kind st).2.e = 0 → (secondC kind st).1 = (textK kind (T.l.take N, ⟨T.l.drop N, T.e⟩)).1) :
    Calls Try.prog 43 #[.pointer (some ⟨g, 0, none⟩), .int .u8 kind] w (CTPost g d w (secondC kind st)) := by
  have H := Hid.mk' h
  have hg := h.lt
  have HB := Hid.mk' (fun w h => ruint2_any g d st 66 w h (by omega))
  rw [hb] at HB
  have HER := Hid.mk' (fun w h => rerr_any g d S w h)
  have HLE := Hid.mk' (fun w h => rleft_any g d S w h)
  have HF := Hid.mk' (fun w h => fail_any g d S 1 w h)
  have hB0 := Blk.new w #[.int .u8 0, .int .u8 0, .int .i64 0, .complex .f64 0 0, .string ByteArray.empty] 37
  have HC := Hid.mk' hc
  have H2 := Hid.mk' h2
  have H1 := Hid.mk' h1
  have hok : st.ok := by obtain ⟨_, _, _, hok, _⟩ := h; exact hok
  have HSL : Hid (S.l.length ≤ 1000000) := by
    obtain ⟨_, _, _, _, hl⟩ := h
    have := congrArg (fun z => z.2.l.length) hb
    simp only at this
    rw [← this]
    unfold uintR giveS
    simp only
    refine Hid.mk' ?_
    (repeat' split) <;> simp <;> omega
  clear h hb hc h1 h2
  go_enter Try.func43, Try.ntmps43
  go_upto_block 0 with (first | (go_at_call 71; refine (HB.out _ (H.out.ext (by (repeat (with_reducible (first | exact Ext.refl _ | assumption | exact held_left (by assumption) | apply Ext.drewN | apply Ext.drew | apply Ext.alloc | (refine Ext.setCell ?_ (by first | (simp; done) | (simp; omega) | omega) _) | (refine Ext.trans ?_ (by assumption)) | (refine Ext.trans ?_ (held_left (by assumption))))))))).mono ?_; rintro e w1 ⟨rfl, hr1, ht1⟩; have HR1 := Hid.mk' hr1; have hT1 := hB0.tch ht1 (by omega); have k1 := hT1.cell; have f1 := hT1.frozen; have z1 := hT1.lt; have HT1 : Hid (Tch g w w1) := Hid.mk' (((Tch.refl g w).alloc _).trans ht1); have HB1 := Hid.mk' hT1; have hg1 := hr1.lt; clear hr1 ht1 hT1))
  clear k1 f1 z1 hg1
  go_cut [] (fun wx => Hid (RD wx g d T) ∧ Hid (Tch g w wx) ∧ Hid (Blk wx w.heap.size #[.int .u8 0, .int .u8 0, .int .i64 0, .complex .f64 0 0, .string ByteArray.empty] 37))
  case first =>
    as_aux_lemma =>
      rcases HC.out with ⟨hn, he, rfl, -⟩ | ⟨he, hn3, -, hl, rfl, -, -⟩ | ⟨he, hn2, -, hl, rfl, -⟩
      · have he2 : (T.e != 0) = true := by simpa using he
        subst hn
        clear he
        go_wp2_with (go_at_call 22; refine (HER.out _ HR1.out).mono ?_; rintro e w9 ⟨rfl, rfl⟩)
        go_meet
        case rel => exact ⟨HR1, HT1, HB1⟩
      · rw [he] at HER
        have hf : failS S 1 = giveS S 1 := by unfold failS; rw [if_pos (by decide)]
        rw [hf] at HF
        have hl2 := HSL.out
        have hw : IntKind.u64.wrap (n - 2 : Int) = (n : Int) - 2 := by rw [u64_wrap]; omega
        have hll : ((S.l.length : Nat) : Int) < (n : Int) - 2 := by omega
        clear hf he hl
        go_wp2_with (first
          | (go_at_call 22; refine (HER.out _ HR1.out).mono ?_; rintro e w9 ⟨rfl, rfl⟩)
          | (go_at_call 23; refine (HLE.out _ HR1.out).mono ?_; rintro e w8 ⟨rfl, rfl⟩)
          | (go_at_call 41; refine (HF.out _ HR1.out).mono ?_; rintro e w2 ⟨rfl, hr2, ht2⟩; have HR2 := Hid.mk' hr2; have HT2 := Hid.mk' (HT1.out.trans ht2); have HB2 := Hid.mk' (HB1.out.tch ht2 (by omega)); clear hr2 ht2))
        go_meet
        case rel => exact ⟨HR2, HT2, HB2⟩
      · rw [he] at HER
        have hl2 := HSL.out
        have hw : IntKind.u64.wrap (n - 2 : Int) = (n : Int) - 2 := by rw [u64_wrap]; omega
        have hll : (n : Int) - 2 ≤ ((T.l.length : Nat) : Int) := by omega
        clear he hl
        go_wp2_with (first
          | (go_at_call 22; refine (HER.out _ HR1.out).mono ?_; rintro e w9 ⟨rfl, rfl⟩)
          | (go_at_call 23; refine (HLE.out _ HR1.out).mono ?_; rintro e w8 ⟨rfl, rfl⟩))
        all_goals
          go_meet
          case rel => exact ⟨HR1, HT1, HB1⟩
  case rest =>
    clear HER HLE HF HB HR1 HT1 HB1 hB0 H
    obtain ⟨HR1, HT1, HB1⟩ := hcut
    have hgc := HR1.out.lt
    have hwc := HB1.out.lt
    have hzw : w.heap.size < wc.heap.size := hwc
    obtain ⟨L, E⟩ := T
    simp only at H1 H2 HR1
    have hTok : isB L := by obtain ⟨_, _, _, hok, _⟩ := HR1.out; exact hok.2
    have HTok := Hid.mk' hTok
    have HLL : Hid (L.length ≤ 1000000) := by obtain ⟨_, _, _, _, hl⟩ := HR1.out; exact Hid.mk' hl
    have hNL : N ≤ 64 := by rcases HC.out with ⟨_, _, _, h⟩ | ⟨_, _, _, _, _, h, _⟩ | ⟨_, _, _, _, _, h⟩ <;> omega
    clear hTok
    go_upto_block 1 with (fail)
    go_cut [] (fun wx => Hid (RD wx g d ⟨L.drop N, E⟩) ∧ Hid (Blk wx wc.heap.size #[.int .u8 kind, .int .i64 0, .complex .f64 0 0, .string (strOfNums (L.take N))] 35) ∧ Hid (Blk wx w.heap.size #[.int .u8 0, .int .u8 0, .int .i64 0, .complex .f64 0 0, .string ByteArray.empty] 37) ∧ Hid (Tch g w wx))
    case first =>
      as_aux_lemma =>
        go_wp2_with fail
        go_loopg [48] N (fun q _ wr => Hid (SecRel g d wc.heap.size w kind L N E q wr))
        case atStart =>
          exact Hid.mk' ⟨0, by omega, Blk.new wc _ _, HR1.out.ext ((Ext.refl wc).alloc _), HB1.out.alloc _, HT1.out.alloc _⟩
        case round =>
          obtain ⟨k, hqk, hbv, hrd, hbz, htc⟩ := hrel.out
          clear hrel
          have HT := Hid.mk' htc
          have HRD := Hid.mk' hrd
          have HBZ := Hid.mk' hbz
          have HBV := Hid.mk' hbv
          have kv := hbv.cell
          have fv := hbv.frozen
          have zv := hbv.lt
          clear htc hrd hbz hbv
          have hss : (strOfNums (L.take k)).size = (L.take k).length := strOfNums_size _
          by_cases hlt : k < N
          · obtain ⟨hE0, hn2, hnL, hNn⟩ : E = 0 ∧ 2 ≤ n ∧ n - 2 ≤ L.length ∧ N = n - 2 := by
              rcases HC.out with ⟨_, _, _, h⟩ | ⟨_, _, _, _, _, h, _⟩ | ⟨h0, h1, _, h3, h4, h5⟩
              · omega
              · omega
              · rw [← h4] at h0 h3; exact ⟨h0, h1, h3, h5⟩
            subst hE0
            have hkl : k < L.length := by omega
            have htl : (L.take k).length = k := by simp; omega
            rw [htl] at hss
            have hk2 : (k : Int) + 2 < (n : Int) := by omega
            have hx : 0 ≤ L.getD k 0 ∧ L.getD k 0 < 256 := HTok.out _ (by rw [List.getD_eq_getElem?_getD, List.getElem?_eq_getElem hkl]; exact List.getElem_mem hkl)
            have hdr : L.drop k = L.getD k 0 :: L.drop (k + 1) := by rw [List.drop_eq_getElem_cons hkl]; simp [List.getD, List.getElem?_eq_getElem hkl]
            have htk : L.take (k + 1) = L.take k ++ [L.getD k 0] := by rw [List.take_succ_eq_append_getElem hkl]; simp [List.getD, List.getElem?_eq_getElem hkl]
            have HER := Hid.mk' (fun w h => rerr_any g d ⟨L.drop k, 0⟩ w h)
            have HBy := Hid.mk' (fun w h => rbyte_any g d ⟨L.drop k, 0⟩ w h)
            rw [hdr] at HRD HER HBy
            rw [byteR_cons] at HBy
            simp only at HBy HER
            have hsum : strOfNums (L.take k) ++ strOfNums [L.getD k 0] = strOfNums (L.take (k + 1)) := by rw [htk, strOf_append]
            generalize L.getD k 0 = x at *
            obtain ⟨A, hA⟩ : ∃ A, A = strOfNums (L.take k) := ⟨_, rfl⟩
            rw [← hA] at hss kv hsum HBV
            obtain ⟨A2, hA2⟩ : ∃ A, A = strOfNums (L.take (k + 1)) := ⟨_, rfl⟩
            rw [← hA2] at hsum
            have hx1 : (strOfNums [x]).size = 1 := strOfNums_size _
            have hadd : ∀ w : World, (Op.stringOp .add A (strOfNums [x])).run Try.prog w = .ok (.string A2) w := fun w => by rw [run_string_add_sum w _ _ (by rw [hss, hx1]; omega), hsum]
            have HA2 := Hid.mk' hA2
            clear hsum hx1 hdr htk htl hA hA2
            go_upto_region 11 with (first
              | (go_at_call 22; refine (HER.out _ HRD.out).mono ?_; rintro e w9 ⟨rfl, rfl⟩))
            go_region_law
              (first
                | (go_simp; go_at_call 68; refine (HBy.out _ (HRD.out.ext (by (repeat (with_reducible (first | exact Ext.refl _ | assumption | exact held_left (by assumption) | apply Ext.drewN | apply Ext.drew | apply Ext.alloc | (refine Ext.setCell ?_ (by first | (simp; done) | (simp; omega) | omega) _) | (refine Ext.trans ?_ (by assumption)) | (refine Ext.trans ?_ (held_left (by assumption))))))))).mono ?_; rintro e w1 ⟨rfl, hr1, ht1⟩; have HR1 := Hid.mk' hr1; have hbv1 := (HBV.out.ext (by (repeat (with_reducible (first | exact Ext.refl _ | assumption | exact held_left (by assumption) | apply Ext.drewN | apply Ext.drew | apply Ext.alloc | (refine Ext.setCell ?_ (by first | (simp; done) | (simp; omega) | omega) _) | (refine Ext.trans ?_ (by assumption)) | (refine Ext.trans ?_ (held_left (by assumption)))))))).tch ht1 (by omega); have HBV1 := Hid.mk' hbv1; have kv1 := hbv1.cell; have fv1 := hbv1.frozen; have zv1 := hbv1.lt; have HBZ1 := Hid.mk' ((HBZ.out.ext (by (repeat (with_reducible (first | exact Ext.refl _ | assumption | exact held_left (by assumption) | apply Ext.drewN | apply Ext.drew | apply Ext.alloc | (refine Ext.setCell ?_ (by first | (simp; done) | (simp; omega) | omega) _) | (refine Ext.trans ?_ (by assumption)) | (refine Ext.trans ?_ (held_left (by assumption)))))))).tch ht1 (by omega)); have HT1 := Hid.mk' ((HT.out.trans (Tch.of_ext (by (repeat (with_reducible (first | exact Ext.refl _ | assumption | exact held_left (by assumption) | apply Ext.drewN | apply Ext.drew | apply Ext.alloc | (refine Ext.setCell ?_ (by first | (simp; done) | (simp; omega) | omega) _) | (refine Ext.trans ?_ (by assumption)) | (refine Ext.trans ?_ (held_left (by assumption))))))))).trans ht1); have hcv : (convert 29 9 (.slice (some ⟨w1.heap.size, 0, none⟩) 1 1)).run Try.prog (w1.alloc (.cells #[.int .u8 x] 5)) = .ok (.string (strOfNums [x])) (w1.alloc (.cells #[.int .u8 x] 5)) := conv_Sl (fresh_bytes w1 [x] 1 rfl); clear hr1 ht1 hbv1))
            all_goals
              go_wp2
              go_roundg (N - (k + 1))
              case measure => omega
              case rel =>
                have hgB : g < wc.heap.size := hgc
                refine Hid.mk' ⟨k + 1, by omega, ?_, (HR1.out.set hgB _ _).ext ((Ext.refl _).alloc _), (HBZ1.out.other _ _ (by simp; omega)).alloc _, (HT1.out.setNew (by omega) _ _).alloc _⟩
                rw [← HA2.out]
                exact (HBV1.out.set 3 (.string A2)).alloc _
          · obtain rfl : k = N := by omega
            clear kv fv zv
            have kv := HBV.out.cell
            rcases HC.out with ⟨hn, -, -, hk0⟩ | ⟨-, hn3, -, -, -, hk0, he⟩ | ⟨-, hn2, -, hl, hT, hk⟩
            · subst hn
              subst hk0
              have hs0 : (strOfNums ([] : List Int)).size = 0 := rfl
              clear hss hlt
              go_wp2
              go_meet
              case rel => exact ⟨HRD, HBV, HBZ, HT⟩
            · subst hk0
              have hE2 : (E == 0) = false := by simpa using he
              have HER := Hid.mk' (fun w h => rerr_any g d ⟨L.drop 0, E⟩ w h)
              simp only at HER
              have hs0 : (strOfNums ([] : List Int)).size = 0 := rfl
              have hn2 : (2 : Int) < (n : Int) := by omega
              clear hss hlt he
              go_wp2_with (first
                | (go_at_call 22; refine (HER.out _ HRD.out).mono ?_; rintro e w9 ⟨rfl, rfl⟩))
              go_meet
              case rel => exact ⟨HRD, HBV, HBZ, HT⟩
            · have hl2 : n - 2 ≤ L.length := by rw [← hT] at hl; exact hl
              have htl : (L.take k).length = k := by simp; omega
              rw [htl] at hss
              have hk2 : (n : Int) ≤ (k : Int) + 2 := by omega
              clear hlt htl hk hl hT
              go_wp2
              go_meet
              case rel => exact ⟨HRD, HBV, HBZ, HT⟩

    case rest =>
      clear HR1 HT1 HB1 HTok
      obtain ⟨HR2, HV2, HB2, HT2⟩ := hcut
      obtain ⟨str, hstr⟩ : ∃ A, A = strOfNums (L.take N) := ⟨_, rfl⟩
      have hss : str.size ≤ 64 := by rw [hstr, strOfNums_size]; exact Nat.le_trans (List.length_take_le _ _) hNL
      unfold textK at H2 H1
      simp only at H2 H1
      rw [← hstr] at H1 H2 HV2
      have kv2 := HV2.out.cell
      have HVR := Hid.mk' (fun w => vright_any kind 0 0 0 str w (by omega))
      generalize rightV kind 0 ((0 : Nat) : Int) ((0 : Nat) : Int) str = R at *
      have HF := Hid.mk' (fun w h => fail_any g d ⟨L.drop N, E⟩ R w h)
      generalize failS ⟨L.drop N, E⟩ R = S3 at *
      clear hstr hss hok HC HLL HSL
      go_wp2_with (first
        | (go_at_call 39; refine (HVR.out _).mono ?_; rintro e w3 ⟨rfl, hb3⟩; have HR3 := Hid.mk' (HR2.out.ext hb3); have HT3 := Hid.mk' (HT2.out.trans (Tch.of_ext hb3)); have HB3 := Hid.mk' (HB2.out.ext hb3); have HV3 := Hid.mk' (HV2.out.ext hb3); clear hb3)
        | (go_at_call 41; refine (HF.out _ HR3.out).mono ?_; rintro e w4 ⟨rfl, hr4, ht4⟩; have HR4 := Hid.mk' hr4; have HT4 := Hid.mk' (HT3.out.trans ht4); have HB4 := Hid.mk' (HB3.out.tch ht4 (by omega)); have hv4 := HV3.out.tch ht4 (by omega); have kv4 := hv4.cell; clear hr4 ht4 hv4)
        | (go_at_call 18; refine (cof_any kind 0 0 0 str _).mono ?_; rintro e w7 ⟨rfl, hb7⟩; have hT7 := HB4.out.ext hb7; have k7 := hT7.cell; have f7 := hT7.frozen; have z7 := hT7.lt; have HB7 := Hid.mk' hT7; have HR7 := Hid.mk' (HR4.out.ext hb7); have HT7 : Hid (Tch g w w7) := Hid.mk' (HT4.out.trans (Tch.of_ext hb7)); clear hT7))
      refine bodyPost_ret (v := .tuple #[(⟨2, ⟨kind, 0, 0, 0, str⟩⟩ : K).agg, .int .i64 (0 : Nat)]) (res_second (Blk.five HB7.out) rfl rfl) rfl ?_
      exact CTPost.mk' ⟨2, ⟨kind, 0, 0, 0, str⟩⟩ 0 H2.out (fun he => (H1.out he).symm) (RD.five HR7.out hg) (Tch.five HT7.out (Nat.le_refl _))

/-- The program's second cell. -/
theorem second_any (g d : Nat) (st : RS) (kind : Int) (w : World) (h : RD w g d st) :
    Calls Try.prog 43 #[.pointer (some ⟨g, 0, none⟩), .int .u8 kind] w (CTPost g d w (secondC kind st)) := by
  have hok : st.ok := by obtain ⟨_, _, _, hok, _⟩ := h; exact hok
  obtain ⟨n, S, hb⟩ : ∃ n S, uintR 66 st = (n, S) := ⟨_, _, rfl⟩
  have hSok : S.ok := by have := uintR_ok hok 66; rw [hb] at this; exact this
  have hn66 : n ≤ 66 := by have := uintR_le (st := st) 66; rw [hb] at this; exact this
  by_cases he : S.e = 0
  · have hF : secondC kind st = if n = 0 then ((⟨1, V.zero⟩, 0), S) else if n = 1 then ((fullT kind, (largeR S).1), (largeR S).2) else textK kind (bytesR (n - 2) S) := by
      unfold secondC; rw [hb]; simp only; rw [if_neg (by simpa using he)]
    by_cases h0 : n = 0
    · subst h0; exact second_same g d st kind w h S hb he
    by_cases h1 : n = 1
    · subst h1; exact second_large g d st kind w h S hb he
    rw [if_neg h0, if_neg h1] at hF
    by_cases hl : S.l.length < n - 2
    · obtain ⟨e, he2, hg⟩ := giveS_nil (x := 1) (by decide) hSok
      have hB : bytesR (n - 2) S = ([], giveS S 1) := by unfold bytesR; rw [if_pos hl]
      rw [hB] at hF
      refine second_rest g d st kind w h n S (giveS S 1) 0 hb hn66 (.inr (.inl ⟨he, by omega, hn66, hl, rfl, rfl, by rw [hg]; exact he2⟩)) ?_ ?_
      · rw [hF, hg]; rfl
      · intro _; rw [hF, hg]; rfl
    · have hB : bytesR (n - 2) S = (S.l.take (n - 2), ⟨S.l.drop (n - 2), S.e⟩) := by unfold bytesR; rw [if_neg hl]
      rw [hB] at hF
      exact second_rest g d st kind w h n S S (n - 2) hb hn66 (.inr (.inr ⟨he, by omega, hn66, by omega, rfl, rfl⟩)) (by rw [hF]) (fun _ => by rw [hF])
  · have hF : secondC kind st = ((K.zero, 0), S) := by unfold secondC; rw [hb]; simp only; rw [if_pos he]
    have hS := gave_form hSok he
    have h0 := uintR_zero hok hb he
    refine second_rest g d st kind w h n S S 0 hb hn66 (.inl ⟨h0, he, rfl, rfl⟩) ?_ ?_
    · rw [hF, hS]; exact (failS_gave he).symm
    · intro h1; rw [hF] at h1; exact absurd h1 he

end Go.Proofs.Ytmpnopjkpamhaaa
