/-
The program's cell: second.
-/
import Derived.Deep.RegionLaw
import Derived.RangeFuncNested
import Derived.RangeFuncBound
import Derived.RangeFuncCalls
import Derived.RangeFuncLeaves
import Derived.RangeFuncBox
import Derived.Shelf.Abstract
import Derived.Shelf.RegionOpen
import Derived.OwnWalkIn
import Derived.TacticsInMore
import Derived.LoopNIn
import Derived.LoopIn
import Derived.Maps.AppendAt
import Derived.Test.YtdbepkfblfhlhaaP8
namespace Go.Proofs.Ytdbepkfblfhlhaa
open Go.RowKit

theorem uintR_zero {m : Nat} {st S : RS} {n : Nat} (hok : st.ok) (h : uintR m st = (n, S)) (he : S.e ≠ 0) : n = 0 := by
  by_cases h0 : st.e = 0
  · unfold uintR at h
    simp only at h
    split at h
    · exact (Prod.ext_iff.1 h).1.symm
    · split at h
      · exact (Prod.ext_iff.1 h).1.symm
      · have := congrArg (fun z => z.2.e) h
        simp only at this
        exact absurd (this.symm.trans h0) he
  · rw [gave_form hok h0, uintR_gave h0] at h
    exact (Prod.ext_iff.1 h).1.symm

set_option maxRecDepth 100000 in set_option maxHeartbeats 1600000 in
theorem second_same (g d : Nat) (st : RS) (kind : Int) (w : World) (h : RD w g d st) (S : RS) (hb : uintR 66 st = (0, S)) (he : S.e = 0) :
    Calls Try.prog 125 #[.pointer (some ⟨g, 0, none⟩), .int .u8 kind] w (CTPost g d w (secondC kind st)) := by
  have H := Hid.mk' h
  have hg := h.lt
  have HB := Hid.mk' (fun w h => ruint2_any g d st 66 w h (by omega))
  rw [hb] at HB
  have HER := Hid.mk' (fun w h => rerr_any g d S w h)
  rw [he] at HER
  have HO : Hid (secondC kind st = ((⟨1, V.zero⟩, 0), S)) := Hid.mk' (by unfold secondC; rw [hb]; simp only; rw [if_neg (by simpa using he)]; exact if_pos trivial)
  have hB0 := Blk.new w #[.int .u8 0, .int .u8 0, .int .i64 0, .complex .f64 0 0, .string ByteArray.empty] 78
  clear h hb he
  go_enter Try.func125, Try.ntmps125
  go_wp2_with (first
    | (go_at_call 150; refine (HB.out _ (H.out.ext (by (repeat (with_reducible (first | exact Ext.refl _ | assumption | exact held_left (by assumption) | apply Ext.drewN | apply Ext.drew | apply Ext.alloc | (refine Ext.setCell ?_ (by first | (simp; done) | (simp; omega) | omega) _) | (refine Ext.trans ?_ (by assumption)) | (refine Ext.trans ?_ (held_left (by assumption))))))))).mono ?_; rintro e w1 ⟨rfl, hr1, ht1⟩; have HR1 := Hid.mk' hr1; have hT1 := hB0.tch ht1 (by omega); have k1 := hT1.cell; have f1 := hT1.frozen; have z1 := hT1.lt; have HT1 : Hid (Tch g w w1) := Hid.mk' (((Tch.refl g w).alloc _).trans ht1); have HB1 := Hid.mk' hT1; have hg1 := hr1.lt; clear hr1 ht1 hT1)
    | (go_at_call 52; refine (HER.out _ HR1.out).mono ?_; rintro e w9 ⟨rfl, rfl⟩))
  refine bodyPost_ret (v := .tuple #[(⟨1, V.zero⟩ : K).agg, .int .i64 (0 : Nat)]) (res_second (Blk.five HB1.out) rfl rfl) rfl ?_
  exact CTPost.mk' ⟨1, V.zero⟩ 0 (by rw [HO.out]) (fun _ => by rw [HO.out]) (RD.five HR1.out hg) (Tch.five HT1.out (Nat.le_refl _))

set_option maxRecDepth 100000 in set_option maxHeartbeats 1600000 in
theorem second_large (g d : Nat) (st : RS) (kind : Int) (w : World) (h : RD w g d st) (S : RS) (hb : uintR 66 st = (1, S)) (he : S.e = 0) :
    Calls Try.prog 125 #[.pointer (some ⟨g, 0, none⟩), .int .u8 kind] w (CTPost g d w (secondC kind st)) := by
  have H := Hid.mk' h
  have hg := h.lt
  have HB := Hid.mk' (fun w h => ruint2_any g d st 66 w h (by omega))
  rw [hb] at HB
  have HER := Hid.mk' (fun w h => rerr_any g d S w h)
  rw [he] at HER
  have HL := Hid.mk' (fun w h => clr_any g d S w h)
  have HO : Hid (secondC kind st = ((fullT kind, (largeR S).1), (largeR S).2)) := Hid.mk' (by unfold secondC; rw [hb]; simp only; rw [if_neg (by simpa using he), if_neg (by decide)]; exact if_pos trivial)
  have hB0 := Blk.new w #[.int .u8 0, .int .u8 0, .int .i64 0, .complex .f64 0 0, .string ByteArray.empty] 78
  generalize largeR S = U at *
  obtain ⟨m, S2⟩ := U
  simp only at HL HO
  clear h hb he
  go_enter Try.func125, Try.ntmps125
  go_wp2_with (first
    | (go_at_call 150; refine (HB.out _ (H.out.ext (by (repeat (with_reducible (first | exact Ext.refl _ | assumption | exact held_left (by assumption) | apply Ext.drewN | apply Ext.drew | apply Ext.alloc | (refine Ext.setCell ?_ (by first | (simp; done) | (simp; omega) | omega) _) | (refine Ext.trans ?_ (by assumption)) | (refine Ext.trans ?_ (held_left (by assumption))))))))).mono ?_; rintro e w1 ⟨rfl, hr1, ht1⟩; have HR1 := Hid.mk' hr1; have hT1 := hB0.tch ht1 (by omega); have k1 := hT1.cell; have f1 := hT1.frozen; have z1 := hT1.lt; have HT1 : Hid (Tch g w w1) := Hid.mk' (((Tch.refl g w).alloc _).trans ht1); have HB1 := Hid.mk' hT1; have hg1 := hr1.lt; clear hr1 ht1 hT1)
    | (go_at_call 52; refine (HER.out _ HR1.out).mono ?_; rintro e w9 ⟨rfl, rfl⟩)
    | (go_at_call 64; refine (cof_any kind 0 0 0 ByteArray.empty _).mono ?_; rintro e w7 ⟨rfl, hb7⟩; have hT7 := HB1.out.ext hb7; have HB7 := Hid.mk' hT7; have HR7 := Hid.mk' (HR1.out.ext hb7); have HT7 : Hid (Tch g w w7) := Hid.mk' (HT1.out.trans (Tch.of_ext hb7)); clear hT7)
    | (go_at_call 148; refine (HL.out _ HR7.out).mono ?_; rintro e w2 ⟨rfl, hr2, ht2⟩; have HR2 := Hid.mk' hr2; have hT2 := HB7.out.tch ht2 (by omega); have k2 := hT2.cell; have f2 := hT2.frozen; have z2 := hT2.lt; have HT2 : Hid (Tch g w w2) := Hid.mk' (HT7.out.trans ht2); have HB2 := Hid.mk' hT2; clear hr2 ht2 hT2))
  refine bodyPost_ret (v := .tuple #[(fullT kind).agg, .int .i64 (m : Nat)]) (res_second (Blk.five HB2.out) rfl rfl) rfl ?_
  exact CTPost.mk' (fullT kind) m (by rw [HO.out]) (fun _ => by rw [HO.out]) (RD.five HR2.out hg) (Tch.five HT2.out (Nat.le_refl _))

/-- The loop over a text's bytes. -/
def SecRel (g d B : Nat) (w : World) (kind : Int) (L : List Int) (N : Nat) (E : Int) (q : Nat) (wr : World) : Prop :=
  ∃ k, q + k = N ∧ Blk wr B #[.int .u8 kind, .int .i64 0, .complex .f64 0 0, .string (strOfNums (L.take k))] 55 ∧ RD wr g d ⟨L.drop k, E⟩ ∧ Blk wr w.heap.size #[.int .u8 0, .int .u8 0, .int .i64 0, .complex .f64 0 0, .string ByteArray.empty] 78 ∧ Tch g w wr

theorem strOf_append (l m : List Int) : strOfNums l ++ strOfNums m = strOfNums (l ++ m) := by
  unfold strOfNums
  rw [ByteArray.mk_append_mk]
  simp

def SecCase (n : Nat) (S T : RS) (N : Nat) : Prop :=
  (n = 0 ∧ S.e ≠ 0 ∧ T = S ∧ N = 0) ∨ (S.e = 0 ∧ 3 ≤ n ∧ n ≤ 66 ∧ S.l.length < n - 2 ∧ T = giveS S 1 ∧ N = 0 ∧ T.e ≠ 0) ∨ (S.e = 0 ∧ 2 ≤ n ∧ n ≤ 66 ∧ n - 2 ≤ S.l.length ∧ T = S ∧ N = n - 2)

set_option maxRecDepth 100000 in set_option maxHeartbeats 1600000 in
theorem second_rest (g d : Nat) (st : RS) (kind : Int) (w : World) (h : RD w g d st) (n : Nat) (S T : RS) (N : Nat) (hb : uintR 66 st = (n, S)) (hn66 : n ≤ 66)
    (hc : SecCase n S T N)
    (h2 : (secondC kind st).2 = (textK kind (T.l.take N, ⟨T.l.drop N, T.e⟩)).2) (h1 : (secondC kind st).2.e = 0 → (secondC kind st).1 = (textK kind (T.l.take N, ⟨T.l.drop N, T.e⟩)).1) :
    Calls Try.prog 125 #[.pointer (some ⟨g, 0, none⟩), .int .u8 kind] w (CTPost g d w (secondC kind st)) := by
  have H := Hid.mk' h
  have hg := h.lt
  have HB := Hid.mk' (fun w h => ruint2_any g d st 66 w h (by omega))
  rw [hb] at HB
  have HER := Hid.mk' (fun w h => rerr_any g d S w h)
  have HLE := Hid.mk' (fun w h => rleft_any g d S w h)
  have HF := Hid.mk' (fun w h => fail_any g d S 1 w h)
  have hB0 := Blk.new w #[.int .u8 0, .int .u8 0, .int .i64 0, .complex .f64 0 0, .string ByteArray.empty] 78
  have HC := Hid.mk' hc
  have H2 := Hid.mk' h2
  have H1 := Hid.mk' h1
  have hok : st.ok := by obtain ⟨_, _, _, hok, _⟩ := h; exact hok
  have HSL : Hid (S.l.length ≤ 1000000) := by
    obtain ⟨_, _, _, _, hl⟩ := h
    have := congrArg (fun z => z.2.l.length) hb
    simp only at this
    rw [← this]
    unfold uintR giveS
    simp only
    refine Hid.mk' ?_
    (repeat' split) <;> simp <;> omega
  clear h hb hc h1 h2
  go_enter Try.func125, Try.ntmps125
  go_upto_block 0 with (first | (go_at_call 150; refine (HB.out _ (H.out.ext (by (repeat (with_reducible (first | exact Ext.refl _ | assumption | exact held_left (by assumption) | apply Ext.drewN | apply Ext.drew | apply Ext.alloc | (refine Ext.setCell ?_ (by first | (simp; done) | (simp; omega) | omega) _) | (refine Ext.trans ?_ (by assumption)) | (refine Ext.trans ?_ (held_left (by assumption))))))))).mono ?_; rintro e w1 ⟨rfl, hr1, ht1⟩; have HR1 := Hid.mk' hr1; have hT1 := hB0.tch ht1 (by omega); have k1 := hT1.cell; have f1 := hT1.frozen; have z1 := hT1.lt; have HT1 : Hid (Tch g w w1) := Hid.mk' (((Tch.refl g w).alloc _).trans ht1); have HB1 := Hid.mk' hT1; have hg1 := hr1.lt; clear hr1 ht1 hT1))
  clear k1 f1 z1 hg1
  go_cut [] (fun wx => Hid (RD wx g d T) ∧ Hid (Tch g w wx) ∧ Hid (Blk wx w.heap.size #[.int .u8 0, .int .u8 0, .int .i64 0, .complex .f64 0 0, .string ByteArray.empty] 78))
  case first =>
    as_aux_lemma =>
      rcases HC.out with ⟨hn, he, rfl, -⟩ | ⟨he, hn3, -, hl, rfl, -, -⟩ | ⟨he, hn2, -, hl, rfl, -⟩
      · have he2 : (T.e != 0) = true := by simpa using he
        subst hn
        clear he
        go_wp2_with (go_at_call 52; refine (HER.out _ HR1.out).mono ?_; rintro e w9 ⟨rfl, rfl⟩)
        go_meet
        case rel => exact ⟨HR1, HT1, HB1⟩
      · rw [he] at HER
        have hf : failS S 1 = giveS S 1 := by unfold failS; rw [if_pos (by decide)]
        rw [hf] at HF
        have hl2 := HSL.out
        have hw : IntKind.u64.wrap (n - 2 : Int) = (n : Int) - 2 := by rw [u64_wrap]; omega
        have hll : ((S.l.length : Nat) : Int) < (n : Int) - 2 := by omega
        clear hf he hl
        go_wp2_with (first
          | (go_at_call 52; refine (HER.out _ HR1.out).mono ?_; rintro e w9 ⟨rfl, rfl⟩)
          | (go_at_call 53; refine (HLE.out _ HR1.out).mono ?_; rintro e w8 ⟨rfl, rfl⟩)
          | (go_at_call 86; refine (HF.out _ HR1.out).mono ?_; rintro e w2 ⟨rfl, hr2, ht2⟩; have HR2 := Hid.mk' hr2; have HT2 := Hid.mk' (HT1.out.trans ht2); have HB2 := Hid.mk' (HB1.out.tch ht2 (by omega)); clear hr2 ht2))
        go_meet
        case rel => exact ⟨HR2, HT2, HB2⟩
      · rw [he] at HER
        have hl2 := HSL.out
        have hw : IntKind.u64.wrap (n - 2 : Int) = (n : Int) - 2 := by rw [u64_wrap]; omega
        have hll : (n : Int) - 2 ≤ ((T.l.length : Nat) : Int) := by omega
        clear he hl
        go_wp2_with (first
          | (go_at_call 52; refine (HER.out _ HR1.out).mono ?_; rintro e w9 ⟨rfl, rfl⟩)
          | (go_at_call 53; refine (HLE.out _ HR1.out).mono ?_; rintro e w8 ⟨rfl, rfl⟩))
        all_goals
          go_meet
          case rel => exact ⟨HR1, HT1, HB1⟩
  case rest =>
    clear HER HLE HF HB HR1 HT1 HB1 hB0 H
    obtain ⟨HR1, HT1, HB1⟩ := hcut
    have hgc := HR1.out.lt
    have hwc := HB1.out.lt
    have hzw : w.heap.size < wc.heap.size := hwc
    obtain ⟨L, E⟩ := T
    simp only at H1 H2 HR1
    have hTok : isB L := by obtain ⟨_, _, _, hok, _⟩ := HR1.out; exact hok.2
    have HTok := Hid.mk' hTok
    have HLL : Hid (L.length ≤ 1000000) := by obtain ⟨_, _, _, _, hl⟩ := HR1.out; exact Hid.mk' hl
    have hNL : N ≤ 64 := by rcases HC.out with ⟨_, _, _, h⟩ | ⟨_, _, _, _, _, h, _⟩ | ⟨_, _, _, _, _, h⟩ <;> omega
    clear hTok
    go_upto_block 1 with (fail)
    go_cut [] (fun wx => Hid (RD wx g d ⟨L.drop N, E⟩) ∧ Hid (Blk wx wc.heap.size #[.int .u8 kind, .int .i64 0, .complex .f64 0 0, .string (strOfNums (L.take N))] 55) ∧ Hid (Blk wx w.heap.size #[.int .u8 0, .int .u8 0, .int .i64 0, .complex .f64 0 0, .string ByteArray.empty] 78) ∧ Hid (Tch g w wx))
    case first =>
      as_aux_lemma =>
        go_wp2_with fail
        go_loopg [48] N (fun q _ wr => Hid (SecRel g d wc.heap.size w kind L N E q wr))
        case atStart =>
          exact Hid.mk' ⟨0, by omega, Blk.new wc _ _, HR1.out.ext ((Ext.refl wc).alloc _), HB1.out.alloc _, HT1.out.alloc _⟩
        case round =>
          obtain ⟨k, hqk, hbv, hrd, hbz, htc⟩ := hrel.out
          clear hrel
          have HT := Hid.mk' htc
          have HRD := Hid.mk' hrd
          have HBZ := Hid.mk' hbz
          have HBV := Hid.mk' hbv
          have kv := hbv.cell
          have fv := hbv.frozen
          have zv := hbv.lt
          clear htc hrd hbz hbv
          have hss : (strOfNums (L.take k)).size = (L.take k).length := strOfNums_size _
          by_cases hlt : k < N
          · obtain ⟨hE0, hn2, hnL, hNn⟩ : E = 0 ∧ 2 ≤ n ∧ n - 2 ≤ L.length ∧ N = n - 2 := by
              rcases HC.out with ⟨_, _, _, h⟩ | ⟨_, _, _, _, _, h, _⟩ | ⟨h0, h1, _, h3, h4, h5⟩
              · omega
              · omega
              · rw [← h4] at h0 h3; exact ⟨h0, h1, h3, h5⟩
            subst hE0
            have hkl : k < L.length := by omega
            have htl : (L.take k).length = k := by simp; omega
            rw [htl] at hss
            have hk2 : (k : Int) + 2 < (n : Int) := by omega
            have hx : 0 ≤ L.getD k 0 ∧ L.getD k 0 < 256 := HTok.out _ (by rw [List.getD_eq_getElem?_getD, List.getElem?_eq_getElem hkl]; exact List.getElem_mem hkl)
            have hdr : L.drop k = L.getD k 0 :: L.drop (k + 1) := by rw [List.drop_eq_getElem_cons hkl]; simp [List.getD, List.getElem?_eq_getElem hkl]
            have htk : L.take (k + 1) = L.take k ++ [L.getD k 0] := by rw [List.take_succ_eq_append_getElem hkl]; simp [List.getD, List.getElem?_eq_getElem hkl]
            have HER := Hid.mk' (fun w h => rerr_any g d ⟨L.drop k, 0⟩ w h)
            have HBy := Hid.mk' (fun w h => rbyte_any g d ⟨L.drop k, 0⟩ w h)
            rw [hdr] at HRD HER HBy
            rw [byteR_cons] at HBy
            simp only at HBy HER
            have hsum : strOfNums (L.take k) ++ strOfNums [L.getD k 0] = strOfNums (L.take (k + 1)) := by rw [htk, strOf_append]
            generalize L.getD k 0 = x at *
            obtain ⟨A, hA⟩ : ∃ A, A = strOfNums (L.take k) := ⟨_, rfl⟩
            rw [← hA] at hss kv hsum HBV
            obtain ⟨A2, hA2⟩ : ∃ A, A = strOfNums (L.take (k + 1)) := ⟨_, rfl⟩
            rw [← hA2] at hsum
            have hx1 : (strOfNums [x]).size = 1 := strOfNums_size _
            have hadd : ∀ w : World, (Op.stringOp .add A (strOfNums [x])).run Try.prog w = .ok (.string A2) w := fun w => by rw [run_string_add_sum w _ _ (by rw [hss, hx1]; omega), hsum]
            have HA2 := Hid.mk' hA2
            clear hsum hx1 hdr htk htl hA hA2
            go_upto_region 11 with (first
              | (go_at_call 52; refine (HER.out _ HRD.out).mono ?_; rintro e w9 ⟨rfl, rfl⟩))
            go_region_law
              (first
                | (go_simp; go_at_call 122; refine (HBy.out _ (HRD.out.ext (by (repeat (with_reducible (first | exact Ext.refl _ | assumption | exact held_left (by assumption) | apply Ext.drewN | apply Ext.drew | apply Ext.alloc | (refine Ext.setCell ?_ (by first | (simp; done) | (simp; omega) | omega) _) | (refine Ext.trans ?_ (by assumption)) | (refine Ext.trans ?_ (held_left (by assumption))))))))).mono ?_; rintro e w1 ⟨rfl, hr1, ht1⟩; have HR1 := Hid.mk' hr1; have hbv1 := (HBV.out.ext (by (repeat (with_reducible (first | exact Ext.refl _ | assumption | exact held_left (by assumption) | apply Ext.drewN | apply Ext.drew | apply Ext.alloc | (refine Ext.setCell ?_ (by first | (simp; done) | (simp; omega) | omega) _) | (refine Ext.trans ?_ (by assumption)) | (refine Ext.trans ?_ (held_left (by assumption)))))))).tch ht1 (by omega); have HBV1 := Hid.mk' hbv1; have kv1 := hbv1.cell; have fv1 := hbv1.frozen; have zv1 := hbv1.lt; have HBZ1 := Hid.mk' ((HBZ.out.ext (by (repeat (with_reducible (first | exact Ext.refl _ | assumption | exact held_left (by assumption) | apply Ext.drewN | apply Ext.drew | apply Ext.alloc | (refine Ext.setCell ?_ (by first | (simp; done) | (simp; omega) | omega) _) | (refine Ext.trans ?_ (by assumption)) | (refine Ext.trans ?_ (held_left (by assumption)))))))).tch ht1 (by omega)); have HT1 := Hid.mk' ((HT.out.trans (Tch.of_ext (by (repeat (with_reducible (first | exact Ext.refl _ | assumption | exact held_left (by assumption) | apply Ext.drewN | apply Ext.drew | apply Ext.alloc | (refine Ext.setCell ?_ (by first | (simp; done) | (simp; omega) | omega) _) | (refine Ext.trans ?_ (by assumption)) | (refine Ext.trans ?_ (held_left (by assumption))))))))).trans ht1); have hcv : (convert 80 9 (.slice (some ⟨w1.heap.size, 0, none⟩) 1 1)).run Try.prog (w1.alloc (.cells #[.int .u8 x] 5)) = .ok (.string (strOfNums [x])) (w1.alloc (.cells #[.int .u8 x] 5)) := conv_Sl (fresh_bytes w1 [x] 1 rfl); clear hr1 ht1 hbv1))
            all_goals
              go_wp2
              go_roundg (N - (k + 1))
              case measure => omega
              case rel =>
                have hgB : g < wc.heap.size := hgc
                refine Hid.mk' ⟨k + 1, by omega, ?_, (HR1.out.set hgB _ _).ext ((Ext.refl _).alloc _), (HBZ1.out.other _ _ (by simp; omega)).alloc _, (HT1.out.setNew (by omega) _ _).alloc _⟩
                rw [← HA2.out]
                exact (HBV1.out.set 3 (.string A2)).alloc _
          · obtain rfl : k = N := by omega
            clear kv fv zv
            have kv := HBV.out.cell
            rcases HC.out with ⟨hn, -, -, hk0⟩ | ⟨-, hn3, -, -, -, hk0, he⟩ | ⟨-, hn2, -, hl, hT, hk⟩
            · subst hn
              subst hk0
              have hs0 : (strOfNums ([] : List Int)).size = 0 := rfl
              clear hss hlt
              go_wp2
              go_meet
              case rel => exact ⟨HRD, HBV, HBZ, HT⟩
            · subst hk0
              have hE2 : (E == 0) = false := by simpa using he
              have HER := Hid.mk' (fun w h => rerr_any g d ⟨L.drop 0, E⟩ w h)
              simp only at HER
              have hs0 : (strOfNums ([] : List Int)).size = 0 := rfl
              have hn2 : (2 : Int) < (n : Int) := by omega
              clear hss hlt he
              go_wp2_with (first
                | (go_at_call 52; refine (HER.out _ HRD.out).mono ?_; rintro e w9 ⟨rfl, rfl⟩))
              go_meet
              case rel => exact ⟨HRD, HBV, HBZ, HT⟩
            · have hl2 : n - 2 ≤ L.length := by rw [← hT] at hl; exact hl
              have htl : (L.take k).length = k := by simp; omega
              rw [htl] at hss
              have hk2 : (n : Int) ≤ (k : Int) + 2 := by omega
              clear hlt htl hk hl hT
              go_wp2
              go_meet
              case rel => exact ⟨HRD, HBV, HBZ, HT⟩

    case rest =>
      clear HR1 HT1 HB1 HTok
      obtain ⟨HR2, HV2, HB2, HT2⟩ := hcut
      obtain ⟨str, hstr⟩ : ∃ A, A = strOfNums (L.take N) := ⟨_, rfl⟩
      have hss : str.size ≤ 64 := by rw [hstr, strOfNums_size]; exact Nat.le_trans (List.length_take_le _ _) hNL
      unfold textK at H2 H1
      simp only at H2 H1
      rw [← hstr] at H1 H2 HV2
      have kv2 := HV2.out.cell
      have HVR := Hid.mk' (fun w => vright_any kind 0 0 0 str w (by omega))
      generalize rightV kind 0 ((0 : Nat) : Int) ((0 : Nat) : Int) str = R at *
      have HF := Hid.mk' (fun w h => fail_any g d ⟨L.drop N, E⟩ R w h)
      generalize failS ⟨L.drop N, E⟩ R = S3 at *
      clear hstr hss hok HC HLL HSL
      go_wp2_with (first
        | (go_at_call 119; refine (HVR.out _).mono ?_; rintro e w3 ⟨rfl, hb3⟩; have HR3 := Hid.mk' (HR2.out.ext hb3); have HT3 := Hid.mk' (HT2.out.trans (Tch.of_ext hb3)); have HB3 := Hid.mk' (HB2.out.ext hb3); have HV3 := Hid.mk' (HV2.out.ext hb3); clear hb3)
        | (go_at_call 86; refine (HF.out _ HR3.out).mono ?_; rintro e w4 ⟨rfl, hr4, ht4⟩; have HR4 := Hid.mk' hr4; have HT4 := Hid.mk' (HT3.out.trans ht4); have HB4 := Hid.mk' (HB3.out.tch ht4 (by omega)); have hv4 := HV3.out.tch ht4 (by omega); have kv4 := hv4.cell; clear hr4 ht4 hv4)
        | (go_at_call 64; refine (cof_any kind 0 0 0 str _).mono ?_; rintro e w7 ⟨rfl, hb7⟩; have hT7 := HB4.out.ext hb7; have k7 := hT7.cell; have f7 := hT7.frozen; have z7 := hT7.lt; have HB7 := Hid.mk' hT7; have HR7 := Hid.mk' (HR4.out.ext hb7); have HT7 : Hid (Tch g w w7) := Hid.mk' (HT4.out.trans (Tch.of_ext hb7)); clear hT7))
      refine bodyPost_ret (v := .tuple #[(⟨2, ⟨kind, 0, 0, 0, str⟩⟩ : K).agg, .int .i64 (0 : Nat)]) (res_second (Blk.five HB7.out) rfl rfl) rfl ?_
      exact CTPost.mk' ⟨2, ⟨kind, 0, 0, 0, str⟩⟩ 0 H2.out (fun he => (H1.out he).symm) (RD.five HR7.out hg) (Tch.five HT7.out (Nat.le_refl _))

/-- The program's second cell. -/
theorem second_any (g d : Nat) (st : RS) (kind : Int) (w : World) (h : RD w g d st) :
    Calls Try.prog 125 #[.pointer (some ⟨g, 0, none⟩), .int .u8 kind] w (CTPost g d w (secondC kind st)) := by
  have hok : st.ok := by obtain ⟨_, _, _, hok, _⟩ := h; exact hok
  obtain ⟨n, S, hb⟩ : ∃ n S, uintR 66 st = (n, S) := ⟨_, _, rfl⟩
  have hSok : S.ok := by have := uintR_ok hok 66; rw [hb] at this; exact this
  have hn66 : n ≤ 66 := by have := uintR_le (st := st) 66; rw [hb] at this; exact this
  by_cases he : S.e = 0
  · have hF : secondC kind st = if n = 0 then ((⟨1, V.zero⟩, 0), S) else if n = 1 then ((fullT kind, (largeR S).1), (largeR S).2) else textK kind (bytesR (n - 2) S) := by
      unfold secondC; rw [hb]; simp only; rw [if_neg (by simpa using he)]
    by_cases h0 : n = 0
    · subst h0; exact second_same g d st kind w h S hb he
    by_cases h1 : n = 1
    · subst h1; exact second_large g d st kind w h S hb he
    rw [if_neg h0, if_neg h1] at hF
    by_cases hl : S.l.length < n - 2
    · obtain ⟨e, he2, hg⟩ := giveS_nil (x := 1) (by decide) hSok
      have hB : bytesR (n - 2) S = ([], giveS S 1) := by unfold bytesR; rw [if_pos hl]
      rw [hB] at hF
      refine second_rest g d st kind w h n S (giveS S 1) 0 hb hn66 (.inr (.inl ⟨he, by omega, hn66, hl, rfl, rfl, by rw [hg]; exact he2⟩)) ?_ ?_
      · rw [hF, hg]; rfl
      · intro _; rw [hF, hg]; rfl
    · have hB : bytesR (n - 2) S = (S.l.take (n - 2), ⟨S.l.drop (n - 2), S.e⟩) := by unfold bytesR; rw [if_neg hl]
      rw [hB] at hF
      exact second_rest g d st kind w h n S S (n - 2) hb hn66 (.inr (.inr ⟨he, by omega, hn66, by omega, rfl, rfl⟩)) (by rw [hF]) (fun _ => by rw [hF])
  · have hF : secondC kind st = ((K.zero, 0), S) := by unfold secondC; rw [hb]; simp only; rw [if_pos he]
    have hS := gave_form hSok he
    have h0 := uintR_zero hok hb he
    refine second_rest g d st kind w h n S S 0 hb hn66 (.inl ⟨h0, he, rfl, rfl⟩) ?_ ?_
    · rw [hF, hS]; exact (failS_gave he).symm
    · intro h1; rw [hF] at h1; exact absurd h1 he

end Go.Proofs.Ytdbepkfblfhlhaa

/-
The program's cell: Take.
-/
namespace Go.Proofs.Ytdbepkfblfhlhaa
open Go.RowKit

def KRel (g d : Nat) (w : World) (R : (K × Nat) × RS) (c : K) (m : Nat) (wx : World) : Prop :=
  (R.2.e = 0 → (c, m) = R.1) ∧ Blk wx (w.heap.size + 1) #[.int .u8 c.k, .int .u8 c.v.ty, .int .i64 c.v.n, .complex .f64 c.v.x c.v.y, .string c.v.s] 78 ∧ Blk wx w.heap.size #[.int .u8 0, .int .u8 0, .int .i64 0, .complex .f64 0 0, .string ByteArray.empty] 78 ∧ RD wx g d R.2 ∧ Tch g w wx

theorem ktake_end {r : (K × Nat) × RS} (h : r.2.e ≠ 0) : finC r = ((K.zero, 0), r.2) := by unfold finC; rw [if_pos h]

set_option maxRecDepth 100000 in set_option maxHeartbeats 1600000 in
theorem ctake_any (g d : Nat) (st : RS) (kind ver : Int) (w : World) (h : RD w g d st) (hk0 : 0 ≤ kind) (hk1 : kind < 256) :
    Calls Try.prog 88 #[.pointer (some ⟨g, 0, none⟩), .int .u8 kind, .int .u8 ver] w fun e w' =>
      e = .returned (.tuple #[(takeC kind ver st).1.1.agg, .int .i64 (takeC kind ver st).1.2]) ∧ RD w' g d (takeC kind ver st).2 ∧ Tch g w w' := by
  have H := Hid.mk' h
  have hg := h.lt
  have hok : st.ok := by obtain ⟨_, _, _, hok, _⟩ := h; exact hok
  clear h
  unfold takeC
  obtain ⟨R, hR⟩ : ∃ R, R = preC kind ver st := ⟨_, rfl⟩
  rw [← hR]
  have HRR := Hid.mk' hR
  clear hR
  go_enter Try.func88, Try.ntmps88
  go_upto_block 0 with (fail)
  go_cut [9] (fun p wx => ∃ (c : K) (m : Nat), p = .int .i64 m ∧ Hid (KRel g d w R c m wx))
  case first =>
    as_aux_lemma =>
      by_cases hv : ver = 1 ∨ ver = 2
      · by_cases hkd : kind < 1 ∨ 6 < kind
        · have hpre : R = ((K.zero, 0), giveS st 11) := by rw [HRR.out]; unfold preC; rw [if_neg (fun h => h hv), if_pos hkd]
          have HP := Hid.mk' hpre
          have HTY := Hid.mk' (fun w => typed_no kind w hkd)
          have HF := Hid.mk' (fun w h => fail_any g d st 11 w h)
          have hf : failS st 11 = giveS st 11 := by unfold failS; rw [if_pos (by decide)]
          rw [hf] at HF
          have hv1 : 1 ≤ ver := by omega
          have hv2 : ver ≤ 2 := by omega
          clear hpre hf hkd hv
          go_wp2_with (first
            | (go_at_call 118; refine (HTY.out _).mono ?_; rintro e w7 ⟨rfl, rfl⟩)
            | (go_at_call 86; refine (HF.out _ (H.out.ext (by (repeat (with_reducible (first | exact Ext.refl _ | assumption | exact held_left (by assumption) | apply Ext.drewN | apply Ext.drew | apply Ext.alloc | (refine Ext.setCell ?_ (by first | (simp; done) | (simp; omega) | omega) _) | (refine Ext.trans ?_ (by assumption)) | (refine Ext.trans ?_ (held_left (by assumption))))))))).mono ?_; rintro e w1 ⟨rfl, hr1, ht1⟩; have h8 := (Blk.new' (w := w.alloc (.cells #[.int .u8 0, .int .u8 0, .int .i64 0, .complex .f64 0 0, .string ByteArray.empty] 78)) (b := w.heap.size + 1) #[.int .u8 0, .int .u8 0, .int .i64 0, .complex .f64 0 0, .string ByteArray.empty] 78 (by simp)).tch ht1 (by omega); have h6 := ((Blk.new w #[.int .u8 0, .int .u8 0, .int .i64 0, .complex .f64 0 0, .string ByteArray.empty] 78).alloc (.cells #[.int .u8 0, .int .u8 0, .int .i64 0, .complex .f64 0 0, .string ByteArray.empty] 78)).tch ht1 (by omega); have HB8 := Hid.mk' h8; have HB6 := Hid.mk' h6; have k8 := h8.cell; have f8 := h8.frozen; have z8 := h8.lt; have HR1 := Hid.mk' hr1; have HT1 : Hid (Tch g w w1) := Hid.mk' ((((Tch.refl g w).alloc _).alloc _).trans ht1); clear h8 h6 hr1 ht1))
          go_meet
          case rel => exact ⟨K.zero, 0, rfl, Hid.mk' ⟨fun _ => by rw [HP.out], HB8.out, HB6.out, by rw [HP.out]; exact HR1.out, HT1.out⟩⟩
        have HTY := Hid.mk' (fun w => typed_yes kind w (by omega) (by omega))
        rcases hv with rfl | rfl
        · have hpre : R = firstC kind st := by rw [HRR.out]; unfold preC; rw [if_neg (fun h => h (.inl rfl)), if_neg hkd, if_pos rfl]
          have HF := Hid.mk' (fun w h => first_any g d st kind w h hk0 hk1)
          rw [← hpre] at HF
          clear hpre hkd
          go_wp2_with (first
            | (go_at_call 118; refine (HTY.out _).mono ?_; rintro e w7 ⟨rfl, rfl⟩)
            | (go_at_call 124; refine (HF.out _ (H.out.ext (by (repeat (with_reducible (first | exact Ext.refl _ | assumption | exact held_left (by assumption) | apply Ext.drewN | apply Ext.drew | apply Ext.alloc | (refine Ext.setCell ?_ (by first | (simp; done) | (simp; omega) | omega) _) | (refine Ext.trans ?_ (by assumption)) | (refine Ext.trans ?_ (held_left (by assumption))))))))).mono ?_; rintro e w1 ⟨⟨ck, cty, cn, cx, cy, cs⟩, m, rfl, hc1, hr1, ht1⟩; simp only [K.agg]; have HC1 := Hid.mk' hc1; clear hc1; have h8 := (Blk.new' (w := w.alloc (.cells #[.int .u8 0, .int .u8 0, .int .i64 0, .complex .f64 0 0, .string ByteArray.empty] 78)) (b := w.heap.size + 1) #[.int .u8 0, .int .u8 0, .int .i64 0, .complex .f64 0 0, .string ByteArray.empty] 78 (by simp)).tch ht1 (by omega); have h6 := ((Blk.new w #[.int .u8 0, .int .u8 0, .int .i64 0, .complex .f64 0 0, .string ByteArray.empty] 78).alloc (.cells #[.int .u8 0, .int .u8 0, .int .i64 0, .complex .f64 0 0, .string ByteArray.empty] 78)).tch ht1 (by omega); have HB8 := Hid.mk' h8; have HB6 := Hid.mk' h6; have k8 := h8.cell; have f8 := h8.frozen; have z8 := h8.lt; have HR1 := Hid.mk' hr1; have HT1 : Hid (Tch g w w1) := Hid.mk' ((((Tch.refl g w).alloc _).alloc _).trans ht1); clear h8 h6 hr1 ht1))
          go_meet
          case rel => exact ⟨⟨ck, cty, cn, cx, cy, cs⟩, m, rfl, Hid.mk' ⟨HC1.out, Blk.five HB8.out, ((((HB6.out.other _ _ (by simp)).other _ _ (by simp)).other _ _ (by simp)).other _ _ (by simp)).other _ _ (by simp), RD.five HR1.out (by omega), Tch.five HT1.out (by omega)⟩⟩
        · by_cases hk : kind = 5 ∨ kind = 6
          · have hpre : R = secondC kind st := by rw [HRR.out]; unfold preC; rw [if_neg (fun h => h (.inr rfl)), if_neg hkd, if_neg (by decide), if_pos hk]
            have HF := Hid.mk' (fun w h => second_any g d st kind w h)
            rw [← hpre] at HF
            have HX := Hid.mk' (fun w => texty_yes kind w hk)
            clear hpre hkd hk
            go_wp2_with (first
              | (go_at_call 118; refine (HTY.out _).mono ?_; rintro e w7 ⟨rfl, rfl⟩)
              | (go_at_call 111; refine (HX.out _).mono ?_; rintro e w8 ⟨rfl, rfl⟩)
              | (go_at_call 125; refine (HF.out _ (H.out.ext (by (repeat (with_reducible (first | exact Ext.refl _ | assumption | exact held_left (by assumption) | apply Ext.drewN | apply Ext.drew | apply Ext.alloc | (refine Ext.setCell ?_ (by first | (simp; done) | (simp; omega) | omega) _) | (refine Ext.trans ?_ (by assumption)) | (refine Ext.trans ?_ (held_left (by assumption))))))))).mono ?_; rintro e w1 ⟨⟨ck, cty, cn, cx, cy, cs⟩, m, rfl, hc1, hr1, ht1⟩; simp only [K.agg]; have HC1 := Hid.mk' hc1; clear hc1; have h8 := (Blk.new' (w := w.alloc (.cells #[.int .u8 0, .int .u8 0, .int .i64 0, .complex .f64 0 0, .string ByteArray.empty] 78)) (b := w.heap.size + 1) #[.int .u8 0, .int .u8 0, .int .i64 0, .complex .f64 0 0, .string ByteArray.empty] 78 (by simp)).tch ht1 (by omega); have h6 := ((Blk.new w #[.int .u8 0, .int .u8 0, .int .i64 0, .complex .f64 0 0, .string ByteArray.empty] 78).alloc (.cells #[.int .u8 0, .int .u8 0, .int .i64 0, .complex .f64 0 0, .string ByteArray.empty] 78)).tch ht1 (by omega); have HB8 := Hid.mk' h8; have HB6 := Hid.mk' h6; have k8 := h8.cell; have f8 := h8.frozen; have z8 := h8.lt; have HR1 := Hid.mk' hr1; have HT1 : Hid (Tch g w w1) := Hid.mk' ((((Tch.refl g w).alloc _).alloc _).trans ht1); clear h8 h6 hr1 ht1))
            go_meet
            case rel => exact ⟨⟨ck, cty, cn, cx, cy, cs⟩, m, rfl, Hid.mk' ⟨HC1.out, Blk.five HB8.out, ((((HB6.out.other _ _ (by simp)).other _ _ (by simp)).other _ _ (by simp)).other _ _ (by simp)).other _ _ (by simp), RD.five HR1.out (by omega), Tch.five HT1.out (by omega)⟩⟩
          · have hpre : R = ((⟨2, (takeV kind 2 st).1⟩, 0), (takeV kind 2 st).2) := by rw [HRR.out]; unfold preC; rw [if_neg (fun h => h (.inr rfl)), if_neg hkd, if_neg (by decide), if_neg hk]
            have HF := Hid.mk' (fun w h => vtake_any g d st kind 2 w h hk0 hk1)
            have HX := Hid.mk' (fun w => texty_no kind w (by omega))
            generalize takeV kind 2 st = U at *
            obtain ⟨⟨ty, n, x, y, s⟩, S2⟩ := U
            simp only at HF hpre
            have HP := Hid.mk' hpre
            clear hpre hkd hk
            go_wp2_with (first
              | (go_at_call 118; refine (HTY.out _).mono ?_; rintro e w7 ⟨rfl, rfl⟩)
              | (go_at_call 111; refine (HX.out _).mono ?_; rintro e w8 ⟨rfl, rfl⟩)
              | (go_at_call 126; refine (HF.out _ (H.out.ext (by (repeat (with_reducible (first | exact Ext.refl _ | assumption | exact held_left (by assumption) | apply Ext.drewN | apply Ext.drew | apply Ext.alloc | (refine Ext.setCell ?_ (by first | (simp; done) | (simp; omega) | omega) _) | (refine Ext.trans ?_ (by assumption)) | (refine Ext.trans ?_ (held_left (by assumption))))))))).mono ?_; rintro e w1 ⟨rfl, hr1, ht1⟩; have h8 := (Blk.new' (w := w.alloc (.cells #[.int .u8 0, .int .u8 0, .int .i64 0, .complex .f64 0 0, .string ByteArray.empty] 78)) (b := w.heap.size + 1) #[.int .u8 0, .int .u8 0, .int .i64 0, .complex .f64 0 0, .string ByteArray.empty] 78 (by simp)).tch ht1 (by omega); have h6 := ((Blk.new w #[.int .u8 0, .int .u8 0, .int .i64 0, .complex .f64 0 0, .string ByteArray.empty] 78).alloc (.cells #[.int .u8 0, .int .u8 0, .int .i64 0, .complex .f64 0 0, .string ByteArray.empty] 78)).tch ht1 (by omega); have HB8 := Hid.mk' h8; have HB6 := Hid.mk' h6; have k8 := h8.cell; have f8 := h8.frozen; have z8 := h8.lt; have HR1 := Hid.mk' hr1; have HT1 : Hid (Tch g w w1) := Hid.mk' ((((Tch.refl g w).alloc _).alloc _).trans ht1); clear h8 h6 hr1 ht1; clear k8 f8 z8)
              | (go_at_call 64; refine (cof_any ty n x y s _).mono ?_; rintro e w3 ⟨rfl, hb3⟩; have h8 := HB8.out.ext hb3; have HC8 := Hid.mk' h8; have k8 := h8.cell; have f8 := h8.frozen; have z8 := h8.lt; have HC6 := Hid.mk' (HB6.out.ext hb3); have HR3 := Hid.mk' (HR1.out.ext hb3); have HT3 := Hid.mk' (HT1.out.trans (Tch.of_ext hb3)); clear h8 hb3))
            go_meet
            case rel => exact ⟨⟨2, ⟨ty, n, x, y, s⟩⟩, 0, rfl, Hid.mk' ⟨fun _ => by rw [HP.out], Blk.five HC8.out, ((((HC6.out.other _ _ (by simp)).other _ _ (by simp)).other _ _ (by simp)).other _ _ (by simp)).other _ _ (by simp), by rw [HP.out]; exact RD.five HR3.out (by omega), Tch.five HT3.out (by omega)⟩⟩
      · have hpre : R = ((K.zero, 0), giveS st 18) := by rw [HRR.out]; unfold preC; rw [if_pos hv]
        have HP := Hid.mk' hpre
        have HF := Hid.mk' (fun w h => fail_any g d st 18 w h)
        have hf : failS st 18 = giveS st 18 := by unfold failS; rw [if_pos (by decide)]
        rw [hf] at HF
        clear hpre hf
        by_cases h1 : ver < 1
        · clear hv
          go_wp2_with (go_at_call 86; refine (HF.out _ (H.out.ext (by (repeat (with_reducible (first | exact Ext.refl _ | assumption | exact held_left (by assumption) | apply Ext.drewN | apply Ext.drew | apply Ext.alloc | (refine Ext.setCell ?_ (by first | (simp; done) | (simp; omega) | omega) _) | (refine Ext.trans ?_ (by assumption)) | (refine Ext.trans ?_ (held_left (by assumption))))))))).mono ?_; rintro e w1 ⟨rfl, hr1, ht1⟩; have h8 := (Blk.new' (w := w.alloc (.cells #[.int .u8 0, .int .u8 0, .int .i64 0, .complex .f64 0 0, .string ByteArray.empty] 78)) (b := w.heap.size + 1) #[.int .u8 0, .int .u8 0, .int .i64 0, .complex .f64 0 0, .string ByteArray.empty] 78 (by simp)).tch ht1 (by omega); have h6 := ((Blk.new w #[.int .u8 0, .int .u8 0, .int .i64 0, .complex .f64 0 0, .string ByteArray.empty] 78).alloc (.cells #[.int .u8 0, .int .u8 0, .int .i64 0, .complex .f64 0 0, .string ByteArray.empty] 78)).tch ht1 (by omega); have HB8 := Hid.mk' h8; have HB6 := Hid.mk' h6; have k8 := h8.cell; have f8 := h8.frozen; have z8 := h8.lt; have HR1 := Hid.mk' hr1; have HT1 : Hid (Tch g w w1) := Hid.mk' ((((Tch.refl g w).alloc _).alloc _).trans ht1); clear h8 h6 hr1 ht1)
          go_meet
          case rel => exact ⟨K.zero, 0, rfl, Hid.mk' ⟨fun _ => by rw [HP.out], HB8.out, HB6.out, by rw [HP.out]; exact HR1.out, HT1.out⟩⟩
        · have h2 : 2 < ver := by omega
          clear hv
          go_wp2_with (go_at_call 86; refine (HF.out _ (H.out.ext (by (repeat (with_reducible (first | exact Ext.refl _ | assumption | exact held_left (by assumption) | apply Ext.drewN | apply Ext.drew | apply Ext.alloc | (refine Ext.setCell ?_ (by first | (simp; done) | (simp; omega) | omega) _) | (refine Ext.trans ?_ (by assumption)) | (refine Ext.trans ?_ (held_left (by assumption))))))))).mono ?_; rintro e w1 ⟨rfl, hr1, ht1⟩; have h8 := (Blk.new' (w := w.alloc (.cells #[.int .u8 0, .int .u8 0, .int .i64 0, .complex .f64 0 0, .string ByteArray.empty] 78)) (b := w.heap.size + 1) #[.int .u8 0, .int .u8 0, .int .i64 0, .complex .f64 0 0, .string ByteArray.empty] 78 (by simp)).tch ht1 (by omega); have h6 := ((Blk.new w #[.int .u8 0, .int .u8 0, .int .i64 0, .complex .f64 0 0, .string ByteArray.empty] 78).alloc (.cells #[.int .u8 0, .int .u8 0, .int .i64 0, .complex .f64 0 0, .string ByteArray.empty] 78)).tch ht1 (by omega); have HB8 := Hid.mk' h8; have HB6 := Hid.mk' h6; have k8 := h8.cell; have f8 := h8.frozen; have z8 := h8.lt; have HR1 := Hid.mk' hr1; have HT1 : Hid (Tch g w w1) := Hid.mk' ((((Tch.refl g w).alloc _).alloc _).trans ht1); clear h8 h6 hr1 ht1)
          go_meet
          case rel => exact ⟨K.zero, 0, rfl, Hid.mk' ⟨fun _ => by rw [HP.out], HB8.out, HB6.out, by rw [HP.out]; exact HR1.out, HT1.out⟩⟩
  case rest =>
    obtain ⟨⟨ck, cty, cn, cx, cy, cs⟩, m, rfl, hk⟩ := hcut
    obtain ⟨hc1, h8, h6, hr, ht⟩ := hk.out
    simp only at h8
    have HER := Hid.mk' (fun w h => rerr_any g d R.2 w h)
    have k8 := h8.cell
    have k6 := h6.cell
    have f6 := h6.frozen
    have z6 := h6.lt
    have HB6 := Hid.mk' h6
    have HR1 := Hid.mk' hr
    have HT1 := Hid.mk' ht
    have HC1 := Hid.mk' hc1
    clear h8 h6 hr ht hc1 hk
    by_cases he : R.2.e = 0
    · have hfin : finC R = R := finC_ok he
      rw [he] at HER
      have HE := Hid.mk' he
      have HFI := Hid.mk' hfin
      clear he hfin
      go_wp2_with (go_at_call 52; refine (HER.out _ HR1.out).mono ?_; rintro e w9 ⟨rfl, rfl⟩)
      refine bodyPost_ret (v := .tuple #[(⟨ck, ⟨cty, cn, cx, cy, cs⟩⟩ : K).agg, .int .i64 m]) (res_ctake (Blk.five HB6.out) rfl rfl) rfl ⟨?_, by rw [HFI.out]; exact RD.five HR1.out hg, Tch.five HT1.out (Nat.le_refl _)⟩
      rw [HFI.out, ← HC1.out HE.out]
    · have hfin := ktake_end he
      have he2 : (R.2.e != 0) = true := by simpa using he
      have HFI := Hid.mk' hfin
      clear he hfin
      go_wp2_with (go_at_call 52; refine (HER.out _ HR1.out).mono ?_; rintro e w9 ⟨rfl, rfl⟩)
      refine bodyPost_ret (v := .tuple #[K.zero.agg, .int .i64 (0 : Nat)]) (res_ctake (Blk.five HB6.out) rfl rfl) rfl ⟨by rw [HFI.out], by rw [HFI.out]; exact RD.five HR1.out hg, Tch.five HT1.out (Nat.le_refl _)⟩

end Go.Proofs.Ytdbepkfblfhlhaa

/-
The walk through the large cells of a row, for every loop body; the program's Holes and Texts.
-/
namespace Go.Proofs.Ytdbepkfblfhlhaa
open Go.RowKit Go.Shelf
attribute [local go_sem] Oper.semAt_some

/-- What a large cell is handed out as. -/
def encL (x : Nat × ByteArray) : Array Value := #[.int .i64 (x.1 : Int), .string x.2]

theorem grow_of_ext {W W' : World} (h : Ext W W') : W.grownBy W' none := ⟨h.os, h.tape, h.output, h.size, fun k hk _ => h.block k hk⟩

set_option maxRecDepth 100000 in
set_option maxHeartbeats 2000000 in
theorem large1_in (n : Nat) (hn : 1 ≤ n) (l Bs : Nat) (w0 : World) (a : Option Addr) (cap : Nat) (ls : List K) (hlen : ls.length ≤ 1000) (hl : Hid (Sl w0 (.slice a ls.length cap) 5 (ls.map K.pc)))
    (J Jx : List (Nat × ByteArray) → World → Prop) (W0 : World) (hJ : Hid (AbidesFrom W0.heap.size J))
    (hY : Hid (∀ pre x W, J pre W → pre.length < ls.length → YieldAt Fence.wide (n - 1) Try.prog l (encL x) W fun e W' => (e = .returned (.bool true) ∧ J (pre ++ [x]) W' ∧ Below w0.heap.size W W') ∨ (e = .returned (.bool false) ∧ Jx (pre ++ [x]) W')))
    (hE : Hid (Ext w0 W0)) (hBs : W0.cell? ⟨Bs, 0, none⟩ = some (.slice a ls.length cap)) (h0 : Hid (J [] W0)) :
    CallsIn Fence.wide n Try.prog 117 #[.func (.yield l) #[] #[], .pointer (some ⟨Bs, 0, none⟩)] W0 fun e W' => (∃ v, e = .returned v) ∧
      ((∃ ys, ys = larges ls ls.length ∧ J ys W') ∨ (∃ pre, (∃ k, k ≤ ls.length ∧ pre = larges ls k) ∧ Jx pre W')) := by
  have hfw : Fence.wide.fn 109 := trivial
  refine callsIn_of_wp Try.func117 rfl trivial ?_ rfl
  simp only [Try.ntmps117, List.size_toArray, List.length_cons, List.length_nil, Nat.reduceAdd, Nat.reduceSub, Array.replicate_succ, Array.replicate_zero, List.push_toArray, List.append_toArray, List.nil_append, List.cons_append]
  gi_wp2
  gi_loopw [7] (fun i wr => ∃ k : Nat, k ≤ ls.length ∧ i = .int .i64 k ∧ Hid (J (larges ls k) wr) ∧ Hid (Ext w0 wr)) (fun i _ => ls.length - (intOf i).toNat)
  case atStart => exact ⟨0, Nat.zero_le _, rfl, h0, hE⟩
  case round =>
    obtain ⟨k, hk, rfl, hJs, hEw⟩ := hrel
    by_cases hlt : k < ls.length
    · obtain ⟨b, o, rfl, hb, hx⟩ := hl.out.at_ (i := k) (by simpa using hlt)
      obtain ⟨f0, f1, f2, f3, f4⟩ := K.pcAt hlt hx hb hEw.out
      have HLG := Hid.mk' (fun W => callsIn_wide (n := n - 1).2 (clarge_any ls[k].k ls[k].v.ty ls[k].v.n ls[k].v.x ls[k].v.y ls[k].v.s W))
      have hkl := larges_len ls k
      have HB5 := Hid.mk' (fun (c : K) => Blk.new wr #[.int .u8 c.k, .int .u8 c.v.ty, .int .i64 c.v.n, .complex .f64 c.v.x c.v.y, .string c.v.s] 78)
      clear hx
      cases hq : largeB ls[k].k ls[k].v.ty ls[k].v.s with
      | true =>
        have HU := Hid.mk' (larges_yes hlt hq)
        rw [hq] at HLG
        obtain ⟨c, hc⟩ : ∃ c, c = ls[k] := ⟨_, rfl⟩
        rw [← hc] at f0 f1 f2 f3 f4 HLG HU
        clear hc hq
        gi_wp2_with (gi_at_call 109; refine (HLG.out _).mono ?_; rintro e w1 ⟨rfl, hb1⟩; obtain ⟨fn, tmps, assign, body, hy, hR⟩ := hY.out (larges ls k) (k, c.v.s) w1 (hJ.out _ _ _ none (hJ.out _ _ _ none hJs.out (World.grownBy_alloc _ _ none) (by simp)) (grow_of_ext hb1) (by simp)) (by omega); simp only [encL] at hy; have g5 := ((HB5.out c).ext hb1).cell; have z5 := ((HB5.out c).ext hb1).lt)
        refine hR.mono ?_
        rintro e W3 (⟨rfl, hJ3, hk3⟩ | ⟨rfl, hJx3⟩)
        · gi_wp2
          go_roundw
          case rel => exact ⟨k + 1, by omega, by go_num, Hid.mk' (by rw [HU.out]; exact hJ3), Hid.mk' (Below.trans ((hEw.out.alloc _).trans hb1) hk3)⟩
          case measure => simp [intOf]; omega
        · gi_wp2
          refine bodyPost_ret (results_none rfl _ _ _) rfl ?_
          exact ⟨⟨_, rfl⟩, .inr ⟨_, ⟨k + 1, by omega, HU.out.symm⟩, hJx3⟩⟩
      | false =>
        have HU := Hid.mk' (larges_no hlt hq)
        rw [hq] at HLG
        obtain ⟨c, hc⟩ : ∃ c, c = ls[k] := ⟨_, rfl⟩
        rw [← hc] at f0 f1 f2 f3 f4 HLG
        clear hc hq
        gi_wp2_with (gi_at_call 109; refine (HLG.out _).mono ?_; rintro e w1 ⟨rfl, hb1⟩; have HJ1 := Hid.mk' (hJ.out _ _ _ none (hJ.out _ _ _ none hJs.out (World.grownBy_alloc _ _ none) (by simp)) (grow_of_ext hb1) (by simp)))
        all_goals try (refine ⟨fun _ h => (by cases h), ?_⟩)
        gi_wp2
        go_roundw
        case rel => exact ⟨k + 1, by omega, by go_num, Hid.mk' (by rw [HU.out]; exact HJ1.out), Hid.mk' ((hEw.out.alloc _).trans hb1)⟩
        case measure => simp [intOf]; omega
    · obtain rfl : k = ls.length := by omega
      gi_wp2
      go_end0
      exact ⟨⟨_, rfl⟩, .inl ⟨_, rfl, hJs.out⟩⟩

theorem large_stops (n : Nat) (hn : 1 ≤ n) (Bs : Nat) (w0 : World) (a : Option Addr) (cap : Nat) (ls : List K) (hlen : ls.length ≤ 1000) (hl : Sl w0 (.slice a ls.length cap) 5 (ls.map K.pc))
    (w : World) (hE : Ext w0 w) (hBs : w.cell? ⟨Bs, 0, none⟩ = some (.slice a ls.length cap)) (hB : Bs < w.heap.size) :
    SeqStopsK Fence.wide n Try.prog 117 #[.pointer (some ⟨Bs, 0, none⟩)] encL (Below w0.heap.size) (fun ys => ys = larges ls ls.length) (fun pre => ∃ k, k ≤ ls.length ∧ pre = larges ls k) ls.length w := fun l J Jx W hW hJ _ hY h0 =>
  large1_in n hn l Bs w0 a cap ls hlen hl J Jx W hJ hY (Below.trans hE (hW.mono hE.size)) ((hW.cell (p := ⟨Bs, 0, none⟩) hB).trans hBs) h0

set_option maxHeartbeats 1000000 in
theorem large_in (n : Nat) (a : Option Addr) (len cap : Nat) (w : World) :
    CallsIn Fence.wide n Try.prog 82 #[.slice a len cap] w fun e w' => e = .returned (.func (.func 117) #[] #[.pointer (some ⟨w.heap.size, 0, none⟩)]) ∧ w' = w.alloc (.cells #[.slice a len cap] 33) := by
  refine callsIn_of_wp Try.func82 rfl trivial ?_ rfl
  simp only [Try.ntmps82, List.size_toArray, List.length_cons, List.length_nil, Nat.reduceAdd, Nat.reduceSub, Array.replicate_succ, Array.replicate_zero, List.push_toArray, List.append_toArray, List.nil_append, List.cons_append]
  gi_wp2
  go_ret
  exact ⟨rfl, rfl⟩

theorem Try.infoHole : (Try.prog.info? 98).map (fun i => (i.zero, i.size, i.bytes)) = some (some (.agg #[.int .i64 0, .int .i64 0]), 2, 16) := by kernel_rfl
theorem Try.infoStr : (Try.prog.info? 9).map (fun i => (i.zero, i.size, i.bytes)) = some (some (.string ByteArray.empty), 1, 16) := by kernel_rfl
theorem holes_snoc (pre : List (Nat × ByteArray)) (x : Nat × ByteArray) : ((pre ++ [x]).map holeC).flatten = (pre.map holeC).flatten ++ holeC x := by simp
theorem texts_snoc (pre : List (Nat × ByteArray)) (x : Nat × ByteArray) : ((pre ++ [x]).map textC).flatten = (pre.map textC).flatten ++ textC x := by simp

set_option maxRecDepth 100000 in
set_option maxHeartbeats 2000000 in
theorem holes_in (n : Nat) (hn : 3 ≤ n) (ls : List K) (a : Option Addr) (cap : Nat) (w : World) (hl : Sl w (.slice a ls.length cap) 5 (ls.map K.pc)) (hlen : ls.length ≤ 1000) :
    CallsIn Fence.wide n Try.prog 45 #[.slice a ls.length cap] w fun e W' => ∃ v, e = .returned v ∧ W'.ownsRow w.heap.size 98 2 v (larges ls ls.length).length (((larges ls ls.length).map holeC).flatten) ∧ Ext w W' := by
  have h1 : 1 ≤ n := by omega
  obtain ⟨i0, hi, hz0, hz1, hz2⟩ := info_parts Try.infoHole
  have hfw : Fence.wide.fn 82 := trivial
  refine callsIn_of_wp_marks Try.func45 rfl trivial ?_ rfl
  simp only [Try.ntmps45, List.size_toArray, List.length_cons, List.length_nil, Nat.reduceAdd, Nat.reduceSub, Array.replicate_succ, Array.replicate_zero, List.push_toArray, List.append_toArray, List.nil_append, List.cons_append]
  gi_wp2_with (gi_at_call 82; refine (large_in (n - 1) _ _ _ _).mono ?_; rintro e w' ⟨rfl, rfl⟩)
  have bO := Boxed.new w 93 (.slice none 0 0)
  have bN := Boxed.new (w.alloc (.cells #[.slice none 0 0] 93)) 33 (.slice a ls.length cap)
  rw [World.size_alloc] at bN
  have hB0 : Ext w ((w.alloc (.cells #[.slice none 0 0] 93)).alloc (.cells #[.slice a ls.length cap] 33)) := ((Ext.refl w).alloc _).alloc _
  refine wpIn_rangeFunc_ownG rfl h1 (gf := 117) (lb := #[.pointer (some ⟨w.heap.size + 1, 0, none⟩)]) rfl trivial (enters_of Try.func117 (by kernel_rfl) rfl)
    (large_stops (n - 1) (by omega) (w.heap.size + 1) w a cap ls hlen hl _ hB0 bN.cell (by simp)) belowK_t (belowK_b (by simp; omega)) (Below.refl _ _) (fun _ => rfl)
    (fun (pre : List (Nat × ByteArray)) W => (∃ v, Boxed W w.heap.size 93 v ∧ W.ownsRow w.heap.size 98 2 v pre.length ((pre.map holeC).flatten) ∧ True) ∧ Below w.heap.size w W)
    (fun _ _ _ => False)
    (OwnFrom.and (Own.from (holdsRow_own w.heap.size w.heap.size 93 98 2 (fun (pre : List (Nat × ByteArray)) => pre.length) (fun (pre : List (Nat × ByteArray)) => (pre.map holeC).flatten) (fun _ _ => True)) _) (ownFrom_below (Nat.le_refl _) (by simp; omega)))
    (fun _ _ _ _ _ hs _ _ => hs)
    ⟨⟨_, bO.alloc _, World.ownsRow_nil _ _ _ _, trivial⟩, hB0⟩
    (fun x => { tmps := #[.slice a ls.length cap, undef, .slice none 0 0, .pointer (some ⟨w.heap.size, 0, none⟩), .int .i64 (x.1 : Int), .string x.2, .slice a ls.length cap, .func (.func 117) #[] #[.pointer (some ⟨w.heap.size + 1, 0, none⟩)], .int .i64 (x.1 : Int), .string x.2, undef, undef, undef, undef, undef, undef, undef, undef], defers := [] }) ?assign ?body ?done ?stop
  case assign =>
    intro l x W K hK
    unfold encL
    rw [fold_two]
    gi_wp2
    exact hK
  case body =>
    rintro l pre x W ⟨⟨v, hv, hrow, -⟩, hB⟩ hlt
    have hc := hv.cell
    gi_wp2_with (gi_at_builtin; refine wpListIn_append_own _ rfl _ _ 93 rfl w.heap.size 98 i0 _ 2 16 Try.underlying93 hi hz0 hz1 hz2 rfl (by decide) _ _ _ rfl (hrow.alloc _) ⟨W.heap.size, 0, none⟩ 1 1 (holeC x) rfl rfl (cells_new _ #[.int .i64 (x.1 : Int), .int .i64 (x.2.size : Int)] _) (by intro u hu; simp [holeC] at hu; rcases hu with rfl | rfl <;> rfl) (by unfold maxLen; omega) (by omega) (by have := hB.size; simp; omega) ?_; intro v' w1 hown' hgrow _; obtain ⟨g', cap', rfl⟩ := ownsRow_succ hown'; obtain ⟨hv1, hv2, hr2, hk2, hb2⟩ := hv.appended (by decide) hrow hB.size (Nat.le_refl _) hown' hgrow; have hc1 := hv1.cell; have hf1 := hv1.frozen)
    exact ⟨hk2.from _, hb2, ⟨_, hv2, by rw [holes_snoc]; simpa using hr2, trivial⟩, hB.trans hb2⟩
  case done =>
    rintro D ys W hD rfl ⟨⟨v, hv, hrow, -⟩, hB⟩ hK
    have hc := hv.cell
    gi_wp2
    refine ⟨by simp, .inl ⟨_, _, rfl, run_takeDeferred hK, ?_⟩⟩
    exact ⟨_, results_tmp rfl _ _ _, v, rfl, ownsRow_putObj hrow _ hK rfl, hB.trans (belowK_b (w := w) (Nat.le_refl _) W D _ _ (by simp at hD; omega) hK rfl rfl)⟩
  case stop =>
    rintro D c pre W _ _ h _
    exact h.elim

set_option maxRecDepth 100000 in
set_option maxHeartbeats 2000000 in
theorem texts_in (n : Nat) (hn : 3 ≤ n) (ls : List K) (a : Option Addr) (cap : Nat) (w : World) (hl : Sl w (.slice a ls.length cap) 5 (ls.map K.pc)) (hlen : ls.length ≤ 1000) :
    CallsIn Fence.wide n Try.prog 41 #[.slice a ls.length cap] w fun e W' => ∃ v, e = .returned v ∧ W'.ownsRow w.heap.size 9 1 v (larges ls ls.length).length (((larges ls ls.length).map textC).flatten) ∧ Ext w W' := by
  have h1 : 1 ≤ n := by omega
  obtain ⟨i0, hi, hz0, hz1, hz2⟩ := info_parts Try.infoStr
  have hfw : Fence.wide.fn 82 := trivial
  refine callsIn_of_wp_marks Try.func41 rfl trivial ?_ rfl
  simp only [Try.ntmps41, List.size_toArray, List.length_cons, List.length_nil, Nat.reduceAdd, Nat.reduceSub, Array.replicate_succ, Array.replicate_zero, List.push_toArray, List.append_toArray, List.nil_append, List.cons_append]
  gi_wp2_with (gi_at_call 82; refine (large_in (n - 1) _ _ _ _).mono ?_; rintro e w' ⟨rfl, rfl⟩)
  have bO := Boxed.new w 86 (.slice none 0 0)
  have bN := Boxed.new (w.alloc (.cells #[.slice none 0 0] 86)) 33 (.slice a ls.length cap)
  rw [World.size_alloc] at bN
  have hB0 : Ext w ((w.alloc (.cells #[.slice none 0 0] 86)).alloc (.cells #[.slice a ls.length cap] 33)) := ((Ext.refl w).alloc _).alloc _
  refine wpIn_rangeFunc_ownG rfl h1 (gf := 117) (lb := #[.pointer (some ⟨w.heap.size + 1, 0, none⟩)]) rfl trivial (enters_of Try.func117 (by kernel_rfl) rfl)
    (large_stops (n - 1) (by omega) (w.heap.size + 1) w a cap ls hlen hl _ hB0 bN.cell (by simp)) belowK_t (belowK_b (by simp; omega)) (Below.refl _ _) (fun _ => rfl)
    (fun (pre : List (Nat × ByteArray)) W => (∃ v, Boxed W w.heap.size 86 v ∧ W.ownsRow w.heap.size 9 1 v pre.length ((pre.map textC).flatten) ∧ True) ∧ Below w.heap.size w W)
    (fun _ _ _ => False)
    (OwnFrom.and (Own.from (holdsRow_own w.heap.size w.heap.size 86 9 1 (fun (pre : List (Nat × ByteArray)) => pre.length) (fun (pre : List (Nat × ByteArray)) => (pre.map textC).flatten) (fun _ _ => True)) _) (ownFrom_below (Nat.le_refl _) (by simp; omega)))
    (fun _ _ _ _ _ hs _ _ => hs)
    ⟨⟨_, bO.alloc _, World.ownsRow_nil _ _ _ _, trivial⟩, hB0⟩
    (fun x => { tmps := #[.slice a ls.length cap, undef, .slice none 0 0, .pointer (some ⟨w.heap.size, 0, none⟩), undef, .string x.2, .slice a ls.length cap, .func (.func 117) #[] #[.pointer (some ⟨w.heap.size + 1, 0, none⟩)], .int .i64 (x.1 : Int), .string x.2, undef, undef, undef, undef, undef], defers := [] }) ?assign ?body ?done ?stop
  case assign =>
    intro l x W K hK
    unfold encL
    rw [fold_two]
    gi_wp2
    exact hK
  case body =>
    rintro l pre x W ⟨⟨v, hv, hrow, -⟩, hB⟩ hlt
    have hc := hv.cell
    gi_wp2_with (gi_at_builtin; refine wpListIn_append_own _ rfl _ _ 86 rfl w.heap.size 9 i0 _ 1 16 Try.underlying86 hi hz0 hz1 hz2 rfl (by decide) _ _ _ rfl (hrow.alloc _) ⟨W.heap.size, 0, none⟩ 1 1 (textC x) rfl rfl (cells_new _ #[.string x.2] _) (by intro u hu; simp [textC] at hu; subst hu; rfl) (by unfold maxLen; omega) (by omega) (by have := hB.size; simp; omega) ?_; intro v' w1 hown' hgrow _; obtain ⟨g', cap', rfl⟩ := ownsRow_succ hown'; obtain ⟨hv1, hv2, hr2, hk2, hb2⟩ := hv.appended (by decide) hrow hB.size (Nat.le_refl _) hown' hgrow; have hc1 := hv1.cell; have hf1 := hv1.frozen)
    exact ⟨hk2.from _, hb2, ⟨_, hv2, by rw [texts_snoc]; simpa using hr2, trivial⟩, hB.trans hb2⟩
  case done =>
    rintro D ys W hD rfl ⟨⟨v, hv, hrow, -⟩, hB⟩ hK
    have hc := hv.cell
    gi_wp2
    refine ⟨by simp, .inl ⟨_, _, rfl, run_takeDeferred hK, ?_⟩⟩
    exact ⟨_, results_tmp rfl _ _ _, v, rfl, ownsRow_putObj hrow _ hK rfl, hB.trans (belowK_b (w := w) (Nat.le_refl _) W D _ _ (by simp at hD; omega) hK rfl rfl)⟩
  case stop =>
    rintro D c pre W _ _ h _
    exact h.elim

/-- The holes of a row. -/
def hoL (l : List K) : List Ho := (larges l l.length).map fun x => ⟨(x.1 : Int), (x.2.size : Int)⟩
def txL (l : List K) : List ByteArray := (larges l l.length).map Prod.snd
theorem hoL_len (l : List K) : (hoL l).length = (larges l l.length).length := by simp [hoL]
theorem txL_len (l : List K) : (txL l).length = (larges l l.length).length := by simp [txL]
theorem hoL_cells (l : List K) : (hoL l).map Ho.cells = (larges l l.length).map holeC := by simp [hoL, Ho.cells, holeC, Function.comp_def]
theorem txL_cells (l : List K) : (txL l).map strC = (larges l l.length).map textC := by simp [txL, strC, textC, Function.comp_def]
theorem holes_any (ls : List K) (a : Option Addr) (cap : Nat) (w : World) (hl : Sl w (.slice a ls.length cap) 5 (ls.map K.pc)) (hlen : ls.length ≤ 1000) :
    Calls Try.prog 45 #[.slice a ls.length cap] w fun e W' => ∃ a' cap', e = .returned (.slice a' (hoL ls).length cap') ∧ Sl W' (.slice a' (hoL ls).length cap') 2 ((hoL ls).map Ho.cells) ∧ Ext w W' := by
  refine (callsIn_wide.1 (holes_in 3 (Nat.le_refl _) ls a cap w hl hlen)).mono ?_
  rintro e W' ⟨v, rfl, ho, hE⟩
  obtain ⟨a', c', rfl⟩ := owns_shape ho
  rw [hoL_len, hoL_cells]
  exact ⟨a', c', rfl, Sl.of_owns (base := w.heap.size) (e := 98) (by rw [List.length_map]; exact ho) (by intro xs hxs; simp at hxs; obtain ⟨_, _, _, rfl⟩ := hxs; rfl), hE⟩
theorem texts_any (ls : List K) (a : Option Addr) (cap : Nat) (w : World) (hl : Sl w (.slice a ls.length cap) 5 (ls.map K.pc)) (hlen : ls.length ≤ 1000) :
    Calls Try.prog 41 #[.slice a ls.length cap] w fun e W' => ∃ a' cap', e = .returned (.slice a' (txL ls).length cap') ∧ Sl W' (.slice a' (txL ls).length cap') 1 ((txL ls).map strC) ∧ Ext w W' := by
  refine (callsIn_wide.1 (texts_in 3 (Nat.le_refl _) ls a cap w hl hlen)).mono ?_
  rintro e W' ⟨v, rfl, ho, hE⟩
  obtain ⟨a', c', rfl⟩ := owns_shape ho
  rw [txL_len, txL_cells]
  exact ⟨a', c', rfl, Sl.of_owns (base := w.heap.size) (e := 9) (by rw [List.length_map]; exact ho) (by intro xs hxs; simp at hxs; obtain ⟨_, _, _, rfl⟩ := hxs; rfl), hE⟩

end Go.Proofs.Ytdbepkfblfhlhaa

/-
A row of cells in a block of the call's own: read, written at an index, made, cloned.
-/
namespace Go.Proofs.Ytdbepkfblfhlhaa
open Go.RowKit

def RowAt (W : World) (g : Nat) (ks : List K) : Prop := ∃ cs : Array Value, Blk W g cs 78 ∧ ks.length * 5 ≤ cs.size ∧ ∀ i (hi : i < ks.length), ∀ j, j < 5 → cs[i * 5 + j]? = (ks[i].pc)[j]?
section
variable {W W' : World} {g : Nat} {ks : List K}
theorem RowAt.lt (h : RowAt W g ks) : g < W.heap.size := by obtain ⟨cs, hb, _⟩ := h; exact hb.lt
theorem RowAt.ext (h : RowAt W g ks) (he : Ext W W') : RowAt W' g ks := by obtain ⟨cs, hb, hr⟩ := h; exact ⟨cs, hb.ext he, hr⟩
theorem RowAt.drew (h : RowAt W g ks) : RowAt W.drew g ks := h
theorem RowAt.alloc (h : RowAt W g ks) (o : Obj) : RowAt (W.alloc o) g ks := h.ext ((Ext.refl W).alloc o)
theorem RowAt.other (h : RowAt W g ks) (a : Addr) (v : Value) (hne : g ≠ a.block) : RowAt (W.setCell a v) g ks := by obtain ⟨cs, hb, hr⟩ := h; exact ⟨cs, hb.other a v hne, hr⟩
theorem RowAt.kept (h : RowAt W g ks) {row : Option Nat} (hg : W.grownBy W' row) (hr : ∀ r, row = some r → ∃ o : Obj, W.heap[r]? = some o ∧ o.isCells = false) : RowAt W' g ks := by
  obtain ⟨cs, hb, hx⟩ := h
  refine ⟨cs, (hg.block g hb.lt (fun e => ?_)).trans hb, hx⟩
  obtain ⟨o, ho, hc⟩ := hr g e.symm
  rw [show W.heap[g]? = _ from hb] at ho
  cases ho; cases hc
theorem RowAt.frozen (h : RowAt W g ks) (o : Nat) : W.frozen? ⟨g, o, none⟩ = false := by obtain ⟨cs, hb, _⟩ := h; exact hb.frozen o
theorem RowAt.cells (h : RowAt W g ks) {i : Nat} (hi : i < ks.length) : W.cell? ⟨g, i * 5, none⟩ = some (.int .u8 ks[i].k) ∧ W.cell? ⟨g, i * 5 + 1, none⟩ = some (.int .u8 ks[i].v.ty) ∧ W.cell? ⟨g, i * 5 + 2, none⟩ = some (.int .i64 ks[i].v.n) ∧
    W.cell? ⟨g, i * 5 + 3, none⟩ = some (.complex .f64 ks[i].v.x ks[i].v.y) ∧ W.cell? ⟨g, i * 5 + 4, none⟩ = some (.string ks[i].v.s) := by
  obtain ⟨cs, hb, _, hx⟩ := h
  have hx := hx i hi
  exact ⟨(hb.cell _).trans (hx 0 (by omega)), (hb.cell _).trans (hx 1 (by omega)), (hb.cell _).trans (hx 2 (by omega)), (hb.cell _).trans (hx 3 (by omega)), (hb.cell _).trans (hx 4 (by omega))⟩
theorem RowAt.sl (h : RowAt W g ks) (cap : Nat) : Sl W (.slice (some ⟨g, 0, none⟩) ks.length cap) 5 (ks.map K.pc) := by
  obtain ⟨cs, hb, _, hx⟩ := h
  refine ⟨_, cap, by rw [List.length_map], .inr ⟨g, 0, rfl, hb.lt, fun i hi j hj => ?_⟩⟩
  rw [List.length_map] at hi
  rw [getD_map K.pc ks hi, ← hx i hi j hj, Nat.zero_add]
  exact hb.cell _
theorem RowAt.set (h : RowAt W g ks) {i : Nat} (hi : i < ks.length) (c : K) :
    RowAt (((((W.setCell ⟨g, i * 5, none⟩ (.int .u8 c.k)).setCell ⟨g, i * 5 + 1, none⟩ (.int .u8 c.v.ty)).setCell ⟨g, i * 5 + 2, none⟩ (.int .i64 c.v.n)).setCell ⟨g, i * 5 + 3, none⟩ (.complex .f64 c.v.x c.v.y)).setCell ⟨g, i * 5 + 4, none⟩ (.string c.v.s)) g (ks.set i c) := by
  obtain ⟨cs, hb, hs, hx⟩ := h
  refine ⟨_, ((((hb.set _ _).set _ _).set _ _).set _ _).set _ _, by simpa using hs, fun q hq j hj => ?_⟩
  rw [List.length_set] at hq
  simp only [Array.getElem?_setIfInBounds, Array.size_setIfInBounds]
  by_cases e : q = i
  · subst e
    rw [List.getElem_set_self]
    have : j = 0 ∨ j = 1 ∨ j = 2 ∨ j = 3 ∨ j = 4 := by omega
    rcases this with rfl | rfl | rfl | rfl | rfl
    all_goals
      simp [K.pc]
      (try omega)
  · rw [List.getElem_set_ne (Ne.symm e), ← hx q hq j hj]
    rw [if_neg (by omega), if_neg (by omega), if_neg (by omega), if_neg (by omega), if_neg (by omega)]
theorem RowAt.mono (h : RowAt W g ks) {ls : List K} (e : ks = ls) : RowAt W g ls := e ▸ h

theorem RowAt.of_owns {base n cap : Nat} (h : W.ownsRow base 78 5 (.slice (some ⟨g, 0, none⟩) n cap) n (ks.map K.pc).flatten) (hn : ks.length = n) : RowAt W g ks := by
  obtain ⟨h1, h2⟩ := h
  rcases h2 with ⟨h3, _⟩ | ⟨g', cap', cur, hv, hg, hh, hnc, hcap, hsz, htake⟩
  · cases h3
  · simp only [Value.slice.injEq, Option.some.injEq, Addr.mk.injEq] at hv
    obtain ⟨⟨rfl, -, -⟩, -, rfl⟩ := hv
    have hfl : (ks.map K.pc).flatten.length = ks.length * 5 := by
      have := flat_length 5 (ks.map K.pc) (fun xs hxs => by simp at hxs; obtain ⟨c, _, rfl⟩ := hxs; rfl)
      rwa [List.length_map] at this
    have hct : ks.length * 5 ≤ cur.size := by
      have := congrArg List.length htake
      rw [List.length_take, hfl] at this
      simp at this
      omega
    refine ⟨cur, hh, hct, fun i hi j hj => ?_⟩
    have := flat_get 5 (ks.map K.pc) (fun xs hxs => by simp at hxs; obtain ⟨c, _, rfl⟩ := hxs; rfl) i (by simpa using hi) j hj
    rw [getD_map K.pc ks hi] at this
    rw [← this, ← htake, List.getElem?_take, if_pos (by rw [← hn]; omega)]
    simp
end

/-- make of a row. -/
theorem run_makeK (n : Nat) (hn : n ≤ 1000) (w : World) :
    ∃ cs : Array Value, (Instr.makeSlice 33 (.int .i64 (n : Int)) (.int .i64 (n : Int))).run Try.prog w = .ok (.slice (some ⟨w.heap.size, 0, none⟩) n n) (w.alloc (.cells cs 78)) ∧ n * 5 ≤ cs.size ∧ ∀ i, i < n → ∀ j, j < 5 → cs[i * 5 + j]? = (K.zero.pc)[j]? := by
  obtain ⟨i0, hi, hz0, hz1, hz2⟩ := info_parts Try.infoCellP
  have hr := run_make (P := Try.prog) w 33 78 i0 _ Try.underlying33 hi hz0 .i64 .i64 (n : Int) (n : Int) (by omega) (by omega) (by rw [hz2]; omega) (by omega)
  simp only [Int.toNat_natCast, hz1] at hr
  refine ⟨_, hr, by rw [size_madeCells]; exact Nat.le_refl _, fun i hi j hj => ?_⟩
  have hlt : i * 5 + j < n * 5 := by omega
  have hm : (i * 5 + j) % 5 = j := by omega
  have : j = 0 ∨ j = 1 ∨ j = 2 ∨ j = 3 ∨ j = 4 := by omega
  simp only [madeCells, Array.getElem?_map, Array.getElem?_range, hlt]
  rcases this with rfl | rfl | rfl | rfl | rfl <;> simp [Value.cells, K.pc, K.zero, V.zero, hm]

end Go.Proofs.Ytdbepkfblfhlhaa

/-
The key of a row: the program's image.KeyOf.
-/
namespace Go.Proofs.Ytdbepkfblfhlhaa
open Go.RowKit Go.Shelf
attribute [local go_sem] Oper.semAt_some

/-- Is a column of the key? -/
def isKeyAt (cols : List Col) (i : Nat) : Bool := (cols[i]?.map Col.key).getD false
/-- A row with the columns of the key alone. -/
def keyOf (cols : List Col) (l : List K) : List K := l.mapIdx fun i c => if isKeyAt cols i = true then c else K.zero
/-- A row with some of its cells. -/
def fillK {cols : List Col} (l : List K) (pre : List (KX cols)) : List K := l.mapIdx fun i c => if pre.any (fun x => x.1.1 == i) = true then c else K.zero
theorem fillK_len {cols : List Col} {l : List K} {pre : List (KX cols)} : (fillK l pre).length = l.length := by simp [fillK]
theorem fillK_get {cols : List Col} {l : List K} {pre : List (KX cols)} {i : Nat} (h : i < (fillK l pre).length) : (fillK l pre)[i] = if pre.any (fun x => x.1.1 == i) = true then l[i]'(by rw [fillK_len] at h; exact h) else K.zero := by
  simp [fillK]
theorem fillK_nil {cols : List Col} {l : List K} : fillK l ([] : List (KX cols)) = List.replicate l.length K.zero := by
  apply List.ext_getElem
  · simp [fillK]
  · intro i h1 h2; rw [fillK_get]; simp
theorem fillK_set {cols : List Col} {l : List K} {pre : List (KX cols)} {x : KX cols} (h : x.1.1 < l.length) : fillK l (pre ++ [x]) = (fillK l pre).set x.1.1 l[x.1.1] := by
  apply List.ext_getElem
  · simp [fillK]
  · intro i h1 h2
    rw [fillK_get, List.getElem_set]
    by_cases e : x.1.1 = i
    · subst e; simp
    · rw [if_neg e, fillK_get, List.any_append]
      have : ([x].any fun x => x.1.1 == i) = false := by simp [e]
      rw [this, Bool.or_false]
theorem fillK_skip {cols : List Col} {l : List K} {pre : List (KX cols)} {x : KX cols} (h : l.length ≤ x.1.1) : fillK l (pre ++ [x]) = fillK l pre := by
  apply List.ext_getElem
  · simp [fillK]
  · intro i h1 h2
    rw [fillK_get, fillK_get, List.any_append]
    have hi : i < l.length := by rw [fillK_len] at h2; exact h2
    have : ([x].any fun x => x.1.1 == i) = false := by simp; omega
    rw [this, Bool.or_false]
theorem isKey_any {cols : List Col} {i : Nat} : (keysUp cols cols.length).any (fun x => x.1.1 == i) = isKeyAt cols i := by
  rw [Bool.eq_iff_iff, List.any_eq_true]
  unfold isKeyAt
  constructor
  · rintro ⟨⟨⟨j, c⟩, hj, hc, hk⟩, _, h⟩
    simp only [beq_iff_eq] at h
    subst h
    simp only at hc hk
    rw [hc]; simpa using hk
  · intro h
    cases hc : cols[i]? with
    | none => rw [hc] at h; simp at h
    | some c =>
      rw [hc] at h
      have hi : i < cols.length := (List.getElem?_eq_some_iff.1 hc).1
      exact ⟨⟨(i, c), hi, hc, by simpa using h⟩, (keysUp_mem _ _).2 hi, by simp⟩
theorem fillK_all {cols : List Col} {l : List K} : fillK l (keysUp cols cols.length) = keyOf cols l := by
  unfold fillK keyOf
  congr 1
  funext i c
  rw [isKey_any]

set_option maxRecDepth 100000 in
set_option maxHeartbeats 4000000 in
theorem keyOf_in (F : Fence) (n : Nat) (h1F : F.fn 105) (hKF : F.fn 67) (hDF : F.fn 25) (hro : F.round = none) (hn : 3 ≤ n) (oid ver : Int) (nm : ByteArray) (id : Int) (cols : List Col) (a2 : Option Addr) (cap2 : Nat) (l : List K) (a : Option Addr) (cap : Nat) (w : World)
    (hl2 : Sl w (.slice a2 cols.length cap2) 3 (cols.map Col.cells)) (hlen2 : cols.length ≤ 1000) (hl : Sl w (.slice a l.length cap) 5 (l.map K.pc)) (hlen : l.length ≤ 1000) :
    CallsIn F n Try.prog 25 #[.agg #[.int .u32 oid, .int .u32 ver, .string nm, .int .u8 id, .slice a2 cols.length cap2], .slice a l.length cap] w fun e w' => ∃ g cap', e = .returned (.slice (some ⟨g, 0, none⟩) l.length cap') ∧ l.length ≤ cap' ∧ w.heap.size ≤ g ∧ RowAt w' g (keyOf cols l) ∧ Ext w w' := by
  have h1 : 1 ≤ n := by omega
  have HL := Hid.mk' hl
  have HL2 := Hid.mk' hl2
  clear hl hl2
  obtain ⟨cs, hmk0, hcs1, hcs2⟩ := run_makeK l.length hlen ((w.alloc (.cells #[.int .u32 oid, .int .u32 ver, .string nm, .int .u8 id, .slice a2 cols.length cap2] 42)).alloc (.cells #[.slice a l.length cap] 33))
  have hmk : (Instr.makeSlice 33 (.int .i64 (l.length : Int)) (.int .i64 (l.length : Int))).run Try.prog ((w.alloc (.cells #[.int .u32 oid, .int .u32 ver, .string nm, .int .u8 id, .slice a2 cols.length cap2] 42)).alloc (.cells #[.slice a l.length cap] 33)) = .ok (.slice (some ⟨w.heap.size + 1 + 1, 0, none⟩) l.length l.length) (((w.alloc (.cells #[.int .u32 oid, .int .u32 ver, .string nm, .int .u8 id, .slice a2 cols.length cap2] 42)).alloc (.cells #[.slice a l.length cap] 33)).alloc (.cells cs 78)) := by
    rw [hmk0]; simp
  have HC := Hid.mk' (And.intro hcs1 hcs2)
  clear hmk0 hcs1 hcs2
  refine callsIn_of_wp_marks Try.func25 rfl hDF ?_ hro
  simp only [Try.ntmps25, List.size_toArray, List.length_cons, List.length_nil, Nat.reduceAdd, Nat.reduceSub, Array.replicate_succ, Array.replicate_zero, List.push_toArray, List.append_toArray, List.nil_append, List.cons_append]
  gi_wp2_with (gi_at_call 67; refine (keys_in F (n - 1) hKF hro _ _ _ _ _ _).mono ?_; rintro e w' ⟨rfl, rfl⟩)
  have hE5 : Ext w (((((w.alloc (.cells #[.int .u32 oid, .int .u32 ver, .string nm, .int .u8 id, .slice a2 cols.length cap2] 42)).alloc (.cells #[.slice a l.length cap] 33)).alloc (.cells cs 78)).alloc (.cells #[.slice (some ⟨w.heap.size + 1 + 1, 0, none⟩) l.length l.length] 33)).alloc (.cells #[.int .u32 oid, .int .u32 ver, .string nm, .int .u8 id, .slice a2 cols.length cap2] 42)) := (((((Ext.refl w).alloc _).alloc _).alloc _).alloc _).alloc _
  have hB1 : Blk (((((w.alloc (.cells #[.int .u32 oid, .int .u32 ver, .string nm, .int .u8 id, .slice a2 cols.length cap2] 42)).alloc (.cells #[.slice a l.length cap] 33)).alloc (.cells cs 78)).alloc (.cells #[.slice (some ⟨w.heap.size + 1 + 1, 0, none⟩) l.length l.length] 33)).alloc (.cells #[.int .u32 oid, .int .u32 ver, .string nm, .int .u8 id, .slice a2 cols.length cap2] 42)) (w.heap.size + 1) #[.slice a l.length cap] 33 := (((Blk.new' _ _ (by simp)).alloc _).alloc _).alloc _
  have hB2 : Blk (((((w.alloc (.cells #[.int .u32 oid, .int .u32 ver, .string nm, .int .u8 id, .slice a2 cols.length cap2] 42)).alloc (.cells #[.slice a l.length cap] 33)).alloc (.cells cs 78)).alloc (.cells #[.slice (some ⟨w.heap.size + 1 + 1, 0, none⟩) l.length l.length] 33)).alloc (.cells #[.int .u32 oid, .int .u32 ver, .string nm, .int .u8 id, .slice a2 cols.length cap2] 42)) (w.heap.size + 1 + 1) cs 78 := ((Blk.new' _ _ (by simp)).alloc _).alloc _
  have hB3 : Blk (((((w.alloc (.cells #[.int .u32 oid, .int .u32 ver, .string nm, .int .u8 id, .slice a2 cols.length cap2] 42)).alloc (.cells #[.slice a l.length cap] 33)).alloc (.cells cs 78)).alloc (.cells #[.slice (some ⟨w.heap.size + 1 + 1, 0, none⟩) l.length l.length] 33)).alloc (.cells #[.int .u32 oid, .int .u32 ver, .string nm, .int .u8 id, .slice a2 cols.length cap2] 42)) (w.heap.size + 1 + 1 + 1) #[.slice (some ⟨w.heap.size + 1 + 1, 0, none⟩) l.length l.length] 33 := (Blk.new' _ _ (by simp)).alloc _
  have hB4 : Blk (((((w.alloc (.cells #[.int .u32 oid, .int .u32 ver, .string nm, .int .u8 id, .slice a2 cols.length cap2] 42)).alloc (.cells #[.slice a l.length cap] 33)).alloc (.cells cs 78)).alloc (.cells #[.slice (some ⟨w.heap.size + 1 + 1, 0, none⟩) l.length l.length] 33)).alloc (.cells #[.int .u32 oid, .int .u32 ver, .string nm, .int .u8 id, .slice a2 cols.length cap2] 42)) (w.heap.size + 1 + 1 + 1 + 1) #[.int .u32 oid, .int .u32 ver, .string nm, .int .u8 id, .slice a2 cols.length cap2] 42 := Blk.new' _ _ (by simp)
  have hRow : RowAt (((((w.alloc (.cells #[.int .u32 oid, .int .u32 ver, .string nm, .int .u8 id, .slice a2 cols.length cap2] 42)).alloc (.cells #[.slice a l.length cap] 33)).alloc (.cells cs 78)).alloc (.cells #[.slice (some ⟨w.heap.size + 1 + 1, 0, none⟩) l.length l.length] 33)).alloc (.cells #[.int .u32 oid, .int .u32 ver, .string nm, .int .u8 id, .slice a2 cols.length cap2] 42)) (w.heap.size + 1 + 1) (fillK l ([] : List (KX cols))) := by
    rw [fillK_nil]
    refine ⟨cs, hB2, by rw [List.length_replicate]; exact HC.out.1, fun i hi j hj => ?_⟩
    rw [List.length_replicate] at hi
    rw [List.getElem_replicate]
    exact HC.out.2 i hi j hj
  clear hmk
  refine wpIn_rangeFunc_ownG hro h1 (gf := 105) (lb := #[.pointer (some ⟨w.heap.size + 1 + 1 + 1 + 1, 0, none⟩)]) rfl h1F (enters_of Try.func105 (by kernel_rfl) rfl)
    (keys_stops F (n - 1) h1F hro (by omega) (w.heap.size + 1 + 1 + 1 + 1) w a2 cap2 cols hlen2 HL2.out _ hE5 (hB4.cell 4) hB4.lt) belowK_t (belowK_b (by simp; omega)) (Below.refl _ _) (fun _ => rfl)
    (fun pre W => (RowAt W (w.heap.size + 1 + 1) (fillK l pre) ∧ W.cell? ⟨w.heap.size + 1 + 1 + 1, 0, none⟩ = some (.slice (some ⟨w.heap.size + 1 + 1, 0, none⟩) l.length l.length) ∧ W.cell? ⟨w.heap.size + 1, 0, none⟩ = some (.slice a l.length cap)) ∧ Below w.heap.size w W)
    (fun _ _ _ => False)
    (OwnFrom.and (Own.from (fun s A B row hs hg hr => ⟨hs.1.kept hg hr, cell_kept hs.2.1 hg hr, cell_kept hs.2.2 hg hr⟩) _) (ownFrom_below (Nat.le_refl _) (by simp; omega)))
    (fun _ _ _ _ _ hs _ _ => hs)
    ⟨⟨hRow, hB3.cell 0, hB1.cell 0⟩, hE5⟩
    (fun x => { tmps := #[.agg #[.int .u32 oid, .int .u32 ver, .string nm, .int .u8 id, .slice a2 cols.length cap2], .slice a l.length cap, .pointer (some ⟨w.heap.size, 0, none⟩), .pointer (some ⟨w.heap.size + 1, 0, none⟩), .slice none 0 0, .pointer (some ⟨w.heap.size + 1 + 1 + 1, 0, none⟩), .int .i64 (x.1.1 : Int), .slice a l.length cap, .int .i64 (l.length : Int), .slice (some ⟨w.heap.size + 1 + 1, 0, none⟩) l.length l.length, .agg #[.int .u32 oid, .int .u32 ver, .string nm, .int .u8 id, .slice a2 cols.length cap2], .func (.func 105) #[] #[.pointer (some ⟨w.heap.size + 1 + 1 + 1 + 1, 0, none⟩)], .int .i64 (x.1.1 : Int), .agg #[.string x.1.2.nm, .int .u8 x.1.2.ty, .bool x.1.2.key], undef, undef, undef, undef, undef, undef, undef, undef, undef, undef, undef, undef], defers := [] }) ?assign ?body ?done ?stop
  case assign =>
    intro l x W K hK
    unfold encK
    rw [fold_two]
    gi_wp2
    exact hK
  case body =>
    rintro lr pre x W ⟨⟨hr, hco, hcw⟩, hB⟩ _
    have HR := Hid.mk' hr
    have HB := Hid.mk' hB
    clear hr hB
    have hx : x.1.1 < cols.length := x.2.1
    have hmx : Try.prog.follows .mixedOrders = true := by kernel_rfl
    by_cases hlt : x.1.1 < l.length
    · obtain ⟨b, o, rfl, hb, hc⟩ := HL.out.at_ (i := x.1.1) (by simpa using hlt)
      obtain ⟨f0, f1, f2, f3, f4⟩ := K.pcAt hlt hc hb HB.out
      have hs := HR.out.cells (i := x.1.1) (by rw [fillK_len]; exact hlt)
      obtain ⟨s0, s1, s2, s3, s4⟩ := hs
      have sf := HR.out.frozen
      have HU := Hid.mk' (fillK_set (pre := pre) hlt)
      clear hc
      gi_wp2
      gi_region_with_o (fail)
      all_goals
        gi_wp2
        have HBW := Hid.mk' (((((((Below.refl w.heap.size W).setCell (p := ⟨w.heap.size + 1 + 1, x.1.1 * 5, none⟩) (by show w.heap.size ≤ w.heap.size + 1 + 1; omega) (.int .u8 l[x.1.1].k)).setCell (p := ⟨w.heap.size + 1 + 1, x.1.1 * 5 + 1, none⟩) (by show w.heap.size ≤ w.heap.size + 1 + 1; omega) (.int .u8 l[x.1.1].v.ty)).setCell (p := ⟨w.heap.size + 1 + 1, x.1.1 * 5 + 2, none⟩) (by show w.heap.size ≤ w.heap.size + 1 + 1; omega) (.int .i64 l[x.1.1].v.n)).setCell (p := ⟨w.heap.size + 1 + 1, x.1.1 * 5 + 3, none⟩) (by show w.heap.size ≤ w.heap.size + 1 + 1; omega) (.complex .f64 l[x.1.1].v.x l[x.1.1].v.y)).setCell (p := ⟨w.heap.size + 1 + 1, x.1.1 * 5 + 4, none⟩) (by show w.heap.size ≤ w.heap.size + 1 + 1; omega) (.string l[x.1.1].v.s)).drew)
        refine ⟨((((((KeepsOthers.setCell _ _ _).trans (KeepsOthers.setCell _ _ _)).trans (KeepsOthers.setCell _ _ _)).trans (KeepsOthers.setCell _ _ _)).trans (KeepsOthers.setCell _ _ _)).trans (KeepsOthers.drew _)).from _, HBW.out, ⟨by rw [HU.out]; exact (HR.out.set (by rw [fillK_len]; exact hlt) l[x.1.1]).drew, ?_, ?_⟩, HB.out.trans HBW.out⟩ <;> go_simp
    · have hge : l.length ≤ x.1.1 := by omega
      have HU := Hid.mk' (fillK_skip (pre := pre) hge)
      gi_wp2
      exact ⟨KeepsFrom.refl _ _, Below.refl _ _, ⟨by rw [HU.out]; exact HR.out, hco, hcw⟩, HB.out⟩
  case done =>
    rintro D ys W hD rfl ⟨⟨hr, hco, hcw⟩, hB⟩ hK
    gi_wp2
    refine ⟨by simp, .inl ⟨_, _, rfl, run_takeDeferred hK, ?_⟩⟩
    refine ⟨_, results_tmp rfl _ _ _, w.heap.size + 1 + 1, l.length, rfl, Nat.le_refl _, by omega, ?_, hB.trans (belowK_b (w := w) (Nat.le_refl _) W D _ _ (by simp at hD; omega) hK rfl rfl)⟩
    rw [← fillK_all]
    exact hr.kept (grownBy_putObj' _ D (.deferred none)) (fun r e => by cases e; exact ⟨_, hK, rfl⟩)
  case stop =>
    rintro D c pre W _ _ h _
    exact h.elim

theorem keyOf_any (oid ver : Int) (nm : ByteArray) (id : Int) (cols : List Col) (a2 : Option Addr) (cap2 : Nat) (l : List K) (a : Option Addr) (cap : Nat) (w : World)
    (hl2 : Sl w (.slice a2 cols.length cap2) 3 (cols.map Col.cells)) (hlen2 : cols.length ≤ 1000) (hl : Sl w (.slice a l.length cap) 5 (l.map K.pc)) (hlen : l.length ≤ 1000) :
    Calls Try.prog 25 #[.agg #[.int .u32 oid, .int .u32 ver, .string nm, .int .u8 id, .slice a2 cols.length cap2], .slice a l.length cap] w fun e w' => ∃ g cap', e = .returned (.slice (some ⟨g, 0, none⟩) l.length cap') ∧ l.length ≤ cap' ∧ w.heap.size ≤ g ∧ RowAt w' g (keyOf cols l) ∧ Ext w w' :=
  callsIn_wide.1 (keyOf_in Fence.wide 3 trivial trivial trivial rfl (Nat.le_refl _) oid ver nm id cols a2 cap2 l a cap w hl2 hlen2 hl hlen)

end Go.Proofs.Ytdbepkfblfhlhaa

/-
What is wrong with the key of a row: the program's image.keyed.
-/
namespace Go.Proofs.Ytdbepkfblfhlhaa
open Go.RowKit Go.Shelf
attribute [local go_sem] Oper.semAt_some

def kindAt (l : List K) (i : Nat) : Int := if h : i < l.length then l[i].k else 2
theorem kindAt_lt {l : List K} {i : Nat} (h : i < l.length) : kindAt l i = l[i].k := by unfold kindAt; rw [dif_pos h]
def kindE (k : Int) : Int := if k = 0 then 12 else if k = 1 then 13 else 0
/-- What is wrong with a cell of the key. -/
def keyE (cols : List Col) (l : List K) (i : Nat) : Int := if isKeyAt cols i = true then kindE (kindAt l i) else 0
/-- What is wrong with a row, and its key. -/
def keyedE (l : List K) (r : Rl) : Int := if fitsE l r ≠ 0 then fitsE l r else firstE (keyE r.cols l) l.length

theorem isKey_x {cols : List Col} (x : KX cols) : isKeyAt cols x.1.1 = true := by
  obtain ⟨⟨j, c⟩, hj, hc, hk⟩ := x
  unfold isKeyAt; simp only at hc hk; rw [hc]; simpa using hk
theorem fits_zero {l : List K} {r : Rl} (h : fitsE l r = 0) : r.right = 0 ∧ l.length = r.cols.length ∧ ∀ i (h1 : i < l.length) (h2 : i < r.cols.length), l[i].right r.cols[i].ty = 0 := by
  unfold fitsE at h
  split at h
  · rename_i h1; exact absurd h h1
  · rename_i h1
    split at h
    · cases h
    · rename_i h2
      refine ⟨by simpa using h1, by simpa using h2, fun i h3 h4 => ?_⟩
      have := firstE_all h i h3
      rwa [fitAt_lt h3 h4] at this
/-- The first error among the columns of the key. -/
theorem keyE_first {cols : List Col} {l : List K} {k : Nat} {pre : List (KX cols)} {x : KX cols} (he : keysUp cols k = pre ++ [x]) (hl : l.length = cols.length) (h0 : ∀ y ∈ pre, keyE cols l y.1.1 = 0) (h1 : keyE cols l x.1.1 ≠ 0) :
    firstE (keyE cols l) l.length = keyE cols l x.1.1 := by
  have hx : x ∈ keysUp cols k := by rw [he]; simp
  have hxk := (keysUp_mem k x).1 hx
  refine firstE_at ?_ (by omega) h1
  intro i hi
  by_cases hq : isKeyAt cols i = true
  · have hic : i < cols.length := by omega
    have hkey : cols[i].key = true := by unfold isKeyAt at hq; rw [List.getElem?_eq_getElem hic] at hq; simpa using hq
    have hm : (⟨(i, cols[i]), hic, List.getElem?_eq_getElem hic, hkey⟩ : KX cols) ∈ keysUp cols k := (keysUp_mem k _).2 (by simp only; omega)
    rw [he, List.mem_append] at hm
    rcases hm with hm | hm
    · exact h0 _ hm
    · rw [List.mem_singleton] at hm
      have := congrArg (fun y : KX cols => y.1.1) hm
      simp only at this
      omega
  · unfold keyE; rw [if_neg hq]
theorem keyE_none {cols : List Col} {l : List K} (hl : l.length = cols.length) (h0 : ∀ y ∈ keysUp cols cols.length, keyE cols l y.1.1 = 0) : firstE (keyE cols l) l.length = 0 := by
  refine firstE_zero fun i hi => ?_
  by_cases hq : isKeyAt cols i = true
  · have hic : i < cols.length := by omega
    have hkey : cols[i].key = true := by unfold isKeyAt at hq; rw [List.getElem?_eq_getElem hic] at hq; simpa using hq
    exact h0 ⟨(i, cols[i]), hic, List.getElem?_eq_getElem hic, hkey⟩ ((keysUp_mem _ _).2 hic)
  · unfold keyE; rw [if_neg hq]

set_option maxRecDepth 100000 in
set_option maxHeartbeats 4000000 in
theorem keyedI_in (F : Fence) (n : Nat) (hFe : F = Fence.wide) (h1F : F.fn 105) (hKF : F.fn 67) (hFF : F.fn 42) (hDF : F.fn 68) (hro : F.round = none) (hn : 3 ≤ n) (oid ver : Int) (nm : ByteArray) (id : Int) (cols : List Col) (a2 : Option Addr) (cap2 : Nat) (l : List K) (a : Option Addr) (cap : Nat) (w : World)
    (hl2 : Sl w (.slice a2 cols.length cap2) 3 (cols.map Col.cells)) (hcap2 : cols.length ≤ cap2) (hlen2 : cols.length ≤ 1000) (hl : Sl w (.slice a l.length cap) 5 (l.map K.pc)) (hlen : l.length ≤ 1000)
    (hs : ∀ c ∈ l, c.wk) (hs2 : ∀ c ∈ cols, c.nm.size ≤ 9223372036854775807) (hnm : nm.size ≤ 9223372036854775807) :
    CallsIn F n Try.prog 68 #[.agg #[.int .u32 oid, .int .u32 ver, .string nm, .int .u8 id, .slice a2 cols.length cap2], .slice a l.length cap] w fun e w' => e = .returned (.int .i64 (keyedE l (⟨oid, ver, nm, id, cols⟩ : Rl))) ∧ Ext w w' := by
  have h1 : 1 ≤ n := by omega
  have HFT := Hid.mk' (fun m W (h : Ext w W) => (show CallsIn F m Try.prog 42 #[.slice a l.length cap, .agg #[.int .u32 oid, .int .u32 ver, .string nm, .int .u8 id, .slice a2 cols.length cap2]] W _ from by rw [hFe]; exact callsIn_wide.2 (fits_any l a cap oid ver nm id cols a2 cap2 W (hl.ext h) (hl2.ext h) hcap2 hlen hlen2 hs hs2 hnm)))
  have HL := Hid.mk' hl
  have HL2 := Hid.mk' hl2
  have HKE : Hid (keyedE l (⟨oid, ver, nm, id, cols⟩ : Rl) = if fitsE l (⟨oid, ver, nm, id, cols⟩ : Rl) ≠ 0 then fitsE l (⟨oid, ver, nm, id, cols⟩ : Rl) else firstE (keyE cols l) l.length) := Hid.mk' rfl
  obtain ⟨E, hE⟩ : ∃ E, E = fitsE l (⟨oid, ver, nm, id, cols⟩ : Rl) := ⟨_, rfl⟩
  rw [← hE] at HFT HKE
  have HEQ := Hid.mk' hE
  clear hl hl2 hs hs2 hFe hE
  by_cases h0 : E = 0
  case neg =>
    have HKE2 := Hid.mk' (HKE.out.trans (if_pos h0))
    have h0' : (E != 0) = true := by simpa using h0
    clear h0 HKE HEQ
    refine callsIn_of_wp_marks Try.func68 rfl hDF ?_ hro
    simp only [Try.ntmps68, List.size_toArray, List.length_cons, List.length_nil, Nat.reduceAdd, Nat.reduceSub, Array.replicate_succ, Array.replicate_zero, List.push_toArray, List.append_toArray, List.nil_append, List.cons_append]
    gi_wp2_with (gi_at_call 42; refine (HFT.out _ _ (by (repeat (with_reducible (first | exact Ext.refl _ | assumption | exact held_left (by assumption) | apply Ext.drewN | apply Ext.drew | apply Ext.alloc | (refine Ext.setCell ?_ (by first | (simp; done) | (simp; omega) | omega) _) | (refine Ext.trans ?_ (by assumption)) | (refine Ext.trans ?_ (held_left (by assumption)))))))).mono ?_; rintro e w' ⟨rfl, hb1⟩; have hE1 : Ext w w' := (by (repeat (with_reducible (first | exact Ext.refl _ | assumption | exact held_left (by assumption) | apply Ext.drewN | apply Ext.drew | apply Ext.alloc | (refine Ext.setCell ?_ (by first | (simp; done) | (simp; omega) | omega) _) | (refine Ext.trans ?_ (by assumption)) | (refine Ext.trans ?_ (held_left (by assumption))))))); have g2 := ((Blk.new' (w := (w.alloc (.cells #[.int .u32 oid, .int .u32 ver, .string nm, .int .u8 id, .slice a2 cols.length cap2] 42)).alloc (.cells #[.slice a l.length cap] 33)) (b := w.heap.size + 1 + 1) #[.int .i64 0] 36 (by simp)).ext hb1); have g2c := g2.cell; have g2f := g2.frozen; have g2z := g2.lt)
    refine ⟨.int .i64 E, ?_, by rw [HKE2.out], hE1.setCell (p := ⟨w.heap.size + 1 + 1, 0, none⟩) (by show w.heap.size ≤ w.heap.size + 1 + 1; omega) _⟩
    simp [results, Try.f68, go_sem, g2c]
  subst h0
  have HKE2 := Hid.mk' (HKE.out.trans (if_neg (by simp)))
  have hfz := fits_zero HEQ.out.symm
  have hll : l.length = cols.length := hfz.2.1
  have HLL := Hid.mk' hll
  have hle : cols.length ≤ l.length := by omega
  clear HKE HEQ hfz hll
  refine callsIn_of_wp_marks Try.func68 rfl hDF ?_ hro
  simp only [Try.ntmps68, List.size_toArray, List.length_cons, List.length_nil, Nat.reduceAdd, Nat.reduceSub, Array.replicate_succ, Array.replicate_zero, List.push_toArray, List.append_toArray, List.nil_append, List.cons_append]
  gi_wp2_with (first
    | (gi_at_call 42; refine (HFT.out _ _ (by (repeat (with_reducible (first | exact Ext.refl _ | assumption | exact held_left (by assumption) | apply Ext.drewN | apply Ext.drew | apply Ext.alloc | (refine Ext.setCell ?_ (by first | (simp; done) | (simp; omega) | omega) _) | (refine Ext.trans ?_ (by assumption)) | (refine Ext.trans ?_ (held_left (by assumption)))))))).mono ?_; rintro e w4 ⟨rfl, hb4⟩; have HE4 := Hid.mk' hb4; have g0 := (((Blk.new w #[.int .u32 oid, .int .u32 ver, .string nm, .int .u8 id, .slice a2 cols.length cap2] 42).alloc _).alloc _).ext hb4; have g0c := g0.cell; have g1 := ((Blk.new' (w := w.alloc (.cells #[.int .u32 oid, .int .u32 ver, .string nm, .int .u8 id, .slice a2 cols.length cap2] 42)) (b := w.heap.size + 1) #[.slice a l.length cap] 33 (by simp)).alloc (.cells #[.int .i64 0] 36)).ext hb4; have g1c := g1.cell; have g2 := ((Blk.new' (w := (w.alloc (.cells #[.int .u32 oid, .int .u32 ver, .string nm, .int .u8 id, .slice a2 cols.length cap2] 42)).alloc (.cells #[.slice a l.length cap] 33)) (b := w.heap.size + 1 + 1) #[.int .i64 0] 36 (by simp)).ext hb4); have g2c := g2.cell; have g2f := g2.frozen; have g2z := g2.lt; have HG1 := Hid.mk' g1; have HG2 := Hid.mk' g2; clear g0 g1 g2 hb4)
    | (gi_at_call 67; refine (keys_in F (n - 1) hKF hro _ _ _ _ _ _).mono ?_; rintro e w' ⟨rfl, rfl⟩))
  have hE5 : Ext w (w4.alloc (.cells #[.int .u32 oid, .int .u32 ver, .string nm, .int .u8 id, .slice a2 cols.length cap2] 42)) := ((((Ext.refl w).alloc _).alloc _).alloc _ |>.trans HE4.out).alloc _
  have hB1 := HG1.out.alloc (.cells #[.int .u32 oid, .int .u32 ver, .string nm, .int .u8 id, .slice a2 cols.length cap2] 42)
  have hB2 := HG2.out.alloc (.cells #[.int .u32 oid, .int .u32 ver, .string nm, .int .u8 id, .slice a2 cols.length cap2] 42)
  have hB4 : Blk (w4.alloc (.cells #[.int .u32 oid, .int .u32 ver, .string nm, .int .u8 id, .slice a2 cols.length cap2] 42)) w4.heap.size #[.int .u32 oid, .int .u32 ver, .string nm, .int .u8 id, .slice a2 cols.length cap2] 42 := Blk.new _ _ _
  have hw4 : w.heap.size + 1 + 1 < w4.heap.size := g2z
  clear g0c g1c g2c g2f g2z
  refine wpIn_rangeFunc_ownG hro h1 (gf := 105) (lb := #[.pointer (some ⟨w4.heap.size, 0, none⟩)]) rfl h1F (enters_of Try.func105 (by kernel_rfl) rfl)
    (keys_stops F (n - 1) h1F hro (by omega) w4.heap.size w a2 cap2 cols hlen2 HL2.out _ hE5 (hB4.cell 4) hB4.lt) belowK_t (belowK_b (by simp; omega)) (Below.refl _ _) (fun _ => rfl)
    (fun pre W => (Hid (∀ y ∈ pre, keyE cols l y.1.1 = 0) ∧ W.cell? ⟨w.heap.size + 1 + 1, 0, none⟩ = some (.int .i64 0) ∧ W.frozen? ⟨w.heap.size + 1 + 1, 0, none⟩ = false ∧ W.cell? ⟨w.heap.size + 1, 0, none⟩ = some (.slice a l.length cap)) ∧ Below w.heap.size w W)
    (fun c pre W => (c = .ret ∧ ∃ ini last, pre = ini ++ [last] ∧ (∀ y ∈ ini, keyE cols l y.1.1 = 0) ∧ keyE cols l last.1.1 ≠ 0 ∧ W.cell? ⟨w.heap.size + 1 + 1, 0, none⟩ = some (.int .i64 (keyE cols l last.1.1))) ∧ Below w.heap.size w W)
    (OwnFrom.and (Own.from (fun s A B row hs hg hr => ⟨hs.1, cell_kept hs.2.1 hg hr, (frozen_kept hs.2.1 hg hr).trans hs.2.2.1, cell_kept hs.2.2.2 hg hr⟩) _) (ownFrom_below (Nat.le_refl _) (by simp; omega)))
    (fun c => OwnFrom.and (Own.from (fun s A B row hs hg hr => by obtain ⟨hc, ini, last, e1, e2, e3, e4⟩ := hs; exact ⟨hc, ini, last, e1, e2, e3, cell_kept e4 hg hr⟩) _) (ownFrom_below (Nat.le_refl _) (by simp; omega)))
    ⟨⟨(fun y hy => by cases hy), hB2.cell 0, hB2.frozen 0, hB1.cell 0⟩, hE5⟩
    (fun x => { tmps := #[.agg #[.int .u32 oid, .int .u32 ver, .string nm, .int .u8 id, .slice a2 cols.length cap2], .slice a l.length cap, .pointer (some ⟨w.heap.size, 0, none⟩), .pointer (some ⟨w.heap.size + 1, 0, none⟩), .pointer (some ⟨w.heap.size + 1 + 1, 0, none⟩), .int .i64 0, .int .i64 (x.1.1 : Int), .slice a l.length cap, .agg #[.int .u32 oid, .int .u32 ver, .string nm, .int .u8 id, .slice a2 cols.length cap2], .int .i64 0, .int .i64 0, .bool false, undef, .agg #[.int .u32 oid, .int .u32 ver, .string nm, .int .u8 id, .slice a2 cols.length cap2], .func (.func 105) #[] #[.pointer (some ⟨w4.heap.size, 0, none⟩)], .int .i64 (x.1.1 : Int), .agg #[.string x.1.2.nm, .int .u8 x.1.2.ty, .bool x.1.2.key], undef, undef, undef, undef, undef, undef, undef, undef, undef], defers := [] }) ?assign ?body ?done ?stop
  case assign =>
    intro l x W K hK
    unfold encK
    rw [fold_two]
    gi_wp2
    exact hK
  case body =>
    rintro lr pre x W ⟨⟨hpre, hc, hf, hcw⟩, hB⟩ _
    have HB := Hid.mk' hB
    clear hB
    have hx : x.1.1 < cols.length := x.2.1
    have hlt : x.1.1 < l.length := by omega
    obtain ⟨b, o, rfl, hb, hc2⟩ := HL.out.at_ (i := x.1.1) (by simpa using hlt)
    obtain ⟨f0, f1, f2, f3, f4⟩ := K.pcAt hlt hc2 hb HB.out
    have HKX : Hid (keyE cols l x.1.1 = kindE l[x.1.1].k) := Hid.mk' (by unfold keyE; rw [if_pos (isKey_x x), kindAt_lt hlt])
    clear hc2
    by_cases hk0 : l[x.1.1].k = 0
    · rw [hk0] at f0 HKX
      clear hk0
      gi_wp2
      exact ⟨(KeepsOthers.setCell _ _ _).from _, ⟨rfl, pre, x, rfl, hpre.out, by rw [HKX.out]; decide, by rw [HKX.out]; exact World.cell?_setCell_same' _ _ _ (by rw [hc]; rfl)⟩, HB.out.setCell (p := ⟨w.heap.size + 1 + 1, 0, none⟩) (by show w.heap.size ≤ w.heap.size + 1 + 1; omega) _⟩
    · by_cases hk1 : l[x.1.1].k = 1
      · rw [hk1] at f0 HKX
        clear hk0 hk1
        gi_wp2
        exact ⟨(KeepsOthers.setCell _ _ _).from _, ⟨rfl, pre, x, rfl, hpre.out, by rw [HKX.out]; decide, by rw [HKX.out]; exact World.cell?_setCell_same' _ _ _ (by rw [hc]; rfl)⟩, HB.out.setCell (p := ⟨w.heap.size + 1 + 1, 0, none⟩) (by show w.heap.size ≤ w.heap.size + 1 + 1; omega) _⟩
      · have e0 : (l[x.1.1].k == 0) = false := by simpa using hk0
        have e1 : (l[x.1.1].k == 1) = false := by simpa using hk1
        have HZ : Hid (keyE cols l x.1.1 = 0) := Hid.mk' (by rw [HKX.out]; unfold kindE; rw [if_neg hk0, if_neg hk1])
        clear hk0 hk1
        gi_wp2
        exact ⟨KeepsFrom.refl _ _, Below.refl _ _, ⟨fun y hy => (List.mem_append.1 hy).elim (hpre.out y) (fun e => by simp at e; subst e; exact HZ.out), hc, hf, hcw⟩, HB.out⟩
  case done =>
    rintro D ys W hD rfl ⟨⟨hpre, hc, hf, hcw⟩, hB⟩ hK
    have HK0 := Hid.mk' (HKE2.out.trans (keyE_none HLL.out hpre.out))
    gi_wp2
    have hK' := (KeepsOthers.setCell W ⟨w.heap.size + 1 + 1, 0, none⟩ (.int .i64 0)).same D _ hK rfl
    refine ⟨by simp, .inl ⟨_, _, rfl, run_takeDeferred hK', ?_⟩⟩
    have hc5 := cell_kept (World.cell?_setCell_same' W ⟨w.heap.size + 1 + 1, 0, none⟩ (.int .i64 0) (by rw [hc]; rfl)) (grownBy_putObj' _ D (.deferred none)) (fun r e => by cases e; exact ⟨_, hK', rfl⟩)
    refine ⟨.int .i64 0, ?_, by rw [HK0.out], (hB.setCell (p := ⟨w.heap.size + 1 + 1, 0, none⟩) (by show w.heap.size ≤ w.heap.size + 1 + 1; omega) _).trans (belowK_b (w := w) (Nat.le_refl _) _ D _ _ (by simp at hD; omega) hK' rfl rfl)⟩
    simp [results, Try.f68, go_sem, hc5]
  case stop =>
    rintro D c pre W hD ⟨k, hk, hpk⟩ ⟨⟨rfl, ini, last, e1, e2, e3, hc⟩, hB⟩ hK
    have HK0 := Hid.mk' (HKE2.out.trans (keyE_first (hpk.symm.trans e1) HLL.out e2 e3))
    gi_wp2
    refine ⟨by simp, .inl ⟨_, _, rfl, run_takeDeferred hK, ?_⟩⟩
    have hc5 := cell_kept hc (grownBy_putObj' _ D (.deferred none)) (fun r e => by cases e; exact ⟨_, hK, rfl⟩)
    refine ⟨_, ?_, by rw [HK0.out], hB.trans (belowK_b (w := w) (Nat.le_refl _) W D _ _ (by simp at hD; omega) hK rfl rfl)⟩
    simp [results, Try.f68, go_sem, hc5]

theorem keyedI_any (oid ver : Int) (nm : ByteArray) (id : Int) (cols : List Col) (a2 : Option Addr) (cap2 : Nat) (l : List K) (a : Option Addr) (cap : Nat) (w : World)
    (hl2 : Sl w (.slice a2 cols.length cap2) 3 (cols.map Col.cells)) (hcap2 : cols.length ≤ cap2) (hlen2 : cols.length ≤ 1000) (hl : Sl w (.slice a l.length cap) 5 (l.map K.pc)) (hlen : l.length ≤ 1000)
    (hs : ∀ c ∈ l, c.wk) (hs2 : ∀ c ∈ cols, c.nm.size ≤ 9223372036854775807) (hnm : nm.size ≤ 9223372036854775807) :
    Calls Try.prog 68 #[.agg #[.int .u32 oid, .int .u32 ver, .string nm, .int .u8 id, .slice a2 cols.length cap2], .slice a l.length cap] w fun e w' => e = .returned (.int .i64 (keyedE l (⟨oid, ver, nm, id, cols⟩ : Rl))) ∧ Ext w w' :=
  callsIn_wide.1 (keyedI_in Fence.wide 3 rfl trivial trivial trivial trivial rfl (Nat.le_refl _) oid ver nm id cols a2 cap2 l a cap w hl2 hcap2 hlen2 hl hlen hs hs2 hnm)

end Go.Proofs.Ytdbepkfblfhlhaa
