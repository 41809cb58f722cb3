/-
The program's Take of a value.
-/
import Derived.Test.YtmpnopjkpamhaaaTkF
import Derived.Deep.CutBlock
namespace Go.Proofs.Ytmpnopjkpamhaaa
open Go.RowKit

def preV (kind ver : Int) (st : RS) : V × RS := if ver = 1 ∨ ver = 2 then bodyR kind ver st else (⟨kind, 0, 0, 0, ByteArray.empty⟩, giveS st 18)
def finV (V0 : V) (S : RS) : V × RS := if (failS S V0.right).e ≠ 0 then (V.zero, failS S V0.right) else (V0, failS S V0.right)
theorem takeV_eq (kind ver : Int) (st : RS) : takeV kind ver st = finV (preV kind ver st).1 (preV kind ver st).2 := by
  unfold takeV preV
  by_cases h : ver = 1 ∨ ver = 2
  · rw [if_pos h, if_pos h]; rfl
  · rw [if_neg h, if_neg h]
    have hg : (giveS st 18).e ≠ 0 := by unfold giveS; split; simp; assumption
    have hf : ∀ x, failS (giveS st 18) x = giveS st 18 := fun x => by unfold failS; split; exact giveS_gave _ hg; rfl
    unfold finV
    simp only [hf]
    rw [if_pos hg]
theorem textR_len {st : RS} (m : Nat) (h : st.l.length ≤ 1000000) : (textR m st).1.length ≤ 1000000 := by
  unfold textR bytesR
  simp only
  split
  · simp
  · have : (uintR m st).2.l.length ≤ st.l.length := by
      unfold uintR giveS; simp only; (repeat' split) <;> simp
    simp; omega
theorem preV_size {kind ver : Int} {st : RS} (h : st.l.length ≤ 1000000) : (preV kind ver st).1.s.size ≤ 1000000 := by
  have h0 : ByteArray.empty.size ≤ 1000000 := Nat.zero_le _
  unfold preV bodyR
  (repeat' split) <;> first | exact h0 | (show (strOfNums _).size ≤ _; rw [strOfNums_size]; exact textR_len 2048 h)

theorem byteR_rng {st : RS} (h : st.ok) : 0 ≤ (byteR st).1 ∧ (byteR st).1 < 256 := by
  have := bytesR_isB h 1
  unfold byteR
  simp only
  cases hL : (bytesR 1 st).1 with
  | nil => simp
  | cons x L => rw [hL] at this; exact this.head
theorem wrap_toI64 {b : Nat} (h : b < 2 ^ 64) : wrap64 (b : Int) = toI64 b := by unfold wrap64 toI64; split <;> omega
theorem Tch.set1 (g : Nat) (w : World) (i : Nat) (v : Value) : Tch g w (w.setCell ⟨g, i, none⟩ v) := (Tch.refl g w).set i v

def TkRel (g d : Nat) (w : World) (V0 : V) (S : RS) (wx : World) : Prop :=
  Blk wx (w.heap.size + 1) #[.int .u8 V0.ty, .int .i64 V0.n, .complex .f64 V0.x V0.y, .string V0.s] 35 ∧ Blk wx w.heap.size #[.int .u8 0, .int .i64 0, .complex .f64 0 0, .string ByteArray.empty] 35 ∧ RD wx g d S ∧ Tch g w wx

theorem TkRel.mk' {g d : Nat} {w wx : World} {V0 : V} {S : RS} {ty n : Int} {x y : Nat} {s : ByteArray} (hV : V0 = ⟨ty, n, x, y, s⟩) (h7 : Blk wx (w.heap.size + 1) #[.int .u8 ty, .int .i64 n, .complex .f64 x y, .string s] 35)
    (h6 : Blk wx w.heap.size #[.int .u8 0, .int .i64 0, .complex .f64 0 0, .string ByteArray.empty] 35) (hr : RD wx g d S) (ht : Tch g w wx) : TkRel g d w V0 S wx := by
  subst hV; exact ⟨h7, h6, hr, ht⟩
/-- Behind a store into the new value. -/
theorem TkRel.set {g d : Nat} {w w1 : World} {V0 : V} {S : RS} {ty n : Int} {x y : Nat} {s : ByteArray} {ty' n' : Int} {x' y' : Nat} {s' : ByteArray} (i : Nat) (v : Value) (hV : V0 = ⟨ty, n, x, y, s⟩)
    (he : (#[.int .u8 ty', .int .i64 n', .complex .f64 x' y', .string s'] : Array Value).setIfInBounds i v = #[.int .u8 ty, .int .i64 n, .complex .f64 x y, .string s]) (hg : g < w.heap.size)
    (h7 : Blk w1 (w.heap.size + 1) #[.int .u8 ty', .int .i64 n', .complex .f64 x' y', .string s'] 35)
    (h6 : Blk w1 w.heap.size #[.int .u8 0, .int .i64 0, .complex .f64 0 0, .string ByteArray.empty] 35) (hr : RD w1 g d S) (ht : Tch g w w1) : TkRel g d w V0 S (w1.setCell ⟨w.heap.size + 1, i, none⟩ v) := by
  refine TkRel.mk' hV (by rw [← he]; exact h7.set i v) (h6.other _ _ (by simp)) (hr.tch ((Tch.refl (w.heap.size + 1) w1).set i v) (by omega) (.inr (by omega))) (ht.setNew (by omega) _ _)

set_option maxRecDepth 100000 in set_option maxHeartbeats 1600000 in
theorem vtake_any (g d : Nat) (st : RS) (kind ver : Int) (w : World) (h : RD w g d st) (hk0 : 0 ≤ kind) (hk1 : kind < 256) :
    Calls Try.prog 44 #[.pointer (some ⟨g, 0, none⟩), .int .u8 kind, .int .u8 ver] w (RPost g d w (.agg #[.int .u8 (takeV kind ver st).1.ty, .int .i64 (takeV kind ver st).1.n, .complex .f64 (takeV kind ver st).1.x (takeV kind ver st).1.y, .string (takeV kind ver st).1.s]) (takeV kind ver st).2) := by
  have H := Hid.mk' h
  have hg := h.lt
  have hok : st.ok := by obtain ⟨_, _, _, hok, _⟩ := h; exact hok
  have hok : st.ok := by obtain ⟨_, _, _, hok, _⟩ := h; exact hok
  have hlen : st.l.length ≤ 1000000 := by obtain ⟨_, _, _, _, hlen⟩ := h; exact hlen
  have hsz := preV_size (kind := kind) (ver := ver) hlen
  clear h
  rw [takeV_eq]
  obtain ⟨V0, hV0⟩ : ∃ V0, V0 = (preV kind ver st).1 := ⟨_, rfl⟩
  obtain ⟨S, hS⟩ : ∃ S, S = (preV kind ver st).2 := ⟨_, rfl⟩
  rw [← hV0, ← hS]
  rw [← hV0] at hsz
  have HV0 := Hid.mk' hV0
  have HS := Hid.mk' hS
  clear hV0 hS
  go_enter Try.func44, Try.ntmps44
  go_upto_block 0 with (fail)
  go_cut [] (fun wx => Hid (TkRel g d w V0 S wx))
  case first =>
    as_aux_lemma =>
      by_cases hv : ver = 1 ∨ ver = 2
      · have HVS := Hid.mk' (fun w => versioned_yes ver w (by omega) (by omega))
        have hpre : preV kind ver st = bodyR kind ver st := by unfold preV; rw [if_pos hv]
        rw [hpre] at HV0 HS
        clear hpre
        by_cases q1 : kind = 1
        · subst q1
          have e : bodyR 1 ver st = (⟨1, (byteR st).1, 0, 0, ByteArray.empty⟩, (byteR st).2) := by rfl
          rw [e] at HV0 HS
          have HC := Hid.mk' (fun w h => rbyte_any g d st w h)
          have hb01 := byteR_rng hok
          generalize byteR st = U at *
          obtain ⟨b, S1⟩ := U
          simp only at HV0 HS HC
          clear e
          go_wp2_with (first
            | (go_at_call 46; refine (HVS.out _).mono ?_; rintro e w0 ⟨rfl, rfl⟩)
            | (go_at_call 68; refine (HC.out _ (H.out.ext (by (repeat (with_reducible (first | exact Ext.refl _ | assumption | exact held_left (by assumption) | apply Ext.drewN | apply Ext.drew | apply Ext.alloc | (refine Ext.setCell ?_ (by first | (simp; done) | (simp; omega) | omega) _) | (refine Ext.trans ?_ (by assumption)) | (refine Ext.trans ?_ (held_left (by assumption))))))))).mono ?_; rintro e w1 ⟨rfl, hr1, ht1⟩; have h7 := (Blk.new' (w := w.alloc (.cells #[.int .u8 0, .int .i64 0, .complex .f64 0 0, .string ByteArray.empty] 35)) (b := w.heap.size + 1) _ 35 (by simp)).tch ht1 (by omega); have h6 := ((Blk.new w #[.int .u8 0, .int .i64 0, .complex .f64 0 0, .string ByteArray.empty] 35).alloc _).tch ht1 (by omega); have HB7 := Hid.mk' h7; have HB6 := Hid.mk' h6; have k7 := h7.cell; have f7 := h7.frozen; have z7 := h7.lt; have HR1 := Hid.mk' hr1; have HT1 : Hid (Tch g w w1) := Hid.mk' ((((Tch.refl g w).alloc _).alloc _).trans ht1); clear h7 h6 hr1 ht1))
          go_meet
          case rel =>
            have h := TkRel.set 1 (.int .i64 b) HV0.out rfl hg HB7.out HB6.out (HS.out ▸ HR1.out) HT1.out
            exact h
        by_cases q2 : kind = 2
        · subst q2
          rcases hv with rfl | rfl
          · skip
            have e : bodyR 2 1 st = (⟨2, toI64 (wordR st).1, 0, 0, ByteArray.empty⟩, (wordR st).2) := by rfl
            rw [e] at HV0 HS
            have HC := Hid.mk' (fun w h => rword2_any g d st w h)
            have hlt := wordR_lt hok
            generalize wordR st = U at *
            obtain ⟨b, S1⟩ := U
            simp only at HV0 HS HC
            clear e
            go_wp2_with (first
              | (go_at_call 46; refine (HVS.out _).mono ?_; rintro e w0 ⟨rfl, rfl⟩)
              | (go_at_call 72; refine (HC.out _ (H.out.ext (by (repeat (with_reducible (first | exact Ext.refl _ | assumption | exact held_left (by assumption) | apply Ext.drewN | apply Ext.drew | apply Ext.alloc | (refine Ext.setCell ?_ (by first | (simp; done) | (simp; omega) | omega) _) | (refine Ext.trans ?_ (by assumption)) | (refine Ext.trans ?_ (held_left (by assumption))))))))).mono ?_; rintro e w1 ⟨rfl, hr1, ht1⟩; have h7 := (Blk.new' (w := w.alloc (.cells #[.int .u8 0, .int .i64 0, .complex .f64 0 0, .string ByteArray.empty] 35)) (b := w.heap.size + 1) _ 35 (by simp)).tch ht1 (by omega); have h6 := ((Blk.new w #[.int .u8 0, .int .i64 0, .complex .f64 0 0, .string ByteArray.empty] 35).alloc _).tch ht1 (by omega); have HB7 := Hid.mk' h7; have HB6 := Hid.mk' h6; have k7 := h7.cell; have f7 := h7.frozen; have z7 := h7.lt; have HR1 := Hid.mk' hr1; have HT1 : Hid (Tch g w w1) := Hid.mk' ((((Tch.refl g w).alloc _).alloc _).trans ht1); clear h7 h6 hr1 ht1))
            go_meet
            case rel =>
              have h := TkRel.set 1 (.int .i64 (wrap64 b)) HV0.out (by rw [wrap_toI64 hlt]; rfl) hg HB7.out HB6.out (HS.out ▸ HR1.out) HT1.out
              exact h
          · skip
            have e : bodyR 2 2 st = (⟨2, (intR st).1, 0, 0, ByteArray.empty⟩, (intR st).2) := by rfl
            rw [e] at HV0 HS
            have HC := Hid.mk' (fun w h => rint_any g d st w h)
            generalize intR st = U at *
            obtain ⟨b, S1⟩ := U
            simp only at HV0 HS HC
            clear e
            go_wp2_with (first
              | (go_at_call 46; refine (HVS.out _).mono ?_; rintro e w0 ⟨rfl, rfl⟩)
              | (go_at_call 73; refine (HC.out _ (H.out.ext (by (repeat (with_reducible (first | exact Ext.refl _ | assumption | exact held_left (by assumption) | apply Ext.drewN | apply Ext.drew | apply Ext.alloc | (refine Ext.setCell ?_ (by first | (simp; done) | (simp; omega) | omega) _) | (refine Ext.trans ?_ (by assumption)) | (refine Ext.trans ?_ (held_left (by assumption))))))))).mono ?_; rintro e w1 ⟨rfl, hr1, ht1⟩; have h7 := (Blk.new' (w := w.alloc (.cells #[.int .u8 0, .int .i64 0, .complex .f64 0 0, .string ByteArray.empty] 35)) (b := w.heap.size + 1) _ 35 (by simp)).tch ht1 (by omega); have h6 := ((Blk.new w #[.int .u8 0, .int .i64 0, .complex .f64 0 0, .string ByteArray.empty] 35).alloc _).tch ht1 (by omega); have HB7 := Hid.mk' h7; have HB6 := Hid.mk' h6; have k7 := h7.cell; have f7 := h7.frozen; have z7 := h7.lt; have HR1 := Hid.mk' hr1; have HT1 : Hid (Tch g w w1) := Hid.mk' ((((Tch.refl g w).alloc _).alloc _).trans ht1); clear h7 h6 hr1 ht1))
            go_meet
            case rel =>
              have h := TkRel.set 1 (.int .i64 b) HV0.out rfl hg HB7.out HB6.out (HS.out ▸ HR1.out) HT1.out
              exact h
        by_cases q3 : kind = 3
        · subst q3
          have e : bodyR 3 ver st = (⟨3, 0, (floatR ver st).1, 0, ByteArray.empty⟩, (floatR ver st).2) := by rfl
          rw [e] at HV0 HS
          have HC := Hid.mk' (fun w h => vtf_any g d st ver w h)
          generalize floatR ver st = U at *
          obtain ⟨b, S1⟩ := U
          simp only at HV0 HS HC
          clear e
          go_wp2_with (first
            | (go_at_call 46; refine (HVS.out _).mono ?_; rintro e w0 ⟨rfl, rfl⟩)
            | (go_at_call 53; refine (vof_any b 0 _).mono ?_; rintro e w3 ⟨rfl, rfl⟩; simp only [Int.toNat_natCast, Int.toNat_zero])
            | (go_at_call 74; refine (HC.out _ (H.out.ext (by (repeat (with_reducible (first | exact Ext.refl _ | assumption | exact held_left (by assumption) | apply Ext.drewN | apply Ext.drew | apply Ext.alloc | (refine Ext.setCell ?_ (by first | (simp; done) | (simp; omega) | omega) _) | (refine Ext.trans ?_ (by assumption)) | (refine Ext.trans ?_ (held_left (by assumption))))))))).mono ?_; rintro e w1 ⟨rfl, hr1, ht1⟩; have h7 := (Blk.new' (w := w.alloc (.cells #[.int .u8 0, .int .i64 0, .complex .f64 0 0, .string ByteArray.empty] 35)) (b := w.heap.size + 1) _ 35 (by simp)).tch ht1 (by omega); have h6 := ((Blk.new w #[.int .u8 0, .int .i64 0, .complex .f64 0 0, .string ByteArray.empty] 35).alloc _).tch ht1 (by omega); have HB7 := Hid.mk' h7; have HB6 := Hid.mk' h6; have k7 := h7.cell; have f7 := h7.frozen; have z7 := h7.lt; have HR1 := Hid.mk' hr1; have HT1 : Hid (Tch g w w1) := Hid.mk' ((((Tch.refl g w).alloc _).alloc _).trans ht1); clear h7 h6 hr1 ht1))
          go_meet
          case rel =>
            have h := TkRel.set 2 (.complex .f64 b 0) HV0.out rfl hg HB7.out HB6.out (HS.out ▸ HR1.out) HT1.out
            exact h
        by_cases q4 : kind = 4
        · subst q4
          have e : bodyR 4 ver st = (⟨4, 0, (complexR ver st).1.1, (complexR ver st).1.2, ByteArray.empty⟩, (complexR ver st).2) := by rfl
          rw [e] at HV0 HS
          have HC := Hid.mk' (fun w h => vtc_any g d st ver w h)
          generalize complexR ver st = U at *
          obtain ⟨⟨b, c⟩, S1⟩ := U
          simp only at HV0 HS HC
          clear e
          go_wp2_with (first
            | (go_at_call 46; refine (HVS.out _).mono ?_; rintro e w0 ⟨rfl, rfl⟩)
            | (go_at_call 75; refine (HC.out _ (H.out.ext (by (repeat (with_reducible (first | exact Ext.refl _ | assumption | exact held_left (by assumption) | apply Ext.drewN | apply Ext.drew | apply Ext.alloc | (refine Ext.setCell ?_ (by first | (simp; done) | (simp; omega) | omega) _) | (refine Ext.trans ?_ (by assumption)) | (refine Ext.trans ?_ (held_left (by assumption))))))))).mono ?_; rintro e w1 ⟨rfl, hr1, ht1⟩; have h7 := (Blk.new' (w := w.alloc (.cells #[.int .u8 0, .int .i64 0, .complex .f64 0 0, .string ByteArray.empty] 35)) (b := w.heap.size + 1) _ 35 (by simp)).tch ht1 (by omega); have h6 := ((Blk.new w #[.int .u8 0, .int .i64 0, .complex .f64 0 0, .string ByteArray.empty] 35).alloc _).tch ht1 (by omega); have HB7 := Hid.mk' h7; have HB6 := Hid.mk' h6; have k7 := h7.cell; have f7 := h7.frozen; have z7 := h7.lt; have HR1 := Hid.mk' hr1; have HT1 : Hid (Tch g w w1) := Hid.mk' ((((Tch.refl g w).alloc _).alloc _).trans ht1); clear h7 h6 hr1 ht1))
          go_meet
          case rel =>
            have h := TkRel.set 2 (.complex .f64 b c) HV0.out rfl hg HB7.out HB6.out (HS.out ▸ HR1.out) HT1.out
            exact h
        by_cases q5 : kind = 5 ∨ kind = 6
        · rcases q5 with rfl | rfl
          · skip
            have e : bodyR 5 ver st = (⟨5, 0, 0, 0, strOfNums (textR 2048 st).1⟩, (textR 2048 st).2) := by rfl
            rw [e] at HV0 HS
            have HC := Hid.mk' (fun w h => rtxt_any g d st 2048 w h (by decide) (by decide))
            generalize textR 2048 st = U at *
            obtain ⟨b, S1⟩ := U
            simp only at HV0 HS HC
            clear e
            go_wp2_with (first
              | (go_at_call 46; refine (HVS.out _).mono ?_; rintro e w0 ⟨rfl, rfl⟩)
              | (go_at_call 70; refine (HC.out _ (H.out.ext (by (repeat (with_reducible (first | exact Ext.refl _ | assumption | exact held_left (by assumption) | apply Ext.drewN | apply Ext.drew | apply Ext.alloc | (refine Ext.setCell ?_ (by first | (simp; done) | (simp; omega) | omega) _) | (refine Ext.trans ?_ (by assumption)) | (refine Ext.trans ?_ (held_left (by assumption))))))))).mono ?_; rintro e w1 ⟨rfl, hr1, ht1⟩; have h7 := (Blk.new' (w := w.alloc (.cells #[.int .u8 0, .int .i64 0, .complex .f64 0 0, .string ByteArray.empty] 35)) (b := w.heap.size + 1) _ 35 (by simp)).tch ht1 (by omega); have h6 := ((Blk.new w #[.int .u8 0, .int .i64 0, .complex .f64 0 0, .string ByteArray.empty] 35).alloc _).tch ht1 (by omega); have HB7 := Hid.mk' h7; have HB6 := Hid.mk' h6; have k7 := h7.cell; have f7 := h7.frozen; have z7 := h7.lt; have HR1 := Hid.mk' hr1; have HT1 : Hid (Tch g w w1) := Hid.mk' ((((Tch.refl g w).alloc _).alloc _).trans ht1); clear h7 h6 hr1 ht1))
            go_meet
            case rel =>
              have h := TkRel.set 3 (.string (strOfNums b)) HV0.out rfl hg HB7.out HB6.out (HS.out ▸ HR1.out) HT1.out
              exact h
          · skip
            have e : bodyR 6 ver st = (⟨6, 0, 0, 0, strOfNums (textR 2048 st).1⟩, (textR 2048 st).2) := by rfl
            rw [e] at HV0 HS
            have HC := Hid.mk' (fun w h => rtxt_any g d st 2048 w h (by decide) (by decide))
            generalize textR 2048 st = U at *
            obtain ⟨b, S1⟩ := U
            simp only at HV0 HS HC
            clear e
            go_wp2_with (first
              | (go_at_call 46; refine (HVS.out _).mono ?_; rintro e w0 ⟨rfl, rfl⟩)
              | (go_at_call 70; refine (HC.out _ (H.out.ext (by (repeat (with_reducible (first | exact Ext.refl _ | assumption | exact held_left (by assumption) | apply Ext.drewN | apply Ext.drew | apply Ext.alloc | (refine Ext.setCell ?_ (by first | (simp; done) | (simp; omega) | omega) _) | (refine Ext.trans ?_ (by assumption)) | (refine Ext.trans ?_ (held_left (by assumption))))))))).mono ?_; rintro e w1 ⟨rfl, hr1, ht1⟩; have h7 := (Blk.new' (w := w.alloc (.cells #[.int .u8 0, .int .i64 0, .complex .f64 0 0, .string ByteArray.empty] 35)) (b := w.heap.size + 1) _ 35 (by simp)).tch ht1 (by omega); have h6 := ((Blk.new w #[.int .u8 0, .int .i64 0, .complex .f64 0 0, .string ByteArray.empty] 35).alloc _).tch ht1 (by omega); have HB7 := Hid.mk' h7; have HB6 := Hid.mk' h6; have k7 := h7.cell; have f7 := h7.frozen; have z7 := h7.lt; have HR1 := Hid.mk' hr1; have HT1 : Hid (Tch g w w1) := Hid.mk' ((((Tch.refl g w).alloc _).alloc _).trans ht1); clear h7 h6 hr1 ht1))
            go_meet
            case rel =>
              have h := TkRel.set 3 (.string (strOfNums b)) HV0.out rfl hg HB7.out HB6.out (HS.out ▸ HR1.out) HT1.out
              exact h
        · have e : bodyR kind ver st = (⟨kind, 0, 0, 0, ByteArray.empty⟩, st) := by unfold bodyR; rw [if_neg q1, if_neg q2, if_neg q3, if_neg q4, if_neg q5]
          rw [e] at HV0 HS
          have r1 : (kind == 1) = false := by simpa using q1
          have r2 : (kind == 2) = false := by simpa using q2
          have r3 : (kind == 3) = false := by simpa using q3
          have r4 : (kind == 4) = false := by simpa using q4
          have r5 : (kind == 5) = false := by simpa using fun h => q5 (.inl h)
          have r6 : (kind == 6) = false := by simpa using fun h => q5 (.inr h)
          clear q1 q2 q3 q4 q5 e
          go_wp2_with (first
            | (go_at_call 46; refine (HVS.out _).mono ?_; rintro e w0 ⟨rfl, rfl⟩))
          go_meet
          case rel =>
            exact TkRel.mk' HV0.out (Blk.new' (w := w.alloc (.cells #[.int .u8 0, .int .i64 0, .complex .f64 0 0, .string ByteArray.empty] 35)) (b := w.heap.size + 1) _ 35 (by simp)) ((Blk.new w #[.int .u8 0, .int .i64 0, .complex .f64 0 0, .string ByteArray.empty] 35).alloc _) (by rw [HS.out]; exact H.out.ext (by (repeat (with_reducible (first | exact Ext.refl _ | assumption | exact held_left (by assumption) | apply Ext.drewN | apply Ext.drew | apply Ext.alloc | (refine Ext.setCell ?_ (by first | (simp; done) | (simp; omega) | omega) _) | (refine Ext.trans ?_ (by assumption)) | (refine Ext.trans ?_ (held_left (by assumption)))))))) (((Tch.refl g w).alloc _).alloc _)
      · have HVS := Hid.mk' (fun w => versioned_no ver w (by omega))
        have hpre : preV kind ver st = (⟨kind, 0, 0, 0, ByteArray.empty⟩, giveS st 18) := by unfold preV; rw [if_neg hv]
        rw [hpre] at HV0 HS
        simp only at HV0 HS
        have HC := Hid.mk' (fun w h => fail_any g d st 18 w h)
        have hfs : failS st 18 = giveS st 18 := by unfold failS; rw [if_pos (by decide)]
        rw [hfs] at HC
        clear hpre hfs
        go_wp2_with (first
          | (go_at_call 46; refine (HVS.out _).mono ?_; rintro e w0 ⟨rfl, rfl⟩)
          | (go_at_call 41; refine (HC.out _ (H.out.ext (by (repeat (with_reducible (first | exact Ext.refl _ | assumption | exact held_left (by assumption) | apply Ext.drewN | apply Ext.drew | apply Ext.alloc | (refine Ext.setCell ?_ (by first | (simp; done) | (simp; omega) | omega) _) | (refine Ext.trans ?_ (by assumption)) | (refine Ext.trans ?_ (held_left (by assumption))))))))).mono ?_; rintro e w1 ⟨rfl, hr1, ht1⟩; have h7 := (Blk.new' (w := w.alloc (.cells #[.int .u8 0, .int .i64 0, .complex .f64 0 0, .string ByteArray.empty] 35)) (b := w.heap.size + 1) _ 35 (by simp)).tch ht1 (by omega); have h6 := ((Blk.new w #[.int .u8 0, .int .i64 0, .complex .f64 0 0, .string ByteArray.empty] 35).alloc _).tch ht1 (by omega); have HB7 := Hid.mk' h7; have HB6 := Hid.mk' h6; have k7 := h7.cell; have f7 := h7.frozen; have z7 := h7.lt; have HR1 := Hid.mk' hr1; have HT1 : Hid (Tch g w w1) := Hid.mk' ((((Tch.refl g w).alloc _).alloc _).trans ht1); clear h7 h6 hr1 ht1))
        go_meet
        case rel => exact TkRel.mk' HV0.out HB7.out HB6.out (HS.out ▸ HR1.out) HT1.out
  case rest =>
    as_aux_lemma =>
      obtain ⟨h7, h6, hr, ht⟩ := hcut.out
      clear hcut
      have HRt := Hid.mk' (fun w => vright_any V0.ty V0.n V0.x V0.y V0.s w (by omega))
      have HF := Hid.mk' (fun w h => fail_any g d S V0.right w h)
      have HER := Hid.mk' (fun w h => rerr_any g d (failS S V0.right) w h)
      obtain ⟨R, hR⟩ : ∃ R, R = rightV V0.ty V0.n V0.x V0.y V0.s := ⟨_, rfl⟩
      have hR2 : V0.right = R := hR.symm
      rw [← hR] at HRt
      rw [hR2] at HF HER
      obtain ⟨S2, hS2⟩ : ∃ S2, S2 = failS S R := ⟨_, rfl⟩
      rw [← hS2] at HF HER
      have k7 := h7.cell
      have k6 := h6.cell
      have HB7 := Hid.mk' h7
      have HB6 := Hid.mk' h6
      have HR := Hid.mk' hr
      have HT := Hid.mk' ht
      clear h7 h6 hr ht hR
      obtain ⟨ty, n, x, y, s⟩ := V0
      by_cases he : S2.e = 0
      · have HFIN : Hid (finV ⟨ty, n, x, y, s⟩ S = (⟨ty, n, x, y, s⟩, S2)) := Hid.mk' (by unfold finV; rw [hR2, ← hS2, if_neg (by simpa using he)])
        rw [he] at HER
        clear hR2 hS2 he
        simp only at *
        go_wp2_with (first
          | (go_at_call 39; refine (HRt.out _).mono ?_; rintro e w1 ⟨rfl, hb1⟩; have HE1 := Hid.mk' hb1; have HR1 := Hid.mk' (HR.out.ext hb1); clear hb1)
          | (go_at_call 41; refine (HF.out _ HR1.out).mono ?_; rintro e w2 ⟨rfl, hr2, ht2⟩; have h7 := (HB7.out.ext HE1.out).tch ht2 (by omega); have h6 := (HB6.out.ext HE1.out).tch ht2 (by omega); have j7 := h7.cell; have j6 := h6.cell; have f6 := h6.frozen; have z6 := h6.lt; have HR2 := Hid.mk' hr2; have HT2 := Hid.mk' (HT.out.trans ((Tch.of_ext HE1.out).trans ht2)); have HQ6 := Hid.mk' h6; clear h7 h6 hr2 ht2)
          | (go_at_call 22; refine (HER.out _ HR2.out).mono ?_; rintro e w3 ⟨rfl, rfl⟩))
        refine bodyPost_ret (v := .agg #[.int .u8 ty, .int .i64 n, .complex .f64 x y, .string s]) (by simp [results, Try.results44, go_sem, j6]) rfl ⟨?_, ?_, ?_⟩
        · rw [HFIN.out]
        · rw [HFIN.out]; exact (((HR2.out.tch (Tch.set1 _ _ _ _) (by omega) (.inr (by omega))).tch (Tch.set1 _ _ _ _) (by omega) (.inr (by omega))).tch (Tch.set1 _ _ _ _) (by omega) (.inr (by omega))).tch (Tch.set1 _ _ _ _) (by omega) (.inr (by omega))
        · exact (((HT2.out.setNew (Nat.le_refl _) _ _).setNew (Nat.le_refl _) _ _).setNew (Nat.le_refl _) _ _).setNew (Nat.le_refl _) _ _
      · have HFIN : Hid (finV ⟨ty, n, x, y, s⟩ S = (V.zero, S2)) := Hid.mk' (by unfold finV; rw [hR2, ← hS2, if_pos he])
        have he2 : (S2.e != 0) = true := by simpa using he
        clear hR2 hS2 he
        simp only at *
        go_wp2_with (first
          | (go_at_call 39; refine (HRt.out _).mono ?_; rintro e w1 ⟨rfl, hb1⟩; have HE1 := Hid.mk' hb1; have HR1 := Hid.mk' (HR.out.ext hb1); clear hb1)
          | (go_at_call 41; refine (HF.out _ HR1.out).mono ?_; rintro e w2 ⟨rfl, hr2, ht2⟩; have h7 := (HB7.out.ext HE1.out).tch ht2 (by omega); have h6 := (HB6.out.ext HE1.out).tch ht2 (by omega); have j7 := h7.cell; have j6 := h6.cell; have f6 := h6.frozen; have z6 := h6.lt; have HR2 := Hid.mk' hr2; have HT2 := Hid.mk' (HT.out.trans ((Tch.of_ext HE1.out).trans ht2)); have HQ6 := Hid.mk' h6; clear h7 h6 hr2 ht2)
          | (go_at_call 22; refine (HER.out _ HR2.out).mono ?_; rintro e w3 ⟨rfl, rfl⟩))
        refine bodyPost_ret (v := .agg #[.int .u8 0, .int .i64 0, .complex .f64 0 0, .string ⟨#[]⟩]) (by simp [results, Try.results44, go_sem, j6]) rfl ⟨?_, ?_, ?_⟩
        · rw [HFIN.out]; rfl
        · rw [HFIN.out]; exact (((HR2.out.tch (Tch.set1 _ _ _ _) (by omega) (.inr (by omega))).tch (Tch.set1 _ _ _ _) (by omega) (.inr (by omega))).tch (Tch.set1 _ _ _ _) (by omega) (.inr (by omega))).tch (Tch.set1 _ _ _ _) (by omega) (.inr (by omega))
        · exact (((HT2.out.setNew (Nat.le_refl _) _ _).setNew (Nat.le_refl _) _ _).setNew (Nat.le_refl _) _ _).setNew (Nat.le_refl _) _ _

end Go.Proofs.Ytmpnopjkpamhaaa
