/-
The program's Take of a value.
-/
import Derived.Deep.CutBlock
import Derived.RangeFuncNested
import Derived.RangeFuncBound
import Derived.RangeFuncCalls
import Derived.RangeFuncLeaves
import Derived.RangeFuncBox
import Derived.Shelf.Abstract
import Derived.Shelf.RegionOpen
import Derived.OwnWalkIn
import Derived.TacticsInMore
import Derived.LoopNIn
import Derived.LoopIn
import Derived.Test.YtdbepkfblfhlhaaP4
namespace Go.Proofs.Ytdbepkfblfhlhaa
open Go.RowKit

def preV (kind ver : Int) (st : RS) : V × RS := if ver = 1 ∨ ver = 2 then bodyR kind ver st else (⟨kind, 0, 0, 0, ByteArray.empty⟩, giveS st 18)
def finV (V0 : V) (S : RS) : V × RS := if (failS S V0.right).e ≠ 0 then (V.zero, failS S V0.right) else (V0, failS S V0.right)
theorem takeV_eq (kind ver : Int) (st : RS) : takeV kind ver st = finV (preV kind ver st).1 (preV kind ver st).2 := by
  unfold takeV preV
  by_cases h : ver = 1 ∨ ver = 2
  · rw [if_pos h, if_pos h]; rfl
  · rw [if_neg h, if_neg h]
    have hg : (giveS st 18).e ≠ 0 := by unfold giveS; split; simp; assumption
    have hf : ∀ x, failS (giveS st 18) x = giveS st 18 := fun x => by unfold failS; split; exact giveS_gave _ hg; rfl
    unfold finV
    simp only [hf]
    rw [if_pos hg]
theorem textR_len {st : RS} (m : Nat) (h : st.l.length ≤ 1000000) : (textR m st).1.length ≤ 1000000 := by
  unfold textR bytesR
  simp only
  split
  · simp
  · have : (uintR m st).2.l.length ≤ st.l.length := by
      unfold uintR giveS; simp only; (repeat' split) <;> simp
    simp; omega
theorem preV_size {kind ver : Int} {st : RS} (h : st.l.length ≤ 1000000) : (preV kind ver st).1.s.size ≤ 1000000 := by
  have h0 : ByteArray.empty.size ≤ 1000000 := Nat.zero_le _
  unfold preV bodyR
  (repeat' split) <;> first | exact h0 | (show (strOfNums _).size ≤ _; rw [strOfNums_size]; exact textR_len 2048 h)

theorem byteR_rng {st : RS} (h : st.ok) : 0 ≤ (byteR st).1 ∧ (byteR st).1 < 256 := by
  have := bytesR_isB h 1
  unfold byteR
  simp only
  cases hL : (bytesR 1 st).1 with
  | nil => simp
  | cons x L => rw [hL] at this; exact this.head
theorem wrap_toI64 {b : Nat} (h : b < 2 ^ 64) : wrap64 (b : Int) = toI64 b := by unfold wrap64 toI64; split <;> omega
theorem Tch.set1 (g : Nat) (w : World) (i : Nat) (v : Value) : Tch g w (w.setCell ⟨g, i, none⟩ v) := (Tch.refl g w).set i v

def TkRel (g d : Nat) (w : World) (V0 : V) (S : RS) (wx : World) : Prop :=
  Blk wx (w.heap.size + 1) #[.int .u8 V0.ty, .int .i64 V0.n, .complex .f64 V0.x V0.y, .string V0.s] 55 ∧ Blk wx w.heap.size #[.int .u8 0, .int .i64 0, .complex .f64 0 0, .string ByteArray.empty] 55 ∧ RD wx g d S ∧ Tch g w wx

theorem TkRel.mk' {g d : Nat} {w wx : World} {V0 : V} {S : RS} {ty n : Int} {x y : Nat} {s : ByteArray} (hV : V0 = ⟨ty, n, x, y, s⟩) (h7 : Blk wx (w.heap.size + 1) #[.int .u8 ty, .int .i64 n, .complex .f64 x y, .string s] 55)
    (h6 : Blk wx w.heap.size #[.int .u8 0, .int .i64 0, .complex .f64 0 0, .string ByteArray.empty] 55) (hr : RD wx g d S) (ht : Tch g w wx) : TkRel g d w V0 S wx := by
  subst hV; exact ⟨h7, h6, hr, ht⟩
/-- Behind a store into the new value. -/
theorem TkRel.set {g d : Nat} {w w1 : World} {V0 : V} {S : RS} {ty n : Int} {x y : Nat} {s : ByteArray} {ty' n' : Int} {x' y' : Nat} {s' : ByteArray} (i : Nat) (v : Value) (hV : V0 = ⟨ty, n, x, y, s⟩)
    (he : (#[.int .u8 ty', .int .i64 n', .complex .f64 x' y', .string s'] : Array Value).setIfInBounds i v = #[.int .u8 ty, .int .i64 n, .complex .f64 x y, .string s]) (hg : g < w.heap.size)
    (h7 : Blk w1 (w.heap.size + 1) #[.int .u8 ty', .int .i64 n', .complex .f64 x' y', .string s'] 55)
    (h6 : Blk w1 w.heap.size #[.int .u8 0, .int .i64 0, .complex .f64 0 0, .string ByteArray.empty] 55) (hr : RD w1 g d S) (ht : Tch g w w1) : TkRel g d w V0 S (w1.setCell ⟨w.heap.size + 1, i, none⟩ v) := by
  refine TkRel.mk' hV (by rw [← he]; exact h7.set i v) (h6.other _ _ (by simp)) (hr.tch ((Tch.refl (w.heap.size + 1) w1).set i v) (by omega) (.inr (by omega))) (ht.setNew (by omega) _ _)

set_option maxRecDepth 100000 in set_option maxHeartbeats 1600000 in
theorem vtake_any (g d : Nat) (st : RS) (kind ver : Int) (w : World) (h : RD w g d st) (hk0 : 0 ≤ kind) (hk1 : kind < 256) :
    Calls Try.prog 126 #[.pointer (some ⟨g, 0, none⟩), .int .u8 kind, .int .u8 ver] w (RPost g d w (.agg #[.int .u8 (takeV kind ver st).1.ty, .int .i64 (takeV kind ver st).1.n, .complex .f64 (takeV kind ver st).1.x (takeV kind ver st).1.y, .string (takeV kind ver st).1.s]) (takeV kind ver st).2) := by
  have H := Hid.mk' h
  have hg := h.lt
  have hok : st.ok := by obtain ⟨_, _, _, hok, _⟩ := h; exact hok
  have hok : st.ok := by obtain ⟨_, _, _, hok, _⟩ := h; exact hok
  have hlen : st.l.length ≤ 1000000 := by obtain ⟨_, _, _, _, hlen⟩ := h; exact hlen
  have hsz := preV_size (kind := kind) (ver := ver) hlen
  clear h
  rw [takeV_eq]
  obtain ⟨V0, hV0⟩ : ∃ V0, V0 = (preV kind ver st).1 := ⟨_, rfl⟩
  obtain ⟨S, hS⟩ : ∃ S, S = (preV kind ver st).2 := ⟨_, rfl⟩
  rw [← hV0, ← hS]
  rw [← hV0] at hsz
  have HV0 := Hid.mk' hV0
  have HS := Hid.mk' hS
  clear hV0 hS
  go_enter Try.func126, Try.ntmps126
  go_upto_block 0 with (fail)
  go_cut [] (fun wx => Hid (TkRel g d w V0 S wx))
  case first =>
    as_aux_lemma =>
      by_cases hv : ver = 1 ∨ ver = 2
      · have HVS := Hid.mk' (fun w => versioned_yes ver w (by omega) (by omega))
        have hpre : preV kind ver st = bodyR kind ver st := by unfold preV; rw [if_pos hv]
        rw [hpre] at HV0 HS
        clear hpre
        by_cases q1 : kind = 1
        · subst q1
          have e : bodyR 1 ver st = (⟨1, (byteR st).1, 0, 0, ByteArray.empty⟩, (byteR st).2) := by rfl
          rw [e] at HV0 HS
          have HC := Hid.mk' (fun w h => rbyte_any g d st w h)
          have hb01 := byteR_rng hok
          generalize byteR st = U at *
          obtain ⟨b, S1⟩ := U
          simp only at HV0 HS HC
          clear e
          go_wp2_with (first
            | (go_at_call 134; refine (HVS.out _).mono ?_; rintro e w0 ⟨rfl, rfl⟩)
            | (go_at_call 122; refine (HC.out _ (H.out.ext (by (repeat (with_reducible (first | exact Ext.refl _ | assumption | exact held_left (by assumption) | apply Ext.drewN | apply Ext.drew | apply Ext.alloc | (refine Ext.setCell ?_ (by first | (simp; done) | (simp; omega) | omega) _) | (refine Ext.trans ?_ (by assumption)) | (refine Ext.trans ?_ (held_left (by assumption))))))))).mono ?_; rintro e w1 ⟨rfl, hr1, ht1⟩; have h7 := (Blk.new' (w := w.alloc (.cells #[.int .u8 0, .int .i64 0, .complex .f64 0 0, .string ByteArray.empty] 55)) (b := w.heap.size + 1) _ 55 (by simp)).tch ht1 (by omega); have h6 := ((Blk.new w #[.int .u8 0, .int .i64 0, .complex .f64 0 0, .string ByteArray.empty] 55).alloc _).tch ht1 (by omega); have HB7 := Hid.mk' h7; have HB6 := Hid.mk' h6; have k7 := h7.cell; have f7 := h7.frozen; have z7 := h7.lt; have HR1 := Hid.mk' hr1; have HT1 : Hid (Tch g w w1) := Hid.mk' ((((Tch.refl g w).alloc _).alloc _).trans ht1); clear h7 h6 hr1 ht1))
          go_meet
          case rel =>
            have h := TkRel.set 1 (.int .i64 b) HV0.out rfl hg HB7.out HB6.out (HS.out ▸ HR1.out) HT1.out
            exact h
        by_cases q2 : kind = 2
        · subst q2
          rcases hv with rfl | rfl
          · skip
            have e : bodyR 2 1 st = (⟨2, toI64 (wordR st).1, 0, 0, ByteArray.empty⟩, (wordR st).2) := by rfl
            rw [e] at HV0 HS
            have HC := Hid.mk' (fun w h => rword2_any g d st w h)
            have hlt := wordR_lt hok
            generalize wordR st = U at *
            obtain ⟨b, S1⟩ := U
            simp only at HV0 HS HC
            clear e
            go_wp2_with (first
              | (go_at_call 134; refine (HVS.out _).mono ?_; rintro e w0 ⟨rfl, rfl⟩)
              | (go_at_call 151; refine (HC.out _ (H.out.ext (by (repeat (with_reducible (first | exact Ext.refl _ | assumption | exact held_left (by assumption) | apply Ext.drewN | apply Ext.drew | apply Ext.alloc | (refine Ext.setCell ?_ (by first | (simp; done) | (simp; omega) | omega) _) | (refine Ext.trans ?_ (by assumption)) | (refine Ext.trans ?_ (held_left (by assumption))))))))).mono ?_; rintro e w1 ⟨rfl, hr1, ht1⟩; have h7 := (Blk.new' (w := w.alloc (.cells #[.int .u8 0, .int .i64 0, .complex .f64 0 0, .string ByteArray.empty] 55)) (b := w.heap.size + 1) _ 55 (by simp)).tch ht1 (by omega); have h6 := ((Blk.new w #[.int .u8 0, .int .i64 0, .complex .f64 0 0, .string ByteArray.empty] 55).alloc _).tch ht1 (by omega); have HB7 := Hid.mk' h7; have HB6 := Hid.mk' h6; have k7 := h7.cell; have f7 := h7.frozen; have z7 := h7.lt; have HR1 := Hid.mk' hr1; have HT1 : Hid (Tch g w w1) := Hid.mk' ((((Tch.refl g w).alloc _).alloc _).trans ht1); clear h7 h6 hr1 ht1))
            go_meet
            case rel =>
              have h := TkRel.set 1 (.int .i64 (wrap64 b)) HV0.out (by rw [wrap_toI64 hlt]; rfl) hg HB7.out HB6.out (HS.out ▸ HR1.out) HT1.out
              exact h
          · skip
            have e : bodyR 2 2 st = (⟨2, (intR st).1, 0, 0, ByteArray.empty⟩, (intR st).2) := by rfl
            rw [e] at HV0 HS
            have HC := Hid.mk' (fun w h => rint_any g d st w h)
            generalize intR st = U at *
            obtain ⟨b, S1⟩ := U
            simp only at HV0 HS HC
            clear e
            go_wp2_with (first
              | (go_at_call 134; refine (HVS.out _).mono ?_; rintro e w0 ⟨rfl, rfl⟩)
              | (go_at_call 152; refine (HC.out _ (H.out.ext (by (repeat (with_reducible (first | exact Ext.refl _ | assumption | exact held_left (by assumption) | apply Ext.drewN | apply Ext.drew | apply Ext.alloc | (refine Ext.setCell ?_ (by first | (simp; done) | (simp; omega) | omega) _) | (refine Ext.trans ?_ (by assumption)) | (refine Ext.trans ?_ (held_left (by assumption))))))))).mono ?_; rintro e w1 ⟨rfl, hr1, ht1⟩; have h7 := (Blk.new' (w := w.alloc (.cells #[.int .u8 0, .int .i64 0, .complex .f64 0 0, .string ByteArray.empty] 55)) (b := w.heap.size + 1) _ 55 (by simp)).tch ht1 (by omega); have h6 := ((Blk.new w #[.int .u8 0, .int .i64 0, .complex .f64 0 0, .string ByteArray.empty] 55).alloc _).tch ht1 (by omega); have HB7 := Hid.mk' h7; have HB6 := Hid.mk' h6; have k7 := h7.cell; have f7 := h7.frozen; have z7 := h7.lt; have HR1 := Hid.mk' hr1; have HT1 : Hid (Tch g w w1) := Hid.mk' ((((Tch.refl g w).alloc _).alloc _).trans ht1); clear h7 h6 hr1 ht1))
            go_meet
            case rel =>
              have h := TkRel.set 1 (.int .i64 b) HV0.out rfl hg HB7.out HB6.out (HS.out ▸ HR1.out) HT1.out
              exact h
        by_cases q3 : kind = 3
        · subst q3
          have e : bodyR 3 ver st = (⟨3, 0, (floatR ver st).1, 0, ByteArray.empty⟩, (floatR ver st).2) := by rfl
          rw [e] at HV0 HS
          have HC := Hid.mk' (fun w h => vtf_any g d st ver w h)
          generalize floatR ver st = U at *
          obtain ⟨b, S1⟩ := U
          simp only at HV0 HS HC
          clear e
          go_wp2_with (first
            | (go_at_call 134; refine (HVS.out _).mono ?_; rintro e w0 ⟨rfl, rfl⟩)
            | (go_at_call 62; refine (vof_any b 0 _).mono ?_; rintro e w3 ⟨rfl, rfl⟩; simp only [Int.toNat_natCast, Int.toNat_zero])
            | (go_at_call 153; refine (HC.out _ (H.out.ext (by (repeat (with_reducible (first | exact Ext.refl _ | assumption | exact held_left (by assumption) | apply Ext.drewN | apply Ext.drew | apply Ext.alloc | (refine Ext.setCell ?_ (by first | (simp; done) | (simp; omega) | omega) _) | (refine Ext.trans ?_ (by assumption)) | (refine Ext.trans ?_ (held_left (by assumption))))))))).mono ?_; rintro e w1 ⟨rfl, hr1, ht1⟩; have h7 := (Blk.new' (w := w.alloc (.cells #[.int .u8 0, .int .i64 0, .complex .f64 0 0, .string ByteArray.empty] 55)) (b := w.heap.size + 1) _ 55 (by simp)).tch ht1 (by omega); have h6 := ((Blk.new w #[.int .u8 0, .int .i64 0, .complex .f64 0 0, .string ByteArray.empty] 55).alloc _).tch ht1 (by omega); have HB7 := Hid.mk' h7; have HB6 := Hid.mk' h6; have k7 := h7.cell; have f7 := h7.frozen; have z7 := h7.lt; have HR1 := Hid.mk' hr1; have HT1 : Hid (Tch g w w1) := Hid.mk' ((((Tch.refl g w).alloc _).alloc _).trans ht1); clear h7 h6 hr1 ht1))
          go_meet
          case rel =>
            have h := TkRel.set 2 (.complex .f64 b 0) HV0.out rfl hg HB7.out HB6.out (HS.out ▸ HR1.out) HT1.out
            exact h
        by_cases q4 : kind = 4
        · subst q4
          have e : bodyR 4 ver st = (⟨4, 0, (complexR ver st).1.1, (complexR ver st).1.2, ByteArray.empty⟩, (complexR ver st).2) := by rfl
          rw [e] at HV0 HS
          have HC := Hid.mk' (fun w h => vtc_any g d st ver w h)
          generalize complexR ver st = U at *
          obtain ⟨⟨b, c⟩, S1⟩ := U
          simp only at HV0 HS HC
          clear e
          go_wp2_with (first
            | (go_at_call 134; refine (HVS.out _).mono ?_; rintro e w0 ⟨rfl, rfl⟩)
            | (go_at_call 154; refine (HC.out _ (H.out.ext (by (repeat (with_reducible (first | exact Ext.refl _ | assumption | exact held_left (by assumption) | apply Ext.drewN | apply Ext.drew | apply Ext.alloc | (refine Ext.setCell ?_ (by first | (simp; done) | (simp; omega) | omega) _) | (refine Ext.trans ?_ (by assumption)) | (refine Ext.trans ?_ (held_left (by assumption))))))))).mono ?_; rintro e w1 ⟨rfl, hr1, ht1⟩; have h7 := (Blk.new' (w := w.alloc (.cells #[.int .u8 0, .int .i64 0, .complex .f64 0 0, .string ByteArray.empty] 55)) (b := w.heap.size + 1) _ 55 (by simp)).tch ht1 (by omega); have h6 := ((Blk.new w #[.int .u8 0, .int .i64 0, .complex .f64 0 0, .string ByteArray.empty] 55).alloc _).tch ht1 (by omega); have HB7 := Hid.mk' h7; have HB6 := Hid.mk' h6; have k7 := h7.cell; have f7 := h7.frozen; have z7 := h7.lt; have HR1 := Hid.mk' hr1; have HT1 : Hid (Tch g w w1) := Hid.mk' ((((Tch.refl g w).alloc _).alloc _).trans ht1); clear h7 h6 hr1 ht1))
          go_meet
          case rel =>
            have h := TkRel.set 2 (.complex .f64 b c) HV0.out rfl hg HB7.out HB6.out (HS.out ▸ HR1.out) HT1.out
            exact h
        by_cases q5 : kind = 5 ∨ kind = 6
        · rcases q5 with rfl | rfl
          · skip
            have e : bodyR 5 ver st = (⟨5, 0, 0, 0, strOfNums (textR 2048 st).1⟩, (textR 2048 st).2) := by rfl
            rw [e] at HV0 HS
            have HC := Hid.mk' (fun w h => rtxt_any g d st 2048 w h (by decide) (by decide))
            generalize textR 2048 st = U at *
            obtain ⟨b, S1⟩ := U
            simp only at HV0 HS HC
            clear e
            go_wp2_with (first
              | (go_at_call 134; refine (HVS.out _).mono ?_; rintro e w0 ⟨rfl, rfl⟩)
              | (go_at_call 149; refine (HC.out _ (H.out.ext (by (repeat (with_reducible (first | exact Ext.refl _ | assumption | exact held_left (by assumption) | apply Ext.drewN | apply Ext.drew | apply Ext.alloc | (refine Ext.setCell ?_ (by first | (simp; done) | (simp; omega) | omega) _) | (refine Ext.trans ?_ (by assumption)) | (refine Ext.trans ?_ (held_left (by assumption))))))))).mono ?_; rintro e w1 ⟨rfl, hr1, ht1⟩; have h7 := (Blk.new' (w := w.alloc (.cells #[.int .u8 0, .int .i64 0, .complex .f64 0 0, .string ByteArray.empty] 55)) (b := w.heap.size + 1) _ 55 (by simp)).tch ht1 (by omega); have h6 := ((Blk.new w #[.int .u8 0, .int .i64 0, .complex .f64 0 0, .string ByteArray.empty] 55).alloc _).tch ht1 (by omega); have HB7 := Hid.mk' h7; have HB6 := Hid.mk' h6; have k7 := h7.cell; have f7 := h7.frozen; have z7 := h7.lt; have HR1 := Hid.mk' hr1; have HT1 : Hid (Tch g w w1) := Hid.mk' ((((Tch.refl g w).alloc _).alloc _).trans ht1); clear h7 h6 hr1 ht1))
            go_meet
            case rel =>
              have h := TkRel.set 3 (.string (strOfNums b)) HV0.out rfl hg HB7.out HB6.out (HS.out ▸ HR1.out) HT1.out
              exact h
          · skip
            have e : bodyR 6 ver st = (⟨6, 0, 0, 0, strOfNums (textR 2048 st).1⟩, (textR 2048 st).2) := by rfl
            rw [e] at HV0 HS
            have HC := Hid.mk' (fun w h => rtxt_any g d st 2048 w h (by decide) (by decide))
            generalize textR 2048 st = U at *
            obtain ⟨b, S1⟩ := U
            simp only at HV0 HS HC
            clear e
            go_wp2_with (first
              | (go_at_call 134; refine (HVS.out _).mono ?_; rintro e w0 ⟨rfl, rfl⟩)
              | (go_at_call 149; refine (HC.out _ (H.out.ext (by (repeat (with_reducible (first | exact Ext.refl _ | assumption | exact held_left (by assumption) | apply Ext.drewN | apply Ext.drew | apply Ext.alloc | (refine Ext.setCell ?_ (by first | (simp; done) | (simp; omega) | omega) _) | (refine Ext.trans ?_ (by assumption)) | (refine Ext.trans ?_ (held_left (by assumption))))))))).mono ?_; rintro e w1 ⟨rfl, hr1, ht1⟩; have h7 := (Blk.new' (w := w.alloc (.cells #[.int .u8 0, .int .i64 0, .complex .f64 0 0, .string ByteArray.empty] 55)) (b := w.heap.size + 1) _ 55 (by simp)).tch ht1 (by omega); have h6 := ((Blk.new w #[.int .u8 0, .int .i64 0, .complex .f64 0 0, .string ByteArray.empty] 55).alloc _).tch ht1 (by omega); have HB7 := Hid.mk' h7; have HB6 := Hid.mk' h6; have k7 := h7.cell; have f7 := h7.frozen; have z7 := h7.lt; have HR1 := Hid.mk' hr1; have HT1 : Hid (Tch g w w1) := Hid.mk' ((((Tch.refl g w).alloc _).alloc _).trans ht1); clear h7 h6 hr1 ht1))
            go_meet
            case rel =>
              have h := TkRel.set 3 (.string (strOfNums b)) HV0.out rfl hg HB7.out HB6.out (HS.out ▸ HR1.out) HT1.out
              exact h
        · have e : bodyR kind ver st = (⟨kind, 0, 0, 0, ByteArray.empty⟩, st) := by unfold bodyR; rw [if_neg q1, if_neg q2, if_neg q3, if_neg q4, if_neg q5]
          rw [e] at HV0 HS
          have r1 : (kind == 1) = false := by simpa using q1
          have r2 : (kind == 2) = false := by simpa using q2
          have r3 : (kind == 3) = false := by simpa using q3
          have r4 : (kind == 4) = false := by simpa using q4
          have r5 : (kind == 5) = false := by simpa using fun h => q5 (.inl h)
          have r6 : (kind == 6) = false := by simpa using fun h => q5 (.inr h)
          clear q1 q2 q3 q4 q5 e
          go_wp2_with (first
            | (go_at_call 134; refine (HVS.out _).mono ?_; rintro e w0 ⟨rfl, rfl⟩))
          go_meet
          case rel =>
            exact TkRel.mk' HV0.out (Blk.new' (w := w.alloc (.cells #[.int .u8 0, .int .i64 0, .complex .f64 0 0, .string ByteArray.empty] 55)) (b := w.heap.size + 1) _ 55 (by simp)) ((Blk.new w #[.int .u8 0, .int .i64 0, .complex .f64 0 0, .string ByteArray.empty] 55).alloc _) (by rw [HS.out]; exact H.out.ext (by (repeat (with_reducible (first | exact Ext.refl _ | assumption | exact held_left (by assumption) | apply Ext.drewN | apply Ext.drew | apply Ext.alloc | (refine Ext.setCell ?_ (by first | (simp; done) | (simp; omega) | omega) _) | (refine Ext.trans ?_ (by assumption)) | (refine Ext.trans ?_ (held_left (by assumption)))))))) (((Tch.refl g w).alloc _).alloc _)
      · have HVS := Hid.mk' (fun w => versioned_no ver w (by omega))
        have hpre : preV kind ver st = (⟨kind, 0, 0, 0, ByteArray.empty⟩, giveS st 18) := by unfold preV; rw [if_neg hv]
        rw [hpre] at HV0 HS
        simp only at HV0 HS
        have HC := Hid.mk' (fun w h => fail_any g d st 18 w h)
        have hfs : failS st 18 = giveS st 18 := by unfold failS; rw [if_pos (by decide)]
        rw [hfs] at HC
        clear hpre hfs
        go_wp2_with (first
          | (go_at_call 134; refine (HVS.out _).mono ?_; rintro e w0 ⟨rfl, rfl⟩)
          | (go_at_call 86; refine (HC.out _ (H.out.ext (by (repeat (with_reducible (first | exact Ext.refl _ | assumption | exact held_left (by assumption) | apply Ext.drewN | apply Ext.drew | apply Ext.alloc | (refine Ext.setCell ?_ (by first | (simp; done) | (simp; omega) | omega) _) | (refine Ext.trans ?_ (by assumption)) | (refine Ext.trans ?_ (held_left (by assumption))))))))).mono ?_; rintro e w1 ⟨rfl, hr1, ht1⟩; have h7 := (Blk.new' (w := w.alloc (.cells #[.int .u8 0, .int .i64 0, .complex .f64 0 0, .string ByteArray.empty] 55)) (b := w.heap.size + 1) _ 55 (by simp)).tch ht1 (by omega); have h6 := ((Blk.new w #[.int .u8 0, .int .i64 0, .complex .f64 0 0, .string ByteArray.empty] 55).alloc _).tch ht1 (by omega); have HB7 := Hid.mk' h7; have HB6 := Hid.mk' h6; have k7 := h7.cell; have f7 := h7.frozen; have z7 := h7.lt; have HR1 := Hid.mk' hr1; have HT1 : Hid (Tch g w w1) := Hid.mk' ((((Tch.refl g w).alloc _).alloc _).trans ht1); clear h7 h6 hr1 ht1))
        go_meet
        case rel => exact TkRel.mk' HV0.out HB7.out HB6.out (HS.out ▸ HR1.out) HT1.out
  case rest =>
    as_aux_lemma =>
      obtain ⟨h7, h6, hr, ht⟩ := hcut.out
      clear hcut
      have HRt := Hid.mk' (fun w => vright_any V0.ty V0.n V0.x V0.y V0.s w (by omega))
      have HF := Hid.mk' (fun w h => fail_any g d S V0.right w h)
      have HER := Hid.mk' (fun w h => rerr_any g d (failS S V0.right) w h)
      obtain ⟨R, hR⟩ : ∃ R, R = rightV V0.ty V0.n V0.x V0.y V0.s := ⟨_, rfl⟩
      have hR2 : V0.right = R := hR.symm
      rw [← hR] at HRt
      rw [hR2] at HF HER
      obtain ⟨S2, hS2⟩ : ∃ S2, S2 = failS S R := ⟨_, rfl⟩
      rw [← hS2] at HF HER
      have k7 := h7.cell
      have k6 := h6.cell
      have HB7 := Hid.mk' h7
      have HB6 := Hid.mk' h6
      have HR := Hid.mk' hr
      have HT := Hid.mk' ht
      clear h7 h6 hr ht hR
      obtain ⟨ty, n, x, y, s⟩ := V0
      by_cases he : S2.e = 0
      · have HFIN : Hid (finV ⟨ty, n, x, y, s⟩ S = (⟨ty, n, x, y, s⟩, S2)) := Hid.mk' (by unfold finV; rw [hR2, ← hS2, if_neg (by simpa using he)])
        rw [he] at HER
        clear hR2 hS2 he
        simp only at *
        go_wp2_with (first
          | (go_at_call 119; refine (HRt.out _).mono ?_; rintro e w1 ⟨rfl, hb1⟩; have HE1 := Hid.mk' hb1; have HR1 := Hid.mk' (HR.out.ext hb1); clear hb1)
          | (go_at_call 86; refine (HF.out _ HR1.out).mono ?_; rintro e w2 ⟨rfl, hr2, ht2⟩; have h7 := (HB7.out.ext HE1.out).tch ht2 (by omega); have h6 := (HB6.out.ext HE1.out).tch ht2 (by omega); have j7 := h7.cell; have j6 := h6.cell; have f6 := h6.frozen; have z6 := h6.lt; have HR2 := Hid.mk' hr2; have HT2 := Hid.mk' (HT.out.trans ((Tch.of_ext HE1.out).trans ht2)); have HQ6 := Hid.mk' h6; clear h7 h6 hr2 ht2)
          | (go_at_call 52; refine (HER.out _ HR2.out).mono ?_; rintro e w3 ⟨rfl, rfl⟩))
        refine bodyPost_ret (v := .agg #[.int .u8 ty, .int .i64 n, .complex .f64 x y, .string s]) (by simp [results, Try.results126, go_sem, j6]) rfl ⟨?_, ?_, ?_⟩
        · rw [HFIN.out]
        · rw [HFIN.out]; exact (((HR2.out.tch (Tch.set1 _ _ _ _) (by omega) (.inr (by omega))).tch (Tch.set1 _ _ _ _) (by omega) (.inr (by omega))).tch (Tch.set1 _ _ _ _) (by omega) (.inr (by omega))).tch (Tch.set1 _ _ _ _) (by omega) (.inr (by omega))
        · exact (((HT2.out.setNew (Nat.le_refl _) _ _).setNew (Nat.le_refl _) _ _).setNew (Nat.le_refl _) _ _).setNew (Nat.le_refl _) _ _
      · have HFIN : Hid (finV ⟨ty, n, x, y, s⟩ S = (V.zero, S2)) := Hid.mk' (by unfold finV; rw [hR2, ← hS2, if_pos he])
        have he2 : (S2.e != 0) = true := by simpa using he
        clear hR2 hS2 he
        simp only at *
        go_wp2_with (first
          | (go_at_call 119; refine (HRt.out _).mono ?_; rintro e w1 ⟨rfl, hb1⟩; have HE1 := Hid.mk' hb1; have HR1 := Hid.mk' (HR.out.ext hb1); clear hb1)
          | (go_at_call 86; refine (HF.out _ HR1.out).mono ?_; rintro e w2 ⟨rfl, hr2, ht2⟩; have h7 := (HB7.out.ext HE1.out).tch ht2 (by omega); have h6 := (HB6.out.ext HE1.out).tch ht2 (by omega); have j7 := h7.cell; have j6 := h6.cell; have f6 := h6.frozen; have z6 := h6.lt; have HR2 := Hid.mk' hr2; have HT2 := Hid.mk' (HT.out.trans ((Tch.of_ext HE1.out).trans ht2)); have HQ6 := Hid.mk' h6; clear h7 h6 hr2 ht2)
          | (go_at_call 52; refine (HER.out _ HR2.out).mono ?_; rintro e w3 ⟨rfl, rfl⟩))
        refine bodyPost_ret (v := .agg #[.int .u8 0, .int .i64 0, .complex .f64 0 0, .string ⟨#[]⟩]) (by simp [results, Try.results126, go_sem, j6]) rfl ⟨?_, ?_, ?_⟩
        · rw [HFIN.out]; rfl
        · rw [HFIN.out]; exact (((HR2.out.tch (Tch.set1 _ _ _ _) (by omega) (.inr (by omega))).tch (Tch.set1 _ _ _ _) (by omega) (.inr (by omega))).tch (Tch.set1 _ _ _ _) (by omega) (.inr (by omega))).tch (Tch.set1 _ _ _ _) (by omega) (.inr (by omega))
        · exact (((HT2.out.setNew (Nat.le_refl _) _ _).setNew (Nat.le_refl _) _ _).setNew (Nat.le_refl _) _ _).setNew (Nat.le_refl _) _ _

end Go.Proofs.Ytdbepkfblfhlhaa

/-
The laws' Back of a value; a value against itself.
-/
namespace Go.Proofs.Ytdbepkfblfhlhaa
open Go.RowKit

set_option maxRecDepth 100000 in set_option maxHeartbeats 1600000 in
theorem vback_any (ty n : Int) (x y : Nat) (s : ByteArray) (w : World) :
    Calls Try.prog 104 #[.agg #[.int .u8 ty, .int .i64 n, .complex .f64 x y, .string s]] w fun e w' =>
      e = .returned (.agg #[.int .u8 ty, .int .i64 n, .int .u64 x, .int .u64 y, .string s]) ∧ Ext w w' := by
  go_enter Try.func104, Try.ntmps104
  go_wp2_with (go_at_call 61; refine (vbits_any x y _).mono ?_; rintro e w1 ⟨rfl, rfl⟩)
  refine bodyPost_ret (v := .agg #[.int .u8 ty, .int .i64 n, .int .u64 x, .int .u64 y, .string s]) (by simp [results, Try.results104, go_sem]) rfl ⟨rfl, by (repeat (with_reducible (first | exact Ext.refl _ | assumption | exact held_left (by assumption) | apply Ext.drewN | apply Ext.drew | apply Ext.alloc | (refine Ext.setCell ?_ (by first | (simp; done) | (simp; omega) | omega) _) | (refine Ext.trans ?_ (by assumption)) | (refine Ext.trans ?_ (held_left (by assumption))))))⟩

set_option maxRecDepth 20000 in
theorem neq_val (ty n : Int) (x y : Nat) (s : ByteArray) (w : World) :
    (binOp .neq 59 (.agg #[.int .u8 ty, .int .i64 n, .int .u64 x, .int .u64 y, .string s]) (.agg #[.int .u8 ty, .int .i64 n, .int .u64 x, .int .u64 y, .string s])).run Try.prog w = .ok (.bool false) w := by
  simp [go_sem]

end Go.Proofs.Ytdbepkfblfhlhaa

/-
The laws' Back of a cell; equality of two cells of the document.
-/
namespace Go.Proofs.Ytdbepkfblfhlhaa
open Go.RowKit

set_option maxRecDepth 100000 in set_option maxHeartbeats 1600000 in
theorem eq_cell (k ty n : Int) (x y : Nat) (s : ByteArray) (k' ty' n' : Int) (x' y' : Nat) (s' : ByteArray) (w : World) :
    (binOp .eql 121 (.agg #[.int .u8 k, .int .u8 ty, .int .i64 n, .int .u64 x, .int .u64 y, .string s]) (.agg #[.int .u8 k', .int .u8 ty', .int .i64 n', .int .u64 x', .int .u64 y', .string s'])).run Try.prog w = .ok (.bool (alikeB k ty n x y s k' ty' n' x' y' s')) w := by
  by_cases h0 : k = k' <;> by_cases h1 : ty = ty' <;> by_cases h2 : n = n' <;> by_cases h3 : x = x' <;> by_cases h4 : y = y' <;> by_cases h5 : s = s' <;> simp [go_sem, alikeB, h0, h1, h2, h3, h4, h5]
  all_goals first
    | (intro h; exact absurd (toList_inj' h) h5)
    | omega
    | (intros; omega)
    | (intros; intro h; exact absurd (toList_inj' h) h5)

set_option maxRecDepth 100000 in set_option maxHeartbeats 1600000 in
theorem cback_any (k ty n : Int) (x y : Nat) (s : ByteArray) (w : World) :
    Calls Try.prog 66 #[.agg #[.int .u8 k, .int .u8 ty, .int .i64 n, .complex .f64 x y, .string s]] w fun e w' =>
      e = .returned (.agg #[.int .u8 k, .int .u8 ty, .int .i64 n, .int .u64 x, .int .u64 y, .string s]) ∧ Ext w w' := by
  go_enter Try.func66, Try.ntmps66
  go_wp2
  go_region_held3 (fun w' => Ext (w.alloc (.cells #[.int .u8 k, .int .u8 ty, .int .i64 n, .complex .f64 x y, .string s] 78)) w' ∧ (∀ b o, b < (w.alloc (.cells #[.int .u8 k, .int .u8 ty, .int .i64 n, .complex .f64 x y, .string s] 78)).heap.size → w'.cell? ⟨b, o, none⟩ = (w.alloc (.cells #[.int .u8 k, .int .u8 ty, .int .i64 n, .complex .f64 x y, .string s] 78)).cell? ⟨b, o, none⟩) ∧ (∀ b o, b < (w.alloc (.cells #[.int .u8 k, .int .u8 ty, .int .i64 n, .complex .f64 x y, .string s] 78)).heap.size → w'.frozen? ⟨b, o, none⟩ = (w.alloc (.cells #[.int .u8 k, .int .u8 ty, .int .i64 n, .complex .f64 x y, .string s] 78)).frozen? ⟨b, o, none⟩)) ((exact held_of (by (repeat (with_reducible (first | exact Ext.refl _ | assumption | exact held_left (by assumption) | apply Ext.drewN | apply Ext.drew | apply Ext.alloc | (refine Ext.setCell ?_ (by first | (simp; done) | (simp; omega) | omega) _) | (refine Ext.trans ?_ (by assumption)) | (refine Ext.trans ?_ (held_left (by assumption)))))))))
    (first
      | (go_at_call 104; refine (vback_any ty n x y s _).mono ?_; rintro e w' ⟨rfl, hb⟩; obtain ⟨hc, hf⟩ := hb.cells))
  go_wp2
  simp [bodyPost, results, Try.results66, go_sem, *]
  (repeat (with_reducible (first | exact Ext.refl _ | assumption | exact held_left (by assumption) | apply Ext.drewN | apply Ext.drew | apply Ext.alloc | (refine Ext.setCell ?_ (by first | (simp; done) | (simp; omega) | omega) _) | (refine Ext.trans ?_ (by assumption)) | (refine Ext.trans ?_ (held_left (by assumption))))))

end Go.Proofs.Ytdbepkfblfhlhaa

/-
Rows: the laws' Own and Back of a list of cells; whether a law looks at so much.
-/
namespace Go.Proofs.Ytdbepkfblfhlhaa
open Go.RowKit

/-- A cell's cells, the program's and the document's. -/
def K.pc (c : K) : List Value := [.int .u8 c.k, .int .u8 c.v.ty, .int .i64 c.v.n, .complex .f64 c.v.x c.v.y, .string c.v.s]
def K.rc (c : K) : List Value := [.int .u8 c.k, .int .u8 c.v.ty, .int .i64 c.v.n, .int .u64 c.v.x, .int .u64 c.v.y, .string c.v.s]
theorem K.pcAt {w wr : World} {b o : Nat} {l : List K} {k : Nat} (hk : k < l.length) (hc : ∀ j, j < 5 → w.cell? ⟨b, o + k * 5 + j, none⟩ = ((l.map K.pc).getD k [])[j]?) (hb : b < w.heap.size) (hE : Ext w wr) :
    wr.cell? ⟨b, o + k * 5, none⟩ = some (.int .u8 l[k].k) ∧ wr.cell? ⟨b, o + k * 5 + 1, none⟩ = some (.int .u8 l[k].v.ty) ∧ wr.cell? ⟨b, o + k * 5 + 2, none⟩ = some (.int .i64 l[k].v.n) ∧
    wr.cell? ⟨b, o + k * 5 + 3, none⟩ = some (.complex .f64 l[k].v.x l[k].v.y) ∧ wr.cell? ⟨b, o + k * 5 + 4, none⟩ = some (.string l[k].v.s) := by
  rw [getD_map K.pc l hk] at hc
  have c := hE.cells.1 b
  exact ⟨(c _ hb).trans (hc 0 (by omega)), (c _ hb).trans (hc 1 (by omega)), (c _ hb).trans (hc 2 (by omega)), (c _ hb).trans (hc 3 (by omega)), (c _ hb).trans (hc 4 (by omega))⟩
theorem K.rcAt {w wr : World} {b o : Nat} {l : List K} {k : Nat} (hk : k < l.length) (hc : ∀ j, j < 6 → w.cell? ⟨b, o + k * 6 + j, none⟩ = ((l.map K.rc).getD k [])[j]?) (hb : b < w.heap.size) (hE : Ext w wr) :
    wr.cell? ⟨b, o + k * 6, none⟩ = some (.int .u8 l[k].k) ∧ wr.cell? ⟨b, o + k * 6 + 1, none⟩ = some (.int .u8 l[k].v.ty) ∧ wr.cell? ⟨b, o + k * 6 + 2, none⟩ = some (.int .i64 l[k].v.n) ∧
    wr.cell? ⟨b, o + k * 6 + 3, none⟩ = some (.int .u64 l[k].v.x) ∧ wr.cell? ⟨b, o + k * 6 + 4, none⟩ = some (.int .u64 l[k].v.y) ∧ wr.cell? ⟨b, o + k * 6 + 5, none⟩ = some (.string l[k].v.s) := by
  rw [getD_map K.rc l hk] at hc
  have c := hE.cells.1 b
  exact ⟨(c _ hb).trans (hc 0 (by omega)), (c _ hb).trans (hc 1 (by omega)), (c _ hb).trans (hc 2 (by omega)), (c _ hb).trans (hc 3 (by omega)), (c _ hb).trans (hc 4 (by omega)), (c _ hb).trans (hc 5 (by omega))⟩

theorem Try.infoCellP : (Try.prog.info? 78).map (fun i => (i.zero, i.size, i.bytes)) = some (some (.agg #[.int .u8 0, .int .u8 0, .int .i64 0, .complex .f64 0 0, .string ByteArray.empty]), 5, 56) := by kernel_rfl
theorem Try.infoCellR : (Try.prog.info? 121).map (fun i => (i.zero, i.size, i.bytes)) = some (some (.agg #[.int .u8 0, .int .u8 0, .int .i64 0, .int .u64 0, .int .u64 0, .string ByteArray.empty]), 6, 56) := by kernel_rfl

set_option maxRecDepth 100000 in set_option maxHeartbeats 1600000 in
theorem ownK_any (l : List K) (a : Option Addr) (cap : Nat) (w : World) (hl : Sl w (.slice a l.length cap) 6 (l.map K.rc)) (hlen : l.length ≤ 1000) :
    Calls Try.prog 15 #[.slice a l.length cap] w fun e w' => ∃ a' cap', e = .returned (.slice a' l.length cap') ∧ l.length ≤ cap' ∧ Sl w' (.slice a' l.length cap') 5 (l.map K.pc) ∧ Ext w w' := by
  have HL := Hid.mk' hl
  clear hl
  obtain ⟨i0, hi, hz0, hz1, hz2⟩ := info_parts Try.infoCellP
  go_enter Try.func15, Try.ntmps15
  go_wp2
  go_loopw [3, 4] (fun v i wr => ∃ k : Nat, k ≤ l.length ∧ i = .int .i64 k ∧ Hid (wr.ownsRow w.heap.size 78 5 v k ((l.map K.pc).take k).flatten) ∧ Hid (Ext w wr)) (fun _ i _ => l.length - (intOf i).toNat)
  case atStart => exact ⟨0, Nat.zero_le _, rfl, World.ownsRow_nil _ _ _ _, Ext.refl _⟩
  case round =>
    obtain ⟨k, hk, rfl, hown, hE⟩ := hrel
    by_cases hlt : k < l.length
    · obtain ⟨b, o, rfl, hb, hx⟩ := HL.out.at_ (i := k) (by simpa using hlt)
      obtain ⟨f0, f1, f2, f3, f4, f5⟩ := K.rcAt hlt hx hb hE.out
      have hbw : b < wr.heap.size := Nat.lt_of_lt_of_le hb hE.out.size
      have HT := Hid.mk' (flat_snoc (f := K.pc) hlt)
      have HC := Hid.mk' (fun w => cown_any l[k].k l[k].v.ty l[k].v.n l[k].v.x l[k].v.y l[k].v.s w)
      simp only [Int.toNat_natCast] at HC
      obtain ⟨c, hc⟩ : ∃ c, c = l[k] := ⟨_, rfl⟩
      rw [← hc] at f0 f1 f2 f3 f4 f5 HT HC
      clear hc hx
      go_wp2_with (first
        | (go_at_call 56; refine (HC.out _).mono ?_; rintro e w1 ⟨rfl, hb1⟩; have HB1 := Hid.mk' hb1; have hz1' := hb1.size; clear hb1)
        | (at_builtin; refine wpList_append_own _ rfl _ _ 33 rfl w.heap.size 78 i0 _ 5 56 Try.underlying33 hi hz0 hz1 hz2 rfl (by decide) _ _ _ rfl ((owns_ext hown.out HB1.out).alloc _) ⟨_, 0, none⟩ 1 1 c.pc rfl rfl ?c1 ?c2 ?c3 ?c4 ?c5 ?_))
      case c1 => exact cells_new _ #[.int .u8 c.k, .int .u8 c.v.ty, .int .i64 c.v.n, .complex .f64 c.v.x c.v.y, .string c.v.s] _
      case c2 => intro u hu; simp [K.pc] at hu; rcases hu with rfl | rfl | rfl | rfl | rfl <;> rfl
      case c3 => unfold maxLen; omega
      case c4 => omega
      case c5 => have := (hE.out.trans HB1.out).size; simp; omega
      · intro v' w2 hown' hgrow _
        have HE2 := Hid.mk' (((hE.out.trans HB1.out).alloc _).grown ((owns_ext hown.out HB1.out).alloc _) hgrow)
        have HO2 := Hid.mk' hown'
        clear hown' hgrow
        go_wp2
        go_roundw
        case rel => exact ⟨k + 1, by omega, by go_num, Hid.mk' (by rw [HT.out]; exact HO2.out), HE2⟩
        case measure => simp [intOf]; omega
    · have hkk : k = l.length := by omega
      subst hkk
      rw [show l.length = (l.map K.pc).length by simp, List.take_length] at hown
      rw [List.length_map] at hown
      obtain ⟨a', c', rfl⟩ := owns_shape hown.out
      go_wp2
      go_ret
      refine ⟨a', c', rfl, owns_cap hown.out, Sl.of_owns (base := w.heap.size) (e := 78) ?_ ?_, hE.out⟩
      · have e : (l.map K.pc).length = l.length := by simp
        rw [e]; exact hown.out
      · intro xs hxs; simp at hxs; obtain ⟨a, _, rfl⟩ := hxs; rfl

set_option maxRecDepth 100000 in set_option maxHeartbeats 1600000 in
theorem backK_any (l : List K) (a : Option Addr) (cap : Nat) (w : World) (hl : Sl w (.slice a l.length cap) 5 (l.map K.pc)) (hlen : l.length ≤ 1000) :
    Calls Try.prog 24 #[.slice a l.length cap] w fun e w' => ∃ a' cap', e = .returned (.slice a' l.length cap') ∧ l.length ≤ cap' ∧ Sl w' (.slice a' l.length cap') 6 (l.map K.rc) ∧ Ext w w' := by
  have HL := Hid.mk' hl
  clear hl
  obtain ⟨i0, hi, hz0, hz1, hz2⟩ := info_parts Try.infoCellR
  go_enter Try.func24, Try.ntmps24
  go_wp2
  go_loopw [3, 4] (fun v i wr => ∃ k : Nat, k ≤ l.length ∧ i = .int .i64 k ∧ Hid (wr.ownsRow w.heap.size 121 6 v k ((l.map K.rc).take k).flatten) ∧ Hid (Ext w wr)) (fun _ i _ => l.length - (intOf i).toNat)
  case atStart => exact ⟨0, Nat.zero_le _, rfl, World.ownsRow_nil _ _ _ _, Ext.refl _⟩
  case round =>
    obtain ⟨k, hk, rfl, hown, hE⟩ := hrel
    by_cases hlt : k < l.length
    · obtain ⟨b, o, rfl, hb, hx⟩ := HL.out.at_ (i := k) (by simpa using hlt)
      obtain ⟨f0, f1, f2, f3, f4⟩ := K.pcAt hlt hx hb hE.out
      have hbw : b < wr.heap.size := Nat.lt_of_lt_of_le hb hE.out.size
      have HT := Hid.mk' (flat_snoc (f := K.rc) hlt)
      have HC := Hid.mk' (fun w => cback_any l[k].k l[k].v.ty l[k].v.n l[k].v.x l[k].v.y l[k].v.s w)
      obtain ⟨c, hc⟩ : ∃ c, c = l[k] := ⟨_, rfl⟩
      rw [← hc] at f0 f1 f2 f3 f4 HT HC
      clear hc hx
      go_wp2_with (first
        | (go_at_call 66; refine (HC.out _).mono ?_; rintro e w1 ⟨rfl, hb1⟩; have HB1 := Hid.mk' hb1; have hz1' := hb1.size; clear hb1)
        | (at_builtin; refine wpList_append_own _ rfl _ _ 31 rfl w.heap.size 121 i0 _ 6 56 Try.underlying31 hi hz0 hz1 hz2 rfl (by decide) _ _ _ rfl ((owns_ext hown.out HB1.out).alloc _) ⟨_, 0, none⟩ 1 1 c.rc rfl rfl ?c1 ?c2 ?c3 ?c4 ?c5 ?_))
      case c1 => exact cells_new _ #[.int .u8 c.k, .int .u8 c.v.ty, .int .i64 c.v.n, .int .u64 c.v.x, .int .u64 c.v.y, .string c.v.s] _
      case c2 => intro u hu; simp [K.rc] at hu; rcases hu with rfl | rfl | rfl | rfl | rfl | rfl <;> rfl
      case c3 => unfold maxLen; omega
      case c4 => omega
      case c5 => have := (hE.out.trans HB1.out).size; simp; omega
      · intro v' w2 hown' hgrow _
        have HE2 := Hid.mk' (((hE.out.trans HB1.out).alloc _).grown ((owns_ext hown.out HB1.out).alloc _) hgrow)
        have HO2 := Hid.mk' hown'
        clear hown' hgrow
        go_wp2
        go_roundw
        case rel => exact ⟨k + 1, by omega, by go_num, Hid.mk' (by rw [HT.out]; exact HO2.out), HE2⟩
        case measure => simp [intOf]; omega
    · have hkk : k = l.length := by omega
      subst hkk
      rw [show l.length = (l.map K.rc).length by simp, List.take_length] at hown
      rw [List.length_map] at hown
      obtain ⟨a', c', rfl⟩ := owns_shape hown.out
      go_wp2
      go_ret
      refine ⟨a', c', rfl, owns_cap hown.out, Sl.of_owns (base := w.heap.size) (e := 121) ?_ ?_, hE.out⟩
      · have e : (l.map K.rc).length = l.length := by simp
        rw [e]; exact hown.out
      · intro xs hxs; simp at hxs; obtain ⟨a, _, rfl⟩ := hxs; rfl

end Go.Proofs.Ytdbepkfblfhlhaa

/-
Names: the program's, the reference's.
-/
namespace Go.Proofs.Ytdbepkfblfhlhaa
open Go.RowKit

set_option maxRecDepth 20000 in set_option maxHeartbeats 400000 in
theorem named_any (s : ByteArray) (w : World) (hs : s.size ≤ 9223372036854775807) :
    Calls Try.prog 94 #[.string s] w fun e w' => e = .returned (.bool (namedB s)) ∧ w = w' := by
  go_enter Try.func94, Try.ntmps94
  go_wp2
  go_loop [8] (fun i => ∃ k : Nat, k ≤ s.size ∧ i = .int .i64 k ∧ Hid (∀ j, j < k → nameAt s j = true)) (fun i => s.size - (intOf i).toNat)
  case atStart => exact ⟨0, Nat.zero_le _, rfl, fun j h => by omega⟩
  case round =>
    obtain ⟨k, hk, rfl, hrel⟩ := hrel
    by_cases hlt : k < s.size
    · rcases name_cases hlt with ⟨hn, hc⟩ | ⟨hn, hc⟩
      · have HN := Hid.mk' hn
        clear hn
        have HC := Hid.mk' hc
        clear hc
        rcases HC.out with ⟨h1, h2⟩ | ⟨h0, h1, h2⟩ | ⟨h0, h1⟩
        · clear HC
          go_wp2
          go_round
          case rel => exact ⟨k + 1, by omega, by go_num, fun j hj => by
            by_cases e : j = k
            · subst e; exact HN.out
            · exact hrel.out j (by omega)⟩
          case measure => simp [intOf]; omega
        · clear HC
          (try first | (have a1 : 97 ≤ (s[k].toNat : Int) := by omega) | (have a1 : (s[k].toNat : Int) < 97 := by omega)); (try first | (have a2 : (s[k].toNat : Int) ≤ 122 := by omega) | (have a2 : 122 < (s[k].toNat : Int) := by omega)); (try first | (have a3 : 48 ≤ (s[k].toNat : Int) := by omega) | (have a3 : (s[k].toNat : Int) < 48 := by omega)); (try first | (have a4 : (s[k].toNat : Int) ≤ 57 := by omega) | (have a4 : 57 < (s[k].toNat : Int) := by omega)); (try first | (have a1d : decide (97 ≤ (s[k].toNat : Int)) = true := decide_eq_true (by omega)) | (have a1d : decide (97 ≤ (s[k].toNat : Int)) = false := decide_eq_false (by omega))); (try first | (have a2d : decide ((s[k].toNat : Int) ≤ 122) = true := decide_eq_true (by omega)) | (have a2d : decide ((s[k].toNat : Int) ≤ 122) = false := decide_eq_false (by omega))); (try first | (have a3d : decide (48 ≤ (s[k].toNat : Int)) = true := decide_eq_true (by omega)) | (have a3d : decide (48 ≤ (s[k].toNat : Int)) = false := decide_eq_false (by omega))); (try first | (have a4d : decide ((s[k].toNat : Int) ≤ 57) = true := decide_eq_true (by omega)) | (have a4d : decide ((s[k].toNat : Int) ≤ 57) = false := decide_eq_false (by omega)))
          have e0 : ((k : Int) == 0) = false := by simp; omega
          have h3 : (s[k].toNat : Int) < 97 := by omega
          go_wp2
          go_round
          case rel => exact ⟨k + 1, by omega, by go_num, fun j hj => by
            by_cases e : j = k
            · subst e; exact HN.out
            · exact hrel.out j (by omega)⟩
          case measure => simp [intOf]; omega
        · clear HC
          have e0 : ((k : Int) == 0) = false := by simp; omega
          have e1 : ((s[k].toNat : Int) != 95) = false := by simp; omega
          have h3 : (s[k].toNat : Int) < 97 := by omega
          have h4 : 57 < (s[k].toNat : Int) := by omega
          clear h1
          go_wp2
          go_round
          case rel => exact ⟨k + 1, by omega, by go_num, fun j hj => by
            by_cases e : j = k
            · subst e; exact HN.out
            · exact hrel.out j (by omega)⟩
          case measure => simp [intOf]; omega
      · have HF := Hid.mk' (named_no hlt hn)
        clear hn
        rcases hc with ⟨rfl, h1⟩ | ⟨rfl, h1⟩ | ⟨h0, h1⟩ | ⟨h0, h1, h2⟩ | ⟨h0, h1, h2⟩ | ⟨h0, h1⟩
        · (try first | (have a1 : 97 ≤ (s[0].toNat : Int) := by omega) | (have a1 : (s[0].toNat : Int) < 97 := by omega)); (try first | (have a2 : (s[0].toNat : Int) ≤ 122 := by omega) | (have a2 : 122 < (s[0].toNat : Int) := by omega)); (try first | (have a3 : 48 ≤ (s[0].toNat : Int) := by omega) | (have a3 : (s[0].toNat : Int) < 48 := by omega)); (try first | (have a4 : (s[0].toNat : Int) ≤ 57 := by omega) | (have a4 : 57 < (s[0].toNat : Int) := by omega)); (try first | (have a1d : decide (97 ≤ (s[0].toNat : Int)) = true := decide_eq_true (by omega)) | (have a1d : decide (97 ≤ (s[0].toNat : Int)) = false := decide_eq_false (by omega))); (try first | (have a2d : decide ((s[0].toNat : Int) ≤ 122) = true := decide_eq_true (by omega)) | (have a2d : decide ((s[0].toNat : Int) ≤ 122) = false := decide_eq_false (by omega))); (try first | (have a3d : decide (48 ≤ (s[0].toNat : Int)) = true := decide_eq_true (by omega)) | (have a3d : decide (48 ≤ (s[0].toNat : Int)) = false := decide_eq_false (by omega))); (try first | (have a4d : decide ((s[0].toNat : Int) ≤ 57) = true := decide_eq_true (by omega)) | (have a4d : decide ((s[0].toNat : Int) ≤ 57) = false := decide_eq_false (by omega)))
          go_wp2
          all_goals
            go_ret
            exact ⟨ret_bool HF.out.symm, rfl⟩
        · (try first | (have a1 : 97 ≤ (s[0].toNat : Int) := by omega) | (have a1 : (s[0].toNat : Int) < 97 := by omega)); (try first | (have a2 : (s[0].toNat : Int) ≤ 122 := by omega) | (have a2 : 122 < (s[0].toNat : Int) := by omega)); (try first | (have a3 : 48 ≤ (s[0].toNat : Int) := by omega) | (have a3 : (s[0].toNat : Int) < 48 := by omega)); (try first | (have a4 : (s[0].toNat : Int) ≤ 57 := by omega) | (have a4 : 57 < (s[0].toNat : Int) := by omega)); (try first | (have a1d : decide (97 ≤ (s[0].toNat : Int)) = true := decide_eq_true (by omega)) | (have a1d : decide (97 ≤ (s[0].toNat : Int)) = false := decide_eq_false (by omega))); (try first | (have a2d : decide ((s[0].toNat : Int) ≤ 122) = true := decide_eq_true (by omega)) | (have a2d : decide ((s[0].toNat : Int) ≤ 122) = false := decide_eq_false (by omega))); (try first | (have a3d : decide (48 ≤ (s[0].toNat : Int)) = true := decide_eq_true (by omega)) | (have a3d : decide (48 ≤ (s[0].toNat : Int)) = false := decide_eq_false (by omega))); (try first | (have a4d : decide ((s[0].toNat : Int) ≤ 57) = true := decide_eq_true (by omega)) | (have a4d : decide ((s[0].toNat : Int) ≤ 57) = false := decide_eq_false (by omega)))
          go_wp2
          all_goals
            go_ret
            exact ⟨ret_bool HF.out.symm, rfl⟩
        all_goals
          have e0 : ((k : Int) == 0) = false := by simp; omega
          have e1 : ((s[k].toNat : Int) != 95) = true := by simp; omega
          (try first | (have a1 : 97 ≤ (s[k].toNat : Int) := by omega) | (have a1 : (s[k].toNat : Int) < 97 := by omega)); (try first | (have a2 : (s[k].toNat : Int) ≤ 122 := by omega) | (have a2 : 122 < (s[k].toNat : Int) := by omega)); (try first | (have a3 : 48 ≤ (s[k].toNat : Int) := by omega) | (have a3 : (s[k].toNat : Int) < 48 := by omega)); (try first | (have a4 : (s[k].toNat : Int) ≤ 57 := by omega) | (have a4 : 57 < (s[k].toNat : Int) := by omega)); (try first | (have a1d : decide (97 ≤ (s[k].toNat : Int)) = true := decide_eq_true (by omega)) | (have a1d : decide (97 ≤ (s[k].toNat : Int)) = false := decide_eq_false (by omega))); (try first | (have a2d : decide ((s[k].toNat : Int) ≤ 122) = true := decide_eq_true (by omega)) | (have a2d : decide ((s[k].toNat : Int) ≤ 122) = false := decide_eq_false (by omega))); (try first | (have a3d : decide (48 ≤ (s[k].toNat : Int)) = true := decide_eq_true (by omega)) | (have a3d : decide (48 ≤ (s[k].toNat : Int)) = false := decide_eq_false (by omega))); (try first | (have a4d : decide ((s[k].toNat : Int) ≤ 57) = true := decide_eq_true (by omega)) | (have a4d : decide ((s[k].toNat : Int) ≤ 57) = false := decide_eq_false (by omega)))
          go_wp2
          all_goals
            go_ret
            exact ⟨ret_bool HF.out.symm, rfl⟩
    · have hkk : k = s.size := by omega
      have HF := Hid.mk' (named_yes (s := s) fun j hj => hrel.out j (by omega))
      subst hkk
      by_cases h1 : 1 ≤ s.size <;> by_cases h2 : s.size ≤ 31
      all_goals
        go_wp2
        all_goals go_ret
        all_goals exact ⟨ret_bool (by rw [HF.out] <;> first | (apply decide_eq_decide.2; omega) | (symm; rw [decide_eq_true_iff]; omega) | (symm; rw [decide_eq_false_iff_not]; omega)), rfl⟩

set_option maxRecDepth 20000 in set_option maxHeartbeats 400000 in
theorem rnamed_any (s : ByteArray) (w : World) (hs : s.size ≤ 9223372036854775807) :
    Calls Try.prog 99 #[.string s] w fun e w' => e = .returned (.bool (namedB s)) ∧ w = w' := by
  by_cases hl : 1 ≤ s.size ∧ s.size ≤ 31
  case neg =>
    have HF := Hid.mk' (named_len hl)
    by_cases h1 : s.size < 1
    · clear hl
      go_enter Try.func99, Try.ntmps99
      go_wp2
      go_ret
      exact ⟨ret_bool HF.out.symm, rfl⟩
    · have h2 : 31 < s.size := by omega
      clear hl
      go_enter Try.func99, Try.ntmps99
      go_wp2
      go_ret
      exact ⟨ret_bool HF.out.symm, rfl⟩
  obtain ⟨hl1, hl2⟩ := hl
  go_enter Try.func99, Try.ntmps99
  go_wp2
  go_loop [3] (fun i => ∃ k : Nat, k ≤ s.size ∧ i = .int .i64 k ∧ Hid (∀ j, j < k → nameAt s j = true)) (fun i => s.size - (intOf i).toNat)
  case atStart => exact ⟨0, Nat.zero_le _, rfl, fun j h => by omega⟩
  case round =>
    obtain ⟨k, hk, rfl, hrel⟩ := hrel
    by_cases hlt : k < s.size
    · rcases name_cases hlt with ⟨hn, hc⟩ | ⟨hn, hc⟩
      · have HN := Hid.mk' hn
        clear hn
        have HC := Hid.mk' hc
        clear hc
        rcases HC.out with ⟨h1, h2⟩ | ⟨h0, h1, h2⟩ | ⟨h0, h1⟩
        · clear HC
          go_wp2
          go_round
          case rel => exact ⟨k + 1, by omega, by go_num, fun j hj => by
            by_cases e : j = k
            · subst e; exact HN.out
            · exact hrel.out j (by omega)⟩
          case measure => simp [intOf]; omega
        · clear HC
          have h3 : (s[k].toNat : Int) < 97 := by omega
          go_wp2
          go_round
          case rel => exact ⟨k + 1, by omega, by go_num, fun j hj => by
            by_cases e : j = k
            · subst e; exact HN.out
            · exact hrel.out j (by omega)⟩
          case measure => simp [intOf]; omega
        · clear HC
          have e1 : ((s[k].toNat : Int) == 95) = true := by simp; omega
          have h3 : (s[k].toNat : Int) < 97 := by omega
          have h4 : 57 < (s[k].toNat : Int) := by omega
          clear h1
          go_wp2
          go_round
          case rel => exact ⟨k + 1, by omega, by go_num, fun j hj => by
            by_cases e : j = k
            · subst e; exact HN.out
            · exact hrel.out j (by omega)⟩
          case measure => simp [intOf]; omega
      · have HF := Hid.mk' (named_no hlt hn)
        clear hn
        rcases hc with ⟨rfl, h1⟩ | ⟨rfl, h1⟩ | ⟨h0, h1⟩ | ⟨h0, h1, h2⟩ | ⟨h0, h1, h2⟩ | ⟨h0, h1⟩
        · (try first | (have a1 : 97 ≤ (s[0].toNat : Int) := by omega) | (have a1 : (s[0].toNat : Int) < 97 := by omega)); (try first | (have a2 : (s[0].toNat : Int) ≤ 122 := by omega) | (have a2 : 122 < (s[0].toNat : Int) := by omega)); (try first | (have a3 : 48 ≤ (s[0].toNat : Int) := by omega) | (have a3 : (s[0].toNat : Int) < 48 := by omega)); (try first | (have a4 : (s[0].toNat : Int) ≤ 57 := by omega) | (have a4 : 57 < (s[0].toNat : Int) := by omega)); (try first | (have a1d : decide (97 ≤ (s[0].toNat : Int)) = true := decide_eq_true (by omega)) | (have a1d : decide (97 ≤ (s[0].toNat : Int)) = false := decide_eq_false (by omega))); (try first | (have a2d : decide ((s[0].toNat : Int) ≤ 122) = true := decide_eq_true (by omega)) | (have a2d : decide ((s[0].toNat : Int) ≤ 122) = false := decide_eq_false (by omega))); (try first | (have a3d : decide (48 ≤ (s[0].toNat : Int)) = true := decide_eq_true (by omega)) | (have a3d : decide (48 ≤ (s[0].toNat : Int)) = false := decide_eq_false (by omega))); (try first | (have a4d : decide ((s[0].toNat : Int) ≤ 57) = true := decide_eq_true (by omega)) | (have a4d : decide ((s[0].toNat : Int) ≤ 57) = false := decide_eq_false (by omega)))
          go_wp2
          all_goals
            go_ret
            exact ⟨ret_bool HF.out.symm, rfl⟩
        · (try first | (have a1 : 97 ≤ (s[0].toNat : Int) := by omega) | (have a1 : (s[0].toNat : Int) < 97 := by omega)); (try first | (have a2 : (s[0].toNat : Int) ≤ 122 := by omega) | (have a2 : 122 < (s[0].toNat : Int) := by omega)); (try first | (have a3 : 48 ≤ (s[0].toNat : Int) := by omega) | (have a3 : (s[0].toNat : Int) < 48 := by omega)); (try first | (have a4 : (s[0].toNat : Int) ≤ 57 := by omega) | (have a4 : 57 < (s[0].toNat : Int) := by omega)); (try first | (have a1d : decide (97 ≤ (s[0].toNat : Int)) = true := decide_eq_true (by omega)) | (have a1d : decide (97 ≤ (s[0].toNat : Int)) = false := decide_eq_false (by omega))); (try first | (have a2d : decide ((s[0].toNat : Int) ≤ 122) = true := decide_eq_true (by omega)) | (have a2d : decide ((s[0].toNat : Int) ≤ 122) = false := decide_eq_false (by omega))); (try first | (have a3d : decide (48 ≤ (s[0].toNat : Int)) = true := decide_eq_true (by omega)) | (have a3d : decide (48 ≤ (s[0].toNat : Int)) = false := decide_eq_false (by omega))); (try first | (have a4d : decide ((s[0].toNat : Int) ≤ 57) = true := decide_eq_true (by omega)) | (have a4d : decide ((s[0].toNat : Int) ≤ 57) = false := decide_eq_false (by omega)))
          go_wp2
          all_goals
            go_ret
            exact ⟨ret_bool HF.out.symm, rfl⟩
        all_goals
          have e1 : ((s[k].toNat : Int) == 95) = false := by simp; omega
          (try first | (have a1 : 97 ≤ (s[k].toNat : Int) := by omega) | (have a1 : (s[k].toNat : Int) < 97 := by omega)); (try first | (have a2 : (s[k].toNat : Int) ≤ 122 := by omega) | (have a2 : 122 < (s[k].toNat : Int) := by omega)); (try first | (have a3 : 48 ≤ (s[k].toNat : Int) := by omega) | (have a3 : (s[k].toNat : Int) < 48 := by omega)); (try first | (have a4 : (s[k].toNat : Int) ≤ 57 := by omega) | (have a4 : 57 < (s[k].toNat : Int) := by omega)); (try first | (have a1d : decide (97 ≤ (s[k].toNat : Int)) = true := decide_eq_true (by omega)) | (have a1d : decide (97 ≤ (s[k].toNat : Int)) = false := decide_eq_false (by omega))); (try first | (have a2d : decide ((s[k].toNat : Int) ≤ 122) = true := decide_eq_true (by omega)) | (have a2d : decide ((s[k].toNat : Int) ≤ 122) = false := decide_eq_false (by omega))); (try first | (have a3d : decide (48 ≤ (s[k].toNat : Int)) = true := decide_eq_true (by omega)) | (have a3d : decide (48 ≤ (s[k].toNat : Int)) = false := decide_eq_false (by omega))); (try first | (have a4d : decide ((s[k].toNat : Int) ≤ 57) = true := decide_eq_true (by omega)) | (have a4d : decide ((s[k].toNat : Int) ≤ 57) = false := decide_eq_false (by omega)))
          go_wp2
          all_goals
            go_ret
            exact ⟨ret_bool HF.out.symm, rfl⟩
    · have hkk : k = s.size := by omega
      have HF := Hid.mk' (named_yes (s := s) fun j hj => hrel.out j (by omega))
      subst hkk
      go_wp2
      go_ret
      exact ⟨ret_bool (by rw [HF.out]; symm; rw [decide_eq_true_iff]; omega), rfl⟩

end Go.Proofs.Ytdbepkfblfhlhaa

/-
What is wrong with a column: the closure, the library's IndexFunc and ContainsFunc at it, rel.column.
-/
namespace Go.Proofs.Ytdbepkfblfhlhaa
open Go.RowKit

def Col.agg (c : Col) : Value := .agg #[.string c.nm, .int .u8 c.ty, .bool c.key]
/-- A name is the captured column's. -/
def sameNm (c : Col) (o : Col) : Bool := decide (o.nm = c.nm)

set_option maxRecDepth 20000 in set_option maxHeartbeats 400000 in
theorem colf_any (o c : Col) (B : Nat) (w : World) (hc : w.cell? ⟨B, 0, none⟩ = some (.string c.nm)) (hB : B < w.heap.size) :
    Calls Try.prog 129 #[.agg #[.string o.nm, .int .u8 o.ty, .bool o.key], .pointer (some ⟨B, 0, none⟩)] w fun e w' => e = .returned (.bool (sameNm c o)) ∧ Ext w w' := by
  go_enter Try.func129, Try.ntmps129
  go_wp2
  go_ret
  exact ⟨ret_bool (str_beq _ _), by (repeat (with_reducible (first | exact Ext.refl _ | assumption | exact held_left (by assumption) | apply Ext.drewN | apply Ext.drew | apply Ext.alloc | (refine Ext.setCell ?_ (by first | (simp; done) | (simp; omega) | omega) _) | (refine Ext.trans ?_ (by assumption)) | (refine Ext.trans ?_ (held_left (by assumption))))))⟩

def IdxPost {α : Type} (l : List α) (p : α → Bool) (w : World) (e : Ending) (w' : World) : Prop := ∃ i : Int, e = .returned (.int .i64 i) ∧ decide (0 ≤ i) = l.any p ∧ Ext w w'
theorem any_at {α : Type} {l : List α} {p : α → Bool} {k : Nat} (hk : k < l.length) (h : p l[k] = true) : l.any p = true := List.any_eq_true.2 ⟨_, List.getElem_mem hk, h⟩
theorem any_none {α : Type} {l : List α} {p : α → Bool} (h : ∀ i (hi : i < l.length), p l[i] = false) : l.any p = false := by
  rw [List.any_eq_false]
  intro x hx
  obtain ⟨i, hi, rfl⟩ := List.getElem_of_mem hx
  simp [h i hi]

set_option maxRecDepth 100000 in set_option maxHeartbeats 1600000 in
theorem colidx_any (l : List Col) (a : Option Addr) (n cap : Nat) (c : Col) (B : Nat) (w : World) (hn : l.length = n) (hl : Sl w (.slice a n cap) 3 (l.map Col.cells)) (hc : w.cell? ⟨B, 0, none⟩ = some (.string c.nm)) (hB : B < w.heap.size) (hlen : l.length ≤ 1000) :
    Calls Try.prog 160 #[.slice a n cap, .func (.func 129) #[] #[.pointer (some ⟨B, 0, none⟩)]] w (IdxPost l (sameNm c) w) := by
  subst hn
  have HL := Hid.mk' hl
  have HC := Hid.mk' hc
  clear hl hc
  go_enter Try.func160, Try.ntmps160
  go_wp2
  go_loopw [8] (fun i wr => ∃ k : Nat, k ≤ l.length ∧ i = .int .i64 k ∧ Hid (∀ j (hj : j < l.length), j < k → sameNm c l[j] = false) ∧ Hid (Ext w wr)) (fun i _ => l.length - (intOf i).toNat)
  case atStart => exact ⟨0, Nat.zero_le _, rfl, fun j _ h => by omega, Ext.refl _⟩
  case round =>
    obtain ⟨k, hk, rfl, hrel, hE⟩ := hrel
    by_cases hlt : k < l.length
    · obtain ⟨b, o, rfl, hb, hx⟩ := HL.out.at_ (i := k) (by simpa using hlt)
      obtain ⟨f0, f1, f2⟩ := Col.at_ hlt hx hb hE.out
      have hbw : b < wr.heap.size := Nat.lt_of_lt_of_le hb hE.out.size
      have HF := Hid.mk' (fun W (h : Ext wr W) => colf_any l[k] c B W ((hE.out.trans h).cells.1 B _ hB |>.trans HC.out) (Nat.lt_of_lt_of_le hB (hE.out.trans h).size))
      cases hq : sameNm c l[k] with
      | true =>
        rw [hq] at HF
        have HQ := Hid.mk' (any_at hlt hq)
        clear hq hx
        go_wp2_with (go_at_call 129; refine (HF.out _ (by (repeat (with_reducible (first | exact Ext.refl _ | assumption | exact held_left (by assumption) | apply Ext.drewN | apply Ext.drew | apply Ext.alloc | (refine Ext.setCell ?_ (by first | (simp; done) | (simp; omega) | omega) _) | (refine Ext.trans ?_ (by assumption)) | (refine Ext.trans ?_ (held_left (by assumption)))))))).mono ?_; rintro e w1 ⟨rfl, hb1⟩)
        go_ret
        exact ⟨_, rfl, by rw [HQ.out]; simp, hE.out.trans (by (repeat (with_reducible (first | exact Ext.refl _ | assumption | exact held_left (by assumption) | apply Ext.drewN | apply Ext.drew | apply Ext.alloc | (refine Ext.setCell ?_ (by first | (simp; done) | (simp; omega) | omega) _) | (refine Ext.trans ?_ (by assumption)) | (refine Ext.trans ?_ (held_left (by assumption)))))))⟩
      | false =>
        rw [hq] at HF
        have HQ := Hid.mk' hq
        clear hq hx
        go_wp2_with (go_at_call 129; refine (HF.out _ (by (repeat (with_reducible (first | exact Ext.refl _ | assumption | exact held_left (by assumption) | apply Ext.drewN | apply Ext.drew | apply Ext.alloc | (refine Ext.setCell ?_ (by first | (simp; done) | (simp; omega) | omega) _) | (refine Ext.trans ?_ (by assumption)) | (refine Ext.trans ?_ (held_left (by assumption)))))))).mono ?_; rintro e w1 ⟨rfl, hb1⟩)
        go_roundw
        case rel => exact ⟨k + 1, by omega, by go_num, fun j hj hjk => by
          by_cases e : j = k
          · subst e; exact HQ.out
          · exact hrel.out j hj (by omega), Hid.mk' (hE.out.trans (by (repeat (with_reducible (first | exact Ext.refl _ | assumption | exact held_left (by assumption) | apply Ext.drewN | apply Ext.drew | apply Ext.alloc | (refine Ext.setCell ?_ (by first | (simp; done) | (simp; omega) | omega) _) | (refine Ext.trans ?_ (by assumption)) | (refine Ext.trans ?_ (held_left (by assumption))))))))⟩
        case measure => simp [intOf]; omega
    · have hkk : k = l.length := by omega
      have HQ := Hid.mk' (any_none (p := sameNm c) fun j hj => hrel.out j hj (by omega))
      subst hkk
      go_wp2
      go_ret
      exact ⟨_, rfl, by rw [HQ.out]; simp, hE.out⟩

set_option maxRecDepth 20000 in set_option maxHeartbeats 400000 in
theorem colhas_any (l : List Col) (a : Option Addr) (n cap : Nat) (c : Col) (B : Nat) (w : World) (hn : l.length = n) (hl : Sl w (.slice a n cap) 3 (l.map Col.cells)) (hc : w.cell? ⟨B, 0, none⟩ = some (.string c.nm)) (hB : B < w.heap.size) (hlen : l.length ≤ 1000) :
    Calls Try.prog 128 #[.slice a n cap, .func (.func 129) #[] #[.pointer (some ⟨B, 0, none⟩)]] w fun e w' => e = .returned (.bool (l.any (sameNm c))) ∧ Ext w w' := by
  have HI := Hid.mk' (colidx_any l a n cap c B w hn hl hc hB hlen)
  clear hl hc
  go_enter Try.func128, Try.ntmps128
  go_wp2_with (go_at_call 160; refine HI.out.mono ?_; rintro e w1 ⟨i, rfl, hi, hb1⟩; have HI2 := Hid.mk' hi; clear hi)
  go_ret
  exact ⟨ret_bool HI2.out, hb1⟩

set_option maxRecDepth 100000 in set_option maxHeartbeats 1600000 in
theorem column_any (c : Col) (l : List Col) (a : Option Addr) (n cap : Nat) (w : World) (hn : l.length = n) (hl : Sl w (.slice a n cap) 3 (l.map Col.cells)) (hlen : l.length ≤ 1000) (hs : c.nm.size ≤ 9223372036854775807) :
    Calls Try.prog 95 #[.agg #[.string c.nm, .int .u8 c.ty, .bool c.key], .slice a n cap] w fun e w' => e = .returned (.int .i64 (colE c l)) ∧ Ext w w' := by
  have HN := Hid.mk' (fun w => named_any c.nm w hs)
  have HH := Hid.mk' (fun W (h : Ext w W) (B : Nat) hc hB => colhas_any l a n cap c B W hn (hl.ext h) hc hB hlen)
  have HE := Hid.mk' (show colE c l = if namedB c.nm = false then 3 else if l.any (sameNm c) = true then 9 else if c.ty < 1 ∨ 6 < c.ty then 11 else 0 from rfl)
  clear hl
  cases h1 : namedB c.nm with
  | false =>
    rw [h1] at HN HE
    clear h1
    go_enter Try.func95, Try.ntmps95
    go_wp2_with (go_at_call 94; refine (HN.out _).mono ?_; rintro e w1 ⟨rfl, rfl⟩)
    go_ret
    exact ⟨ret_int (by rw [HE.out]; simp), by (repeat (with_reducible (first | exact Ext.refl _ | assumption | exact held_left (by assumption) | apply Ext.drewN | apply Ext.drew | apply Ext.alloc | (refine Ext.setCell ?_ (by first | (simp; done) | (simp; omega) | omega) _) | (refine Ext.trans ?_ (by assumption)) | (refine Ext.trans ?_ (held_left (by assumption))))))⟩
  | true =>
    rw [h1] at HN HE
    clear h1
    cases h2 : l.any (sameNm c) with
    | true =>
      rw [h2] at HH HE
      clear h2
      go_enter Try.func95, Try.ntmps95
      go_wp2_with (first
        | (go_at_call 94; refine (HN.out _).mono ?_; rintro e w1 ⟨rfl, rfl⟩)
        | (go_at_call 128; refine (HH.out _ (by (repeat (with_reducible (first | exact Ext.refl _ | assumption | exact held_left (by assumption) | apply Ext.drewN | apply Ext.drew | apply Ext.alloc | (refine Ext.setCell ?_ (by first | (simp; done) | (simp; omega) | omega) _) | (refine Ext.trans ?_ (by assumption)) | (refine Ext.trans ?_ (held_left (by assumption))))))) _ (by simp) (by simp)).mono ?_; rintro e w2 ⟨rfl, hb2⟩; have hE2 : Ext w w2 := (by (repeat (with_reducible (first | exact Ext.refl _ | assumption | exact held_left (by assumption) | apply Ext.drewN | apply Ext.drew | apply Ext.alloc | (refine Ext.setCell ?_ (by first | (simp; done) | (simp; omega) | omega) _) | (refine Ext.trans ?_ (by assumption)) | (refine Ext.trans ?_ (held_left (by assumption)))))))))
      go_ret
      exact ⟨ret_int (by rw [HE.out]; simp), hE2⟩
    | false =>
      rw [h2] at HH HE
      clear h2
      by_cases h3 : c.ty < 1
      · have HR := Hid.mk' (HE.out.trans (by rw [if_neg (by simp), if_neg (by simp), if_pos (.inl h3)]))
        clear HE
        go_enter Try.func95, Try.ntmps95
        go_wp2_with (first
          | (go_at_call 94; refine (HN.out _).mono ?_; rintro e w1 ⟨rfl, rfl⟩)
          | (go_at_call 128; refine (HH.out _ (by (repeat (with_reducible (first | exact Ext.refl _ | assumption | exact held_left (by assumption) | apply Ext.drewN | apply Ext.drew | apply Ext.alloc | (refine Ext.setCell ?_ (by first | (simp; done) | (simp; omega) | omega) _) | (refine Ext.trans ?_ (by assumption)) | (refine Ext.trans ?_ (held_left (by assumption))))))) _ (by simp) (by simp)).mono ?_; rintro e w2 ⟨rfl, hb2⟩; have hE2 : Ext w w2 := (by (repeat (with_reducible (first | exact Ext.refl _ | assumption | exact held_left (by assumption) | apply Ext.drewN | apply Ext.drew | apply Ext.alloc | (refine Ext.setCell ?_ (by first | (simp; done) | (simp; omega) | omega) _) | (refine Ext.trans ?_ (by assumption)) | (refine Ext.trans ?_ (held_left (by assumption))))))); have hk := ((Blk.new w #[.string c.nm, .int .u8 c.ty, .bool c.key] 126).ext hb2).cell))
        go_ret
        exact ⟨ret_int HR.out.symm, hE2⟩
      · by_cases h4 : 6 < c.ty
        · have HR := Hid.mk' (HE.out.trans (by rw [if_neg (by simp), if_neg (by simp), if_pos (.inr h4)]))
          clear HE
          go_enter Try.func95, Try.ntmps95
          go_wp2_with (first
            | (go_at_call 94; refine (HN.out _).mono ?_; rintro e w1 ⟨rfl, rfl⟩)
            | (go_at_call 128; refine (HH.out _ (by (repeat (with_reducible (first | exact Ext.refl _ | assumption | exact held_left (by assumption) | apply Ext.drewN | apply Ext.drew | apply Ext.alloc | (refine Ext.setCell ?_ (by first | (simp; done) | (simp; omega) | omega) _) | (refine Ext.trans ?_ (by assumption)) | (refine Ext.trans ?_ (held_left (by assumption))))))) _ (by simp) (by simp)).mono ?_; rintro e w2 ⟨rfl, hb2⟩; have hE2 : Ext w w2 := (by (repeat (with_reducible (first | exact Ext.refl _ | assumption | exact held_left (by assumption) | apply Ext.drewN | apply Ext.drew | apply Ext.alloc | (refine Ext.setCell ?_ (by first | (simp; done) | (simp; omega) | omega) _) | (refine Ext.trans ?_ (by assumption)) | (refine Ext.trans ?_ (held_left (by assumption))))))); have hk := ((Blk.new w #[.string c.nm, .int .u8 c.ty, .bool c.key] 126).ext hb2).cell))
          go_ret
          exact ⟨ret_int HR.out.symm, hE2⟩
        · have HR := Hid.mk' (HE.out.trans (by rw [if_neg (by simp), if_neg (by simp), if_neg (by omega)]))
          clear HE
          go_enter Try.func95, Try.ntmps95
          go_wp2_with (first
            | (go_at_call 94; refine (HN.out _).mono ?_; rintro e w1 ⟨rfl, rfl⟩)
            | (go_at_call 128; refine (HH.out _ (by (repeat (with_reducible (first | exact Ext.refl _ | assumption | exact held_left (by assumption) | apply Ext.drewN | apply Ext.drew | apply Ext.alloc | (refine Ext.setCell ?_ (by first | (simp; done) | (simp; omega) | omega) _) | (refine Ext.trans ?_ (by assumption)) | (refine Ext.trans ?_ (held_left (by assumption))))))) _ (by simp) (by simp)).mono ?_; rintro e w2 ⟨rfl, hb2⟩; have hE2 : Ext w w2 := (by (repeat (with_reducible (first | exact Ext.refl _ | assumption | exact held_left (by assumption) | apply Ext.drewN | apply Ext.drew | apply Ext.alloc | (refine Ext.setCell ?_ (by first | (simp; done) | (simp; omega) | omega) _) | (refine Ext.trans ?_ (by assumption)) | (refine Ext.trans ?_ (held_left (by assumption))))))); have hk := ((Blk.new w #[.string c.nm, .int .u8 c.ty, .bool c.key] 126).ext hb2).cell))
          go_ret
          exact ⟨ret_int HR.out.symm, hE2⟩

end Go.Proofs.Ytdbepkfblfhlhaa

/-
The walk through the columns of the key: rel.Keys and its closure, for every loop body; rel.keyed.
-/
namespace Go.Proofs.Ytdbepkfblfhlhaa
open Go.RowKit Go.Shelf
attribute [local go_sem] Oper.semAt_some

/-- A column of the key, with its place. -/
abbrev KX (cols : List Col) := { x : Nat × Col // x.1 < cols.length ∧ cols[x.1]? = some x.2 ∧ x.2.key = true }
/-- The columns of the key among the first k. -/
def keysUp (cols : List Col) : Nat → List (KX cols)
  | 0 => []
  | k + 1 => if h : ∃ h : k < cols.length, cols[k].key = true then keysUp cols k ++ [⟨(k, cols[k]'h.1), h.1, List.getElem?_eq_getElem h.1, h.2⟩] else keysUp cols k
theorem keysUp_yes {cols : List Col} {k : Nat} (hk : k < cols.length) (h : cols[k].key = true) : keysUp cols (k + 1) = keysUp cols k ++ [⟨(k, cols[k]), hk, List.getElem?_eq_getElem hk, h⟩] := by
  unfold keysUp
  rw [dif_pos ⟨hk, h⟩]
  cases k <;> rfl
theorem keysUp_no {cols : List Col} {k : Nat} (hk : k < cols.length) (h : cols[k].key = false) : keysUp cols (k + 1) = keysUp cols k := by
  conv => lhs; unfold keysUp
  rw [dif_neg (by rintro ⟨_, h2⟩; rw [h] at h2; cases h2)]
theorem keysUp_len {cols : List Col} : ∀ k, (keysUp cols k).length ≤ k
  | 0 => Nat.le_refl _
  | k + 1 => by
    have := keysUp_len (cols := cols) k
    unfold keysUp
    split
    · rw [List.length_append, List.length_singleton]; omega
    · omega
theorem keysUp_mem {cols : List Col} : ∀ (k : Nat) (x : KX cols), x ∈ keysUp cols k ↔ x.1.1 < k
  | 0, x => by simp [keysUp]
  | k + 1, x => by
    have ih := keysUp_mem (cols := cols) k x
    obtain ⟨⟨i, c⟩, hi, hc, hk⟩ := x
    simp only at *
    unfold keysUp
    split
    · rename_i h
      rw [List.mem_append, ih, List.mem_singleton, Subtype.mk.injEq, Prod.mk.injEq]
      constructor
      · rintro (h1 | ⟨rfl, _⟩) <;> omega
      · intro h1
        by_cases e : i = k
        · subst e; right; refine ⟨rfl, ?_⟩; rw [List.getElem?_eq_getElem hi] at hc; exact (Option.some.inj hc).symm
        · left; omega
    · rename_i h
      rw [ih]
      constructor
      · intro h1; omega
      · intro h1
        by_cases e : i = k
        · subst e
          rw [List.getElem?_eq_getElem hi] at hc
          exact absurd ⟨hi, by rw [Option.some.inj hc]; exact hk⟩ h
        · omega
theorem keysUp_none {cols : List Col} : keysUp cols cols.length = [] ↔ cols.any Col.key = false := by
  constructor
  · intro h
    rw [List.any_eq_false]
    intro c hc
    obtain ⟨i, hi, rfl⟩ := List.getElem_of_mem hc
    intro hk
    have : (⟨(i, cols[i]), hi, List.getElem?_eq_getElem hi, hk⟩ : KX cols) ∈ keysUp cols cols.length := (keysUp_mem _ _).2 hi
    rw [h] at this; cases this
  · intro h
    rw [List.any_eq_false] at h
    rw [List.eq_nil_iff_forall_not_mem]
    rintro ⟨⟨i, c⟩, hi, hc, hk⟩ _
    exact h c (List.mem_of_getElem? hc) hk

/-- What a column of the key is handed out as. -/
def encK {cols : List Col} (x : KX cols) : Array Value := #[.int .i64 (x.1.1 : Int), .agg #[.string x.1.2.nm, .int .u8 x.1.2.ty, .bool x.1.2.key]]

set_option maxRecDepth 100000 in
set_option maxHeartbeats 2000000 in
theorem keys1_in (F : Fence) (n : Nat) (hF : F.fn 105) (hro : F.round = none) (hn : 1 ≤ n) (l Bs : Nat) (w0 : World) (a : Option Addr) (cap : Nat) (cols : List Col) (hlen : cols.length ≤ 1000) (hl : Hid (Sl w0 (.slice a cols.length cap) 3 (cols.map Col.cells)))
    (J Jx : List (KX cols) → World → Prop) (W0 : World) (hJ : Hid (AbidesFrom W0.heap.size J))
    (hY : Hid (∀ pre x W, J pre W → pre.length < cols.length → YieldAt F (n - 1) Try.prog l (encK x) W fun e W' => (e = .returned (.bool true) ∧ J (pre ++ [x]) W' ∧ Below w0.heap.size W W') ∨ (e = .returned (.bool false) ∧ Jx (pre ++ [x]) W')))
    (hE : Hid (Ext w0 W0)) (hBs : W0.cell? ⟨Bs, 4, none⟩ = some (.slice a cols.length cap)) (h0 : Hid (J [] W0)) :
    CallsIn F n Try.prog 105 #[.func (.yield l) #[] #[], .pointer (some ⟨Bs, 0, none⟩)] W0 fun e W' => (∃ v, e = .returned v) ∧
      ((∃ ys, ys = keysUp cols cols.length ∧ J ys W') ∨ (∃ pre, (∃ k, k ≤ cols.length ∧ pre = keysUp cols k) ∧ Jx pre W')) := by
  refine callsIn_of_wp Try.func105 rfl hF ?_ hro
  simp only [Try.ntmps105, List.size_toArray, List.length_cons, List.length_nil, Nat.reduceAdd, Nat.reduceSub, Array.replicate_succ, Array.replicate_zero, List.push_toArray, List.append_toArray, List.nil_append, List.cons_append]
  gi_wp2
  gi_loopw [8] (fun i wr => ∃ k : Nat, k ≤ cols.length ∧ i = .int .i64 k ∧ Hid (J (keysUp cols k) wr) ∧ Hid (Ext w0 wr)) (fun i _ => cols.length - (intOf i).toNat)
  case atStart => exact ⟨0, Nat.zero_le _, rfl, h0, hE⟩
  case round =>
    obtain ⟨k, hk, rfl, hJs, hEw⟩ := hrel
    by_cases hlt : k < cols.length
    · obtain ⟨b, o, rfl, hb, hx⟩ := hl.out.at_ (i := k) (by simpa using hlt)
      obtain ⟨f0, f1, f2⟩ := Col.at_ hlt hx hb hEw.out
      have hJa : Hid (∀ o : Obj, J (keysUp cols k) (wr.alloc o)) := Hid.mk' (fun o => hJ.out _ _ _ none hJs.out (World.grownBy_alloc _ _ none) (by simp))
      clear hx
      cases hq : cols[k].key with
      | true =>
        obtain ⟨x, hu, hx2⟩ : ∃ x : KX cols, keysUp cols (k + 1) = keysUp cols k ++ [x] ∧ x.1 = (k, cols[k]) := ⟨_, keysUp_yes hlt hq, rfl⟩
        have HU := Hid.mk' hu
        obtain ⟨fn, tmps, assign, body, hy, hR⟩ := hY.out (keysUp cols k) x (wr.alloc (.cells #[.string cols[k].nm, .int .u8 cols[k].ty, .bool true] 126)) (hJa.out _) (by have := keysUp_len (cols := cols) k; omega)
        simp only [encK, hx2, hq] at hy
        rw [hq] at f2
        clear hq hu hx2
        gi_wp2
        refine hR.mono ?_
        rintro e W3 (⟨rfl, hJ3, hk3⟩ | ⟨rfl, hJx3⟩)
        · gi_wp2
          go_roundw
          case rel => exact ⟨k + 1, by omega, by go_num, Hid.mk' (by rw [HU.out]; exact hJ3), Hid.mk' (Below.trans (hEw.out.alloc _) hk3)⟩
          case measure => simp [intOf]; omega
        · gi_wp2
          refine bodyPost_ret (results_none rfl _ _ _) rfl ?_
          exact ⟨⟨_, rfl⟩, .inr ⟨_, ⟨k + 1, by omega, HU.out.symm⟩, hJx3⟩⟩
      | false =>
        have HU := Hid.mk' (keysUp_no hlt hq)
        rw [hq] at f2
        clear hq
        gi_wp2
        refine ⟨fun _ h => (by cases h), ?_⟩
        gi_wp2
        go_roundw
        case rel => exact ⟨k + 1, by omega, by go_num, Hid.mk' (by rw [HU.out]; exact hJa.out _), Hid.mk' (hEw.out.alloc _)⟩
        case measure => simp [intOf]; omega
    · obtain rfl : k = cols.length := by omega
      gi_wp2
      go_end0
      exact ⟨⟨_, rfl⟩, .inl ⟨_, rfl, hJs.out⟩⟩

theorem keys_stops (F : Fence) (n : Nat) (hF : F.fn 105) (hro : F.round = none) (hn : 1 ≤ n) (Bs : Nat) (w0 : World) (a : Option Addr) (cap : Nat) (cols : List Col) (hlen : cols.length ≤ 1000) (hl : Sl w0 (.slice a cols.length cap) 3 (cols.map Col.cells))
    (w : World) (hE : Ext w0 w) (hBs : w.cell? ⟨Bs, 4, none⟩ = some (.slice a cols.length cap)) (hB : Bs < w.heap.size) :
    SeqStopsK F n Try.prog 105 #[.pointer (some ⟨Bs, 0, none⟩)] (encK (cols := cols)) (Below w0.heap.size) (fun ys => ys = keysUp cols cols.length) (fun pre => ∃ k, k ≤ cols.length ∧ pre = keysUp cols k) cols.length w := fun l J Jx W hW hJ _ hY h0 =>
  keys1_in F n hF hro hn l Bs w0 a cap cols hlen hl J Jx W hJ hY (Below.trans hE (hW.mono hE.size)) ((hW.cell (p := ⟨Bs, 4, none⟩) hB).trans hBs) h0

set_option maxHeartbeats 1000000 in
theorem keys_in (F : Fence) (n : Nat) (hF : F.fn 67) (hro : F.round = none) (oid ver : Int) (nm : ByteArray) (id : Int) (v : Value) (w : World) :
    CallsIn F n Try.prog 67 #[.agg #[.int .u32 oid, .int .u32 ver, .string nm, .int .u8 id, v]] w fun e w' => e = .returned (.func (.func 105) #[] #[.pointer (some ⟨w.heap.size, 0, none⟩)]) ∧ w' = w.alloc (.cells #[.int .u32 oid, .int .u32 ver, .string nm, .int .u8 id, v] 42) := by
  refine callsIn_of_wp Try.func67 rfl hF ?_ hro
  simp only [Try.ntmps67, List.size_toArray, List.length_cons, List.length_nil, Nat.reduceAdd, Nat.reduceSub, Array.replicate_succ, Array.replicate_zero, List.push_toArray, List.append_toArray, List.nil_append, List.cons_append]
  gi_wp2
  go_ret
  exact ⟨rfl, rfl⟩

end Go.Proofs.Ytdbepkfblfhlhaa

/-
Has a relation a column of the key?
-/
namespace Go.Proofs.Ytdbepkfblfhlhaa
open Go.RowKit Go.Shelf
attribute [local go_sem] Oper.semAt_some

theorem fold_two (t : Array Value) (p q : Nat) (u v : Value) : Array.foldl (fun t x => t.setIfInBounds x.1 x.2) t (#[p, q].zip #[u, v]) = (t.setIfInBounds p u).setIfInBounds q v := by
  simp [List.zip_toArray]
theorem keysUp_any {cols : List Col} {k : Nat} (h : keysUp cols k ≠ []) : cols.any Col.key = true := by
  rw [List.any_eq_true]
  obtain ⟨x, hx⟩ := List.exists_mem_of_ne_nil _ h
  obtain ⟨⟨i, c⟩, hi, hc, hk⟩ := x
  exact ⟨c, List.mem_of_getElem? hc, hk⟩

set_option maxRecDepth 100000 in
set_option maxHeartbeats 2000000 in
theorem keyed_in (F : Fence) (n : Nat) (h1F : F.fn 105) (hKF : F.fn 67) (hDF : F.fn 96) (hro : F.round = none) (hn : 3 ≤ n) (oid ver : Int) (nm : ByteArray) (id : Int) (cols : List Col) (a : Option Addr) (cap : Nat) (w : World) (hl : Sl w (.slice a cols.length cap) 3 (cols.map Col.cells)) (hlen : cols.length ≤ 1000) :
    CallsIn F n Try.prog 96 #[.agg #[.int .u32 oid, .int .u32 ver, .string nm, .int .u8 id, .slice a cols.length cap]] w fun e w' => e = .returned (.bool (cols.any Col.key)) ∧ Ext w w' := by
  have h1 : 1 ≤ n := by omega
  have HL := Hid.mk' hl
  clear hl
  refine callsIn_of_wp_marks Try.func96 rfl hDF ?_ hro
  simp only [Try.ntmps96, List.size_toArray, List.length_cons, List.length_nil, Nat.reduceAdd, Nat.reduceSub, Array.replicate_succ, Array.replicate_zero, List.push_toArray, List.append_toArray, List.nil_append, List.cons_append]
  gi_wp2_with (gi_at_call 67; refine (keys_in F (n - 1) hKF hro _ _ _ _ _ _).mono ?_; rintro e w' ⟨rfl, rfl⟩)
  have hE3 : Ext w (((w.alloc (.cells #[.int .u32 oid, .int .u32 ver, .string nm, .int .u8 id, .slice a cols.length cap] 42)).alloc (.cells #[.bool false] 4)).alloc (.cells #[.int .u32 oid, .int .u32 ver, .string nm, .int .u8 id, .slice a cols.length cap] 42)) := ((Ext.refl w).alloc _).alloc _ |>.alloc _
  have hB1 : Blk (((w.alloc (.cells #[.int .u32 oid, .int .u32 ver, .string nm, .int .u8 id, .slice a cols.length cap] 42)).alloc (.cells #[.bool false] 4)).alloc (.cells #[.int .u32 oid, .int .u32 ver, .string nm, .int .u8 id, .slice a cols.length cap] 42)) (w.heap.size + 1) #[.bool false] 4 := (Blk.new' _ _ (by simp)).alloc _
  have hB2 : Blk (((w.alloc (.cells #[.int .u32 oid, .int .u32 ver, .string nm, .int .u8 id, .slice a cols.length cap] 42)).alloc (.cells #[.bool false] 4)).alloc (.cells #[.int .u32 oid, .int .u32 ver, .string nm, .int .u8 id, .slice a cols.length cap] 42)) (w.heap.size + 1 + 1) #[.int .u32 oid, .int .u32 ver, .string nm, .int .u8 id, .slice a cols.length cap] 42 := Blk.new' _ _ (by simp)
  refine wpIn_rangeFunc_ownG hro h1 (gf := 105) (lb := #[.pointer (some ⟨w.heap.size + 1 + 1, 0, none⟩)]) rfl h1F (enters_of Try.func105 (by kernel_rfl) rfl)
    (keys_stops F (n - 1) h1F hro (by omega) (w.heap.size + 1 + 1) w a cap cols hlen HL.out _ hE3 (hB2.cell 4) hB2.lt) belowK_t (belowK_b (by simp; omega)) (Below.refl _ _) (fun _ => rfl)
    (fun pre W => (pre = [] ∧ W.cell? ⟨w.heap.size + 1, 0, none⟩ = some (.bool false) ∧ W.frozen? ⟨w.heap.size + 1, 0, none⟩ = false) ∧ Below w.heap.size w W)
    (fun c pre W => (c = .ret ∧ pre ≠ [] ∧ W.cell? ⟨w.heap.size + 1, 0, none⟩ = some (.bool true)) ∧ Below w.heap.size w W)
    (OwnFrom.and (Own.from (fun s A B row hs hg hr => ⟨hs.1, cell_kept hs.2.1 hg hr, (frozen_kept hs.2.1 hg hr).trans hs.2.2⟩) _) (ownFrom_below (Nat.le_refl _) (by simp; omega)))
    (fun c => OwnFrom.and (Own.from (fun s A B row hs hg hr => ⟨hs.1, hs.2.1, cell_kept hs.2.2 hg hr⟩) _) (ownFrom_below (Nat.le_refl _) (by simp; omega)))
    ⟨⟨rfl, hB1.cell 0, hB1.frozen 0⟩, hE3⟩
    (fun x => { tmps := #[.agg #[.int .u32 oid, .int .u32 ver, .string nm, .int .u8 id, .slice a cols.length cap], .pointer (some ⟨w.heap.size, 0, none⟩), .pointer (some ⟨w.heap.size + 1, 0, none⟩), .agg #[.int .u32 oid, .int .u32 ver, .string nm, .int .u8 id, .slice a cols.length cap], .func (.func 105) #[] #[.pointer (some ⟨w.heap.size + 1 + 1, 0, none⟩)], .int .i64 (x.1.1 : Int), .agg #[.string x.1.2.nm, .int .u8 x.1.2.ty, .bool x.1.2.key]], defers := [] }) ?assign ?body ?done ?stop
  case assign =>
    intro l x W K hK
    unfold encK
    rw [fold_two]
    gi_wp2
    exact hK
  case body =>
    rintro l pre x W ⟨⟨rfl, hc, hf⟩, hB⟩ _
    gi_wp2
    exact ⟨(KeepsOthers.setCell _ _ _).from _, ⟨rfl, by simp, World.cell?_setCell_same' _ _ _ (by rw [hc]; rfl)⟩, hB.setCell (p := ⟨w.heap.size + 1, 0, none⟩) (by simp) _⟩
  case done =>
    rintro D ys W hD hys ⟨⟨rfl, hc, hf⟩, hB⟩ hK
    gi_wp2
    have hK' := (KeepsOthers.setCell W ⟨w.heap.size + 1, 0, none⟩ (.bool false)).same D _ hK rfl
    refine ⟨by simp, .inl ⟨_, _, rfl, run_takeDeferred hK', ?_⟩⟩
    have hc5 := cell_kept (World.cell?_setCell_same' W ⟨w.heap.size + 1, 0, none⟩ (.bool false) (by rw [hc]; rfl)) (grownBy_putObj' _ D (.deferred none)) (fun r e => by cases e; exact ⟨_, hK', rfl⟩)
    refine ⟨.bool false, ?_, by rw [keysUp_none.1 hys.symm], (hB.setCell (p := ⟨w.heap.size + 1, 0, none⟩) (by simp) _).trans (belowK_b (w := w) (Nat.le_refl _) _ D _ _ (by simp at hD; omega) hK' rfl rfl)⟩
    simp [results, Try.f96, go_sem, hc5]
  case stop =>
    rintro D c pre W hD ⟨k, hk, rfl⟩ ⟨⟨rfl, hne, hc⟩, hB⟩ hK
    gi_wp2
    refine ⟨by simp, .inl ⟨_, _, rfl, run_takeDeferred hK, ?_⟩⟩
    have hc5 := cell_kept hc (grownBy_putObj' _ D (.deferred none)) (fun r e => by cases e; exact ⟨_, hK, rfl⟩)
    refine ⟨.bool true, ?_, by rw [keysUp_any hne], hB.trans (belowK_b (w := w) (Nat.le_refl _) W D _ _ (by simp at hD; omega) hK rfl rfl)⟩
    simp [results, Try.f96, go_sem, hc5]

theorem keyed_any (oid ver : Int) (nm : ByteArray) (id : Int) (cols : List Col) (a : Option Addr) (cap : Nat) (w : World) (hl : Sl w (.slice a cols.length cap) 3 (cols.map Col.cells)) (hlen : cols.length ≤ 1000) :
    Calls Try.prog 96 #[.agg #[.int .u32 oid, .int .u32 ver, .string nm, .int .u8 id, .slice a cols.length cap]] w fun e w' => e = .returned (.bool (cols.any Col.key)) ∧ Ext w w' :=
  callsIn_wide.1 (keyed_in Fence.wide 3 trivial trivial trivial rfl (Nat.le_refl _) oid ver nm id cols a cap w hl hlen)

end Go.Proofs.Ytdbepkfblfhlhaa
