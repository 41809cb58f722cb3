/-
The program's takeFloat and takeComplex.
-/
import Derived.Test.YtmpnopjkpamhaaaRdrE
namespace Go.Proofs.Ytmpnopjkpamhaaa
open Go.RowKit

theorem wordR_lt {st : RS} (h : st.ok) : (wordR st).1 < 2 ^ 64 := ofBytes_lt64 (bytesR_isB h 8) (by unfold bytesR; split <;> simp <;> omega)
theorem floatR_lt {st : RS} (h : st.ok) (ver : Int) : (floatR ver st).1 < 2 ^ 64 := by
  unfold floatR; split
  · exact wordR_lt h
  · exact rev_lt

set_option maxRecDepth 100000 in set_option maxHeartbeats 1600000 in
theorem vtf_any (g d : Nat) (st : RS) (ver : Int) (w : World) (h : RD w g d st) :
    Calls Try.prog 74 #[.pointer (some ⟨g, 0, none⟩), .int .u8 ver] w (RPost g d w (.int .u64 (floatR ver st).1) (floatR ver st).2) := by
  have H := Hid.mk' h
  by_cases h1 : ver = 1
  · have HW := Hid.mk' (fun w h => rword2_any g d st w h)
    subst h1
    unfold floatR
    rw [if_pos rfl]
    clear h
    go_enter Try.func74, Try.ntmps74
    go_wp2_with (go_at_call 72; refine (HW.out _ H.out).mono ?_; rintro e w1 ⟨rfl, hr, ht⟩; have HR := Hid.mk' hr; have HT := Hid.mk' ht; clear hr ht)
    go_ret
    exact ⟨rfl, HR.out, HT.out⟩
  · have HU := Hid.mk' (fun w h => ruint2_any g d st 18446744073709551615 w h (by omega))
    have hle := uintR_le (st := st) 18446744073709551615
    unfold floatR
    rw [if_neg h1]
    simp only
    generalize uintR 18446744073709551615 st = U at *
    obtain ⟨n, st1⟩ := U
    simp only at *
    have HL : Hid (n < 2 ^ 64) := Hid.mk' (by omega)
    clear h
    go_enter Try.func74, Try.ntmps74
    go_wp2_with (first
      | (go_at_call 71; refine (HU.out _ H.out).mono ?_; rintro e w1 ⟨rfl, hr, ht⟩; have HR := Hid.mk' hr; have HT := Hid.mk' ht; clear hr ht)
      | (go_at_call 84; refine (rev_any n _ HL.out).mono ?_; rintro e w2 ⟨rfl, rfl⟩))
    go_ret
    exact ⟨rfl, HR.out, HT.out⟩

theorem floatR_ne {ver : Int} (h : ver ≠ 1) (st : RS) : floatR ver st = floatR 2 st := by unfold floatR; rw [if_neg h, if_neg (by decide)]
theorem Tch.trans' {g : Nat} {a b c : World} (h : Tch g a b) (k : Below a.heap.size b c) : Tch g a c :=
  ⟨k.os.trans h.os, k.tape.trans h.tape, k.output.trans h.output, Nat.le_trans h.size k.size, fun i hi hg => (k.block i hi).trans (h.block i hi hg)⟩
theorem Tch.setNew {g h : Nat} {w w' : World} (ht : Tch g w w') (hh : w.heap.size ≤ h) (i : Nat) (v : Value) : Tch g w (w'.setCell ⟨h, i, none⟩ v) :=
  ht.trans' ⟨rfl, rfl, rfl, by simp [World.setCell], fun k hk => Below.heap_setCell _ _ _ _ (by simp; omega)⟩
theorem and1_u8 (m : Int) (h0 : 0 ≤ m) (h1 : m < 256) : bits BinOp.and IntKind.u8 m 1 = m % 2 := by
  have h : ∀ r : Nat, r < 256 → bits BinOp.and IntKind.u8 (r : Int) 1 = (r : Int) % 2 := by decide +kernel
  have := h m.toNat (by omega)
  rw [show ((m.toNat : Nat) : Int) = m by omega] at this
  exact this

def CxRel (g d h : Nat) (m : Int) (st : RS) (w : World) (i : Value) (wx : World) : Prop :=
  (i = .int .i64 0 ∧ Blk wx h #[.int .u64 0, .int .u64 0] 130 ∧ RD wx g d st ∧ Tch g w wx) ∨
  (i = .int .i64 1 ∧ Blk wx h #[.int .u64 (partR (decide (m % 2 = 1)) st).1, .int .u64 0] 130 ∧ RD wx g d (partR (decide (m % 2 = 1)) st).2 ∧ Tch g w wx) ∨
  (i = .int .i64 2 ∧ Blk wx h #[.int .u64 (partR (decide (m % 2 = 1)) st).1, .int .u64 (partR (decide (m / 2 % 2 = 1)) (partR (decide (m % 2 = 1)) st).2).1] 130 ∧ RD wx g d (partR (decide (m / 2 % 2 = 1)) (partR (decide (m % 2 = 1)) st).2).2 ∧ Tch g w wx)

set_option maxRecDepth 100000 in set_option maxHeartbeats 1600000 in
theorem vtc_any (g d : Nat) (st : RS) (ver : Int) (w : World) (h : RD w g d st) :
    Calls Try.prog 75 #[.pointer (some ⟨g, 0, none⟩), .int .u8 ver] w (RPost g d w (.complex .f64 (complexR ver st).1.1 (complexR ver st).1.2) (complexR ver st).2) := by
  have H := Hid.mk' h
  have hok : st.ok := by obtain ⟨_, _, _, hok, _⟩ := h; exact hok
  clear h
  by_cases h1 : ver = 1
  · subst h1
    have HW := Hid.mk' (fun w h => rword2_any g d st w h)
    unfold complexR
    rw [if_pos rfl]
    simp only
    generalize wordR st = U at *
    obtain ⟨x, st1⟩ := U
    simp only at *
    have HW2 := Hid.mk' (fun w h => rword2_any g d st1 w h)
    generalize wordR st1 = U at *
    obtain ⟨y, st2⟩ := U
    simp only at *
    go_enter Try.func75, Try.ntmps75
    go_upto_region 3 with (go_at_call 72; refine (HW.out _ H.out).mono ?_; rintro e w1 ⟨rfl, hr, ht⟩; have HR := Hid.mk' hr; have HT := Hid.mk' ht; clear hr ht)
    go_wp2_with (first
      | (go_at_call 72; refine (HW2.out _ HR.out).mono ?_; rintro e w2 ⟨rfl, hr, ht⟩; have HR2 := Hid.mk' hr; have HT2 := Hid.mk' ht; clear hr ht)
      | (go_at_call 53; refine (vof_any x y _).mono ?_; rintro e w3 ⟨rfl, rfl⟩))
    go_ret
    exact ⟨by first | rfl | simp, HR2.out, HT.out.trans HT2.out⟩
  · have HBy := Hid.mk' (fun w h => rbyte_any g d st w h)
    unfold complexR
    rw [if_neg h1]
    simp only
    have hm : 0 ≤ (byteR st).1 ∧ (byteR st).1 < 256 := by
      have := bytesR_isB hok 1
      unfold byteR
      simp only
      cases hL : (bytesR 1 st).1 with
      | nil => simp
      | cons x L => rw [hL] at this; exact this.head
    generalize byteR st = U at *
    obtain ⟨m, st1⟩ := U
    simp only at *
    obtain ⟨hm0, hm1⟩ := hm
    generalize hST : (if 3 < m then giveS st1 4 else st1) = st2
    have HST := Hid.mk' hST
    clear hST
    have hand := and1_u8
    go_enter Try.func75, Try.ntmps75
    go_upto_if 20 with (first
      | (go_at_call 68; refine (HBy.out _ H.out).mono ?_; rintro e w1 ⟨rfl, hr, ht⟩; have HR := Hid.mk' hr; have HT := Hid.mk' ht; clear hr ht))
    go_cut [] (fun wx => Hid (RD wx g d st2) ∧ Hid (Tch g w wx))
    case first =>
      by_cases h3 : 3 < m
      · go_wp2_with (go_at_call 41; refine (fail_any g d st1 4 _ HR.out).mono ?_; rintro e w2 ⟨rfl, hr, ht⟩; have HR2 := Hid.mk' hr; have HT2 := Hid.mk' ht; clear hr ht)
        go_meet
        case rel => exact ⟨by rw [← HST.out, if_pos h3]; exact HR2.out, HT.out.trans HT2.out⟩
      · go_wp2
        go_meet
        case rel => exact ⟨by rw [← HST.out, if_neg (by omega)]; exact HR.out, HT.out⟩
    case rest =>
      obtain ⟨HR2, HT2⟩ := hcut
      clear HR HT HST HBy H
      go_wp2
      go_loopw [23] (fun i wx => CxRel g d wc.heap.size m st2 w i wx) (fun i _ => 2 - (intOf i).toNat)
      case atStart =>
        have hgh := HR2.out.lt
        exact .inl ⟨rfl, Blk.new _ _ _, HR2.out.ext ((Ext.refl wc).alloc _), HT2.out.alloc _⟩
      case round =>
        have hgh : g < wc.heap.size := HR2.out.lt
        have hne : g ≠ wc.heap.size := by omega
        have hwh : w.heap.size ≤ wc.heap.size := HT2.out.size
        have hA0 := and1_u8 m hm0 hm1
        have hA1 := and1_u8 (m / 2) (by omega) (by omega)
        clear hand
        rcases hrel with ⟨rfl, hb, hr, ht⟩ | ⟨rfl, hb, hr, ht⟩ | ⟨rfl, hb, hr, ht⟩
        · have HBr := Hid.mk' hb
          have HRr := Hid.mk' hr
          have HTr := Hid.mk' ht
          clear hb hr ht
          by_cases b0 : m % 2 = 1
          · obtain ⟨x, S', hF⟩ : ∃ x S', floatR ver st2 = (x, S') := ⟨_, _, rfl⟩
            have HTF := Hid.mk' (fun w h => vtf_any g d st2 ver w h)
            rw [hF] at HTF
            simp only at HTF
            have HP : Hid (partR (decide (m % 2 = 1)) st2 = (x, if x = 0 then giveS S' 3 else S')) := Hid.mk' (by unfold partR; rw [decide_eq_true b0, if_pos rfl, ← floatR_ne h1, hF])
            have HF3 := Hid.mk' (fun w h => fail_any g d S' 3 w h)
            clear hF
            by_cases x0 : x = 0
            · have hx : (x : Int) = 0 := by omega
              rw [hx] at HTF
              have HX := Hid.mk' hx
              have HX0 := Hid.mk' x0
              clear hx x0
              go_wp2_with (first
                | (go_at_call 74; refine (HTF.out _ HRr.out).mono ?_; rintro e w1 ⟨rfl, hr1, ht1⟩; have HB1 := Hid.mk' (HBr.out.tch ht1 hne.symm); have k1 := HB1.out.cell; have f1 := HB1.out.frozen; have z1 := HB1.out.lt; have HR1 := Hid.mk' (hr1.tch ((Tch.refl wc.heap.size w1).set 0 (.int .u64 0)) hne.symm (.inr (Nat.le_of_lt hgh))); have HT1 := Hid.mk' ht1; clear hr1 ht1)
                | (go_at_call 41; refine (HF3.out _ HR1.out).mono ?_; rintro e w3 ⟨rfl, hr3, ht3⟩; have HR3 := Hid.mk' hr3; have HT3 := Hid.mk' ht3; clear hr3 ht3))
              go_roundw
              case rel =>
                refine .inr (.inl ⟨rfl, ?_, ?_, ?_⟩)
                · rw [HP.out, HX.out]; exact (HB1.out.set 0 _).tch HT3.out hne.symm
                · rw [HP.out, if_pos HX0.out]; exact HR3.out
                · exact ((HTr.out.trans HT1.out).setNew hwh _ _).trans HT3.out
              case measure => simp [intOf]
            · have x1 : ((x : Int) == 0) = false := by simpa using x0
              go_wp2_with (first
                | (go_at_call 74; refine (HTF.out _ HRr.out).mono ?_; rintro e w1 ⟨rfl, hr1, ht1⟩; have HB1 := Hid.mk' (HBr.out.tch ht1 hne.symm); have k1 := HB1.out.cell; have f1 := HB1.out.frozen; have z1 := HB1.out.lt; have HR1 := Hid.mk' (hr1.tch ((Tch.refl wc.heap.size w1).set 0 (.int .u64 x)) hne.symm (.inr (Nat.le_of_lt hgh))); have HT1 := Hid.mk' ht1; clear hr1 ht1))
              go_roundw
              case rel =>
                refine .inr (.inl ⟨rfl, ?_, ?_, ?_⟩)
                · rw [HP.out]; exact HB1.out.set 0 _
                · rw [HP.out, if_neg x0]; exact HR1.out
                · exact (HTr.out.trans HT1.out).setNew hwh _ _
              case measure => simp [intOf]
          · have HP : Hid (partR (decide (m % 2 = 1)) st2 = (0, st2)) := Hid.mk' (by unfold partR; rw [decide_eq_false b0]; rfl)
            have b1 : m % 2 = 0 := by omega
            clear b0
            go_wp2
            go_roundw
            case rel =>
              refine .inr (.inl ⟨rfl, ?_, ?_, ?_⟩)
              · rw [HP.out]; exact HBr.out
              · rw [HP.out]; exact HRr.out
              · exact HTr.out
            case measure => simp [intOf]
        · obtain ⟨P0, hP0⟩ : ∃ P0, P0 = partR (decide (m % 2 = 1)) st2 := ⟨_, rfl⟩
          have HPP := Hid.mk' hP0
          rw [← hP0] at hb hr
          clear hP0
          obtain ⟨p0, S0⟩ := P0
          simp only at hb hr
          have HBr := Hid.mk' hb
          have HRr := Hid.mk' hr
          have HTr := Hid.mk' ht
          clear hb hr ht
          by_cases b0 : m / 2 % 2 = 1
          · obtain ⟨x, S', hF⟩ : ∃ x S', floatR ver S0 = (x, S') := ⟨_, _, rfl⟩
            have HTF := Hid.mk' (fun w h => vtf_any g d S0 ver w h)
            rw [hF] at HTF
            simp only at HTF
            have HP : Hid (partR (decide (m / 2 % 2 = 1)) S0 = (x, if x = 0 then giveS S' 3 else S')) := Hid.mk' (by unfold partR; rw [decide_eq_true b0, if_pos rfl, ← floatR_ne h1, hF])
            have HF3 := Hid.mk' (fun w h => fail_any g d S' 3 w h)
            clear hF
            by_cases x0 : x = 0
            · have hx : (x : Int) = 0 := by omega
              rw [hx] at HTF
              have HX := Hid.mk' hx
              have HX0 := Hid.mk' x0
              clear hx x0
              go_wp2_with (first
                | (go_at_call 74; refine (HTF.out _ HRr.out).mono ?_; rintro e w1 ⟨rfl, hr1, ht1⟩; have HB1 := Hid.mk' (HBr.out.tch ht1 hne.symm); have k1 := HB1.out.cell; have f1 := HB1.out.frozen; have z1 := HB1.out.lt; have HR1 := Hid.mk' (hr1.tch ((Tch.refl wc.heap.size w1).set 1 (.int .u64 0)) hne.symm (.inr (Nat.le_of_lt hgh))); have HT1 := Hid.mk' ht1; clear hr1 ht1)
                | (go_at_call 41; refine (HF3.out _ HR1.out).mono ?_; rintro e w3 ⟨rfl, hr3, ht3⟩; have HR3 := Hid.mk' hr3; have HT3 := Hid.mk' ht3; clear hr3 ht3))
              go_roundw
              case rel =>
                refine .inr (.inr ⟨rfl, ?_, ?_, ?_⟩)
                · rw [← HPP.out, HP.out, HX.out]; exact (HB1.out.set 1 _).tch HT3.out hne.symm
                · rw [← HPP.out, HP.out, if_pos HX0.out]; exact HR3.out
                · exact ((HTr.out.trans HT1.out).setNew hwh _ _).trans HT3.out
              case measure => simp [intOf]
            · have x1 : ((x : Int) == 0) = false := by simpa using x0
              go_wp2_with (first
                | (go_at_call 74; refine (HTF.out _ HRr.out).mono ?_; rintro e w1 ⟨rfl, hr1, ht1⟩; have HB1 := Hid.mk' (HBr.out.tch ht1 hne.symm); have k1 := HB1.out.cell; have f1 := HB1.out.frozen; have z1 := HB1.out.lt; have HR1 := Hid.mk' (hr1.tch ((Tch.refl wc.heap.size w1).set 1 (.int .u64 x)) hne.symm (.inr (Nat.le_of_lt hgh))); have HT1 := Hid.mk' ht1; clear hr1 ht1))
              go_roundw
              case rel =>
                refine .inr (.inr ⟨rfl, ?_, ?_, ?_⟩)
                · rw [← HPP.out, HP.out]; exact HB1.out.set 1 _
                · rw [← HPP.out, HP.out, if_neg x0]; exact HR1.out
                · exact (HTr.out.trans HT1.out).setNew hwh _ _
              case measure => simp [intOf]
          · have HP : Hid (partR (decide (m / 2 % 2 = 1)) S0 = (0, S0)) := Hid.mk' (by unfold partR; rw [decide_eq_false b0]; rfl)
            have b1 : m / 2 % 2 = 0 := by omega
            clear b0
            go_wp2
            go_roundw
            case rel =>
              refine .inr (.inr ⟨rfl, ?_, ?_, ?_⟩)
              · rw [← HPP.out, HP.out]; exact HBr.out
              · rw [← HPP.out, HP.out]; exact HRr.out
              · exact HTr.out
            case measure => simp [intOf]
        · have HRr := Hid.mk' hr
          have HTr := Hid.mk' ht
          generalize partR (decide (m % 2 = 1)) st2 = P0 at *
          obtain ⟨p0, S0⟩ := P0
          simp only at *
          generalize partR (decide (m / 2 % 2 = 1)) S0 = P1 at *
          obtain ⟨p1, S1⟩ := P1
          simp only at *
          have k1 := hb.cell
          clear hr ht hb
          go_wp2_with (go_at_call 53; refine (vof_any p0 p1 _).mono ?_; rintro e w3 ⟨rfl, rfl⟩)
          go_ret
          exact ⟨by first | rfl | simp, HRr.out, HTr.out⟩

end Go.Proofs.Ytmpnopjkpamhaaa
