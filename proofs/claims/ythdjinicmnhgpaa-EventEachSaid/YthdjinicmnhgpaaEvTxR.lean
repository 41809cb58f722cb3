/-
What is wrong with a transaction: the program's answer.
-/
import Derived.Test.YthdjinicmnhgpaaP16
import Derived.Test.YthdjinicmnhgpaaEvTxs
namespace Go.Proofs.Ythdjinicmnhgpaa
open Go.RowKit

noncomputable def evAt (es : List Ev) (l : List Rl) (i : Nat) : Int := if h : i < es.length then evE es[i] l else 0
noncomputable def rtE (t : Tx) (l : List Rl) : Int := if t.xid = 0 then 4 else if 512 < t.es.length then 8 else firstE (evAt t.es l) t.es.length
noncomputable def rtP (t : Tx) (l : List Rl) : Int := if t.xid = 0 then -1 else if 512 < t.es.length then -1 else if firstE (evAt t.es l) t.es.length = 0 then -1 else (plE (evAt t.es l) t.es.length : Nat)
theorem evAt_map {es : List EL} {l : List Rl} {k : Nat} (h : k < es.length) : evAt (es.map EL.e) l k = evE es[k].e l := by
  unfold evAt
  rw [dif_pos (by simpa using h), List.getElem_map]
theorem rt_ok {t : Tx} {l : List Rl} (h0 : t.xid ≠ 0) (h1 : t.es.length ≤ 512) (hz : ∀ j, j < t.es.length → evAt t.es l j = 0) : rtE t l = 0 ∧ rtP t l = -1 := by
  have e := firstE_zero hz
  unfold rtE rtP
  rw [if_neg h0, if_neg (by omega), if_neg h0, if_neg (by omega), e, if_pos rfl]
  exact ⟨rfl, rfl⟩
theorem rt_bad {t : Tx} {l : List Rl} {k : Nat} (h0 : t.xid ≠ 0) (h1 : t.es.length ≤ 512) (hk : k < t.es.length) (hz : ∀ j, j < k → evAt t.es l j = 0) (hn : evAt t.es l k ≠ 0) : rtE t l = evAt t.es l k ∧ rtP t l = k := by
  have e := firstE_at hz hk hn
  have p := plE_at hz hn hk
  unfold rtE rtP
  rw [if_neg h0, if_neg (by omega), if_neg h0, if_neg (by omega), e, if_neg hn, p]
  exact ⟨rfl, rfl⟩

set_option maxRecDepth 100000 in set_option maxHeartbeats 4000000 in
theorem txright_any (t : TL) (N g : Nat) (c : Value) (ps : List RR) (w : World) (ht : t.at 5 K.pc w) (hn : t.es.length ≤ 1000) (hs : ∀ e ∈ t.es, e.e.small) (hwk : ∀ e ∈ t.es, e.e.wk) (hc : Ca w N g c ps) :
    Calls Try.prog 46 #[t.agg, .pointer (some ⟨g, 0, none⟩)] w fun e w' => e = .returned (.tuple #[.int .i64 (rtP t.t (ps.map RR.r)), .int .i64 (rtE t.t (ps.map RR.r))]) ∧ Ext w w' := by
  have HT := Hid.mk' ht
  have HER := Hid.mk' (fun x (hx : x ∈ t.es) W (h : Ext w W) => eright_any x N g c ps W ((ht.sl x hx).ext h) (hs x hx) (hwk x hx) (hc.ext h))
  clear ht hs hwk hc
  obtain ⟨xid, st, es, ta, tc⟩ := t
  unfold TL.agg TL.t
  simp only at HER hn ⊢
  have HT2 : Hid (ES 5 K.pc w (.slice ta es.length tc) es) := HT
  clear HT
  by_cases h0 : xid = 0
  · subst h0
    have HR := Hid.mk' (show rtE ⟨0, st, es.map EL.e⟩ (ps.map RR.r) = 4 ∧ rtP ⟨0, st, es.map EL.e⟩ (ps.map RR.r) = -1 from ⟨if_pos rfl, if_pos rfl⟩)
    go_enter Try.func46, Try.ntmps46
    go_wp2
    go_ret2
    exact ⟨by rw [HR.out.1, HR.out.2]; rfl, by (repeat (with_reducible (first | exact Ext.refl _ | assumption | exact held_left (by assumption) | apply Ext.drewN | apply Ext.drew | apply Ext.alloc | (refine Ext.setCell ?_ (by first | (simp; done) | (simp; omega) | omega) _) | (refine Ext.trans ?_ (by assumption)) | (refine Ext.trans ?_ (held_left (by assumption))))))⟩
  have h0' : (xid == 0) = false := by simpa using h0
  have H0 := Hid.mk' h0
  clear h0
  by_cases h5 : 512 < es.length
  · have HR := Hid.mk' (show rtE (⟨xid, st, es.map EL.e⟩ : Tx) (ps.map RR.r) = 8 ∧ rtP (⟨xid, st, es.map EL.e⟩ : Tx) (ps.map RR.r) = -1 from ⟨by unfold rtE; rw [if_neg H0.out, if_pos (by simpa using h5)], by unfold rtP; rw [if_neg H0.out, if_pos (by simpa using h5)]⟩)
    go_enter Try.func46, Try.ntmps46
    go_wp2
    go_ret2
    exact ⟨by rw [HR.out.1, HR.out.2]; rfl, by (repeat (with_reducible (first | exact Ext.refl _ | assumption | exact held_left (by assumption) | apply Ext.drewN | apply Ext.drew | apply Ext.alloc | (refine Ext.setCell ?_ (by first | (simp; done) | (simp; omega) | omega) _) | (refine Ext.trans ?_ (by assumption)) | (refine Ext.trans ?_ (held_left (by assumption))))))⟩
  have HL5 := Hid.mk' (show (⟨xid, st, es.map EL.e⟩ : Tx).es.length ≤ 512 by simp only [List.length_map]; omega)
  go_enter Try.func46, Try.ntmps46
  go_wp2
  go_loopw [21] (fun i wr => ∃ k : Nat, k ≤ es.length ∧ i = .int .i64 k ∧ Hid (∀ j, j < k → evAt (es.map EL.e) (ps.map RR.r) j = 0) ∧ Hid (Ext w wr)) (fun i _ => es.length - (intOf i).toNat)
  case atStart => exact ⟨0, Nat.zero_le _, rfl, Hid.mk' (fun j h => by omega), Hid.mk' (by (repeat (with_reducible (first | exact Ext.refl _ | assumption | exact held_left (by assumption) | apply Ext.drewN | apply Ext.drew | apply Ext.alloc | (refine Ext.setCell ?_ (by first | (simp; done) | (simp; omega) | omega) _) | (refine Ext.trans ?_ (by assumption)) | (refine Ext.trans ?_ (held_left (by assumption)))))))⟩
  case round =>
    obtain ⟨k, hk, rfl, hz, hE⟩ := hrel
    by_cases hlt : k < es.length
    · obtain ⟨b, o, rfl, hb, hx⟩ := HT2.out.row.at_ (i := k) (by simpa using hlt)
      obtain ⟨g0, g1, g2, g3, g4, g5, g6, g7⟩ := EL.at_ hlt hx hb hE.out
      have hbw : b < wr.heap.size := Nat.lt_of_lt_of_le hb hE.out.size
      have HEK := Hid.mk' (HER.out _ (List.getElem_mem hlt))
      have HAT := Hid.mk' (evAt_map (l := ps.map RR.r) hlt)
      obtain ⟨x, hxx⟩ : ∃ x, x = es[k] := ⟨_, rfl⟩
      rw [← hxx] at g0 g1 g2 g3 g4 g5 g6 g7 HEK HAT
      have HLT := Hid.mk' hlt
      clear hxx hx
      obtain ⟨⟨k1, ao1, av1, old1, b1, a1, r1, fl1⟩, ba1, bc1, aa1, ac1, ra1, rc1⟩ := x
      unfold EL.agg at HEK
      simp only at g0 g1 g2 g3 g4 g5 g6 g7 HEK HAT
      obtain ⟨E, hEE⟩ : ∃ E, E = evE ⟨k1, ao1, av1, old1, b1, a1, r1, fl1⟩ (ps.map RR.r) := ⟨_, rfl⟩
      rw [← hEE] at HEK HAT
      clear hEE
      by_cases hE0 : E = 0
      · subst hE0
        go_wp2_with (go_at_call 37; refine (HEK.out _ (hE.out.trans (by (repeat (with_reducible (first | exact Ext.refl _ | assumption | exact held_left (by assumption) | apply Ext.drewN | apply Ext.drew | apply Ext.alloc | (refine Ext.setCell ?_ (by first | (simp; done) | (simp; omega) | omega) _) | (refine Ext.trans ?_ (by assumption)) | (refine Ext.trans ?_ (held_left (by assumption))))))))).mono ?_; rintro e w2 ⟨rfl, hb2⟩)
        go_roundw
        case rel => exact ⟨k + 1, by omega, by go_num, Hid.mk' (fun j hj => by
          by_cases e : j = k
          · subst e; exact HAT.out
          · exact hz.out j (by omega)), Hid.mk' (hE.out.trans (by (repeat (with_reducible (first | exact Ext.refl _ | assumption | exact held_left (by assumption) | apply Ext.drewN | apply Ext.drew | apply Ext.alloc | (refine Ext.setCell ?_ (by first | (simp; done) | (simp; omega) | omega) _) | (refine Ext.trans ?_ (by assumption)) | (refine Ext.trans ?_ (held_left (by assumption))))))))⟩
        case measure => simp [intOf]; omega
      · have hE1 : (E != 0) = true := by simpa using hE0
        have HR := Hid.mk' (rt_bad (t := (⟨xid, st, es.map EL.e⟩ : Tx)) (l := ps.map RR.r) H0.out HL5.out (by simpa using HLT.out) hz.out (by rw [show (⟨xid, st, es.map EL.e⟩ : Tx).es = es.map EL.e from rfl, HAT.out]; exact hE0))
        rw [show (⟨xid, st, es.map EL.e⟩ : Tx).es = es.map EL.e from rfl, HAT.out] at HR
        clear hE0
        go_wp2_with (go_at_call 37; refine (HEK.out _ (hE.out.trans (by (repeat (with_reducible (first | exact Ext.refl _ | assumption | exact held_left (by assumption) | apply Ext.drewN | apply Ext.drew | apply Ext.alloc | (refine Ext.setCell ?_ (by first | (simp; done) | (simp; omega) | omega) _) | (refine Ext.trans ?_ (by assumption)) | (refine Ext.trans ?_ (held_left (by assumption))))))))).mono ?_; rintro e w2 ⟨rfl, hb2⟩)
        go_ret2
        exact ⟨by rw [HR.out.1, HR.out.2]; rfl, hE.out.trans (by (repeat (with_reducible (first | exact Ext.refl _ | assumption | exact held_left (by assumption) | apply Ext.drewN | apply Ext.drew | apply Ext.alloc | (refine Ext.setCell ?_ (by first | (simp; done) | (simp; omega) | omega) _) | (refine Ext.trans ?_ (by assumption)) | (refine Ext.trans ?_ (held_left (by assumption)))))))⟩
    · have HR := Hid.mk' (rt_ok (t := (⟨xid, st, es.map EL.e⟩ : Tx)) (l := ps.map RR.r) H0.out HL5.out (fun j hj => hz.out j (by simp at hj; omega)))
      go_wp2
      go_ret2
      exact ⟨by rw [HR.out.1, HR.out.2]; rfl, hE.out⟩

end Go.Proofs.Ythdjinicmnhgpaa
