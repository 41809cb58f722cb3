/-
What is wrong with a transaction: the program's answer.
-/
import Derived.Test.YthdjinicmnhgpaaGreatP16
namespace Go.Proofs.YthdjinicmnhgpaaGreat
open Go.RowKit

noncomputable def evAt (es : List Ev) (l : List Rl) (i : Nat) : Int := if h : i < es.length then evE es[i] l else 0
noncomputable def rtE (t : Tx) (l : List Rl) : Int := if t.xid = 0 then 4 else if 512 < t.es.length then 8 else firstE (evAt t.es l) t.es.length
noncomputable def rtP (t : Tx) (l : List Rl) : Int := if t.xid = 0 then -1 else if 512 < t.es.length then -1 else if firstE (evAt t.es l) t.es.length = 0 then -1 else (plE (evAt t.es l) t.es.length : Nat)
theorem evAt_map {es : List EL} {l : List Rl} {k : Nat} (h : k < es.length) : evAt (es.map EL.e) l k = evE es[k].e l := by
  unfold evAt
  rw [dif_pos (by simpa using h), List.getElem_map]
theorem rt_ok {t : Tx} {l : List Rl} (h0 : t.xid ≠ 0) (h1 : t.es.length ≤ 512) (hz : ∀ j, j < t.es.length → evAt t.es l j = 0) : rtE t l = 0 ∧ rtP t l = -1 := by
  have e := firstE_zero hz
  unfold rtE rtP
  rw [if_neg h0, if_neg (by omega), if_neg h0, if_neg (by omega), e, if_pos rfl]
  exact ⟨rfl, rfl⟩
theorem rt_bad {t : Tx} {l : List Rl} {k : Nat} (h0 : t.xid ≠ 0) (h1 : t.es.length ≤ 512) (hk : k < t.es.length) (hz : ∀ j, j < k → evAt t.es l j = 0) (hn : evAt t.es l k ≠ 0) : rtE t l = evAt t.es l k ∧ rtP t l = k := by
  have e := firstE_at hz hk hn
  have p := plE_at hz hn hk
  unfold rtE rtP
  rw [if_neg h0, if_neg (by omega), if_neg h0, if_neg (by omega), e, if_neg hn, p]
  exact ⟨rfl, rfl⟩

set_option maxRecDepth 100000 in set_option maxHeartbeats 4000000 in
theorem txright_any (t : TL) (N g : Nat) (c : Value) (ps : List RR) (w : World) (ht : t.at 5 K.pc w) (hn : t.es.length ≤ 1000) (hs : ∀ e ∈ t.es, e.e.small) (hwk : ∀ e ∈ t.es, e.e.wk) (hc : Ca w N g c ps) :
    Calls Tryz.prog 9 #[t.agg, .pointer (some ⟨g, 0, none⟩)] w fun e w' => e = .returned (.tuple #[.int .i64 (rtP t.t (ps.map RR.r)), .int .i64 (rtE t.t (ps.map RR.r))]) ∧ Ext w w' := by
  have HT := Hid.mk' ht
  have HER := Hid.mk' (fun x (hx : x ∈ t.es) W (h : Ext w W) => eright_any x N g c ps W ((ht.sl x hx).ext h) (hs x hx) (hwk x hx) (hc.ext h))
  clear ht hs hwk hc
  obtain ⟨xid, st, es, ta, tc⟩ := t
  unfold TL.agg TL.t
  simp only at HER hn ⊢
  have HT2 : Hid (ES 5 K.pc w (.slice ta es.length tc) es) := HT
  clear HT
  by_cases h0 : xid = 0
  · subst h0
    have HR := Hid.mk' (show rtE ⟨0, st, es.map EL.e⟩ (ps.map RR.r) = 4 ∧ rtP ⟨0, st, es.map EL.e⟩ (ps.map RR.r) = -1 from ⟨if_pos rfl, if_pos rfl⟩)
    go_enter Tryz.func9, Tryz.ntmps9
    go_wp2
    go_ret2
    exact ⟨by rw [HR.out.1, HR.out.2]; rfl, by (repeat (with_reducible (first | exact Ext.refl _ | assumption | exact held_left (by assumption) | apply Ext.drewN | apply Ext.drew | apply Ext.alloc | (refine Ext.setCell ?_ (by first | (simp; done) | (simp; omega) | omega) _) | (refine Ext.trans ?_ (by assumption)) | (refine Ext.trans ?_ (held_left (by assumption))))))⟩
  have h0' : (xid == 0) = false := by simpa using h0
  have H0 := Hid.mk' h0
  clear h0
  by_cases h5 : 512 < es.length
  · have HR := Hid.mk' (show rtE (⟨xid, st, es.map EL.e⟩ : Tx) (ps.map RR.r) = 8 ∧ rtP (⟨xid, st, es.map EL.e⟩ : Tx) (ps.map RR.r) = -1 from ⟨by unfold rtE; rw [if_neg H0.out, if_pos (by simpa using h5)], by unfold rtP; rw [if_neg H0.out, if_pos (by simpa using h5)]⟩)
    go_enter Tryz.func9, Tryz.ntmps9
    go_wp2
    go_ret2
    exact ⟨by rw [HR.out.1, HR.out.2]; rfl, by (repeat (with_reducible (first | exact Ext.refl _ | assumption | exact held_left (by assumption) | apply Ext.drewN | apply Ext.drew | apply Ext.alloc | (refine Ext.setCell ?_ (by first | (simp; done) | (simp; omega) | omega) _) | (refine Ext.trans ?_ (by assumption)) | (refine Ext.trans ?_ (held_left (by assumption))))))⟩
  have HL5 := Hid.mk' (show (⟨xid, st, es.map EL.e⟩ : Tx).es.length ≤ 512 by simp only [List.length_map]; omega)
  go_enter Tryz.func9, Tryz.ntmps9
  go_wp2
  go_loopw [21] (fun i wr => ∃ k : Nat, k ≤ es.length ∧ i = .int .i64 k ∧ Hid (∀ j, j < k → evAt (es.map EL.e) (ps.map RR.r) j = 0) ∧ Hid (Ext w wr)) (fun i _ => es.length - (intOf i).toNat)
  case atStart => exact ⟨0, Nat.zero_le _, rfl, Hid.mk' (fun j h => by omega), Hid.mk' (by (repeat (with_reducible (first | exact Ext.refl _ | assumption | exact held_left (by assumption) | apply Ext.drewN | apply Ext.drew | apply Ext.alloc | (refine Ext.setCell ?_ (by first | (simp; done) | (simp; omega) | omega) _) | (refine Ext.trans ?_ (by assumption)) | (refine Ext.trans ?_ (held_left (by assumption)))))))⟩
  case round =>
    obtain ⟨k, hk, rfl, hz, hE⟩ := hrel
    by_cases hlt : k < es.length
    · obtain ⟨b, o, rfl, hb, hx⟩ := HT2.out.row.at_ (i := k) (by simpa using hlt)
      obtain ⟨g0, g1, g2, g3, g4, g5, g6, g7⟩ := EL.at_ hlt hx hb hE.out
      have hbw : b < wr.heap.size := Nat.lt_of_lt_of_le hb hE.out.size
      have HEK := Hid.mk' (HER.out _ (List.getElem_mem hlt))
      have HAT := Hid.mk' (evAt_map (l := ps.map RR.r) hlt)
      obtain ⟨x, hxx⟩ : ∃ x, x = es[k] := ⟨_, rfl⟩
      rw [← hxx] at g0 g1 g2 g3 g4 g5 g6 g7 HEK HAT
      have HLT := Hid.mk' hlt
      clear hxx hx
      obtain ⟨⟨k1, ao1, av1, old1, b1, a1, r1, fl1⟩, ba1, bc1, aa1, ac1, ra1, rc1⟩ := x
      unfold EL.agg at HEK
      simp only at g0 g1 g2 g3 g4 g5 g6 g7 HEK HAT
      obtain ⟨E, hEE⟩ : ∃ E, E = evE ⟨k1, ao1, av1, old1, b1, a1, r1, fl1⟩ (ps.map RR.r) := ⟨_, rfl⟩
      rw [← hEE] at HEK HAT
      clear hEE
      by_cases hE0 : E = 0
      · subst hE0
        go_wp2_with (go_at_call 23; refine (HEK.out _ (hE.out.trans (by (repeat (with_reducible (first | exact Ext.refl _ | assumption | exact held_left (by assumption) | apply Ext.drewN | apply Ext.drew | apply Ext.alloc | (refine Ext.setCell ?_ (by first | (simp; done) | (simp; omega) | omega) _) | (refine Ext.trans ?_ (by assumption)) | (refine Ext.trans ?_ (held_left (by assumption))))))))).mono ?_; rintro e w2 ⟨rfl, hb2⟩)
        go_roundw
        case rel => exact ⟨k + 1, by omega, by go_num, Hid.mk' (fun j hj => by
          by_cases e : j = k
          · subst e; exact HAT.out
          · exact hz.out j (by omega)), Hid.mk' (hE.out.trans (by (repeat (with_reducible (first | exact Ext.refl _ | assumption | exact held_left (by assumption) | apply Ext.drewN | apply Ext.drew | apply Ext.alloc | (refine Ext.setCell ?_ (by first | (simp; done) | (simp; omega) | omega) _) | (refine Ext.trans ?_ (by assumption)) | (refine Ext.trans ?_ (held_left (by assumption))))))))⟩
        case measure => simp [intOf]; omega
      · have hE1 : (E != 0) = true := by simpa using hE0
        have HR := Hid.mk' (rt_bad (t := (⟨xid, st, es.map EL.e⟩ : Tx)) (l := ps.map RR.r) H0.out HL5.out (by simpa using HLT.out) hz.out (by rw [show (⟨xid, st, es.map EL.e⟩ : Tx).es = es.map EL.e from rfl, HAT.out]; exact hE0))
        rw [show (⟨xid, st, es.map EL.e⟩ : Tx).es = es.map EL.e from rfl, HAT.out] at HR
        clear hE0
        go_wp2_with (go_at_call 23; refine (HEK.out _ (hE.out.trans (by (repeat (with_reducible (first | exact Ext.refl _ | assumption | exact held_left (by assumption) | apply Ext.drewN | apply Ext.drew | apply Ext.alloc | (refine Ext.setCell ?_ (by first | (simp; done) | (simp; omega) | omega) _) | (refine Ext.trans ?_ (by assumption)) | (refine Ext.trans ?_ (held_left (by assumption))))))))).mono ?_; rintro e w2 ⟨rfl, hb2⟩)
        go_ret2
        exact ⟨by rw [HR.out.1, HR.out.2]; rfl, hE.out.trans (by (repeat (with_reducible (first | exact Ext.refl _ | assumption | exact held_left (by assumption) | apply Ext.drewN | apply Ext.drew | apply Ext.alloc | (refine Ext.setCell ?_ (by first | (simp; done) | (simp; omega) | omega) _) | (refine Ext.trans ?_ (by assumption)) | (refine Ext.trans ?_ (held_left (by assumption)))))))⟩
    · have HR := Hid.mk' (rt_ok (t := (⟨xid, st, es.map EL.e⟩ : Tx)) (l := ps.map RR.r) H0.out HL5.out (fun j hj => hz.out j (by simp at hj; omega)))
      go_wp2
      go_ret2
      exact ⟨by rw [HR.out.1, HR.out.2]; rfl, hE.out⟩

end Go.Proofs.YthdjinicmnhgpaaGreat

/-
Whether two transactions are alike, the program's answer and the reference's; what is wrong with one, the reference's answer.
-/
namespace Go.Proofs.YthdjinicmnhgpaaGreat
open Go.RowKit

noncomputable def esB (l m : List Ev) : Bool := @decide (l = m) (Classical.propDecidable _)
noncomputable def txB (l m : Tx) : Bool := @decide (l = m) (Classical.propDecidable _)
theorem esB_true {l m : List Ev} : esB l m = true ↔ l = m := by unfold esB; simp
theorem esB_false {l m : List Ev} : esB l m = false ↔ l ≠ m := by unfold esB; simp
theorem txB_true {l m : Tx} : txB l m = true ↔ l = m := by unfold txB; simp
theorem txB_false {l m : Tx} : txB l m = false ↔ l ≠ m := by unfold txB; simp
theorem esB_at {l m : List EL} {k : Nat} (h1 : k < l.length) (h2 : k < m.length) (h : evB l[k].e m[k].e = false) : esB (l.map EL.e) (m.map EL.e) = false := esB_false.2 (fun e => evB_false.1 h (by
  have h3 := congrArg (fun z => z[k]?) e
  simpa [h1, h2] using h3))
theorem esB_len {l m : List EL} (h : l.length ≠ m.length) : esB (l.map EL.e) (m.map EL.e) = false := esB_false.2 (fun e => h (by have := congrArg List.length e; simpa using this))
theorem esB_all {l m : List EL} (h0 : l.length = m.length) (h : ∀ i (h1 : i < l.length) (h2 : i < m.length), evB l[i].e m[i].e = true) : esB (l.map EL.e) (m.map EL.e) = true :=
  esB_true.2 (List.ext_getElem (by simpa using h0) (fun i h1 h2 => by
    have := evB_true.1 (h i (by simpa using h1) (by simpa using h2))
    simpa using this))
theorem txB_eq {x1 s1 x2 s2 : Int} {l m : List Ev} : txB ⟨x1, s1, l⟩ ⟨x2, s2, m⟩ = (decide (x1 = x2) && decide (s1 = s2) && esB l m) := by
  rw [Bool.eq_iff_iff, txB_true, Bool.and_eq_true, Bool.and_eq_true, decide_eq_true_iff, decide_eq_true_iff, esB_true]
  constructor
  · intro h
    injection h with a b c
    exact ⟨⟨a, b⟩, c⟩
  · rintro ⟨⟨rfl, rfl⟩, rfl⟩; rfl

set_option maxRecDepth 100000 in set_option maxHeartbeats 4000000 in
theorem eqevs_any (l m : List EL) (a b : Option Addr) (ca cb : Nat) (w : World) (hl : ES 5 K.pc w (.slice a l.length ca) l) (hm : ES 5 K.pc w (.slice b m.length cb) m) (hlen : l.length ≤ 1000) (h1 : ∀ e ∈ l, e.e.small) (h2 : ∀ e ∈ m, e.e.small) :
    Calls Tryz.prog 25 #[.slice a l.length ca, .slice b m.length cb, .func (.func 26) #[] #[]] w fun e w' => e = .returned (.bool (esB (l.map EL.e) (m.map EL.e))) ∧ Ext w w' := by
  have HL := Hid.mk' hl
  have HM := Hid.mk' hm
  have HAK := Hid.mk' (fun x (hx : x ∈ l) y (hy : y ∈ m) W (h : Ext w W) => ealike_any x y W ((hl.sl x hx).ext h) ((hm.sl y hy).ext h) (h1 x hx) (h2 y hy))
  clear hl hm h1 h2
  by_cases hn : l.length = m.length
  case neg =>
    have hn' : (((l.length : Nat) : Int) != ((m.length : Nat) : Int)) = true := by simp; omega
    have HR := Hid.mk' (esB_len hn)
    clear hn
    go_enter Tryz.func25, Tryz.ntmps25
    go_wp2
    go_ret
    exact ⟨ret_bool HR.out.symm, by (repeat (with_reducible (first | exact Ext.refl _ | assumption | exact held_left (by assumption) | apply Ext.drewN | apply Ext.drew | apply Ext.alloc | (refine Ext.setCell ?_ (by first | (simp; done) | (simp; omega) | omega) _) | (refine Ext.trans ?_ (by assumption)) | (refine Ext.trans ?_ (held_left (by assumption))))))⟩
  have hn' : (((l.length : Nat) : Int) != ((m.length : Nat) : Int)) = false := by simp; omega
  have HN := Hid.mk' hn
  clear hn
  go_enter Tryz.func25, Tryz.ntmps25
  go_wp2
  go_loopw [17] (fun i wr => ∃ k : Nat, k ≤ l.length ∧ i = .int .i64 k ∧ Hid (∀ j (h1 : j < l.length) (h2 : j < m.length), j < k → evB l[j].e m[j].e = true) ∧ Hid (Ext w wr)) (fun i _ => l.length - (intOf i).toNat)
  case atStart => exact ⟨0, Nat.zero_le _, rfl, fun j _ _ h => by omega, Ext.refl _⟩
  case round =>
    obtain ⟨k, hk, rfl, hrel, hE⟩ := hrel
    by_cases hlt : k < l.length
    · have hlt2 : k < m.length := by have := HN.out; omega
      obtain ⟨b1, o1, rfl, hb1, hx1⟩ := HL.out.row.at_ (i := k) (by simpa using hlt)
      obtain ⟨f0, f1, f2, f3, f4, f5, f6, f7⟩ := EL.at_ hlt hx1 hb1 hE.out
      obtain ⟨b2, o2, rfl, hb2, hx2⟩ := HM.out.row.at_ (i := k) (by simpa using hlt2)
      obtain ⟨p0, p1, p2, p3, p4, p5, p6, p7⟩ := EL.at_ hlt2 hx2 hb2 hE.out
      have hbw : b1 < wr.heap.size := Nat.lt_of_lt_of_le hb1 hE.out.size
      have hbw2 : b2 < wr.heap.size := Nat.lt_of_lt_of_le hb2 hE.out.size
      have hbx2 : b2 < wr.heap.size + 1 := by omega
      have HC := Hid.mk' (fun W h => HAK.out _ (List.getElem_mem hlt) _ (List.getElem_mem hlt2) W h)
      have HBT : Hid (evB l[k].e m[k].e = false → esB (l.map EL.e) (m.map EL.e) = false) := Hid.mk' (esB_at hlt hlt2)
      have HBR : Hid (evB l[k].e m[k].e = true → ∀ j (h1 : j < l.length) (h2 : j < m.length), j < k + 1 → evB l[j].e m[j].e = true) := Hid.mk' (fun h j h1 h2 hj => by
        by_cases e : j = k
        · subst e; exact h
        · exact hrel.out j h1 h2 (by omega))
      obtain ⟨x, hxx⟩ : ∃ x, x = l[k] := ⟨_, rfl⟩
      obtain ⟨y, hyy⟩ : ∃ y, y = m[k] := ⟨_, rfl⟩
      rw [← hxx] at f0 f1 f2 f3 f4 f5 f6 f7 HC HBT HBR
      rw [← hyy] at p0 p1 p2 p3 p4 p5 p6 p7 HC HBT HBR
      have HLT := Hid.mk' hlt
      clear hxx hyy hx1 hx2 hrel
      obtain ⟨⟨k1, ao1, av1, old1, lb1, la1, r1, fl1⟩, ba1, bc1, aa1, ac1, ra1, rc1⟩ := x
      obtain ⟨⟨k2, ao2, av2, old2, lb2, la2, r2, fl2⟩, ba2, bc2, aa2, ac2, ra2, rc2⟩ := y
      unfold EL.agg at HC
      simp only at f0 f1 f2 f3 f4 f5 f6 f7 p0 p1 p2 p3 p4 p5 p6 p7 HC HBT HBR
      obtain ⟨B, hB⟩ : ∃ B, B = evB ⟨k1, ao1, av1, old1, lb1, la1, r1, fl1⟩ ⟨k2, ao2, av2, old2, lb2, la2, r2, fl2⟩ := ⟨_, rfl⟩
      rw [← hB] at HC HBT HBR
      clear hB
      cases B with
      | true =>
        go_wp2_with (go_at_call 26; refine (HC.out _ (hE.out.trans (by (repeat (with_reducible (first | exact Ext.refl _ | assumption | exact held_left (by assumption) | apply Ext.drewN | apply Ext.drew | apply Ext.alloc | (refine Ext.setCell ?_ (by first | (simp; done) | (simp; omega) | omega) _) | (refine Ext.trans ?_ (by assumption)) | (refine Ext.trans ?_ (held_left (by assumption))))))))).mono ?_; rintro e w1 ⟨rfl, hb3⟩)
        go_roundw
        case rel => exact ⟨k + 1, by omega, by go_num, Hid.mk' (HBR.out (by first | exact rfl | exact trivial)), Hid.mk' (hE.out.trans (by (repeat (with_reducible (first | exact Ext.refl _ | assumption | exact held_left (by assumption) | apply Ext.drewN | apply Ext.drew | apply Ext.alloc | (refine Ext.setCell ?_ (by first | (simp; done) | (simp; omega) | omega) _) | (refine Ext.trans ?_ (by assumption)) | (refine Ext.trans ?_ (held_left (by assumption))))))))⟩
        case measure => simp [intOf]; omega
      | false =>
        go_wp2_with (go_at_call 26; refine (HC.out _ (hE.out.trans (by (repeat (with_reducible (first | exact Ext.refl _ | assumption | exact held_left (by assumption) | apply Ext.drewN | apply Ext.drew | apply Ext.alloc | (refine Ext.setCell ?_ (by first | (simp; done) | (simp; omega) | omega) _) | (refine Ext.trans ?_ (by assumption)) | (refine Ext.trans ?_ (held_left (by assumption))))))))).mono ?_; rintro e w1 ⟨rfl, hb3⟩)
        go_ret
        exact ⟨ret_bool (HBT.out (by first | exact rfl | exact trivial)).symm, hE.out.trans (by (repeat (with_reducible (first | exact Ext.refl _ | assumption | exact held_left (by assumption) | apply Ext.drewN | apply Ext.drew | apply Ext.alloc | (refine Ext.setCell ?_ (by first | (simp; done) | (simp; omega) | omega) _) | (refine Ext.trans ?_ (by assumption)) | (refine Ext.trans ?_ (held_left (by assumption)))))))⟩
    · have hkk : k = l.length := by omega
      have HR := Hid.mk' (esB_all HN.out (fun i h1 h2 => hrel.out i h1 h2 (by omega)))
      subst hkk
      go_wp2
      go_ret
      exact ⟨ret_bool HR.out.symm, hE.out⟩

set_option maxRecDepth 100000 in set_option maxHeartbeats 4000000 in
theorem txalike_any (p q : TL) (w : World) (hp : p.at 5 K.pc w) (hq : q.at 5 K.pc w) (hn : p.es.length ≤ 1000) (h1 : ∀ e ∈ p.es, e.e.small) (h2 : ∀ e ∈ q.es, e.e.small) :
    Calls Tryz.prog 11 #[p.agg, q.agg] w fun e w' => e = .returned (.bool (txB p.t q.t)) ∧ Ext w w' := by
  obtain ⟨x1, s1, e1, t1, c1⟩ := p
  obtain ⟨x2, s2, e2, t2, c2⟩ := q
  have HC := Hid.mk' (fun W (h : Ext w W) => eqevs_any e1 e2 t1 t2 c1 c2 W (TL.at.ext hp h) (TL.at.ext hq h) hn h1 h2)
  unfold TL.agg TL.t
  simp only
  rw [txB_eq]
  obtain ⟨B, hB⟩ : ∃ B, B = esB (e1.map EL.e) (e2.map EL.e) := ⟨_, rfl⟩
  rw [← hB] at HC ⊢
  clear hB hp hq h1 h2
  by_cases hx : x1 = x2
  case neg =>
    have hx' : (x1 == x2) = false := by simpa using hx
    have HR := Hid.mk' (show (decide (x1 = x2) && decide (s1 = s2) && B) = false by rw [decide_eq_false hx]; rfl)
    rw [HR.out]
    clear hx HR
    go_enter Tryz.func11, Tryz.ntmps11
    go_wp2
    go_ret
    exact ⟨rfl, by (repeat (with_reducible (first | exact Ext.refl _ | assumption | exact held_left (by assumption) | apply Ext.drewN | apply Ext.drew | apply Ext.alloc | (refine Ext.setCell ?_ (by first | (simp; done) | (simp; omega) | omega) _) | (refine Ext.trans ?_ (by assumption)) | (refine Ext.trans ?_ (held_left (by assumption))))))⟩
  subst hx
  by_cases hs : s1 = s2
  case neg =>
    have hs' : (s1 == s2) = false := by simpa using hs
    have HR := Hid.mk' (show (decide (x1 = x1) && decide (s1 = s2) && B) = false by rw [decide_eq_false hs]; simp)
    rw [HR.out]
    clear hs HR
    go_enter Tryz.func11, Tryz.ntmps11
    go_wp2
    go_ret
    exact ⟨rfl, by (repeat (with_reducible (first | exact Ext.refl _ | assumption | exact held_left (by assumption) | apply Ext.drewN | apply Ext.drew | apply Ext.alloc | (refine Ext.setCell ?_ (by first | (simp; done) | (simp; omega) | omega) _) | (refine Ext.trans ?_ (by assumption)) | (refine Ext.trans ?_ (held_left (by assumption))))))⟩
  subst hs
  rw [decide_eq_true rfl, decide_eq_true rfl, Bool.true_and, Bool.true_and]
  go_enter Tryz.func11, Tryz.ntmps11
  go_wp2_with (go_at_call 25; refine (HC.out _ (by (repeat (with_reducible (first | exact Ext.refl _ | assumption | exact held_left (by assumption) | apply Ext.drewN | apply Ext.drew | apply Ext.alloc | (refine Ext.setCell ?_ (by first | (simp; done) | (simp; omega) | omega) _) | (refine Ext.trans ?_ (by assumption)) | (refine Ext.trans ?_ (held_left (by assumption)))))))).mono ?_; rintro e w1 ⟨rfl, hb1⟩)
  go_ret
  exact ⟨rfl, by (repeat (with_reducible (first | exact Ext.refl _ | assumption | exact held_left (by assumption) | apply Ext.drewN | apply Ext.drew | apply Ext.alloc | (refine Ext.setCell ?_ (by first | (simp; done) | (simp; omega) | omega) _) | (refine Ext.trans ?_ (by assumption)) | (refine Ext.trans ?_ (held_left (by assumption))))))⟩

set_option maxRecDepth 100000 in set_option maxHeartbeats 4000000 in
theorem rsametx_any (p q : TL) (w : World) (hp : p.at 6 K.rc w) (hq : q.at 6 K.rc w) (hn : p.es.length ≤ 1000) (h1 : ∀ e ∈ p.es, e.e.small) (h2 : ∀ e ∈ q.es, e.e.small) :
    Calls Tryz.prog 12 #[p.agg, q.agg] w fun e w' => e = .returned (.bool (txB p.t q.t)) ∧ Ext w w' := by
  obtain ⟨x1, s1, e1, t1, c1⟩ := p
  obtain ⟨x2, s2, e2, t2, c2⟩ := q
  have HL : Hid (ES 6 K.rc w (.slice t1 e1.length c1) e1) := Hid.mk' hp
  have HM : Hid (ES 6 K.rc w (.slice t2 e2.length c2) e2) := Hid.mk' hq
  have HAK := Hid.mk' (fun x (hx : x ∈ e1) y (hy : y ∈ e2) W (h : Ext w W) => esame_any x y W ((hp.sl x hx).ext h) ((hq.sl y hy).ext h) (h1 x hx) (h2 y hy))
  unfold TL.agg TL.t
  simp only at hn ⊢
  rw [txB_eq]
  clear hp hq h1 h2
  by_cases hx : x1 = x2
  case neg =>
    have hx' : (x1 != x2) = true := by simpa using hx
    have HR := Hid.mk' (show (decide (x1 = x2) && decide (s1 = s2) && esB (e1.map EL.e) (e2.map EL.e)) = false by rw [decide_eq_false hx]; rfl)
    rw [HR.out]
    clear hx HR
    go_enter Tryz.func12, Tryz.ntmps12
    go_wp2
    go_ret
    exact ⟨rfl, by (repeat (with_reducible (first | exact Ext.refl _ | assumption | exact held_left (by assumption) | apply Ext.drewN | apply Ext.drew | apply Ext.alloc | (refine Ext.setCell ?_ (by first | (simp; done) | (simp; omega) | omega) _) | (refine Ext.trans ?_ (by assumption)) | (refine Ext.trans ?_ (held_left (by assumption))))))⟩
  subst hx
  by_cases hs : s1 = s2
  case neg =>
    have hs' : (s1 != s2) = true := by simpa using hs
    have HR := Hid.mk' (show (decide (x1 = x1) && decide (s1 = s2) && esB (e1.map EL.e) (e2.map EL.e)) = false by rw [decide_eq_false hs]; simp)
    rw [HR.out]
    clear hs HR
    go_enter Tryz.func12, Tryz.ntmps12
    go_wp2
    go_ret
    exact ⟨rfl, by (repeat (with_reducible (first | exact Ext.refl _ | assumption | exact held_left (by assumption) | apply Ext.drewN | apply Ext.drew | apply Ext.alloc | (refine Ext.setCell ?_ (by first | (simp; done) | (simp; omega) | omega) _) | (refine Ext.trans ?_ (by assumption)) | (refine Ext.trans ?_ (held_left (by assumption))))))⟩
  subst hs
  rw [decide_eq_true rfl, decide_eq_true rfl, Bool.true_and, Bool.true_and]
  by_cases hl : e1.length = e2.length
  case neg =>
    have hl' : (((e1.length : Nat) : Int) != ((e2.length : Nat) : Int)) = true := by simp; omega
    have HR := Hid.mk' (esB_len hl)
    clear hl
    rw [HR.out]
    go_enter Tryz.func12, Tryz.ntmps12
    go_wp2
    go_ret
    exact ⟨rfl, by (repeat (with_reducible (first | exact Ext.refl _ | assumption | exact held_left (by assumption) | apply Ext.drewN | apply Ext.drew | apply Ext.alloc | (refine Ext.setCell ?_ (by first | (simp; done) | (simp; omega) | omega) _) | (refine Ext.trans ?_ (by assumption)) | (refine Ext.trans ?_ (held_left (by assumption))))))⟩
  have hl' : (((e1.length : Nat) : Int) != ((e2.length : Nat) : Int)) = false := by simp; omega
  have HN := Hid.mk' hl
  clear hl
  go_enter Tryz.func12, Tryz.ntmps12
  go_wp2
  go_loopw [5] (fun i wr => ∃ k : Nat, k ≤ e1.length ∧ i = .int .i64 k ∧ Hid (∀ j (h1 : j < e1.length) (h2 : j < e2.length), j < k → evB e1[j].e e2[j].e = true) ∧ Hid (Ext ((w.alloc (.cells #[.int .u32 x1, .int .u64 s1, .slice t1 e1.length c1] 46)).alloc (.cells #[.int .u32 x1, .int .u64 s1, .slice t2 e2.length c2] 46)) wr)) (fun i _ => e1.length - (intOf i).toNat)
  case atStart => exact ⟨0, Nat.zero_le _, rfl, Hid.mk' (fun j _ _ h => by omega), Hid.mk' (Ext.refl _)⟩
  case round =>
    obtain ⟨k, hk, rfl, hrel, hE0⟩ := hrel
    have hV1 := (((Blk.new w #[.int .u32 x1, .int .u64 s1, .slice t1 e1.length c1] 46).alloc (.cells #[.int .u32 x1, .int .u64 s1, .slice t2 e2.length c2] 46))).ext hE0.out
    have hV2 := (Blk.new' (w := w.alloc (.cells #[.int .u32 x1, .int .u64 s1, .slice t1 e1.length c1] 46)) #[.int .u32 x1, .int .u64 s1, .slice t2 e2.length c2] 46 (b := w.heap.size + 1) (by simp)).ext hE0.out
    have hE : Hid (Ext w wr) := Hid.mk' ((((Ext.refl w).alloc _).alloc _).trans hE0.out)
    have gv := hV1.cell
    have zv := hV1.lt
    have gw := hV2.cell
    have zw := hV2.lt
    clear hV1 hV2
    by_cases hlt : k < e1.length
    · have hlt2 : k < e2.length := by have := HN.out; omega
      obtain ⟨b1, o1, rfl, hb1, hx1⟩ := HL.out.row.at_ (i := k) (by simpa using hlt)
      obtain ⟨f0, f1, f2, f3, f4, f5, f6, f7⟩ := EL.at_ hlt hx1 hb1 hE.out
      obtain ⟨b2, o2, rfl, hb2, hx2⟩ := HM.out.row.at_ (i := k) (by simpa using hlt2)
      obtain ⟨p0, p1, p2, p3, p4, p5, p6, p7⟩ := EL.at_ hlt2 hx2 hb2 hE.out
      have hbw : b1 < wr.heap.size := Nat.lt_of_lt_of_le hb1 hE.out.size
      have hbw2 : b2 < wr.heap.size := Nat.lt_of_lt_of_le hb2 hE.out.size
      have HC := Hid.mk' (fun W h => HAK.out _ (List.getElem_mem hlt) _ (List.getElem_mem hlt2) W h)
      have HBT : Hid (evB e1[k].e e2[k].e = false → esB (e1.map EL.e) (e2.map EL.e) = false) := Hid.mk' (esB_at hlt hlt2)
      have HBR : Hid (evB e1[k].e e2[k].e = true → ∀ j (h1 : j < e1.length) (h2 : j < e2.length), j < k + 1 → evB e1[j].e e2[j].e = true) := Hid.mk' (fun h j h1 h2 hj => by
        by_cases e : j = k
        · subst e; exact h
        · exact hrel.out j h1 h2 (by omega))
      obtain ⟨x, hxx⟩ : ∃ x, x = e1[k] := ⟨_, rfl⟩
      obtain ⟨y, hyy⟩ : ∃ y, y = e2[k] := ⟨_, rfl⟩
      rw [← hxx] at f0 f1 f2 f3 f4 f5 f6 f7 HC HBT HBR
      rw [← hyy] at p0 p1 p2 p3 p4 p5 p6 p7 HC HBT HBR
      have HLT := Hid.mk' hlt
      clear hxx hyy hx1 hx2 hrel
      obtain ⟨⟨k1, ao1, av1, old1, lb1, la1, r1, fl1⟩, ba1, bc1, aa1, ac1, ra1, rc1⟩ := x
      obtain ⟨⟨k2, ao2, av2, old2, lb2, la2, r2, fl2⟩, ba2, bc2, aa2, ac2, ra2, rc2⟩ := y
      unfold EL.agg at HC
      simp only at f0 f1 f2 f3 f4 f5 f6 f7 p0 p1 p2 p3 p4 p5 p6 p7 HC HBT HBR
      obtain ⟨B, hB⟩ : ∃ B, B = evB ⟨k1, ao1, av1, old1, lb1, la1, r1, fl1⟩ ⟨k2, ao2, av2, old2, lb2, la2, r2, fl2⟩ := ⟨_, rfl⟩
      rw [← hB] at HC HBT HBR
      clear hB
      cases B with
      | true =>
        go_wp2
        go_region_held3 (fun w' => Ext (wr) w' ∧ (∀ b o, b < (wr).heap.size → w'.cell? ⟨b, o, none⟩ = (wr).cell? ⟨b, o, none⟩) ∧ (∀ b o, b < (wr).heap.size → w'.frozen? ⟨b, o, none⟩ = (wr).frozen? ⟨b, o, none⟩)) ((exact held_of (by (repeat (with_reducible (first | exact Ext.refl _ | assumption | exact held_left (by assumption) | apply Ext.drewN | apply Ext.drew | apply Ext.alloc | (refine Ext.setCell ?_ (by first | (simp; done) | (simp; omega) | omega) _) | (refine Ext.trans ?_ (by assumption)) | (refine Ext.trans ?_ (held_left (by assumption))))))))) ((go_at_call 27; refine (HC.out _ (hE.out.trans (by (repeat (with_reducible (first | exact Ext.refl _ | assumption | exact held_left (by assumption) | apply Ext.drewN | apply Ext.drew | apply Ext.alloc | (refine Ext.setCell ?_ (by first | (simp; done) | (simp; omega) | omega) _) | (refine Ext.trans ?_ (by assumption)) | (refine Ext.trans ?_ (held_left (by assumption))))))))).mono ?_; rintro e w1 ⟨rfl, hb3⟩))
        go_wp2
        go_roundw
        case rel => exact ⟨k + 1, by omega, by go_num, Hid.mk' (HBR.out (by first | exact rfl | exact trivial)), Hid.mk' (hE0.out.trans (by (repeat (with_reducible (first | exact Ext.refl _ | assumption | exact held_left (by assumption) | apply Ext.drewN | apply Ext.drew | apply Ext.alloc | (refine Ext.setCell ?_ (by first | (simp; done) | (simp; omega) | omega) _) | (refine Ext.trans ?_ (by assumption)) | (refine Ext.trans ?_ (held_left (by assumption))))))))⟩
        case measure => simp [intOf]; omega
      | false =>
        go_wp2
        go_region_held3 (fun w' => Ext (wr) w' ∧ (∀ b o, b < (wr).heap.size → w'.cell? ⟨b, o, none⟩ = (wr).cell? ⟨b, o, none⟩) ∧ (∀ b o, b < (wr).heap.size → w'.frozen? ⟨b, o, none⟩ = (wr).frozen? ⟨b, o, none⟩)) ((exact held_of (by (repeat (with_reducible (first | exact Ext.refl _ | assumption | exact held_left (by assumption) | apply Ext.drewN | apply Ext.drew | apply Ext.alloc | (refine Ext.setCell ?_ (by first | (simp; done) | (simp; omega) | omega) _) | (refine Ext.trans ?_ (by assumption)) | (refine Ext.trans ?_ (held_left (by assumption))))))))) ((go_at_call 27; refine (HC.out _ (hE.out.trans (by (repeat (with_reducible (first | exact Ext.refl _ | assumption | exact held_left (by assumption) | apply Ext.drewN | apply Ext.drew | apply Ext.alloc | (refine Ext.setCell ?_ (by first | (simp; done) | (simp; omega) | omega) _) | (refine Ext.trans ?_ (by assumption)) | (refine Ext.trans ?_ (held_left (by assumption))))))))).mono ?_; rintro e w1 ⟨rfl, hb3⟩))
        go_wp2
        go_ret
        exact ⟨ret_bool (HBT.out (by first | exact rfl | exact trivial)).symm, hE.out.trans (by (repeat (with_reducible (first | exact Ext.refl _ | assumption | exact held_left (by assumption) | apply Ext.drewN | apply Ext.drew | apply Ext.alloc | (refine Ext.setCell ?_ (by first | (simp; done) | (simp; omega) | omega) _) | (refine Ext.trans ?_ (by assumption)) | (refine Ext.trans ?_ (held_left (by assumption)))))))⟩
    · have hkk : k = e1.length := by omega
      have HR := Hid.mk' (esB_all HN.out (fun i h1 h2 => hrel.out i h1 h2 (by omega)))
      subst hkk
      go_wp2
      go_ret
      exact ⟨ret_bool HR.out.symm, hE.out⟩

set_option maxRecDepth 100000 in set_option maxHeartbeats 4000000 in
theorem rrighttx_any (t : TL) (ps : List RR) (a : Option Addr) (cap : Nat) (w : World) (ht : t.at 6 K.rc w) (hn : t.es.length ≤ 1000) (hs : ∀ e ∈ t.es, e.e.small) (hwk : ∀ e ∈ t.es, e.e.wk) (hl : RL w (.slice a ps.length cap) ps) (hc : RCat ps) :
    Calls Tryz.prog 10 #[t.agg, .slice a ps.length cap] w fun e w' => e = .returned (.tuple #[.int .i64 (rtP t.t (ps.map RR.r)), .int .i64 (rtE t.t (ps.map RR.r))]) ∧ Ext w w' := by
  have HT := Hid.mk' ht
  have HER := Hid.mk' (fun x (hx : x ∈ t.es) W (h : Ext w W) => reright_any x ps a cap W ((ht.sl x hx).ext h) (hs x hx) (hwk x hx) (hl.ext h) hc)
  clear ht hs hwk hl hc
  obtain ⟨xid, st, es, ta, tc⟩ := t
  unfold TL.agg TL.t
  simp only at HER hn ⊢
  have HT2 : Hid (ES 6 K.rc w (.slice ta es.length tc) es) := HT
  clear HT
  by_cases h0 : xid = 0
  · subst h0
    have HR := Hid.mk' (show rtE ⟨0, st, es.map EL.e⟩ (ps.map RR.r) = 4 ∧ rtP ⟨0, st, es.map EL.e⟩ (ps.map RR.r) = -1 from ⟨if_pos rfl, if_pos rfl⟩)
    go_enter Tryz.func10, Tryz.ntmps10
    go_wp2
    go_ret2
    exact ⟨by rw [HR.out.1, HR.out.2]; rfl, by (repeat (with_reducible (first | exact Ext.refl _ | assumption | exact held_left (by assumption) | apply Ext.drewN | apply Ext.drew | apply Ext.alloc | (refine Ext.setCell ?_ (by first | (simp; done) | (simp; omega) | omega) _) | (refine Ext.trans ?_ (by assumption)) | (refine Ext.trans ?_ (held_left (by assumption))))))⟩
  have h0' : (xid == 0) = false := by simpa using h0
  have H0 := Hid.mk' h0
  clear h0
  by_cases h5 : 512 < es.length
  · have HR := Hid.mk' (show rtE (⟨xid, st, es.map EL.e⟩ : Tx) (ps.map RR.r) = 8 ∧ rtP (⟨xid, st, es.map EL.e⟩ : Tx) (ps.map RR.r) = -1 from ⟨by unfold rtE; rw [if_neg H0.out, if_pos (by simpa using h5)], by unfold rtP; rw [if_neg H0.out, if_pos (by simpa using h5)]⟩)
    go_enter Tryz.func10, Tryz.ntmps10
    go_wp2
    go_ret2
    exact ⟨by rw [HR.out.1, HR.out.2]; rfl, by (repeat (with_reducible (first | exact Ext.refl _ | assumption | exact held_left (by assumption) | apply Ext.drewN | apply Ext.drew | apply Ext.alloc | (refine Ext.setCell ?_ (by first | (simp; done) | (simp; omega) | omega) _) | (refine Ext.trans ?_ (by assumption)) | (refine Ext.trans ?_ (held_left (by assumption))))))⟩
  have HL5 := Hid.mk' (show (⟨xid, st, es.map EL.e⟩ : Tx).es.length ≤ 512 by simp only [List.length_map]; omega)
  go_enter Tryz.func10, Tryz.ntmps10
  go_wp2
  go_loopw [6] (fun i wr => ∃ k : Nat, k ≤ es.length ∧ i = .int .i64 k ∧ Hid (∀ j, j < k → evAt (es.map EL.e) (ps.map RR.r) j = 0) ∧ Hid (Ext (w.alloc (.cells #[.int .u32 xid, .int .u64 st, .slice ta es.length tc] 46)) wr)) (fun i _ => es.length - (intOf i).toNat)
  case atStart => exact ⟨0, Nat.zero_le _, rfl, Hid.mk' (fun j h => by omega), Hid.mk' (Ext.refl _)⟩
  case round =>
    obtain ⟨k, hk, rfl, hz, hE0⟩ := hrel
    have hE : Hid (Ext w wr) := Hid.mk' (((Ext.refl w).alloc _).trans hE0.out)
    have hV := (Blk.new w #[.int .u32 xid, .int .u64 st, .slice ta es.length tc] 46).ext hE0.out
    have gv := hV.cell
    have zv := hV.lt
    clear hV
    by_cases hlt : k < es.length
    · obtain ⟨b, o, rfl, hb, hx⟩ := HT2.out.row.at_ (i := k) (by simpa using hlt)
      obtain ⟨g0, g1, g2, g3, g4, g5, g6, g7⟩ := EL.at_ hlt hx hb hE.out
      have hbw : b < wr.heap.size := Nat.lt_of_lt_of_le hb hE.out.size
      have HEK := Hid.mk' (HER.out _ (List.getElem_mem hlt))
      have HAT := Hid.mk' (evAt_map (l := ps.map RR.r) hlt)
      obtain ⟨x, hxx⟩ : ∃ x, x = es[k] := ⟨_, rfl⟩
      rw [← hxx] at g0 g1 g2 g3 g4 g5 g6 g7 HEK HAT
      have HLT := Hid.mk' hlt
      clear hxx hx
      obtain ⟨⟨k1, ao1, av1, old1, b1, a1, r1, fl1⟩, ba1, bc1, aa1, ac1, ra1, rc1⟩ := x
      unfold EL.agg at HEK
      simp only at g0 g1 g2 g3 g4 g5 g6 g7 HEK HAT
      obtain ⟨E, hEE⟩ : ∃ E, E = evE ⟨k1, ao1, av1, old1, b1, a1, r1, fl1⟩ (ps.map RR.r) := ⟨_, rfl⟩
      rw [← hEE] at HEK HAT
      clear hEE
      by_cases hE1 : E = 0
      · subst hE1
        go_wp2_with (go_at_call 24; refine (HEK.out _ (hE.out.trans (by (repeat (with_reducible (first | exact Ext.refl _ | assumption | exact held_left (by assumption) | apply Ext.drewN | apply Ext.drew | apply Ext.alloc | (refine Ext.setCell ?_ (by first | (simp; done) | (simp; omega) | omega) _) | (refine Ext.trans ?_ (by assumption)) | (refine Ext.trans ?_ (held_left (by assumption))))))))).mono ?_; rintro e w2 ⟨rfl, hb2⟩)
        go_roundw
        case rel => exact ⟨k + 1, by omega, by go_num, Hid.mk' (fun j hj => by
          by_cases e : j = k
          · subst e; exact HAT.out
          · exact hz.out j (by omega)), Hid.mk' (hE0.out.trans (by (repeat (with_reducible (first | exact Ext.refl _ | assumption | exact held_left (by assumption) | apply Ext.drewN | apply Ext.drew | apply Ext.alloc | (refine Ext.setCell ?_ (by first | (simp; done) | (simp; omega) | omega) _) | (refine Ext.trans ?_ (by assumption)) | (refine Ext.trans ?_ (held_left (by assumption))))))))⟩
        case measure => simp [intOf]; omega
      · have hE2 : (E != 0) = true := by simpa using hE1
        have HR := Hid.mk' (rt_bad (t := (⟨xid, st, es.map EL.e⟩ : Tx)) (l := ps.map RR.r) H0.out HL5.out (by simpa using HLT.out) hz.out (by rw [show (⟨xid, st, es.map EL.e⟩ : Tx).es = es.map EL.e from rfl, HAT.out]; exact hE1))
        rw [show (⟨xid, st, es.map EL.e⟩ : Tx).es = es.map EL.e from rfl, HAT.out] at HR
        clear hE1
        go_wp2_with (go_at_call 24; refine (HEK.out _ (hE.out.trans (by (repeat (with_reducible (first | exact Ext.refl _ | assumption | exact held_left (by assumption) | apply Ext.drewN | apply Ext.drew | apply Ext.alloc | (refine Ext.setCell ?_ (by first | (simp; done) | (simp; omega) | omega) _) | (refine Ext.trans ?_ (by assumption)) | (refine Ext.trans ?_ (held_left (by assumption))))))))).mono ?_; rintro e w2 ⟨rfl, hb2⟩)
        go_ret2
        exact ⟨by rw [HR.out.1, HR.out.2]; rfl, hE.out.trans (by (repeat (with_reducible (first | exact Ext.refl _ | assumption | exact held_left (by assumption) | apply Ext.drewN | apply Ext.drew | apply Ext.alloc | (refine Ext.setCell ?_ (by first | (simp; done) | (simp; omega) | omega) _) | (refine Ext.trans ?_ (by assumption)) | (refine Ext.trans ?_ (held_left (by assumption)))))))⟩
    · have HR := Hid.mk' (rt_ok (t := (⟨xid, st, es.map EL.e⟩ : Tx)) (l := ps.map RR.r) H0.out HL5.out (fun j hj => hz.out j (by simp at hj; omega)))
      go_wp2
      go_ret2
      exact ⟨by rw [HR.out.1, HR.out.2]; rfl, hE.out⟩

end Go.Proofs.YthdjinicmnhgpaaGreat


/-
Some refs' relations alone: the reference's Only.
-/
namespace Go.Proofs.YthdjinicmnhgpaaGreat
open Go.RowKit

/-- Those of the first that are of some refs. -/
def flt (rs : List Rf) (ps : List RR) : List RR := ps.filter (fun p => ofRefs rs p.r)
theorem flt_r (rs : List Rf) (ps : List RR) : (flt rs ps).map RR.r = (ps.map RR.r).filter (ofRefs rs) := by
  unfold flt
  rw [List.filter_map]; rfl
theorem flt_yes {rs : List Rf} {ps : List RR} {i : Nat} (hi : i < ps.length) (h : ofRefs rs ps[i].r = true) : flt rs (ps.take (i + 1)) = flt rs (ps.take i) ++ [ps[i]] := by
  unfold flt
  rw [List.take_succ_eq_append_getElem hi, List.filter_append]
  simp [h]
theorem flt_no {rs : List Rf} {ps : List RR} {i : Nat} (hi : i < ps.length) (h : ofRefs rs ps[i].r = false) : flt rs (ps.take (i + 1)) = flt rs (ps.take i) := by
  unfold flt
  rw [List.take_succ_eq_append_getElem hi, List.filter_append]
  simp [h]
theorem flt_len (rs : List Rf) (ps : List RR) : (flt rs ps).length ≤ ps.length := List.length_filter_le _ _
theorem flt_mem {rs : List Rf} {ps : List RR} {p : RR} (h : p ∈ flt rs ps) : p ∈ ps := (List.mem_filter.1 h).1
theorem ofRefs_hit {rs : List Rf} {k : Nat} (hk : k < rs.length) {r : Rl} (h : isR rs[k].o rs[k].v r = true) : ofRefs rs r = true := List.any_eq_true.2 ⟨_, List.getElem_mem hk, h⟩
theorem ofRefs_miss {rs : List Rf} {r : Rl} (h : ∀ j (hj : j < rs.length), isR rs[j].o rs[j].v r = false) : ofRefs rs r = false := by
  unfold ofRefs
  rw [List.any_eq_false]
  intro x hx
  obtain ⟨j, hj, rfl⟩ := List.getElem_of_mem hx
  rw [h j hj]; simp
theorem rget_yes {ps : List RR} {a : Option Addr} {cap : Nat} {o v : Int} {w : World} (hl : RL w (.slice a ps.length cap) ps) (hlen : ps.length ≤ 1000) (h : hasR o v (ps.map RR.r) = true) :
    Calls Tryz.prog 35 #[.slice a ps.length cap, .agg #[.int .u32 o, .int .u32 v]] w fun e w' => ∃ cs : Array Value, e = .returned (.tuple #[.agg cs, .bool true]) ∧ (∃ p ∈ ps, cs = #[.int .u32 p.r.oid, .int .u32 p.r.ver, .string p.r.nm, .int .u8 p.r.id, .slice p.a p.r.cols.length p.c] ∧ getR o v (ps.map RR.r) = some p.r) ∧ Ext w w' := by
  refine (rget_any ps a cap o v w hl hlen).mono fun e w' hq => ?_
  obtain ⟨h1, h2⟩ := hq
  have h3 := getP_is o v ps
  rw [h] at h3
  obtain ⟨p, hp⟩ := Option.isSome_iff_exists.1 h3
  refine ⟨#[.int .u32 p.r.oid, .int .u32 p.r.ver, .string p.r.nm, .int .u8 p.r.id, .slice p.a p.r.cols.length p.c], ?_, ⟨p, (getP_some hp).1, rfl, by rw [← getP_map, hp]; rfl⟩, h2⟩
  rw [h1, hp]; rfl
theorem rget_no {ps : List RR} {a : Option Addr} {cap : Nat} {o v : Int} {w : World} (hl : RL w (.slice a ps.length cap) ps) (hlen : ps.length ≤ 1000) (h : hasR o v (ps.map RR.r) = false) :
    Calls Tryz.prog 35 #[.slice a ps.length cap, .agg #[.int .u32 o, .int .u32 v]] w fun e w' => e = .returned (.tuple #[.agg #[.int .u32 0, .int .u32 0, .string ⟨#[]⟩, .int .u8 0, .slice none 0 0], .bool false]) ∧ Ext w w' := by
  refine (rget_any ps a cap o v w hl hlen).mono fun e w' hq => ?_
  obtain ⟨h1, h2⟩ := hq
  have h3 := getP_is o v ps
  rw [h] at h3
  have hg : getP o v ps = none := Option.not_isSome_iff_eq_none.1 (by rw [h3]; simp)
  exact ⟨by rw [h1, hg]; rfl, h2⟩

def ROnlyPost (ps : List RR) (rs : List Rf) (e : Ending) (w' : World) : Prop :=
  ∃ a' n c', e = .returned (.tuple #[.slice a' n c', .int .i64 (onlyE rs (ps.map RR.r))]) ∧ (onlyE rs (ps.map RR.r) = 0 → n = (flt rs ps).length ∧ RL w' (.slice a' n c') (flt rs ps))

end Go.Proofs.YthdjinicmnhgpaaGreat

/-
The walk of EventTxs.
-/
namespace Go.Proofs.YthdjinicmnhgpaaGreat
open Go.RowKit

theorem OwnT.wk {W : World} {N : Nat} {v : Value} {ts qs : List TL} (ho : OwnT W N (ts.map TL.t) v qs) (h2 : ∀ t ∈ ts, ∀ e ∈ t.es, e.e.wk) : ∀ t ∈ qs, ∀ e ∈ t.es, e.e.wk := by
  intro t ht e he
  have h4 : t.t ∈ ts.map TL.t := by rw [← ho.t]; exact List.mem_map_of_mem ht
  obtain ⟨t2, h5, h6⟩ := List.mem_map.1 h4
  have h7 : e.e ∈ t2.es.map EL.e := by rw [show t2.es.map EL.e = t.es.map EL.e from congrArg Tx.es h6]; exact List.mem_map_of_mem he
  obtain ⟨e2, h8, h9⟩ := List.mem_map.1 h7
  rw [← h9]; exact h2 t2 h5 e2 h8
theorem TL.at0 {w wr : World} {b o : Nat} {l : List TL} (hk : 0 < l.length) (hc : ∀ j, j < 3 → w.cell? ⟨b, o + 0 * 3 + j, none⟩ = ((l.map TL.vals).getD 0 [])[j]?) (hb : b < w.heap.size) (hE : Ext w wr) :
    wr.cell? ⟨b, o, none⟩ = some (.int .u32 l[0].xid) ∧ wr.cell? ⟨b, o + 1, none⟩ = some (.int .u64 l[0].st) ∧ wr.cell? ⟨b, o + 2, none⟩ = some (.slice l[0].a l[0].es.length l[0].c) := by
  have h := TL.at_ hk hc hb hE
  simpa only [Nat.zero_mul, Nat.add_zero] using h
theorem map_at {l m : List TL} (h : l.map TL.t = m.map TL.t) {k : Nat} (h1 : k < l.length) (h2 : k < m.length) : l[k].t = m[k].t := by
  have h3 := congrArg (fun z => z[k]?) h
  simpa [h1, h2] using h3

set_option maxRecDepth 100000 in set_option maxHeartbeats 8000000 in
theorem eventtxs_law (ps : List RR) (a : Option Addr) (cap : Nat) (ts : List TL) (ta : Option Addr) (tc : Nat) (w : World) (hl : RL w (.slice a ps.length cap) ps) (hb : ∀ p ∈ ps, p.r.wb) (hlen : ps.length ≤ 9223372036854775807) (ht : TS 6 K.rc w (.slice ta ts.length tc) ts) (hnt : ts.length ≤ 9223372036854775807) (hz : ∀ p ∈ ts, p.sz) :
    Calls Tryz.prog 3 #[.slice a ps.length cap, .slice ta ts.length tc] w fun e w' => e = .returned (.bool true) ∧ Ext w w' := by
  have HB := Hid.mk' hb
  have HL := Hid.mk' hl
  have HT := Hid.mk' ht
  have HZ := Hid.mk' hz
  have HGR := Hid.mk' (fun W (h : Ext w W) => greatT_any ps ts a ta cap tc W (hl.ext h) (ht.ext h) hlen hnt hb hz)
  have HRA := Hid.mk' (fun W (h : Ext w W) => rof_any ps a cap W (hl.ext h) hb hlen)
  unfold ROfPost at HRA
  obtain ⟨EA, hEA⟩ : ∃ E, E = ofE (ps.map RR.r) := ⟨_, rfl⟩
  obtain ⟨NA, hNA⟩ : ∃ E, E = ofPl (ps.map RR.r) := ⟨_, rfl⟩
  rw [← hEA, ← hNA] at HRA
  have HEA := Hid.mk' hEA
  have HNA := Hid.mk' hNA
  clear hl hb ht hz hEA hNA hlen hnt
  by_cases hA : EA = 0
  case neg =>
    have hA1 : (EA != 0) = true := by simpa using hA
    clear hA
    go_enter Tryz.func3, Tryz.ntmps3
    go_upto_region 2 with (go_at_call 4; refine (HRA.out _ (Ext.refl _)).mono ?_; rintro e w1 ⟨aw, cw, n, rfl, -, -, hb1⟩; have HB1 := Hid.mk' hb1; clear hb1)
    go_wp2_with (go_at_call 5; refine (HGR.out _ HB1.out).mono ?_; rintro e w2 ⟨g, rfl, -, hb2⟩; have HB2 := Hid.mk' (HB1.out.trans hb2); clear hb2; cases g)
    all_goals
      go_ret
      exact ⟨rfl, HB2.out⟩
  subst hA
  go_enter Tryz.func3, Tryz.ntmps3
  go_upto_region 2 with (go_at_call 4; refine (HRA.out _ (Ext.refl _)).mono ?_; rintro e w1 ⟨aw, cw, n, rfl, h1, -, hb1⟩; have HW := Hid.mk' h1; have HB1 := Hid.mk' hb1; clear h1 hb1)
  go_upto_region 4 with (go_at_call 5; refine (HGR.out _ HB1.out).mono ?_; rintro e w2 ⟨g, rfl, hg, hb2⟩; have HG := Hid.mk' hg; have HX2 := Hid.mk' hb2; have HB2 := Hid.mk' (HB1.out.trans hb2); clear hb2 hg; cases g)
  all_goals try (go_ret; exact ⟨rfl, HB2.out⟩)
  have HLT := Hid.mk' (HG.out (by first | exact rfl | exact trivial))
  have HLA := Hid.mk' (HLT.out.ok)
  have hn70 : ps.length ≤ 1000 := by have := HLT.out.n; omega
  have HOA := Hid.mk' (fun W (h : Ext w W) => own9_any ps a cap W (HL.out.ext h) hn70 HB.out)
  clear HG HGR HRA
  go_upto_region 7 with (first
    | (go_at_call 7; refine (HOA.out _ HB2.out).mono ?_; rintro e w3 ⟨a2', c2', qs2, rfl, ho2, hb2⟩; have HB3 := Hid.mk' (HB2.out.trans hb2); have HX3 := Hid.mk' (HX2.out.trans hb2); have HOF := Hid.mk' (cof_any qs2 a2' c2' w3 (by rw [ho2.len]; exact ho2.rl) ho2.cap (ho2.wb HB.out) (by rw [ho2.len]; exact hn70)); rw [ho2.rs, ho2.len] at HOF; unfold COfPost at HOF; rw [← HEA.out, ← HNA.out] at HOF; clear ho2 hb2)
    | (go_at_call 6; refine HOF.out.mono ?_; rintro e w4 ⟨pv, rfl, h1, -, hb3⟩; obtain ⟨rfl, cc, qc, hcc, hqc⟩ := h1 (by first | exact rfl | exact trivial); have HCC := Hid.mk' hcc; have HQC := Hid.mk' hqc; have HB4 := Hid.mk' (HB3.out.trans hb3); have HX4 := Hid.mk' (HX3.out.trans hb3); clear h1 hcc hqc hb3))
  have HTX := Hid.mk' (fun W (h : Ext w W) => txs_any ts ta tc W (HT.out.ext h) HLA.out.1 HLA.out.2.1 HLA.out.2.2.1)
  clear HOF HOA HX2 HX3 HB2 hn70
  go_upto_region 8 with (go_at_call 8; refine (HTX.out _ HB4.out).mono ?_; rintro e w5 ⟨a5, c5, qs, rfl, ho5, hb5⟩; have HO5 := Hid.mk' ho5; have HY5 := Hid.mk' hb5; have HB5 := Hid.mk' (HB4.out.trans hb5); have HX5 := Hid.mk' (HX4.out.trans hb5); clear ho5 hb5)
  have HWK : Hid (∀ t ∈ ts, ∀ e ∈ t.es, e.e.wk) := Hid.mk' (fun t ht e he => by have h := (HZ.out t ht).e e he; exact ⟨h.sb, h.sa, h.old.1⟩)
  have HSM5 := Hid.mk' (HO5.out.sm HLA.out.2.1 HLA.out.2.2.1)
  have HWK5 := Hid.mk' (HO5.out.wk HWK.out)
  have HQS : Hid (TS 5 K.pc w5 (.slice a5 ts.length c5) qs) := Hid.mk' HO5.out.ts
  have hql : qs.length = ts.length := by have h := HO5.out.len; rwa [List.length_map] at h
  have HQL := Hid.mk' hql
  have HQT := Hid.mk' HO5.out.t
  have hlt60 : ts.length ≤ 60 := HLT.out.t
  have HUD := Hid.mk' (fun W (h : Ext w5 W) => usedo_any HO5.out HLA.out.1 HLA.out.2.1 HLA.out.2.2.1 h)
  have HRU := Hid.mk' (fun W (h : Ext w W) => rused_any ts ta tc W (HT.out.ext h) HLA.out.1 HLA.out.2.1 HLA.out.2.2.2)
  have HXL : Hid ((usedL (ts.map TL.t)).length ≤ 1000000000) := Hid.mk' (usedL_le HLA.out.1 HLA.out.2.1 HLA.out.2.2.2)
  have HUW : Hid (n = (upP ps ps.length).length ∧ RL w5 (.slice aw n cw) (upP ps ps.length)) := Hid.mk' (by have h := HW.out (by first | exact rfl | exact trivial); exact ⟨h.1, h.2.ext HX5.out⟩)
  obtain ⟨U, hU⟩ : ∃ U, U = upP ps ps.length := ⟨_, rfl⟩
  have hUr : U.map RR.r = qc.map RR.r := by rw [hU, upP_r, HQC.out, List.length_map]
  have hUb : ∀ p ∈ U, p.r.wb := fun p hp => HB.out p (upP_mem (by rw [← hU]; exact hp))
  rw [← hU] at HUW
  obtain ⟨hn, hrl⟩ := HUW.out
  subst hn
  have HRP := Hid.mk' (fun x (hx : x ∈ qs) W (h : Ext w5 W) => txright_any x _ _ cc qc W ((HQS.out.sl x hx).ext h) (HSM5.out.1 x hx) (HSM5.out.2 x hx) (HWK5.out x hx) ((HCC.out.ext HY5.out).ext h))
  have HRR := Hid.mk' (fun x (hx : x ∈ ts) W (h : Ext w5 W) => rrighttx_any x U aw cw W ((HT.out.sl x hx).ext (HB5.out.trans h)) (HLA.out.2.1 x hx) (HLA.out.2.2.1 x hx) (HWK.out x hx) (hrl.ext h) ⟨by rw [hUr]; exact HCC.out.ok, hUb⟩)
  rw [hUr] at HRR
  have HAL := Hid.mk' (fun x (hx : x ∈ qs) y (hy : y ∈ qs) W (h : Ext w5 W) => txalike_any x y W ((HQS.out.sl x hx).ext h) ((HQS.out.sl y hy).ext h) (HSM5.out.1 x hx) (HSM5.out.2 x hx) (HSM5.out.2 y hy))
  have HSA := Hid.mk' (fun x (hx : x ∈ ts) y (hy : y ∈ ts) W (h : Ext w5 W) => rsametx_any x y W ((HT.out.sl x hx).ext (HB5.out.trans h)) ((HT.out.sl y hy).ext (HB5.out.trans h)) (HLA.out.2.1 x hx) (HLA.out.2.2.1 x hx) (HLA.out.2.2.1 y hy))
  obtain ⟨LC, hLC⟩ : ∃ LC, LC = qc.map RR.r := ⟨_, rfl⟩
  rw [← hLC] at HRP HRR
  obtain ⟨X2, hX2⟩ : ∃ X2, X2 = w3.heap.size := ⟨_, rfl⟩
  rw [← hX2] at HRP ⊢
  clear hU hUr hUb hrl HUW HCC HQC HW HLT HB HL HX4 HX5 HY5 HB1 HB3 HB4 HTX HEA HNA hLC hX2 HO5 HZ hql HSM5 HWK5 HWK HLA
  go_wp2
  go_loopg [12] ts.length (fun z i wr => ∃ k : Nat, z + k = ts.length ∧ i = .int .i64 k ∧ Hid (Ext w5 wr))
  case atStart => exact ⟨0, by omega, rfl, Hid.mk' (Ext.refl _)⟩
  case round =>
    obtain ⟨k, hzk, rfl, hE⟩ := hrel
    by_cases hlt : k < ts.length
    · have hlq : k < qs.length := by have := HQL.out; omega
      have h0t : 0 < ts.length := by omega
      have h0q : 0 < qs.length := by omega
      obtain ⟨b1, o1, rfl, hb1, hx1⟩ := HQS.out.row.at_ (i := k) (by simpa using hlq)
      obtain ⟨b2, o2, he2, hb2, hx2⟩ := HQS.out.row.at_ (i := 0) (by simpa using h0q)
      simp only [Option.some.injEq, Addr.mk.injEq] at he2
      obtain ⟨rfl, rfl, -⟩ := he2
      obtain ⟨b3, o3, rfl, hb3, hx3⟩ := HT.out.row.at_ (i := k) (by simpa using hlt)
      obtain ⟨b4, o4, he4, hb4, hx4⟩ := HT.out.row.at_ (i := 0) (by simpa using h0t)
      simp only [Option.some.injEq, Addr.mk.injEq] at he4
      obtain ⟨rfl, rfl, -⟩ := he4
      have HF1 := Hid.mk' (fun W (h : Ext w5 W) => TL.at_ hlq hx1 hb1 h)
      have HF2 := Hid.mk' (fun W (h : Ext w5 W) => TL.at0 h0q hx2 hb2 h)
      have HF3 := Hid.mk' (fun W (h : Ext w5 W) => TL.at_ hlt hx3 hb3 (HB5.out.trans h))
      have HF4 := Hid.mk' (fun W (h : Ext w5 W) => TL.at0 h0t hx4 hb4 (HB5.out.trans h))
      have HZ1 := Hid.mk' (fun W (h : Ext w5 W) => Nat.lt_of_lt_of_le hb1 h.size)
      have HZ3 := Hid.mk' (fun W (h : Ext w5 W) => Nat.lt_of_lt_of_le hb3 (HB5.out.trans h).size)
      have HPK := Hid.mk' (HRP.out _ (List.getElem_mem hlq))
      have HRK := Hid.mk' (HRR.out _ (List.getElem_mem hlt))
      have HAK := Hid.mk' (HAL.out _ (List.getElem_mem hlq) _ (List.getElem_mem h0q))
      have HSK := Hid.mk' (HSA.out _ (List.getElem_mem hlt) _ (List.getElem_mem h0t))
      rw [map_at HQT.out hlq hlt] at HPK HAK
      rw [map_at HQT.out h0q h0t] at HAK
      generalize rtP ts[k].t LC = P at HPK HRK
      generalize rtE ts[k].t LC = E at HPK HRK
      generalize txB ts[k].t ts[0].t = B at HAK HSK
      obtain ⟨x1, e1⟩ : ∃ x, x = qs[k] := ⟨_, rfl⟩
      obtain ⟨x2, e2⟩ : ∃ x, x = qs[0] := ⟨_, rfl⟩
      obtain ⟨x3, e3⟩ : ∃ x, x = ts[k] := ⟨_, rfl⟩
      obtain ⟨x4, e4⟩ : ∃ x, x = ts[0] := ⟨_, rfl⟩
      rw [← e1] at HF1 HPK HAK
      rw [← e2] at HF2 HAK
      rw [← e3] at HF3 HRK HSK
      rw [← e4] at HF4 HSK
      clear e1 e2 e3 e4 hx1 hx2 hx3 hx4 hb1 hb2 hb3 hb4 hlq h0q
      obtain ⟨xi1, xs1, xe1, xa1, xc1⟩ := x1
      obtain ⟨xi2, xs2, xe2, xa2, xc2⟩ := x2
      obtain ⟨xi3, xs3, xe3, xa3, xc3⟩ := x3
      obtain ⟨xi4, xs4, xe4, xa4, xc4⟩ := x4
      unfold TL.agg at HPK HRK HAK HSK
      simp only at HF1 HF2 HF3 HF4 HPK HRK HAK HSK
      have HLT := Hid.mk' hlt
      have hd1 : decide (ts.length ≤ k) = false := decide_eq_false (by omega)
      have hd2 : decide ((ts.length : Int) ≤ (k : Int)) = false := decide_eq_false (by omega)
      have hd3 : decide (ts.length ≤ 0) = false := decide_eq_false (by omega)
      have hd4 : decide ((ts.length : Int) ≤ 0) = false := decide_eq_false (by omega)
      have i0 : (0 : Int) < (ts.length : Int) := by omega
      have i1 : (k : Int) < (ts.length : Int) := by omega
      obtain ⟨f0, f1, f2⟩ := HF1.out wr hE.out
      have hbw := HZ1.out wr hE.out
      go_upto_region 12 with (go_at_call 9; refine (HPK.out _ hE.out).mono ?_; rintro e w6 ⟨rfl, hb6⟩; have HE6 := Hid.mk' (hE.out.trans hb6); clear hb6)
      clear f0 f1 f2 hbw
      obtain ⟨f0, f1, f2⟩ := HF3.out _ HE6.out
      have hbw := HZ3.out _ HE6.out
      go_upto_region 13 with (go_at_call 10; refine (HRK.out _ HE6.out).mono ?_; rintro e w7 ⟨rfl, hb7⟩; have HE7 := Hid.mk' (HE6.out.trans hb7); clear hb7)
      clear f0 f1 f2 hbw
      obtain ⟨f0, f1, f2⟩ := HF1.out _ HE7.out
      obtain ⟨g0, g1, g2⟩ := HF2.out _ HE7.out
      obtain ⟨p0, p1, p2⟩ := HF3.out _ HE7.out
      obtain ⟨s0, s1, s2⟩ := HF4.out _ HE7.out
      have hbw := HZ1.out _ HE7.out
      have hbw3 := HZ3.out _ HE7.out
      go_region_held3 (fun w' => Ext (w7) w' ∧ (∀ b o, b < (w7).heap.size → w'.cell? ⟨b, o, none⟩ = (w7).cell? ⟨b, o, none⟩) ∧ (∀ b o, b < (w7).heap.size → w'.frozen? ⟨b, o, none⟩ = (w7).frozen? ⟨b, o, none⟩)) ((exact held_of (by (repeat (with_reducible (first | exact Ext.refl _ | assumption | exact held_left (by assumption) | apply Ext.drewN | apply Ext.drew | apply Ext.alloc | (refine Ext.setCell ?_ (by first | (simp; done) | (simp; omega) | omega) _) | (refine Ext.trans ?_ (by assumption)) | (refine Ext.trans ?_ (held_left (by assumption))))))))) (first
        | (go_at_call 11; refine (HAK.out _ (by have := HE7.out; (repeat (with_reducible (first | exact Ext.refl _ | assumption | exact held_left (by assumption) | apply Ext.drewN | apply Ext.drew | apply Ext.alloc | (refine Ext.setCell ?_ (by first | (simp; done) | (simp; omega) | omega) _) | (refine Ext.trans ?_ (by assumption)) | (refine Ext.trans ?_ (held_left (by assumption)))))))).mono ?_; rintro e w8 ⟨rfl, hb8⟩)
        | (go_at_call 12; refine (HSK.out _ (by have := HE7.out; (repeat (with_reducible (first | exact Ext.refl _ | assumption | exact held_left (by assumption) | apply Ext.drewN | apply Ext.drew | apply Ext.alloc | (refine Ext.setCell ?_ (by first | (simp; done) | (simp; omega) | omega) _) | (refine Ext.trans ?_ (by assumption)) | (refine Ext.trans ?_ (held_left (by assumption)))))))).mono ?_; rintro e w9 ⟨rfl, hb9⟩))
      go_wp2
      go_roundg (ts.length - (k + 1))
      case measure => have := HLT.out; omega
      case rel => exact ⟨k + 1, Nat.sub_add_cancel HLT.out, by go_num, Hid.mk' (HE7.out.trans (by (repeat (with_reducible (first | exact Ext.refl _ | assumption | exact held_left (by assumption) | apply Ext.drewN | apply Ext.drew | apply Ext.alloc | (refine Ext.setCell ?_ (by first | (simp; done) | (simp; omega) | omega) _) | (refine Ext.trans ?_ (by assumption)) | (refine Ext.trans ?_ (held_left (by assumption))))))))⟩
    · obtain rfl : k = ts.length := by omega
      clear HRP HRR HAL HSA
      obtain ⟨A, hA⟩ : ∃ A, A = usedL (ts.map TL.t) := ⟨_, rfl⟩
      rw [← hA] at HUD HRU HXL
      have hla := HXL.out
      clear hA
      go_upto_region 16 with (first
        | (go_at_call 13; refine (HUD.out _ hE.out).mono ?_; rintro e w6 ⟨a6, n6, c6, rfl, rfl, hs6, -, hb6⟩; have HS6 := Hid.mk' hs6; have HE6 := Hid.mk' (HB5.out.trans (hE.out.trans hb6)); clear hs6 hb6)
        | (go_at_call 14; refine (HRU.out _ HE6.out).mono ?_; rintro e w7 ⟨a7, n7, c7, rfl, rfl, hs7, hb7⟩; have HS7 := Hid.mk' hs7; have HSA := Hid.mk' (HS6.out.ext hb7); have HE7 := Hid.mk' (HE6.out.trans hb7); clear hs7 hb7))
      go_wp2
      go_loopg [19] A.length (fun z i wr => ∃ k : Nat, z + k = A.length ∧ i = .int .i64 k ∧ Hid (Ext w7 wr))
      case atStart => exact ⟨0, by omega, rfl, Hid.mk' (Ext.refl _)⟩
      case round =>
        obtain ⟨j, hzj, rfl, hE⟩ := hrel
        by_cases hlt : j < A.length
        · obtain ⟨b, o, rfl, hb, hx⟩ := HSA.out.at_ (i := j) (by simpa using hlt)
          obtain ⟨f0, f1⟩ := Rf.at_ hlt hx hb hE.out
          have hbw : b < wr.heap.size := Nat.lt_of_lt_of_le hb hE.out.size
          obtain ⟨b2, o2, rfl, hb2, hx2⟩ := HS7.out.at_ (i := j) (by simpa using hlt)
          obtain ⟨g0, g1⟩ := Rf.at_ hlt hx2 hb2 hE.out
          have hbw2 : b2 < wr.heap.size := Nat.lt_of_lt_of_le hb2 hE.out.size
          obtain ⟨r, hr⟩ : ∃ r, r = A[j] := ⟨_, rfl⟩
          rw [← hr] at f0 f1 g0 g1
          have HRF := Hid.mk' (fun W => ref9_any r.o r.v W)
          have hNq := fun w => neq_pref r.o r.v r.o r.v w
          rw [show rfB ⟨r.o, r.v⟩ ⟨r.o, r.v⟩ = true from rfB_true.2 rfl] at hNq
          have HLT := Hid.mk' hlt
          have hd1 : decide (A.length ≤ j) = false := decide_eq_false (by omega)
          have hd2 : decide ((A.length : Int) ≤ (j : Int)) = false := decide_eq_false (by omega)
          clear hr hx hx2 hb hb2
          go_wp2
          go_region_held3 (fun w' => Ext (wr) w' ∧ (∀ b o, b < (wr).heap.size → w'.cell? ⟨b, o, none⟩ = (wr).cell? ⟨b, o, none⟩) ∧ (∀ b o, b < (wr).heap.size → w'.frozen? ⟨b, o, none⟩ = (wr).frozen? ⟨b, o, none⟩)) ((exact held_of (by (repeat (with_reducible (first | exact Ext.refl _ | assumption | exact held_left (by assumption) | apply Ext.drewN | apply Ext.drew | apply Ext.alloc | (refine Ext.setCell ?_ (by first | (simp; done) | (simp; omega) | omega) _) | (refine Ext.trans ?_ (by assumption)) | (refine Ext.trans ?_ (held_left (by assumption))))))))) ((go_at_call 15; refine (HRF.out _).mono ?_; rintro e w14 ⟨rfl, hb14⟩))
          go_wp2
          go_roundg (A.length - (j + 1))
          case measure => have := HLT.out; omega
          case rel => exact ⟨j + 1, Nat.sub_add_cancel HLT.out, by go_num, Hid.mk' (hE.out.trans (by (repeat (with_reducible (first | exact Ext.refl _ | assumption | exact held_left (by assumption) | apply Ext.drewN | apply Ext.drew | apply Ext.alloc | (refine Ext.setCell ?_ (by first | (simp; done) | (simp; omega) | omega) _) | (refine Ext.trans ?_ (by assumption)) | (refine Ext.trans ?_ (held_left (by assumption))))))))⟩
        · obtain rfl : j = A.length := by omega
          have HEF := Hid.mk' (HE7.out.trans hE.out)
          go_wp2_with (go_at_call 16; refine (awake13_any _).mono ?_; rintro e wk ⟨rfl, hbk⟩)
          go_ret
          exact ⟨rfl, HEF.out.trans hbk⟩

end Go.Proofs.YthdjinicmnhgpaaGreat
