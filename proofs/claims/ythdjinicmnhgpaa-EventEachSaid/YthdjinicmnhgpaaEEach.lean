/-
The walk of EventEach.
-/
import Derived.Test.YthdjinicmnhgpaaP16
import Derived.Test.YthdjinicmnhgpaaEvTxR
namespace Go.Proofs.Ythdjinicmnhgpaa
open Go.RowKit

set_option maxRecDepth 100000 in set_option maxHeartbeats 4000000 in
theorem awakeOr_any (ps : List RR) (a : Option Addr) (cap : Nat) (w : World) (hl : RL w (.slice a ps.length cap) ps) (hb : ∀ p ∈ ps, p.r.wb) (hn : ps.length ≤ 1000) (hE : ofE (ps.map RR.r) ≠ 0) :
    Calls Try.prog 44 #[.slice a ps.length cap] w fun e w' => e = .returned (.bool true) ∧ Ext w w' := by
  have HOA := Hid.mk' (fun W (h : Ext w W) => own9_any ps a cap W (hl.ext h) hn hb)
  have HB := Hid.mk' hb
  clear hl hb
  obtain ⟨EA, hEA⟩ : ∃ E, E = ofE (ps.map RR.r) := ⟨_, rfl⟩
  rw [← hEA] at hE
  have HEA := Hid.mk' hEA
  have HNE := Hid.mk' hE
  have hA1 : (EA != 0) = true := by simpa using hE
  clear hEA hE
  go_enter Try.func44, Try.ntmps44
  go_wp2_with (first
    | (go_at_call 13; refine (HOA.out _ (Ext.refl _)).mono ?_; rintro e w2 ⟨a2', c2', qs2, rfl, ho2, hb2⟩; have HB2 := Hid.mk' hb2; have HOF := Hid.mk' (cof_any qs2 a2' c2' w2 (by rw [ho2.len]; exact ho2.rl) ho2.cap (ho2.wb HB.out) (by rw [ho2.len]; exact hn)); rw [ho2.rs, ho2.len] at HOF; unfold COfPost at HOF; rw [← HEA.out] at HOF; clear ho2 hb2)
    | (go_at_call 14; refine HOF.out.mono ?_; rintro e w3 ⟨pv, rfl, -, -, hb3⟩; have HB3 := Hid.mk' (HB2.out.trans hb3); clear hb3)
    | (go_at_call 43; refine (awake13_any _).mono ?_; rintro e wk ⟨rfl, hbk⟩))
  go_ret
  exact ⟨rfl, HB3.out.trans hbk⟩

theorem Sl.sub {w : World} {b o n c k : Nat} {xss : List (List Value)} (h : Sl w (.slice (some ⟨b, o, none⟩) n c) k xss) {i : Nat} (hi : i < xss.length) (c' : Nat) : Sl w (.slice (some ⟨b, o + i * k, none⟩) 1 c') k [xss.getD i []] := by
  obtain ⟨b', o', e, hb, hx⟩ := h.at_ hi
  simp only [Option.some.injEq, Addr.mk.injEq] at e
  obtain ⟨rfl, rfl, -⟩ := e
  refine ⟨_, c', rfl, .inr ⟨b, o + i * k, rfl, hb, fun j hj q hq => ?_⟩⟩
  have hj0 : j = 0 := by simp at hj; omega
  subst hj0
  simpa using hx q hq

theorem one_tx {qs : List TL} {t : Tx} (h : qs.map TL.t = [t]) : ∃ q, qs = [q] ∧ q.t = t := by
  match qs, h with
  | [q], h =>
    simp only [List.map_cons, List.map_nil, List.cons.injEq, and_true] at h
    exact ⟨q, rfl, h⟩

set_option maxRecDepth 100000 in set_option maxHeartbeats 8000000 in
theorem eventeach_law (ps : List RR) (a : Option Addr) (cap : Nat) (t : TL) (w : World) (hl : RL w (.slice a ps.length cap) ps) (hb : ∀ p ∈ ps, p.r.wb) (hlen : ps.length ≤ 9223372036854775807) (ht : t.at 6 K.rc w) (hz : t.sz) :
    Calls Try.prog 10 #[.slice a ps.length cap, t.agg] w fun e w' => e = .returned (.bool true) ∧ Ext w w' := by
  obtain ⟨xid, st, es, ta, tc⟩ := t
  have HL := Hid.mk' hl
  have HB := Hid.mk' hb
  have HT := Hid.mk' ht
  have HZ := Hid.mk' hz
  have HS1 : Hid (Sl ((w.alloc (.cells #[.int .u32 xid, .int .u64 st, .slice ta es.length tc] 78)).alloc (.cells #[.int .u32 xid, .int .u64 st, .slice ta es.length tc] 78)) (.slice (some ⟨w.heap.size + 1, 0, none⟩) 1 1) 3 (([(⟨xid, st, es, ta, tc⟩ : TL)] : List TL).map TL.vals)) := Hid.mk' (by
    have h1 := Sl.new (w.alloc (.cells #[.int .u32 xid, .int .u64 st, .slice ta es.length tc] 78)) #[.int .u32 xid, .int .u64 st, .slice ta es.length tc] 78 3 1 1 (([(⟨xid, st, es, ta, tc⟩ : TL)] : List TL).map TL.vals) rfl (by intro xs hxs; simp at hxs; subst hxs; rfl) rfl
    rw [World.size_alloc] at h1
    exact h1)
  have HGR : Hid (Calls Try.prog 33 #[.slice a ps.length cap, .slice (some ⟨w.heap.size + 1, 0, none⟩) 1 1] ((w.alloc (.cells #[.int .u32 xid, .int .u64 st, .slice ta es.length tc] 78)).alloc (.cells #[.int .u32 xid, .int .u64 st, .slice ta es.length tc] 78)) (GreatT ps [(⟨xid, st, es, ta, tc⟩ : TL)] ((w.alloc (.cells #[.int .u32 xid, .int .u64 st, .slice ta es.length tc] 78)).alloc (.cells #[.int .u32 xid, .int .u64 st, .slice ta es.length tc] 78)))) := Hid.mk' (by
    have hE : Ext w ((w.alloc (.cells #[.int .u32 xid, .int .u64 st, .slice ta es.length tc] 78)).alloc (.cells #[.int .u32 xid, .int .u64 st, .slice ta es.length tc] 78)) := by (repeat (with_reducible (first | exact Ext.refl _ | assumption | exact held_left (by assumption) | apply Ext.drewN | apply Ext.drew | apply Ext.alloc | (refine Ext.setCell ?_ (by first | (simp; done) | (simp; omega) | omega) _) | (refine Ext.trans ?_ (by assumption)) | (refine Ext.trans ?_ (held_left (by assumption))))))
    refine greatT_any ps [(⟨xid, st, es, ta, tc⟩ : TL)] a (some ⟨w.heap.size + 1, 0, none⟩) cap 1 ((w.alloc (.cells #[.int .u32 xid, .int .u64 st, .slice ta es.length tc] 78)).alloc (.cells #[.int .u32 xid, .int .u64 st, .slice ta es.length tc] 78)) (hl.ext hE) ⟨HS1.out, fun t' ht' => ?_⟩ hlen (by simp) hb (fun t' ht' => ?_)
    · obtain rfl := List.mem_singleton.1 ht'
      exact TL.at.ext ht hE
    · obtain rfl := List.mem_singleton.1 ht'
      exact hz)
  obtain ⟨EA, hEA⟩ : ∃ E, E = ofE (ps.map RR.r) := ⟨_, rfl⟩
  have HEA := Hid.mk' hEA
  unfold TL.agg
  simp only
  clear hl hb ht hz hEA hlen HS1
  have hlm : es.length ≤ 1500000000000 := HZ.out.n
  go_enter Try.func10, Try.ntmps10
  by_cases h512 : 512 < es.length
  · go_wp2_with (go_at_call 33; refine HGR.out.mono ?_; rintro e w1 ⟨g, rfl, hg, hb1⟩; have HB1 := Hid.mk' (show Ext (w.alloc (.cells #[.int .u32 xid, .int .u64 st, .slice ta es.length tc] 78)) w1 from ((Ext.refl _).alloc _).trans hb1); obtain ⟨hc1, hf1⟩ := HB1.out.cells; have hz1 := HB1.out.size; clear hg hb1; cases g)
    all_goals
      go_ret
      exact ⟨rfl, ((Ext.refl w).alloc _).trans HB1.out⟩
  by_cases hx0 : xid = 0
  · subst hx0
    go_wp2_with (go_at_call 33; refine HGR.out.mono ?_; rintro e w1 ⟨g, rfl, hg, hb1⟩; have HB1 := Hid.mk' (show Ext (w.alloc (.cells #[.int .u32 0, .int .u64 st, .slice ta es.length tc] 78)) w1 from ((Ext.refl _).alloc _).trans hb1); obtain ⟨hc1, hf1⟩ := HB1.out.cells; have hz1 := HB1.out.size; clear hg hb1; cases g)
    all_goals
      go_ret
      exact ⟨rfl, ((Ext.refl w).alloc _).trans HB1.out⟩
  have hx0' : (xid == 0) = false := by simpa using hx0
  have HX0 := Hid.mk' hx0
  clear hx0
  go_upto_region 3 with (go_at_call 33; refine HGR.out.mono ?_; rintro e w1 ⟨g, rfl, hg, hb1⟩; have HG := Hid.mk' hg; have HB1 := Hid.mk' (show Ext (w.alloc (.cells #[.int .u32 xid, .int .u64 st, .slice ta es.length tc] 78)) w1 from ((Ext.refl _).alloc _).trans hb1); obtain ⟨hc1, hf1⟩ := HB1.out.cells; have hz1 := HB1.out.size; clear hg hb1; cases g)
  all_goals try (go_ret; exact ⟨rfl, ((Ext.refl w).alloc _).trans HB1.out⟩)
  have HLT := Hid.mk' (HG.out (by first | exact rfl | exact trivial))
  have HE1 : Hid (Ext w w1) := Hid.mk' (((Ext.refl w).alloc _).trans HB1.out)
  have HV1 : Hid (Blk w1 w.heap.size #[.int .u32 xid, .int .u64 st, .slice ta es.length tc] 78) := Hid.mk' ((Blk.new w #[.int .u32 xid, .int .u64 st, .slice ta es.length tc] 78).ext HB1.out)
  have hn70 : ps.length ≤ 1000 := by have := HLT.out.n; omega
  have HOA := Hid.mk' (fun W (h : Ext w W) => own9_any ps a cap W (HL.out.ext h) hn70 HB.out)
  clear HG HB1 HGR hc1 hf1 hz1
  by_cases hA : EA = 0
  case neg =>
    have HNE := Hid.mk' hA
    have HAO := Hid.mk' (fun W (h : Ext w W) => awakeOr_any ps a cap W (HL.out.ext h) HB.out hn70 (by rw [← HEA.out]; exact HNE.out))
    clear hA
    go_wp2_with (first
      | (go_at_call 13; refine (HOA.out _ HE1.out).mono ?_; rintro e w2 ⟨a2', c2', qs2, rfl, ho2, hb2⟩; have HB2 := Hid.mk' (HE1.out.trans hb2); have HOF := Hid.mk' (cof_any qs2 a2' c2' w2 (by rw [ho2.len]; exact ho2.rl) ho2.cap (ho2.wb HB.out) (by rw [ho2.len]; exact hn70)); rw [ho2.rs, ho2.len] at HOF; unfold COfPost at HOF; rw [← HEA.out] at HOF; clear ho2 hb2)
      | (go_at_call 14; refine HOF.out.mono ?_; rintro e w3 ⟨pv, rfl, -, h1, hb3⟩; obtain rfl := h1 HNE.out; have HB3 := Hid.mk' (HB2.out.trans hb3); clear h1 hb3)
      | (go_at_call 44; refine (HAO.out _ HB3.out).mono ?_; rintro e w4 ⟨rfl, hb4⟩))
    go_ret
    exact ⟨rfl, HB3.out.trans hb4⟩
  subst hA
  go_upto_region 6 with (first
    | (go_at_call 13; refine (HOA.out _ HE1.out).mono ?_; rintro e w2 ⟨a2', c2', qs2, rfl, ho2, hb2⟩; have HB2 := Hid.mk' (HE1.out.trans hb2); have HX2 := Hid.mk' hb2; have HOF := Hid.mk' (cof_any qs2 a2' c2' w2 (by rw [ho2.len]; exact ho2.rl) ho2.cap (ho2.wb HB.out) (by rw [ho2.len]; exact hn70)); rw [ho2.rs, ho2.len] at HOF; unfold COfPost at HOF; rw [← HEA.out] at HOF; clear ho2 hb2)
    | (go_at_call 14; refine HOF.out.mono ?_; rintro e w3 ⟨pv, rfl, h1, -, hb3⟩; obtain ⟨rfl, cc, qc, hcc, hqc⟩ := h1 (by first | exact rfl | exact trivial); have HCC := Hid.mk' hcc; have HB3 := Hid.mk' (HB2.out.trans hb3); have HX3 := Hid.mk' (HX2.out.trans hb3); clear h1 hcc hqc hb3))
  clear HOF HOA HL HEA HX2 HB2
  have HV3 := Hid.mk' (HV1.out.ext HX3.out)
  have gv := HV3.out.cell
  have zv := HV3.out.lt
  have HSM : Hid (∀ e ∈ es, e.e.small ∧ e.e.wk) := Hid.mk' (fun e he => by
    have h := HLT.out.e _ (List.mem_singleton.2 rfl) e he
    have hz := HZ.out.e e he
    exact ⟨⟨by have := h.b; omega, by have := h.a; omega, by have := h.r; omega⟩, ⟨hz.sb, hz.sa, hz.old.1⟩⟩)
  have HTX : Hid (Calls Try.prog 45 #[.slice (some ⟨w3.heap.size, 0, none⟩) 1 1] (w3.alloc (.cells #[.int .u32 xid, .int .u64 st, .slice ta es.length tc] 78)) (fun e w' => ∃ a' c' qs, e = .returned (.slice a' 1 c') ∧ OwnT w' (w3.alloc (.cells #[.int .u32 xid, .int .u64 st, .slice ta es.length tc] 78)).heap.size [(⟨xid, st, es, ta, tc⟩ : TL).t] (.slice a' 1 c') qs ∧ Ext (w3.alloc (.cells #[.int .u32 xid, .int .u64 st, .slice ta es.length tc] 78)) w')) := Hid.mk' (by
    have h1 := Sl.new w3 #[.int .u32 xid, .int .u64 st, .slice ta es.length tc] 78 3 1 1 (([(⟨xid, st, es, ta, tc⟩ : TL)] : List TL).map TL.vals) rfl (by intro xs hxs; simp at hxs; subst hxs; rfl) rfl
    refine txs_any [(⟨xid, st, es, ta, tc⟩ : TL)] (some ⟨w3.heap.size, 0, none⟩) 1 (w3.alloc (.cells #[.int .u32 xid, .int .u64 st, .slice ta es.length tc] 78)) ⟨h1, fun t' ht' => ?_⟩ (by simp) (fun t' ht' => ?_) (fun t' ht' e he => ?_)
    · obtain rfl := List.mem_singleton.1 ht'
      exact TL.at.ext HT.out (HB3.out.alloc _)
    · obtain rfl := List.mem_singleton.1 ht'
      show es.length ≤ 1000
      omega
    · obtain rfl := List.mem_singleton.1 ht'
      exact (HSM.out e he).1)
  go_upto_region 7 with (go_at_call 45; refine HTX.out.mono ?_; rintro e w4 ⟨a', c', qs, rfl, ho, hb4⟩; obtain ⟨⟨qx, qst, qe, qa, qcp⟩, rfl, hqt⟩ := one_tx ho.t; simp only [TL.t, Tx.mk.injEq] at hqt; obtain ⟨rfl, rfl, hqe⟩ := hqt; have HQE := Hid.mk' hqe; obtain ⟨b4, o4, c4, hv4, hbz4, hx4⟩ := Sl.one ho.ts.row; simp only [Value.slice.injEq] at hv4; obtain ⟨rfl, -, rfl⟩ := hv4; have p0 := hx4 0 (by omega); have p1 := hx4 1 (by omega); have p2 := hx4 2 (by omega); simp only [TL.vals, Nat.add_zero, List.getElem?_cons_zero, List.getElem?_cons_succ] at p0 p1 p2; have HES := Hid.mk' (ho.sl _ (List.mem_singleton.2 rfl)); have HCQ := Hid.mk' (show qe.length ≤ qcp from ho.cap _ (List.mem_singleton.2 rfl)); have HB4 := Hid.mk' hb4; clear hqe hx4 ho hb4)
  have HX5 : Hid (Blk (w4.alloc (.cells #[.int .u32 qx, .int .u64 qst, .slice qa qe.length qcp] 102)) w4.heap.size #[.int .u32 qx, .int .u64 qst, .slice qa qe.length qcp] 102) := Hid.mk' (Blk.new _ _ _)
  have HE5 : Hid (Ext w (w4.alloc (.cells #[.int .u32 qx, .int .u64 qst, .slice qa qe.length qcp] 102))) := Hid.mk' ((HB3.out.trans (((Ext.refl _).alloc _).trans HB4.out)).alloc _)
  have HES5 : Hid (TL.at 5 K.pc (w4.alloc (.cells #[.int .u32 qx, .int .u64 qst, .slice qa qe.length qcp] 102)) ⟨qx, qst, qe, qa, qcp⟩) := Hid.mk' (TL.at.ext HES.out ((Ext.refl _).alloc _))
  have HC5 : Hid (Ca (w4.alloc (.cells #[.int .u32 qx, .int .u64 qst, .slice qa qe.length qcp] 102)) w2.heap.size w2.heap.size cc qc) := Hid.mk' (HCC.out.ext ((((Ext.refl _).alloc _).trans HB4.out).alloc _))
  obtain ⟨w5, hw5⟩ : ∃ w5, w5 = w4.alloc (.cells #[.int .u32 qx, .int .u64 qst, .slice qa qe.length qcp] 102) := ⟨_, rfl⟩
  obtain ⟨X, hX⟩ : ∃ X, X = w4.heap.size := ⟨_, rfl⟩
  rw [← hw5] at HX5 HE5 HES5 HC5 ⊢
  rw [← hX] at HX5 ⊢
  clear hw5 hX p0 p1 p2 hbz4 gv zv HCC HES HB4 HB3 HX3 HV1 HV3 HTX
  have HSQ : Hid (∀ e ∈ qe, e.e.small ∧ e.e.wk) := Hid.mk' (fun e he => by
    have h1 : e.e ∈ es.map EL.e := by rw [← HQE.out]; exact List.mem_map_of_mem he
    obtain ⟨e2, h2, h3⟩ := List.mem_map.1 h1
    rw [← h3]; exact HSM.out e2 h2)
  have hql : qe.length = es.length := by have := congrArg List.length HQE.out; simpa using this
  have h5q : qe.length ≤ 512 := by omega
  have HQL := Hid.mk' h5q
  clear hql
  have HTR := Hid.mk' (fun W (h : Ext w5 W) => txright_any ⟨qx, qst, qe, qa, qcp⟩ _ _ cc qc W (TL.at.ext HES5.out h) (show qe.length ≤ 1000 by have := HQL.out; omega) (fun e he => (HSQ.out e he).1) (fun e he => (HSQ.out e he).2) (HC5.out.ext h))
  have HER := Hid.mk' (fun x (hx : x ∈ qe) W (h : Ext w5 W) => eright_any x _ _ cc qc W ((HES5.out.sl x hx).ext h) (HSQ.out x hx).1 (HSQ.out x hx).2 (HC5.out.ext h))
  have HONE := Hid.mk' (fun x (hx : x ∈ qe) b o c W (h : Ext w5 W) (hr : Sl W (.slice (some ⟨b, o, none⟩) 1 c) 8 (([x] : List EL).map EL.vals)) (hz : evE x.e (qc.map RR.r) = 0) =>
    (show Calls Try.prog 46 #[.agg #[.int .u32 1, .int .u64 0, .slice (some ⟨b, o, none⟩) 1 c], .pointer (some ⟨w2.heap.size, 0, none⟩)] W (fun e w' => e = .returned (.tuple #[.int .i64 (-1), .int .i64 0]) ∧ Ext W w') from by
      have h1 := txright_any ⟨1, 0, [x], some ⟨b, o, none⟩, c⟩ _ _ cc qc W ⟨hr, fun e he => by obtain rfl := List.mem_singleton.1 he; exact (HES5.out.sl _ hx).ext h⟩ (by simp) (fun e he => by obtain rfl := List.mem_singleton.1 he; exact (HSQ.out _ hx).1) (fun e he => by obtain rfl := List.mem_singleton.1 he; exact (HSQ.out _ hx).2) (HC5.out.ext h)
      have h2 := rt_ok (t := TL.t ⟨1, 0, [x], some ⟨b, o, none⟩, c⟩) (l := qc.map RR.r) (by show (1 : Int) ≠ 0; decide) (by simp [TL.t]) (fun j hj => by
        have hj0 : j = 0 := by simp [TL.t] at hj; omega
        subst hj0
        exact hz)
      rw [h2.1, h2.2] at h1
      exact h1))
  have HZZ := Hid.mk' (fun h => rt_ok (t := ⟨qx, qst, qe.map EL.e⟩) (l := qc.map RR.r) HX0.out (show (qe.map EL.e).length ≤ 512 by rw [List.length_map]; exact HQL.out) h)
  have HZB := Hid.mk' (fun k h1 h2 h3 => rt_bad (t := ⟨qx, qst, qe.map EL.e⟩) (l := qc.map RR.r) (k := k) HX0.out (show (qe.map EL.e).length ≤ 512 by rw [List.length_map]; exact HQL.out) h1 h2 h3)
  unfold TL.agg TL.t at HTR
  simp only at HTR HZZ HZB
  generalize rtP ⟨qx, qst, qe.map EL.e⟩ (qc.map RR.r) = P at HTR HZZ HZB
  generalize rtE ⟨qx, qst, qe.map EL.e⟩ (qc.map RR.r) = Q at HTR HZZ HZB
  have gx := HX5.out.cell
  have zx := HX5.out.lt
  clear HSM HLT HZ HT HQE HX0 hx0' hlm h512 HSQ HC5
  go_wp2_with (go_at_call 46; refine (HTR.out _ (Ext.refl _)).mono ?_; rintro e w6 ⟨rfl, hb6⟩; have HB6 := Hid.mk' hb6; clear hb6)
  clear gx zx
  go_loopw [11] (fun i wr => ∃ k : Nat, k ≤ qe.length ∧ i = .int .i64 k ∧ Hid (∀ j, j < k → evAt (qe.map EL.e) (qc.map RR.r) j = 0) ∧ Hid (Ext w5 wr)) (fun i _ => qe.length - (intOf i).toNat)
  case atStart => exact ⟨0, Nat.zero_le _, rfl, Hid.mk' (fun j h => by omega), HB6⟩
  case round =>
    obtain ⟨k, hk, rfl, hz, hE⟩ := hrel
    have gx := (HX5.out.ext hE.out).cell
    have zx := (HX5.out.ext hE.out).lt
    by_cases hlt : k < qe.length
    · have HESQ : Hid (ES 5 K.pc w5 (.slice qa qe.length qcp) qe) := HES5
      have HSUB := Hid.mk' (fun b o (e : qa = some ⟨b, o, none⟩) c' => Sl.sub (show Sl w5 (.slice (some ⟨b, o, none⟩) qe.length qcp) 8 (qe.map EL.vals) from by have h := HESQ.out.row; rw [e] at h; exact h) (i := k) (by simpa using hlt) c')
      obtain ⟨b, o, rfl, hb, hx⟩ := HESQ.out.row.at_ (i := k) (by simpa using hlt)
      have hgd : (qe.map EL.vals).getD k [] = EL.vals qe[k] := getD_map EL.vals qe hlt
      have HSB : Hid (∀ c', Sl w5 (.slice (some ⟨b, o + k * 8, none⟩) 1 c') 8 [EL.vals qe[k]]) := Hid.mk' (fun c' => by have h := HSUB.out b o rfl c'; rw [hgd] at h; exact h)
      obtain ⟨g0, g1, g2, g3, g4, g5, g6, g7⟩ := EL.at_ hlt hx hb hE.out
      have hbw : b < wr.heap.size := Nat.lt_of_lt_of_le hb hE.out.size
      have HEK := Hid.mk' (HER.out _ (List.getElem_mem hlt))
      have HON := Hid.mk' (HONE.out _ (List.getElem_mem hlt))
      have HAT := Hid.mk' (evAt_map (l := qc.map RR.r) hlt)
      obtain ⟨x, hxx⟩ : ∃ x, x = qe[k] := ⟨_, rfl⟩
      rw [← hxx] at g0 g1 g2 g3 g4 g5 g6 g7 HEK HAT HON HSB
      have HLT := Hid.mk' hlt
      have hcq := HCQ.out
      have hq5 := HQL.out
      clear hxx hx hgd HSUB HONE HER
      obtain ⟨⟨k1, ao1, av1, old1, b1, a1, r1, fl1⟩, ba1, bc1, aa1, ac1, ra1, rc1⟩ := x
      unfold EL.agg at HEK
      simp only at g0 g1 g2 g3 g4 g5 g6 g7 HEK HAT HON
      obtain ⟨E, hEE⟩ : ∃ E, E = evE ⟨k1, ao1, av1, old1, b1, a1, r1, fl1⟩ (qc.map RR.r) := ⟨_, rfl⟩
      rw [← hEE] at HEK HAT HON
      clear hEE
      by_cases hE0 : E = 0
      · subst hE0
        have HON2 := Hid.mk' (fun W c (h : Ext w5 W) => HON.out b (o + k * 8) c W h ((HSB.out c).ext h) rfl)
        go_upto_region 15 with (go_at_call 37; refine (HEK.out _ (hE.out.trans (by (repeat (with_reducible (first | exact Ext.refl _ | assumption | exact held_left (by assumption) | apply Ext.drewN | apply Ext.drew | apply Ext.alloc | (refine Ext.setCell ?_ (by first | (simp; done) | (simp; omega) | omega) _) | (refine Ext.trans ?_ (by assumption)) | (refine Ext.trans ?_ (held_left (by assumption))))))))).mono ?_; rintro e w7 ⟨rfl, hb7⟩; have HB7 := Hid.mk' (hE.out.trans hb7); have gx7 := (HX5.out.ext HB7.out).cell; have zx7 := (HX5.out.ext HB7.out).lt)
        go_wp2_with (go_at_call 46; refine (HON2.out _ _ (by have := HB7.out; (repeat (with_reducible (first | exact Ext.refl _ | assumption | exact held_left (by assumption) | apply Ext.drewN | apply Ext.drew | apply Ext.alloc | (refine Ext.setCell ?_ (by first | (simp; done) | (simp; omega) | omega) _) | (refine Ext.trans ?_ (by assumption)) | (refine Ext.trans ?_ (held_left (by assumption)))))))).mono ?_; rintro e w8 ⟨rfl, hb8⟩)
        go_roundw
        case rel => exact ⟨k + 1, by have := HLT.out; omega, by go_num, Hid.mk' (fun j hj => by
          by_cases e : j = k
          · subst e; exact HAT.out
          · exact hz.out j (by omega)), Hid.mk' (by have := HB7.out; (repeat (with_reducible (first | exact Ext.refl _ | assumption | exact held_left (by assumption) | apply Ext.drewN | apply Ext.drew | apply Ext.alloc | (refine Ext.setCell ?_ (by first | (simp; done) | (simp; omega) | omega) _) | (refine Ext.trans ?_ (by assumption)) | (refine Ext.trans ?_ (held_left (by assumption)))))))⟩
        case measure => have := HLT.out; simp [intOf]; omega
      · have hE1 : (E != 0) = true := by simpa using hE0
        have hr := HZB.out k (by simpa using hlt) hz.out (by rw [HAT.out]; exact hE0)
        rw [HAT.out] at hr
        obtain ⟨rfl, rfl⟩ := hr
        clear hE0 HON HSB HZZ HZB HAT
        go_wp2_with (first
          | (go_at_call 37; refine (HEK.out _ (hE.out.trans (by (repeat (with_reducible (first | exact Ext.refl _ | assumption | exact held_left (by assumption) | apply Ext.drewN | apply Ext.drew | apply Ext.alloc | (refine Ext.setCell ?_ (by first | (simp; done) | (simp; omega) | omega) _) | (refine Ext.trans ?_ (by assumption)) | (refine Ext.trans ?_ (held_left (by assumption))))))))).mono ?_; rintro e w7 ⟨rfl, hb7⟩)
          | (go_at_call 43; refine (awake13_any _).mono ?_; rintro e wk ⟨rfl, hbk⟩))
        go_ret
        exact ⟨rfl, HE5.out.trans (hE.out.trans (by (repeat (with_reducible (first | exact Ext.refl _ | assumption | exact held_left (by assumption) | apply Ext.drewN | apply Ext.drew | apply Ext.alloc | (refine Ext.setCell ?_ (by first | (simp; done) | (simp; omega) | omega) _) | (refine Ext.trans ?_ (by assumption)) | (refine Ext.trans ?_ (held_left (by assumption))))))))⟩
    · have h0 := HZZ.out (fun j hj => hz.out j (by simp at hj; omega))
      obtain ⟨rfl, rfl⟩ := h0
      clear HZZ HZB
      go_wp2_with (go_at_call 43; refine (awake13_any _).mono ?_; rintro e wk ⟨rfl, hbk⟩)
      go_ret
      exact ⟨rfl, HE5.out.trans (hE.out.trans hbk)⟩

end Go.Proofs.Ythdjinicmnhgpaa
