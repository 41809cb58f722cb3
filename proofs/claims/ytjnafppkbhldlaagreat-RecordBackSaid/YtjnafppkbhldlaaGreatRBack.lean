/-
The walk of RecordBack.
-/
import Derived.Test.YtjnafppkbhldlaaGreatP26
set_option maxRecDepth 100000
set_option maxHeartbeats 16000000
namespace Go.Proofs.YtjnafppkbhldlaaGreat
open Go.RowKit HG
theorem fillPV_small {p : Pt} {ps : List ByteArray} (h : p.small) : (fillPV p ps).small := by
  unfold fillPV
  have h1 := h.e
  split
  · refine ⟨?_, ?_, ?_⟩
    · simp only; rw [fillUp_len]; omega
    · simp only; rw [fillUp_len]; omega
    · simp only; omega
  · exact ⟨Nat.zero_le _, Nat.zero_le _, Nat.zero_le _⟩
theorem great15w_any (ps : List RR) (a : Option Addr) (cap : Nat) (x : EL) (w : World) (hl : RL w (.slice a ps.length cap) ps) (hb : ∀ p ∈ ps, p.r.wb) (hlen : ps.length ≤ 9223372036854775807) (hx : x.at 6 K.rc w) (hz : x.e.sz) (W : World) (hW : Ext w W) :
    Calls Tryz.prog 13 #[.slice a ps.length cap, .slice (some ⟨W.heap.size + 1, 0, none⟩) 1 1] ((W.alloc (.cells #[.int .u8 x.e.kind, .int .u32 x.e.ao, .int .u32 x.e.av, .int .u8 x.e.old, .slice x.ba x.e.b.length x.bc, .slice x.aa x.e.a.length x.ac, .slice x.ra x.e.rs.length x.rc, .int .u8 x.e.fl] 111)).alloc (.cells #[.int .u32 0, .int .u64 0, .slice (some ⟨W.heap.size, 0, none⟩) 1 1] 88))
      fun e w' => ∃ g : Bool, e = .returned (.bool g) ∧ (g = false → ps.length ≤ 1000 ∧ x.e.small) ∧ Ext W w' := by
  obtain ⟨⟨k1, ao1, av1, old1, b1, a1, r1, fl1⟩, ba1, bc1, aa1, ac1, ra1, rc1⟩ := x
  simp only
  have hE : Ext w ((W.alloc (.cells #[.int .u8 k1, .int .u32 ao1, .int .u32 av1, .int .u8 old1, .slice ba1 b1.length bc1, .slice aa1 a1.length ac1, .slice ra1 r1.length rc1, .int .u8 fl1] 111)).alloc (.cells #[.int .u32 0, .int .u64 0, .slice (some ⟨W.heap.size, 0, none⟩) 1 1] 88)) := (hW.alloc _).alloc _
  have h1 := Sl.new (W.alloc (.cells #[.int .u8 k1, .int .u32 ao1, .int .u32 av1, .int .u8 old1, .slice ba1 b1.length bc1, .slice aa1 a1.length ac1, .slice ra1 r1.length rc1, .int .u8 fl1] 111)) #[.int .u32 0, .int .u64 0, .slice (some ⟨W.heap.size, 0, none⟩) 1 1] 88 3 1 1 (([⟨0, 0, [(⟨(⟨k1, ao1, av1, old1, b1, a1, r1, fl1⟩ : Ev), ba1, bc1, aa1, ac1, ra1, rc1⟩ : EL)], some ⟨W.heap.size, 0, none⟩, 1⟩] : List TL).map TL.vals) rfl (by intro xs hxs; simp at hxs; subst hxs; rfl) rfl
  have h2 := Sl.new W #[.int .u8 k1, .int .u32 ao1, .int .u32 av1, .int .u8 old1, .slice ba1 b1.length bc1, .slice aa1 a1.length ac1, .slice ra1 r1.length rc1, .int .u8 fl1] 111 8 1 1 (([(⟨(⟨k1, ao1, av1, old1, b1, a1, r1, fl1⟩ : Ev), ba1, bc1, aa1, ac1, ra1, rc1⟩ : EL)] : List EL).map EL.vals) rfl (EL.len _) rfl
  rw [World.size_alloc] at h1
  refine (greatT_any ps [⟨0, 0, [(⟨(⟨k1, ao1, av1, old1, b1, a1, r1, fl1⟩ : Ev), ba1, bc1, aa1, ac1, ra1, rc1⟩ : EL)], some ⟨W.heap.size, 0, none⟩, 1⟩] a (some ⟨W.heap.size + 1, 0, none⟩) cap 1 _ (hl.ext hE) ⟨h1, fun t ht => ?_⟩ hlen (by simp) hb (fun t ht => ?_)).mono fun e w' h => ?_
  · obtain rfl := List.mem_singleton.1 ht
    refine ⟨h2.ext ((Ext.refl _).alloc _), fun e he => ?_⟩
    obtain rfl := List.mem_singleton.1 he
    exact hx.ext hE
  · obtain rfl := List.mem_singleton.1 ht
    refine ⟨by simp, fun e he => ?_, Int.le_refl 0⟩
    obtain rfl := List.mem_singleton.1 he
    exact hz
  · obtain ⟨g, rfl, h3, h4⟩ := h
    refine ⟨g, rfl, fun hg => ?_, (((Ext.refl _).alloc _).alloc _).trans h4⟩
    have h5 := h3 hg
    exact ⟨by have := h5.n; omega, lit_small (h5.e _ (List.mem_singleton.2 rfl) (⟨(⟨k1, ao1, av1, old1, b1, a1, r1, fl1⟩ : Ev), ba1, bc1, aa1, ac1, ra1, rc1⟩ : EL) (by simp))⟩
theorem recback_law (ps : List RR) (a : Option Addr) (cap : Nat) (x : EL) (kd vr : Int) (lb : List Int) (ab : Option Addr) (cb : Nat) (pcs : List ByteArray) (ap : Option Addr) (cp : Nat) (w : World) (hl : RL w (.slice a ps.length cap) ps) (hb : ∀ p ∈ ps, p.r.wb) (hlen : ps.length ≤ 9223372036854775807) (hx : x.at 6 K.rc w) (hz : x.e.sz) (ht : x.e.tw)
    (hvr : 0 ≤ vr ∧ vr < 256) (hlb : Sl w (.slice ab lb.length cb) 1 (lb.map bcell)) (hlbl : lb.length ≤ 9223372036854775807) (hib : isB lb) (hpc : Sl w (.slice ap pcs.length cp) 1 (pcs.map strC)) (hpl : pcs.length ≤ 9223372036854775807) (hps : ∀ t ∈ pcs, t.size ≤ 9223372036854775807) (hcp : pcs.length ≤ cp ∧ cp ≤ maxLen) :
    Calls Tryz.prog 9 #[.slice a ps.length cap, x.agg, .agg #[.int .u8 kd, .int .u8 vr, .slice ab lb.length cb, .slice ap pcs.length cp]] w fun e w' => e = .returned (.bool true) ∧ Ext w w' := by
  have HGR := Hm (fun W (h : Ext w W) => great15w_any ps a cap x w hl hb hlen hx hz W h)
  have HRI := Hm (fun W (h : Ext w W) => right15_any ps a cap W (hl.ext h) hb hlen)
  have HWN := Hm (fun W (h : Ext w W) (h1 : ps.length ≤ 1000) (h0 : ofE (ps.map RR.r) = 0) => own15_any ps a cap W (hl.ext h) hb h1 h0)
  have HX := Hm hx
  have HT := Hm ht
  have HFL := Hm hz.fl.1
  have HLBS := Hm hlb
  have HIB := Hm hib
  have HPCS := Hm hpc
  have HPS := Hm hps
  have HCP := Hm hcp
  have HWK : Hid x.e.wk := Hm ⟨hz.sb, hz.sa, hz.old.1⟩
  obtain ⟨⟨k1, ao1, av1, old1, b1, a1, r1, fl1⟩, ba1, bc1, aa1, ac1, ra1, rc1⟩ := x
  obtain ⟨EA, hEA⟩ : ∃ E, E = ofE (ps.map RR.r) := ⟨_, rfl⟩
  rw [← hEA] at HRI HWN
  obtain ⟨VV, hVV⟩ : ∃ V, V = 1 + vr % 2 := ⟨_, rfl⟩
  have hv1 : vr.tmod 2 = vr % 2 := Int.tmod_eq_emod_of_nonneg hvr.1
  have hv2 : IntKind.u8.wrap (1 + vr % 2) = VV := by rw [hVV]; simp [IntKind.wrap, IntKind.signed, IntKind.bits]; omega
  have HVV : Hid (VV = 1 ∨ VV = 2) := Hm (by omega)
  clear hEA hl hb hlen hx hz ht hvr hlb hib hpc hps hcp hVV
  unfold EL.agg
  simp only at HGR HX HT HWK HFL ⊢
  obtain ⟨nb, hnb⟩ : ∃ n, n = lb.length := ⟨_, rfl⟩
  obtain ⟨np, hnp⟩ : ∃ n, n = pcs.length := ⟨_, rfl⟩
  rw [← hnb] at HLBS hlbl ⊢
  rw [← hnp] at HPCS HCP hpl ⊢
  have HNN := Hm (And.intro hnb hnp)
  clear hnb hnp
  go_enter Tryz.func9, Tryz.ntmps9
  go_upto_region 2 with (fail)
  have HVB : Hid (Blk ((w.alloc (.cells #[.int .u8 k1, .int .u32 ao1, .int .u32 av1, .int .u8 old1, .slice ba1 b1.length bc1, .slice aa1 a1.length ac1, .slice ra1 r1.length rc1, .int .u8 fl1] 111)).alloc (.cells #[.int .u8 kd, .int .u8 vr, .slice ab nb cb, .slice ap np cp] 133)) w.heap.size #[.int .u8 k1, .int .u32 ao1, .int .u32 av1, .int .u8 old1, .slice ba1 b1.length bc1, .slice aa1 a1.length ac1, .slice ra1 r1.length rc1, .int .u8 fl1] 111) := Hm ((Blk.new w _ _).alloc _)
  have HLB : Hid (Blk ((w.alloc (.cells #[.int .u8 k1, .int .u32 ao1, .int .u32 av1, .int .u8 old1, .slice ba1 b1.length bc1, .slice aa1 a1.length ac1, .slice ra1 r1.length rc1, .int .u8 fl1] 111)).alloc (.cells #[.int .u8 kd, .int .u8 vr, .slice ab nb cb, .slice ap np cp] 133)) (w.heap.size + 1) #[.int .u8 kd, .int .u8 vr, .slice ab nb cb, .slice ap np cp] 133) := Hm (Blk.new' (w := w.alloc (.cells #[.int .u8 k1, .int .u32 ao1, .int .u32 av1, .int .u8 old1, .slice ba1 b1.length bc1, .slice aa1 a1.length ac1, .slice ra1 r1.length rc1, .int .u8 fl1] 111)) _ _ (by simp))
  have HEA : Hid (Ext w ((w.alloc (.cells #[.int .u8 k1, .int .u32 ao1, .int .u32 av1, .int .u8 old1, .slice ba1 b1.length bc1, .slice aa1 a1.length ac1, .slice ra1 r1.length rc1, .int .u8 fl1] 111)).alloc (.cells #[.int .u8 kd, .int .u8 vr, .slice ab nb cb, .slice ap np cp] 133))) := Hm (((Ext.refl w).alloc _).alloc _)
  obtain ⟨wA, hwA⟩ : ∃ W, W = (w.alloc (.cells #[.int .u8 k1, .int .u32 ao1, .int .u32 av1, .int .u8 old1, .slice ba1 b1.length bc1, .slice aa1 a1.length ac1, .slice ra1 r1.length rc1, .int .u8 fl1] 111)).alloc (.cells #[.int .u8 kd, .int .u8 vr, .slice ab nb cb, .slice ap np cp] 133) := ⟨_, rfl⟩
  rw [← hwA] at HVB HLB HEA ⊢
  clear hwA
  have HGA := Hm (HGR.out wA HEA.out)
  have HRA := Hm (fun W (h : Ext wA W) => HRI.out W (HEA.out.trans h))
  clear HGR HRI
  have gv := HVB.out.cell
  have zv := HVB.out.lt
  have hnb64 : (nb : Int) ≤ 9223372036854775807 := by omega
  have hnp64 : (np : Int) ≤ 9223372036854775807 := by omega
  by_cases hA : EA = 0
  case neg =>
    have hA1 : (EA == 0) = false := by simpa using hA
    rw [hA1] at HRA
    clear hA hA1 HWN
    go_wp2_with (first
      | (go_at_call 13; refine HGA.out.mono ?_; rintro e w1 ⟨g, rfl, -, hb1⟩; have HX1 := Hm hb1; clear hb1; cases g)
      | (go_at_call 51; refine (HRA.out _ HX1.out).mono ?_; rintro e w2 ⟨rfl, hb2⟩; have HX2 := Hm (HX1.out.trans hb2); clear hb2))
    all_goals go_ret
    · exact ⟨rfl, HEA.out.trans HX2.out⟩
    · exact ⟨rfl, HEA.out.trans HX1.out⟩
  subst hA
  rw [show ((0 : Int) == 0) = true from rfl] at HRA
  by_cases hnb5 : nb ≤ 5000 ∧ np ≤ 300
  case neg =>
    clear HWN
    have hor : 5000 < (nb : Int) ∨ (¬ 5000 < (nb : Int) ∧ 300 < (np : Int)) := by omega
    clear hnb5
    rcases hor with h5 | ⟨h5, h3⟩
    all_goals
      go_wp2_with (first
        | (go_at_call 13; refine HGA.out.mono ?_; rintro e w1 ⟨g, rfl, -, hb1⟩; have HX1 := Hm hb1; clear hb1; cases g)
        | (go_at_call 51; refine (HRA.out _ HX1.out).mono ?_; rintro e w2 ⟨rfl, hb2⟩; have HX2 := Hm (HX1.out.trans hb2); clear hb2 gv zv; have gL := (HLB.out.ext HX2.out).cell; have zL := (HLB.out.ext HX2.out).lt))
      all_goals go_ret
      all_goals first | exact ⟨rfl, HEA.out.trans HX2.out⟩ | exact ⟨rfl, HEA.out.trans HX1.out⟩
  have h5 : ¬ 5000 < (nb : Int) := by omega
  have h3 : ¬ 300 < (np : Int) := by omega
  have HNB := Hm hnb5
  clear hnb5
  go_upto_region 4 with (first
    | (go_at_call 13; refine HGA.out.mono ?_; rintro e w1 ⟨g, rfl, hg, hb1⟩; have HG := Hm hg; have HX1 := Hm hb1; clear hb1 hg; cases g)
    | (go_at_call 51; refine (HRA.out _ HX1.out).mono ?_; rintro e w2 ⟨rfl, hb2⟩; have HX2 := Hm (HX1.out.trans hb2); clear hb2 gv zv; have gL := (HLB.out.ext HX2.out).cell; have zL := (HLB.out.ext HX2.out).lt))
  all_goals try (go_ret; exact ⟨rfl, HEA.out.trans HX1.out⟩)
  have HLT := Hm (HG.out (by first | exact rfl | exact trivial))
  clear HG HGA HRA h5 h3 gL zL
  go_upto_region 7 with (go_at_call 52; refine (HWN.out _ (HEA.out.trans HX2.out) HLT.out.1 (by first | exact rfl | exact trivial)).mono ?_; rintro e w3 ⟨g, N, cc, qc, aw, cw, U, rfl, hq, hb3⟩; have HQ := Hm hq.ca; have HX3 := Hm (HX2.out.trans hb3); clear hb3 hq)
  have HV3 := Hm (HVB.out.ext HX3.out)
  have HL3 := Hm (HLB.out.ext HX3.out)
  have HE3 := Hm (HEA.out.trans HX3.out)
  have gv := HV3.out.cell
  have zv := HV3.out.lt
  have HS1 := Hm HLT.out.2
  have HOE := Hm (fun W (h : Ext w3 W) => eown_el (⟨(⟨k1, ao1, av1, old1, b1, a1, r1, fl1⟩ : Ev), ba1, bc1, aa1, ac1, ra1, rc1⟩ : EL) W (HX.out.ext (HE3.out.trans h)) HS1.out.b HS1.out.a HS1.out.r)
  unfold EL.agg at HOE
  simp only at HOE
  have HSR := Hm (fun (y : EL) W (h : Ext w3 W) (hy : y.at 6 K.rc W) (he : y.e = (⟨k1, ao1, av1, old1, b1, a1, r1, fl1⟩ : Ev)) => esame_any y (⟨(⟨k1, ao1, av1, old1, b1, a1, r1, fl1⟩ : Ev), ba1, bc1, aa1, ac1, ra1, rc1⟩ : EL) W hy (HX.out.ext (HE3.out.trans h)) (by rw [he]; exact HS1.out) HS1.out)
  obtain ⟨cat, hcat⟩ : ∃ c, c = qc.map RR.r := ⟨_, rfl⟩
  have HRP := Hm (fun (x : EL) W (h : Ext w3 W) (h1 : x.at 5 K.pc W) (h2 : x.e.small) (h3 : x.e.wk) (h4 : x.e.tw) => recputC_any x VV N g cc qc W h1 h2 h3 (HQ.out.ext h) h4 (by have := HVV.out; omega))
  have HRG := Hm (fun (x : EL) W (h : Ext w3 W) (h1 : x.at 5 K.pc W) (h2 : x.e.small) (h3 : x.e.wk) => eright_any x N g cc qc W h1 h2 h3 (HQ.out.ext h))
  have HTK := Hm (fun (kind : Int) (v : Value) (l : List Int) W (h : Ext w3 W) (hl : Sl W v 1 (l.map bcell)) (hlen : l.length ≤ 1000000) (hb : isB l) => rectake_any kind VV v l N g cc qc W hl hlen hb (HQ.out.ext h))
  unfold RecPutC at HRP
  rw [← hcat] at HRP HRG HTK
  clear hcat HQ HWN HLT HX1 HX2 HX
  have HRP1 := Hm (fun (ba3 aa3 ra3 : Option Addr) (bc3 ac3 rc3 : Nat) W (h : Ext w3 W) (h1 : (⟨(⟨k1, ao1, av1, old1, b1, a1, r1, fl1⟩ : Ev), ba3, bc3, aa3, ac3, ra3, rc3⟩ : EL).at 5 K.pc W) => HRP.out (⟨(⟨k1, ao1, av1, old1, b1, a1, r1, fl1⟩ : Ev), ba3, bc3, aa3, ac3, ra3, rc3⟩ : EL) W h h1 HS1.out HWK.out HT.out)
  unfold EL.agg at HRP1
  simp only at HRP1
  obtain ⟨B, hB⟩ : ∃ B, B = recB (⟨k1, ao1, av1, old1, b1, a1, r1, fl1⟩ : Ev) cat VV := ⟨_, rfl⟩
  obtain ⟨T, hT⟩ : ∃ T, T = recT (⟨k1, ao1, av1, old1, b1, a1, r1, fl1⟩ : Ev) cat VV := ⟨_, rfl⟩
  obtain ⟨R, hR⟩ : ∃ R, R = recE (⟨k1, ao1, av1, old1, b1, a1, r1, fl1⟩ : Ev) cat VV := ⟨_, rfl⟩
  rw [← hB, ← hT, ← hR] at HRP1
  have HR := Hm hR
  have HBB := Hm (And.intro hB hT)
  clear hB hT hR
  go_upto_region 8 with (first
    | (go_at_call 54; refine (HOE.out _ (Ext.refl w3)).mono ?_; rintro e w4 ⟨⟨ye, ba3, bc3, aa3, ac3, ra3, rc3⟩, rfl, hye, hat, -, hb4⟩; simp only at hye; subst hye; have HAT := Hm hat; have HX4 := Hm hb4; clear hat hb4 gv zv; (try simp only))
    | (go_at_call 53; refine (HRP1.out ba3 aa3 ra3 bc3 ac3 rc3 _ HX4.out HAT.out).mono ?_; rintro e w5 ⟨a5, c5, a6, c6, rfl, ho5, hs5, hb5, hc5⟩; have HO5 := Hm ho5; have HS5 := Hm hs5; have HC5 := Hm hc5; have HX5 := Hm (HX4.out.trans hb5); clear ho5 hs5 hb5 hc5))
  have HV5 := Hm (HV3.out.ext HX5.out)
  have HL5 := Hm (HL3.out.ext HX5.out)
  clear HAT HX4 HV3 HL3 HRP1 HOE
  have HW := Hm (fun W => awake15_any W)
  go_upto_if 69 with (fail)
  go_cut [] (fun wx => Hid (Ext w5 wx))
  case first =>
    by_cases hR0 : R = 0
    case neg =>
      have hne : (R == 0) = false := by simpa using hR0
      go_wp2
      go_meet
      case rel => exact Hm (Ext.refl _)
    subst hR0
    have HBK := Hm (RecBack.of (e := (⟨k1, ao1, av1, old1, b1, a1, r1, fl1⟩ : Ev)) (l := cat) (ver := VV) HR.out.symm HWK.out HT.out)
    obtain ⟨⟨⟨pk, pao, pav, po, pb, pa, prs, pf⟩, phb, pha⟩, hP⟩ : ∃ P : Pt, P = Ev.part (⟨k1, ao1, av1, old1, b1, a1, r1, fl1⟩ : Ev) := ⟨_, rfl⟩
    have HPS2 : Hid (Pt.small (⟨⟨pk, pao, pav, po, pb, pa, prs, pf⟩, phb, pha⟩ : Pt)) := Hm (by rw [hP, ← HBK.out.tp]; exact takeEP_small _ _ _ _)
    have HBL : Hid (B.length ≤ 4096) := Hm (by rw [HBB.out.1]; exact recB_short HWK.out HT.out)
    have HIB2 : Hid (isB B) := Hm (by rw [HBB.out.1]; exact isB_recB HR.out.symm HWK.out HT.out HFL.out)
    have HTL : Hid (T.length ≤ 256 ∧ ∀ s ∈ T, s.size ≤ 256) := Hm (by rw [HBB.out.2]; exact ⟨recT_len HWK.out, fun s hs => (recT_256 hs).2⟩)
    have HTK1 : Hid (∀ v W, Ext w3 W → Sl W v 1 (B.map bcell) → Calls Tryz.prog 56 #[.pointer (some ⟨g, 0, none⟩), .int .u8 k1, v, .int .u8 VV] W (TakeQ (⟨⟨pk, pao, pav, po, pb, pa, prs, pf⟩, phb, pha⟩ : Pt) 0 W)) := Hm (fun v W h hs => by
      have h1 := HTK.out k1 v B W h hs (by have := HBL.out; omega) HIB2.out
      rw [show takeEE cat k1 B VV = 0 from by rw [HBB.out.1]; exact HBK.out.te, show takeEP cat k1 B VV = (⟨⟨pk, pao, pav, po, pb, pa, prs, pf⟩, phb, pha⟩ : Pt) from by rw [HBB.out.1, hP]; exact HBK.out.tp] at h1
      exact h1)
    have HFI : Hid (∀ (ba aa ra ha ga : Option Addr) (bc ac rc hc gc : Nat) (ta : Option Addr) (tc : Nat) W, PartHas (⟨⟨pk, pao, pav, po, pb, pa, prs, pf⟩, phb, pha⟩ : Pt) W ba aa ra ha ga bc ac rc hc gc → Sl W (.slice ta T.length tc) 1 (T.map strC) → (T.length ≤ tc ∧ tc ≤ maxLen) →
        Calls Tryz.prog 57 #[.agg #[.int .u8 pk, .int .u32 pao, .int .u32 pav, .int .u8 po, .slice ba pb.length bc, .slice aa pa.length ac, .slice ra prs.length rc, .int .u8 pf, .slice ha phb.length hc, .slice ga pha.length gc], .slice ta T.length tc] W (fun e w' => ∃ y : EL, e = .returned (.tuple #[y.agg, .int .i64 0]) ∧ y.e = (⟨k1, ao1, av1, old1, b1, a1, r1, fl1⟩ : Ev) ∧ y.at 5 K.pc w' ∧ Ext W w')) := Hm (fun ba aa ra ha ga bc ac rc hc gc ta tc W h hs hcs => by
      have h1 := pfill_any (⟨⟨pk, pao, pav, po, pb, pa, prs, pf⟩, phb, pha⟩ : Pt) ba aa ra ha ga bc ac rc hc gc T ta tc W h HPS2.out.ev (by have := HPS2.out.n; simp only at this ⊢; omega) hs hcs.1 hcs.2 (by have := HTL.out.1; omega) (fun s hs => by have := HTL.out.2 s hs; omega)
      unfold PFillQ at h1
      rw [hP, show fillPE (Ev.part (⟨k1, ao1, av1, old1, b1, a1, r1, fl1⟩ : Ev)) T = 0 from by rw [HBB.out.2]; exact HBK.out.fe, show fillPV (Ev.part (⟨k1, ao1, av1, old1, b1, a1, r1, fl1⟩ : Ev)) T = (⟨k1, ao1, av1, old1, b1, a1, r1, fl1⟩ : Ev) from by rw [HBB.out.2]; exact HBK.out.fv, ← hP] at h1
      exact h1)
    have HCT : Hid (∀ (ba aa ra ha ga : Option Addr) (bc ac rc hc gc : Nat) W, PartHas (⟨⟨pk, pao, pav, po, pb, pa, prs, pf⟩, phb, pha⟩ : Pt) W ba aa ra ha ga bc ac rc hc gc →
        Calls Tryz.prog 65 #[.agg #[.int .u8 pk, .int .u32 pao, .int .u32 pav, .int .u8 po, .slice ba pb.length bc, .slice aa pa.length ac, .slice ra prs.length rc, .int .u8 pf, .slice ha phb.length hc, .slice ga pha.length gc]] W (fun e w' => e = .returned (.int .i64 (T.length : Nat)) ∧ Ext W w')) := Hm (fun ba aa ra ha ga bc ac rc hc gc W h => by
      have h1 := pcount_any (⟨⟨pk, pao, pav, po, pb, pa, prs, pf⟩, phb, pha⟩ : Pt) ba aa ra ha ga bc ac rc hc gc W h (by have := HPS2.out.n; simp only at this ⊢; omega) (fun x hx => by have := HPS2.out.sz x hx; omega)
      rw [show cntL (sizesP (⟨⟨pk, pao, pav, po, pb, pa, prs, pf⟩, phb, pha⟩ : Pt)) = T.length from by rw [hP, HBB.out.2]; exact HBK.out.cn] at h1
      exact h1)
    unfold EL.agg at HFI
    unfold TakeQ at HTK1
    simp only at HTK1
    clear hP HTK HBK HBB HR HPS2 HIB2 HRP HRG
    have gv := HV5.out.cell
    have zv := HV5.out.lt
    go_upto_region 10 with (go_at_call 56; refine (HTK1.out _ _ HX5.out HO5.out.sl).mono ?_; rintro e w8 ⟨ba5, aa5, ra5, ha5, ga5, bc5, ac5, rc5, hc5, gc5, rfl, hp8, hb8⟩; have HP8 := Hm hp8; have HX8 := Hm hb8; clear hp8 hb8 gv zv)
    have HBA := Hm (Blk.new w8 #[.int .u8 pk, .int .u32 pao, .int .u32 pav, .int .u8 po, .slice ba5 pb.length bc5, .slice aa5 pa.length ac5, .slice ra5 prs.length rc5, .int .u8 pf, .slice ha5 phb.length hc5, .slice ga5 pha.length gc5] 124)
    have HXA := Hm (HX8.out.alloc (.cells #[.int .u8 pk, .int .u32 pao, .int .u32 pav, .int .u8 po, .slice ba5 pb.length bc5, .slice aa5 pa.length ac5, .slice ra5 prs.length rc5, .int .u8 pf, .slice ha5 phb.length hc5, .slice ga5 pha.length gc5] 124))
    have HPA := Hm (HP8.out.ext ((Ext.refl w8).alloc (.cells #[.int .u8 pk, .int .u32 pao, .int .u32 pav, .int .u8 po, .slice ba5 pb.length bc5, .slice aa5 pa.length ac5, .slice ra5 prs.length rc5, .int .u8 pf, .slice ha5 phb.length hc5, .slice ga5 pha.length gc5] 124)))
    obtain ⟨QA, hQA⟩ : ∃ q, q = w8.heap.size := ⟨_, rfl⟩
    obtain ⟨wA2, hwA⟩ : ∃ W, W = w8.alloc (.cells #[.int .u8 pk, .int .u32 pao, .int .u32 pav, .int .u8 po, .slice ba5 pb.length bc5, .slice aa5 pa.length ac5, .slice ra5 prs.length rc5, .int .u8 pf, .slice ha5 phb.length hc5, .slice ga5 pha.length gc5] 124) := ⟨_, rfl⟩
    rw [← hQA] at HBA ⊢
    rw [← hwA] at HBA HXA HPA ⊢
    clear hQA hwA HP8 HX8 HTK1
    have gA := HBA.out.cell
    have zA := HBA.out.lt
    go_upto_region 11 with (go_at_call 57; refine (HFI.out _ _ _ _ _ _ _ _ _ _ _ _ _ HPA.out (HS5.out.ext HXA.out) HC5.out).mono ?_; rintro e w10 ⟨⟨yy, yb1, yc1, ya1, yd1, yr1, ye1⟩, rfl, hye, hat, hb8⟩; simp only at hye; subst hye; have HY1 := Hm hat; have HX8 := Hm hb8; clear hat hb8 gA zA; (try simp only))
    have HBC := Hm (Blk.new w10 #[.int .u8 k1, .int .u32 ao1, .int .u32 av1, .int .u8 old1, .slice yb1 b1.length yc1, .slice ya1 a1.length yd1, .slice yr1 r1.length ye1, .int .u8 fl1] 120)
    have HXC := Hm (HX8.out.alloc (.cells #[.int .u8 k1, .int .u32 ao1, .int .u32 av1, .int .u8 old1, .slice yb1 b1.length yc1, .slice ya1 a1.length yd1, .slice yr1 r1.length ye1, .int .u8 fl1] 120))
    have HYC := Hm (HY1.out.ext ((Ext.refl w10).alloc (.cells #[.int .u8 k1, .int .u32 ao1, .int .u32 av1, .int .u8 old1, .slice yb1 b1.length yc1, .slice ya1 a1.length yd1, .slice yr1 r1.length ye1, .int .u8 fl1] 120)))
    obtain ⟨QC, hQC⟩ : ∃ q, q = w10.heap.size := ⟨_, rfl⟩
    obtain ⟨wC, hwC⟩ : ∃ W, W = w10.alloc (.cells #[.int .u8 k1, .int .u32 ao1, .int .u32 av1, .int .u8 old1, .slice yb1 b1.length yc1, .slice ya1 a1.length yd1, .slice yr1 r1.length ye1, .int .u8 fl1] 120) := ⟨_, rfl⟩
    rw [← hQC] at HBC ⊢
    rw [← hwC] at HBC HXC HYC ⊢
    clear hQC hwC HY1 HX8 HFI
    have HPC := Hm (HPA.out.ext HXC.out)
    have HBE := Hm (fun W (h : Ext wC W) => eback_el (⟨(⟨k1, ao1, av1, old1, b1, a1, r1, fl1⟩ : Ev), yb1, yc1, ya1, yd1, yr1, ye1⟩ : EL) W (HYC.out.ext h) HS1.out.b HS1.out.a HS1.out.r)
    have HEE : Hid (evB (⟨k1, ao1, av1, old1, b1, a1, r1, fl1⟩ : Ev) (⟨k1, ao1, av1, old1, b1, a1, r1, fl1⟩ : Ev) = true) := Hm (evB_true.2 rfl)
    have HSE : Hid (∀ (yb2 : Option Addr) (yc2 : Nat) (ya2 : Option Addr) (yd2 : Nat) (yr2 : Option Addr) (ye2 : Nat) W, Ext wC W → (⟨(⟨k1, ao1, av1, old1, b1, a1, r1, fl1⟩ : Ev), yb2, yc2, ya2, yd2, yr2, ye2⟩ : EL).at 6 K.rc W → Calls Tryz.prog 61 #[.agg #[.int .u8 k1, .int .u32 ao1, .int .u32 av1, .int .u8 old1, .slice yb2 b1.length yc2, .slice ya2 a1.length yd2, .slice yr2 r1.length ye2, .int .u8 fl1], .agg #[.int .u8 k1, .int .u32 ao1, .int .u32 av1, .int .u8 old1, .slice ba1 b1.length bc1, .slice aa1 a1.length ac1, .slice ra1 r1.length rc1, .int .u8 fl1]] W fun e w' => e = .returned (.bool true) ∧ Ext W w') := Hm (fun yb2 yc2 ya2 yd2 yr2 ye2 W h hy => by
      have h1 := HSR.out ⟨(⟨k1, ao1, av1, old1, b1, a1, r1, fl1⟩ : Ev), yb2, yc2, ya2, yd2, yr2, ye2⟩ W (HX5.out.trans (HXA.out.trans (HXC.out.trans h))) hy rfl
      unfold EL.agg at h1
      simp only at h1
      rw [HEE.out] at h1
      exact h1)
    unfold EL.agg at HBE
    simp only at HBE
    have gC := HBC.out.cell
    have zC := HBC.out.lt
    have HVC := Hm (HV5.out.ext (HXA.out.trans HXC.out))
    have gv := HVC.out.cell
    have zv := HVC.out.lt
    have gA := (HBA.out.ext HXC.out).cell
    have zA := (HBA.out.ext HXC.out).lt
    go_wp2
    go_region_held3 (fun w' => Ext (wC) w' ∧ (∀ b o, b < (wC).heap.size → w'.cell? ⟨b, o, none⟩ = (wC).cell? ⟨b, o, none⟩) ∧ (∀ b o, b < (wC).heap.size → w'.frozen? ⟨b, o, none⟩ = (wC).frozen? ⟨b, o, none⟩)) ((exact held_of (by exact eX))) (first
      | (go_at_call 62; refine (HBE.out _ (by exact eX)).mono ?_; rintro e w12 ⟨⟨yy, yb2, yc2, ya2, yd2, yr2, ye2⟩, rfl, hye, hat, -, hb12⟩; simp only at hye; subst hye; have HAT2 := Hm hat; clear hat; (try simp only))
      | (go_at_call 61; refine (HSE.out _ _ _ _ _ _ _ (by exact eX) (HAT2.out.ext (by exact eX))).mono ?_; rintro e w13 ⟨rfl, hb13⟩)
      | (go_at_call 65; refine (HCT.out _ _ _ _ _ _ _ _ _ _ _ (HPC.out.ext (by exact eX))).mono ?_; rintro e w14 ⟨rfl, hb14⟩))
    all_goals
      have HXM := Hm (HXA.out.trans (HXC.out.trans (show Ext wC w14 by exact eX)))
      clear hb12 hb13 hb14 gC zC gv zv gA zA
      go_wp2
      go_meet
      case rel => exact HXM
  case rest =>
  have HXC := hcut
  have HE3C := Hm (HX5.out.trans HXC.out)
  have HLC := Hm (HL5.out.ext HXC.out)
  have HEC := Hm (HE3.out.trans HE3C.out)
  clear hcut HV5 HL5 HSR HBB HR HO5 HS5 HC5
  obtain ⟨EE, hEE⟩ : ∃ E, E = takeEE cat kd lb VV := ⟨_, rfl⟩
  obtain ⟨⟨⟨qk, qao, qav, qo, qb, qa, qrs, qf⟩, qhb, qha⟩, hQ2⟩ : ∃ P : Pt, P = takeEP cat kd lb VV := ⟨_, rfl⟩
  have HQS : Hid (Pt.small (⟨⟨qk, qao, qav, qo, qb, qa, qrs, qf⟩, qhb, qha⟩ : Pt)) := Hm (by rw [hQ2]; exact takeEP_small _ _ _ _)
  obtain ⟨FE, hFE⟩ : ∃ E, E = fillPE (⟨⟨qk, qao, qav, qo, qb, qa, qrs, qf⟩, qhb, qha⟩ : Pt) pcs := ⟨_, rfl⟩
  obtain ⟨⟨fk, fao, fav, fo, fb, fa, frs, ff⟩, hFX⟩ : ∃ E : Ev, E = fillPV (⟨⟨qk, qao, qav, qo, qb, qa, qrs, qf⟩, qhb, qha⟩ : Pt) pcs := ⟨_, rfl⟩
  have HFS : Hid (Ev.small (⟨fk, fao, fav, fo, fb, fa, frs, ff⟩ : Ev)) := Hm (by rw [hFX]; exact fillPV_small HQS.out)
  have HINV : Hid (EE = 0 → FE = 0 → (Ev.tw (⟨fk, fao, fav, fo, fb, fa, frs, ff⟩ : Ev) ∧ Ev.wk (⟨fk, fao, fav, fo, fb, fa, frs, ff⟩ : Ev)) ∧ (evE (⟨fk, fao, fav, fo, fb, fa, frs, ff⟩ : Ev) cat = 0 → recE (⟨fk, fao, fav, fo, fb, fa, frs, ff⟩ : Ev) cat VV = 0 ∧ recB (⟨fk, fao, fav, fo, fb, fa, frs, ff⟩ : Ev) cat VV = lb ∧ recT (⟨fk, fao, fav, fo, fb, fa, frs, ff⟩ : Ev) cat VV = pcs)) := Hm (fun h1 h2 => by
    rw [hFE, hQ2] at h2
    rw [hEE] at h1
    obtain ⟨-, -, -, h3, h4⟩ := part_inv HIB.out h1 h2
    have h5 := fun he => rec_inv HIB.out h1 h2 he
    rw [← hQ2, ← hFX] at h3 h4 h5
    exact ⟨⟨h3, ⟨fun c hc => (h3.b c hc).towk, fun c hc => (h3.a c hc).towk, h4⟩⟩, h5⟩)
  have HTKL : Hid (∀ W, Ext w3 W → Ext w W → Calls Tryz.prog 56 #[.pointer (some ⟨g, 0, none⟩), .int .u8 kd, .slice ab nb cb, .int .u8 VV] W (TakeQ (⟨⟨qk, qao, qav, qo, qb, qa, qrs, qf⟩, qhb, qha⟩ : Pt) EE W)) := Hm (fun W h hw => by
    have h1 := HTK.out kd (.slice ab nb cb) lb W h (HLBS.out.ext hw) (by have := HNB.out; have := HNN.out.1; omega) HIB.out
    rw [← hEE, ← hQ2] at h1
    exact h1)
  have HFI : Hid (∀ (ba aa ra ha ga : Option Addr) (bc ac rc hc gc : Nat) W, Ext w W → PartHas (⟨⟨qk, qao, qav, qo, qb, qa, qrs, qf⟩, qhb, qha⟩ : Pt) W ba aa ra ha ga bc ac rc hc gc →
      Calls Tryz.prog 57 #[.agg #[.int .u8 qk, .int .u32 qao, .int .u32 qav, .int .u8 qo, .slice ba qb.length bc, .slice aa qa.length ac, .slice ra qrs.length rc, .int .u8 qf, .slice ha qhb.length hc, .slice ga qha.length gc], .slice ap np cp] W (fun e w' => ∃ y : EL, e = .returned (.tuple #[y.agg, .int .i64 FE]) ∧ y.e = (⟨fk, fao, fav, fo, fb, fa, frs, ff⟩ : Ev) ∧ y.at 5 K.pc w' ∧ Ext W w')) := Hm (fun ba aa ra ha ga bc ac rc hc gc W hw h => by
    have hnp := HNN.out.2
    have h1 := pfill_any (⟨⟨qk, qao, qav, qo, qb, qa, qrs, qf⟩, qhb, qha⟩ : Pt) ba aa ra ha ga bc ac rc hc gc pcs ap cp W h HQS.out.ev (by have := HQS.out.n; simp only at this ⊢; omega) (by rw [← hnp]; exact HPCS.out.ext hw) (by have := HCP.out; omega) HCP.out.2 (by have := HNB.out; omega) HPS.out
    unfold PFillQ at h1
    rw [← hFE, ← hFX, ← hnp] at h1
    exact h1)
  unfold EL.agg at HFI
  unfold TakeQ at HTKL
  simp only at HTKL
  clear hEE hQ2 hFE hFX HTK HQS HPS HCP
  have gL := HLC.out.cell
  have zL := HLC.out.lt
  go_upto_region 14 with (go_at_call 56; refine (HTKL.out _ HE3C.out HEC.out).mono ?_; rintro e w8 ⟨ba6, aa6, ra6, ha6, ga6, bc6, ac6, rc6, hc6, gc6, rfl, hp8, hb8⟩; have HP8 := Hm hp8; have HX8 := Hm hb8; clear hp8 hb8 gL zL)
  have HBA := Hm (Blk.new w8 #[.int .u8 qk, .int .u32 qao, .int .u32 qav, .int .u8 qo, .slice ba6 qb.length bc6, .slice aa6 qa.length ac6, .slice ra6 qrs.length rc6, .int .u8 qf, .slice ha6 qhb.length hc6, .slice ga6 qha.length gc6] 124)
  have HXA := Hm (HX8.out.alloc (.cells #[.int .u8 qk, .int .u32 qao, .int .u32 qav, .int .u8 qo, .slice ba6 qb.length bc6, .slice aa6 qa.length ac6, .slice ra6 qrs.length rc6, .int .u8 qf, .slice ha6 qhb.length hc6, .slice ga6 qha.length gc6] 124))
  have HPA := Hm (HP8.out.ext ((Ext.refl w8).alloc (.cells #[.int .u8 qk, .int .u32 qao, .int .u32 qav, .int .u8 qo, .slice ba6 qb.length bc6, .slice aa6 qa.length ac6, .slice ra6 qrs.length rc6, .int .u8 qf, .slice ha6 qhb.length hc6, .slice ga6 qha.length gc6] 124)))
  obtain ⟨QA, hQA⟩ : ∃ q, q = w8.heap.size := ⟨_, rfl⟩
  obtain ⟨wA2, hwA⟩ : ∃ W, W = w8.alloc (.cells #[.int .u8 qk, .int .u32 qao, .int .u32 qav, .int .u8 qo, .slice ba6 qb.length bc6, .slice aa6 qa.length ac6, .slice ra6 qrs.length rc6, .int .u8 qf, .slice ha6 qhb.length hc6, .slice ga6 qha.length gc6] 124) := ⟨_, rfl⟩
  rw [← hQA] at HBA ⊢
  rw [← hwA] at HBA HXA HPA ⊢
  clear hQA hwA HP8 HX8 HTKL
  have HLA := Hm (HLC.out.ext HXA.out)
  have gA := HBA.out.cell
  have zA := HBA.out.lt
  have gL := HLA.out.cell
  have zL := HLA.out.lt
  go_upto_region 15 with (go_at_call 57; refine (HFI.out _ _ _ _ _ _ _ _ _ _ _ (HEC.out.trans HXA.out) HPA.out).mono ?_; rintro e w10 ⟨⟨yy, yb2, yc2, ya2, yd2, yr2, ye2⟩, rfl, hye, hat, hb8⟩; simp only at hye; subst hye; have HY1 := Hm hat; have HX8 := Hm hb8; clear hat hb8 gA zA gL zL; (try simp only))
  have HBD := Hm (Blk.new w10 #[.int .u8 fk, .int .u32 fao, .int .u32 fav, .int .u8 fo, .slice yb2 fb.length yc2, .slice ya2 fa.length yd2, .slice yr2 frs.length ye2, .int .u8 ff] 120)
  have HXD := Hm (HX8.out.alloc (.cells #[.int .u8 fk, .int .u32 fao, .int .u32 fav, .int .u8 fo, .slice yb2 fb.length yc2, .slice ya2 fa.length yd2, .slice yr2 frs.length ye2, .int .u8 ff] 120))
  have HYD := Hm (HY1.out.ext ((Ext.refl w10).alloc (.cells #[.int .u8 fk, .int .u32 fao, .int .u32 fav, .int .u8 fo, .slice yb2 fb.length yc2, .slice ya2 fa.length yd2, .slice yr2 frs.length ye2, .int .u8 ff] 120)))
  obtain ⟨QD, hQD⟩ : ∃ q, q = w10.heap.size := ⟨_, rfl⟩
  obtain ⟨wD, hwD⟩ : ∃ W, W = w10.alloc (.cells #[.int .u8 fk, .int .u32 fao, .int .u32 fav, .int .u8 fo, .slice yb2 fb.length yc2, .slice ya2 fa.length yd2, .slice yr2 frs.length ye2, .int .u8 ff] 120) := ⟨_, rfl⟩
  rw [← hQD] at HBD ⊢
  rw [← hwD] at HBD HXD HYD ⊢
  clear hQD hwD HY1 HX8 HFI
  have HLD := Hm (HLA.out.ext HXD.out)
  have HE3D := Hm (HE3C.out.trans (HXA.out.trans HXD.out))
  have HED := Hm (HEC.out.trans (HXA.out.trans HXD.out))
  clear HLA HLC HXA HPA HBA HXC
  by_cases hE0 : EE = 0
  case neg =>
    have hne : (EE != 0) = true := by simpa using hE0
    go_wp2_with (go_at_call 55; refine (HW.out _).mono ?_; rintro e w12 ⟨rfl, hb8⟩; have HE8 := Hm hb8; clear hb8)
    go_ret
    exact ⟨rfl, HED.out.trans HE8.out⟩
  subst hE0
  by_cases hF0 : FE = 0
  case neg =>
    have hne : (FE != 0) = true := by simpa using hF0
    go_wp2_with (go_at_call 55; refine (HW.out _).mono ?_; rintro e w12 ⟨rfl, hb8⟩; have HE8 := Hm hb8; clear hb8)
    go_ret
    exact ⟨rfl, HED.out.trans HE8.out⟩
  subst hF0
  have HIV := Hm (HINV.out (by first | exact rfl | exact trivial) (by first | exact rfl | exact trivial))
  have HRGD := Hm (HRG.out (⟨(⟨fk, fao, fav, fo, fb, fa, frs, ff⟩ : Ev), yb2, yc2, ya2, yd2, yr2, ye2⟩ : EL) wD HE3D.out HYD.out HFS.out HIV.out.1.2)
  have HRPD := Hm (fun W (h : Ext wD W) => HRP.out (⟨(⟨fk, fao, fav, fo, fb, fa, frs, ff⟩ : Ev), yb2, yc2, ya2, yd2, yr2, ye2⟩ : EL) W (HE3D.out.trans h) (HYD.out.ext h) HFS.out HIV.out.1.2 HIV.out.1.1)
  unfold EL.agg at HRGD HRPD
  simp only at HRGD HRPD
  obtain ⟨RE, hRE⟩ : ∃ E, E = evE (⟨fk, fao, fav, fo, fb, fa, frs, ff⟩ : Ev) cat := ⟨_, rfl⟩
  rw [← hRE] at HRGD
  have gD := HBD.out.cell
  have zD := HBD.out.lt
  clear HINV HRG HRP
  by_cases hR0 : RE = 0
  case neg =>
    have hne : (RE != 0) = true := by simpa using hR0
    go_wp2_with (first
      | (go_at_call 68; refine HRGD.out.mono ?_; rintro e w11 ⟨rfl, hb8⟩; have HX11 := Hm hb8; clear hb8 gD zD)
      | (go_at_call 55; refine (HW.out _).mono ?_; rintro e w12 ⟨rfl, hb8⟩; have HE8 := Hm hb8; clear hb8))
    go_ret
    exact ⟨rfl, HED.out.trans (HX11.out.trans HE8.out)⟩
  subst hR0
  obtain ⟨e1, e2, e3⟩ := HIV.out.2 hRE.symm
  rw [e1, e2, e3, ← HNN.out.1, ← HNN.out.2] at HRPD
  clear e1 e2 e3 hRE HIV
  go_upto_region 18 with (first
    | (go_at_call 68; refine HRGD.out.mono ?_; rintro e w11 ⟨rfl, hb8⟩; have HX11 := Hm hb8; clear hb8 gD zD; have gD := (HBD.out.ext HX11.out).cell; have zD := (HBD.out.ext HX11.out).lt)
    | (go_at_call 53; refine (HRPD.out _ HX11.out).mono ?_; rintro e w12 ⟨a7, c7, a8, c8, rfl, ho7, hs7, hb7, -⟩; have HO7 := Hm ho7; have HS7 := Hm hs7; have HX12 := Hm (HX11.out.trans hb7); clear ho7 hs7 hb7 gD zD))
  have hc7 := conv_Sl HO7.out.sl
  have hc8 := conv_Sl (HLBS.out.ext (HED.out.trans HX12.out))
  have HL12 := Hm (HLD.out.ext HX12.out)
  have HPC12 := Hm (HPCS.out.ext (HED.out.trans HX12.out))
  have HE12 := Hm (HED.out.trans HX12.out)
  clear HLD HED HE3D HBD HXD HYD HRGD HRPD HX12 HX11 HO7 HE3C HEC HLBS HPCS
  generalize strOfNums lb = SB at hc7 hc8
  have gL := HL12.out.cell
  have zL := HL12.out.lt
  go_wp2
  clear hc7 hc8 gL zL
  go_loopg [24] np (fun z i wr => ∃ k : Nat, z + k = np ∧ i = .int .i64 k ∧ Hid (Ext w12 wr))
  case atStart => exact ⟨0, by omega, rfl, Hm (Ext.refl _)⟩
  case round =>
    obtain ⟨k, hzk, rfl, hE⟩ := hrel
    have gL := (HL12.out.ext hE.out).cell
    have zL := (HL12.out.ext hE.out).lt
    by_cases hlt : k < np
    · have hlp : k < pcs.length := by have := HNN.out.2; omega
      obtain ⟨b1, o1, rfl, hb1, hx1⟩ := HPC12.out.at_ (i := k) (by simpa using hlp)
      have p0 := str_at hlp hx1 hb1 hE.out
      obtain ⟨b2, o2, rfl, hb2, hx2⟩ := HS7.out.at_ (i := k) (by simpa using hlp)
      have p1 := str_at hlp hx2 hb2 hE.out
      have hbw : b1 < wr.heap.size := Nat.lt_of_lt_of_le hb1 hE.out.size
      have hbw2 : b2 < wr.heap.size := Nat.lt_of_lt_of_le hb2 hE.out.size
      obtain ⟨t, ht⟩ : ∃ t, t = pcs[k] := ⟨_, rfl⟩
      rw [← ht] at p0 p1
      have HLT := Hm hlt
      have hk63 : (k : Int) ≤ 300 := by have := HNB.out; omega
      have hkl : (k : Int) < (np : Int) := by omega
      clear ht hx1 hx2 hb1 hb2 hlp hlt
      go_wp2
      go_region_held3 (fun w' => Ext (wr) w' ∧ (∀ b o, b < (wr).heap.size → w'.cell? ⟨b, o, none⟩ = (wr).cell? ⟨b, o, none⟩) ∧ (∀ b o, b < (wr).heap.size → w'.frozen? ⟨b, o, none⟩ = (wr).frozen? ⟨b, o, none⟩)) ((exact held_of (by exact eX))) (fail)
      go_wp2
      go_roundg (np - (k + 1))
      case measure => have := HLT.out; omega
      case rel => exact ⟨k + 1, Nat.sub_add_cancel HLT.out, by go_num, Hm (hE.out.trans (by exact eX))⟩
    · have hkl : ¬ (k : Int) < (np : Int) := by omega
      clear hlt
      go_wp2_with (go_at_call 55; refine (HW.out _).mono ?_; rintro e w13 ⟨rfl, hb8⟩; have HE8 := Hm hb8; clear hb8)
      go_ret
      exact ⟨rfl, HE12.out.trans (hE.out.trans HE8.out)⟩
end Go.Proofs.YtjnafppkbhldlaaGreat
