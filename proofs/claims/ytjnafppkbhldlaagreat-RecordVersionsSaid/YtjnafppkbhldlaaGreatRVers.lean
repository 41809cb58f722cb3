/-
The walk of RecordVersions.
-/
import Derived.Test.YtjnafppkbhldlaaGreatP26
namespace Go.Proofs.YtjnafppkbhldlaaGreat
open Go.RowKit HG

set_option maxRecDepth 100000 in set_option maxHeartbeats 8000000 in
theorem recvers_law (ps : List RR) (a : Option Addr) (cap : Nat) (x : EL) (cut : Int) (w : World) (hl : RL w (.slice a ps.length cap) ps) (hb : ∀ p ∈ ps, p.r.wb) (hlen : ps.length ≤ 9223372036854775807) (hx : x.at 6 K.rc w) (hz : x.e.sz) (ht : x.e.tw) (hc : 0 ≤ cut ∧ cut < 65536) :
    Calls Tryz.prog 7 #[.slice a ps.length cap, x.agg, .int .u16 cut] w fun e w' => e = .returned (.bool true) ∧ Ext w w' := by
  have HGR := Hid.mk' (great15_any ps a cap x w hl hb hlen hx hz _ rfl)
  have HRI := Hid.mk' (fun W (h : Ext w W) => right15_any ps a cap W (hl.ext h) hb hlen)
  have HWN := Hid.mk' (fun W (h : Ext w W) (h1 : ps.length ≤ 1000) (h0 : ofE (ps.map RR.r) = 0) => own15_any ps a cap W (hl.ext h) hb h1 h0)
  have HX := Hid.mk' hx
  have HT := Hid.mk' ht
  have HC := Hid.mk' hc
  have HFL := Hid.mk' hz.fl.1
  have HWK : Hid x.e.wk := Hid.mk' ⟨hz.sb, hz.sa, hz.old.1⟩
  obtain ⟨⟨k1, ao1, av1, old1, b1, a1, r1, fl1⟩, ba1, bc1, aa1, ac1, ra1, rc1⟩ := x
  obtain ⟨EA, hEA⟩ : ∃ E, E = ofE (ps.map RR.r) := ⟨_, rfl⟩
  rw [← hEA] at HRI HWN
  clear hEA hl hb hlen hx hz ht hc
  unfold EL.agg
  simp only at HGR HX HT HWK HFL ⊢
  by_cases hA : EA = 0
  case neg =>
    have hA1 : (EA == 0) = false := by simpa using hA
    rw [hA1] at HRI
    clear hA hA1 HWN
    go_enter Tryz.func7, Tryz.ntmps7
    go_wp2_with (first
      | (go_at_call 13; refine HGR.out.mono ?_; rintro e w1 ⟨g, rfl, -, hb1⟩; have HX1 := Hid.mk' hb1; have HB1 := Hid.mk' (((Ext.refl w).alloc _).trans hb1); clear hb1; cases g)
      | (go_at_call 51; refine (HRI.out _ HB1.out).mono ?_; rintro e w2 ⟨rfl, hb2⟩; have HB2 := Hid.mk' (HB1.out.trans hb2); clear hb2))
    all_goals go_ret
    · exact ⟨rfl, HB2.out⟩
    · exact ⟨rfl, HB1.out⟩
  subst hA
  rw [show ((0 : Int) == 0) = true from rfl] at HRI
  go_enter Tryz.func7, Tryz.ntmps7
  go_upto_region 3 with (first
      | (go_at_call 13; refine HGR.out.mono ?_; rintro e w1 ⟨g, rfl, hg, hb1⟩; have HG := Hid.mk' hg; have HX1 := Hid.mk' hb1; have HB1 := Hid.mk' (((Ext.refl w).alloc _).trans hb1); clear hb1 hg; cases g)
      | (go_at_call 51; refine (HRI.out _ HB1.out).mono ?_; rintro e w2 ⟨rfl, hb2⟩; have HB2 := Hid.mk' (HB1.out.trans hb2); have HX2 := Hid.mk' (HX1.out.trans hb2); clear hb2))
  all_goals try (go_ret; exact ⟨rfl, HB1.out⟩)
  have HLT := Hid.mk' (HG.out (by first | exact rfl | exact trivial))
  have HVB := Hid.mk' ((Blk.new w #[.int .u8 k1, .int .u32 ao1, .int .u32 av1, .int .u8 old1, .slice ba1 b1.length bc1, .slice aa1 a1.length ac1, .slice ra1 r1.length rc1, .int .u8 fl1] 111).ext HX2.out)
  clear HG HGR HRI
  go_upto_region 6 with (go_at_call 52; refine (HWN.out _ HB2.out HLT.out.1 (by first | exact rfl | exact trivial)).mono ?_; rintro e w3 ⟨g, N, cc, qc, aw, cw, U, rfl, hq, hb3⟩; have HQ := Hid.mk' hq.ca; have HX3 := Hid.mk' hb3; have HB3 := Hid.mk' (HB2.out.trans hb3); clear hb3 hq)
  have HV3 := Hid.mk' (HVB.out.ext HX3.out)
  have gv := HV3.out.cell
  have zv := HV3.out.lt
  have HS1 := Hid.mk' HLT.out.2
  have HOE := Hid.mk' (fun W (h : Ext w W) => eown_el (⟨(⟨k1, ao1, av1, old1, b1, a1, r1, fl1⟩ : Ev), ba1, bc1, aa1, ac1, ra1, rc1⟩ : EL) W (HX.out.ext h) HS1.out.b HS1.out.a HS1.out.r)
  unfold EL.agg at HOE
  simp only at HOE
  obtain ⟨cat, hcat⟩ : ∃ c, c = qc.map RR.r := ⟨_, rfl⟩
  have HRP := Hid.mk' (fun (ver : Int) (hv : 0 ≤ ver) (ba3 aa3 ra3 : Option Addr) (bc3 ac3 rc3 : Nat) W (h : Ext w3 W) (h1 : (⟨(⟨k1, ao1, av1, old1, b1, a1, r1, fl1⟩ : Ev), ba3, bc3, aa3, ac3, ra3, rc3⟩ : EL).at 5 K.pc W) => recputC_any (⟨(⟨k1, ao1, av1, old1, b1, a1, r1, fl1⟩ : Ev), ba3, bc3, aa3, ac3, ra3, rc3⟩ : EL) ver N g cc qc W h1 HS1.out HWK.out (HQ.out.ext h) HT.out hv)
  have HTK := Hid.mk' (fun (kind ver : Int) (v : Value) (l : List Int) W (h : Ext w3 W) (hl : Sl W v 1 (l.map bcell)) (hlen : l.length ≤ 1000000) (hb : isB l) => rectake_any kind ver v l N g cc qc W hl hlen hb (HQ.out.ext h))
  unfold RecPutC EL.agg at HRP
  simp only at HRP
  rw [← hcat] at HRP HTK
  clear hcat HQ HWN HLT HVB HX2 HX1 HB1 HX
  have HRP1 := Hid.mk' (HRP.out 1 (by decide))
  have HRP2 := Hid.mk' (HRP.out 2 (by decide))
  rw [← recE_12 (⟨k1, ao1, av1, old1, b1, a1, r1, fl1⟩ : Ev) cat] at HRP2
  obtain ⟨B, hB⟩ : ∃ B, B = recB (⟨k1, ao1, av1, old1, b1, a1, r1, fl1⟩ : Ev) cat 1 := ⟨_, rfl⟩
  obtain ⟨T, hT⟩ : ∃ T, T = recT (⟨k1, ao1, av1, old1, b1, a1, r1, fl1⟩ : Ev) cat 1 := ⟨_, rfl⟩
  obtain ⟨B2, hB2⟩ : ∃ B, B = recB (⟨k1, ao1, av1, old1, b1, a1, r1, fl1⟩ : Ev) cat 2 := ⟨_, rfl⟩
  obtain ⟨T2, hT2⟩ : ∃ T, T = recT (⟨k1, ao1, av1, old1, b1, a1, r1, fl1⟩ : Ev) cat 2 := ⟨_, rfl⟩
  obtain ⟨R, hR⟩ : ∃ R, R = recE (⟨k1, ao1, av1, old1, b1, a1, r1, fl1⟩ : Ev) cat 1 := ⟨_, rfl⟩
  rw [← hB, ← hT, ← hR] at HRP1
  rw [← hB2, ← hT2, ← hR] at HRP2
  have HR := Hid.mk' hR
  have HBB := Hid.mk' (And.intro hB (And.intro hT (And.intro hB2 hT2)))
  clear hB hT hB2 hT2 hR HRP
  go_upto_region 7 with (first
    | (go_at_call 54; refine (HOE.out _ HB3.out).mono ?_; rintro e w4 ⟨⟨ye, ba3, bc3, aa3, ac3, ra3, rc3⟩, rfl, hye, hat, -, hb4⟩; simp only at hye; subst hye; have HAT := Hid.mk' hat; have HX4 := Hid.mk' hb4; clear hat hb4 gv zv; (try simp only))
    | (go_at_call 53; refine (HRP1.out ba3 aa3 ra3 bc3 ac3 rc3 _ HX4.out HAT.out).mono ?_; rintro e w5 ⟨a5, c5, a6, c6, rfl, ho5, hs5, hb5, hc5⟩; have HO5 := Hid.mk' ho5; have HS5 := Hid.mk' hs5; have HC5 := Hid.mk' hc5; have HX5 := Hid.mk' (HX4.out.trans hb5); have HV5 := Hid.mk' (HV3.out.ext HX5.out); clear ho5 hs5 hb5 hc5; have gv := HV5.out.cell; have zv := HV5.out.lt))
  clear HAT HX4 HV3 HRP1
  go_upto_region 8 with (first
    | (go_at_call 54; refine (HOE.out _ (HB3.out.trans HX5.out)).mono ?_; rintro e w4 ⟨⟨ye, ba4, bc4, aa4, ac4, ra4, rc4⟩, rfl, hye, hat, -, hb4⟩; simp only at hye; subst hye; have HAT := Hid.mk' hat; have HX6 := Hid.mk' hb4; clear hat hb4 gv zv; (try simp only))
    | (go_at_call 53; refine (HRP2.out ba4 aa4 ra4 bc4 ac4 rc4 _ (HX5.out.trans HX6.out) HAT.out).mono ?_; rintro e w6 ⟨a7, c7, a8, c8, rfl, ho7, hs7, hb7, hc7⟩; have HO7 := Hid.mk' ho7; have HS7 := Hid.mk' hs7; have HC7 := Hid.mk' hc7; have HX7 := Hid.mk' (HX6.out.trans hb7); have HV7 := Hid.mk' (HV5.out.ext HX7.out); clear ho7 hs7 hb7 hc7))
  clear HAT HX6 HRP2 HOE HV5
  have HW := Hid.mk' (fun W => awake15_any W)
  have HE7 := Hid.mk' (HB3.out.trans (HX5.out.trans HX7.out))
  by_cases hR0 : R = 0
  case neg =>
    have hne : (R != 0) = true := by simpa using hR0
    clear HR HTK
    go_wp2_with (go_at_call 55; refine (HW.out _).mono ?_; rintro e w8 ⟨rfl, hb8⟩; have HE8 := Hid.mk' hb8; clear hb8)
    go_ret
    exact ⟨by first | rfl | simp, HE7.out.trans HE8.out⟩
  subst hR0
  have HR2 : Hid (recE (⟨k1, ao1, av1, old1, b1, a1, r1, fl1⟩ : Ev) cat 2 = 0) := Hid.mk' (by rw [← recE_12]; exact HR.out.symm)
  have HB1 := Hid.mk' (RecBack.of (e := (⟨k1, ao1, av1, old1, b1, a1, r1, fl1⟩ : Ev)) (l := cat) (ver := 1) HR.out.symm HWK.out HT.out)
  have HB2 := Hid.mk' (RecBack.of (e := (⟨k1, ao1, av1, old1, b1, a1, r1, fl1⟩ : Ev)) (l := cat) (ver := 2) HR2.out HWK.out HT.out)
  have hTT : T = T2 := by rw [HBB.out.2.1, HBB.out.2.2.2]; exact recT_eq HR.out.symm HR2.out
  subst hTT
  obtain ⟨⟨⟨pk, pao, pav, po, pb, pa, prs, pf⟩, phb, pha⟩, hP⟩ : ∃ P : Pt, P = Ev.part (⟨k1, ao1, av1, old1, b1, a1, r1, fl1⟩ : Ev) := ⟨_, rfl⟩
  have HPS : Hid (Pt.small (⟨⟨pk, pao, pav, po, pb, pa, prs, pf⟩, phb, pha⟩ : Pt)) := Hid.mk' (by rw [hP, ← HB1.out.tp]; exact takeEP_small _ _ _ _)
  have HBL : Hid (B.length ≤ 4096 ∧ B2.length ≤ 4096 ∧ 0 < B.length) := Hid.mk' (by rw [HBB.out.1, HBB.out.2.2.1]; exact ⟨recB_short HWK.out HT.out, recB_short HWK.out HT.out, recB_pos HR.out.symm⟩)
  have HIB : Hid (isB B ∧ isB B2) := Hid.mk' (by rw [HBB.out.1, HBB.out.2.2.1]; exact ⟨isB_recB HR.out.symm HWK.out HT.out HFL.out, isB_recB HR2.out HWK.out HT.out HFL.out⟩)
  have HTL : Hid (T.length ≤ 256 ∧ ∀ s ∈ T, s.size ≤ 256) := Hid.mk' (by rw [HBB.out.2.1]; exact ⟨recT_len HWK.out, fun s hs => (recT_256 hs).2⟩)
  have HTK1 : Hid (∀ v W, Ext w3 W → Sl W v 1 (B.map bcell) → Calls Tryz.prog 56 #[.pointer (some ⟨g, 0, none⟩), .int .u8 k1, v, .int .u8 1] W (TakeQ (⟨⟨pk, pao, pav, po, pb, pa, prs, pf⟩, phb, pha⟩ : Pt) 0 W)) := Hid.mk' (fun v W h hs => by
    have h1 := HTK.out k1 1 v B W h hs (by have := HBL.out; omega) HIB.out.1
    rw [show takeEE cat k1 B 1 = 0 from by rw [HBB.out.1]; exact HB1.out.te, show takeEP cat k1 B 1 = (⟨⟨pk, pao, pav, po, pb, pa, prs, pf⟩, phb, pha⟩ : Pt) from by rw [HBB.out.1, hP]; exact HB1.out.tp] at h1
    exact h1)
  have HTK2 : Hid (∀ v W, Ext w3 W → Sl W v 1 (B2.map bcell) → Calls Tryz.prog 56 #[.pointer (some ⟨g, 0, none⟩), .int .u8 k1, v, .int .u8 2] W (TakeQ (⟨⟨pk, pao, pav, po, pb, pa, prs, pf⟩, phb, pha⟩ : Pt) 0 W)) := Hid.mk' (fun v W h hs => by
    have h1 := HTK.out k1 2 v B2 W h hs (by have := HBL.out; omega) HIB.out.2
    rw [show takeEE cat k1 B2 2 = 0 from by rw [HBB.out.2.2.1]; exact HB2.out.te, show takeEP cat k1 B2 2 = (⟨⟨pk, pao, pav, po, pb, pa, prs, pf⟩, phb, pha⟩ : Pt) from by rw [HBB.out.2.2.1, hP]; exact HB2.out.tp] at h1
    exact h1)
  obtain ⟨k, hk⟩ : ∃ k, k = cut.toNat % B.length := ⟨_, rfl⟩
  have hkB : k < B.length := by rw [hk]; exact Nat.mod_lt _ HBL.out.2.2
  have HTK3 : Hid (∀ v W, Ext w3 W → Sl W v 1 ((B.take k).map bcell) → Calls Tryz.prog 56 #[.pointer (some ⟨g, 0, none⟩), .int .u8 k1, v, .int .u8 1] W (TakeQ Pt.zero 1 W)) := Hid.mk' (fun v W h hs => by
    have hE : takeEE cat k1 (B.take k) 1 = 1 := by
      have h1 := rec_cut (e := (⟨k1, ao1, av1, old1, b1, a1, r1, fl1⟩ : Ev)) (l := cat) (ver := 1) HR.out.symm HWK.out HT.out (k := k) (by rw [← HBB.out.1]; exact hkB)
      rw [← HBB.out.1] at h1
      exact h1
    have h1 := HTK.out k1 1 v (B.take k) W h hs (by rw [List.length_take]; have := HBL.out; omega) (fun x hx => HIB.out.1 x (List.mem_of_mem_take hx))
    rw [hE, show takeEP cat k1 (B.take k) 1 = Pt.zero from by unfold takeEP; rw [hE]; rfl] at h1
    exact h1)
  have HFI : Hid (∀ (ba aa ra ha ga : Option Addr) (bc ac rc hc gc : Nat) (ta : Option Addr) (tc : Nat) W, PartHas (⟨⟨pk, pao, pav, po, pb, pa, prs, pf⟩, phb, pha⟩ : Pt) W ba aa ra ha ga bc ac rc hc gc → Sl W (.slice ta T.length tc) 1 (T.map strC) → (T.length ≤ tc ∧ tc ≤ maxLen) →
      Calls Tryz.prog 57 #[.agg #[.int .u8 pk, .int .u32 pao, .int .u32 pav, .int .u8 po, .slice ba pb.length bc, .slice aa pa.length ac, .slice ra prs.length rc, .int .u8 pf, .slice ha phb.length hc, .slice ga pha.length gc], .slice ta T.length tc] W (fun e w' => ∃ y : EL, e = .returned (.tuple #[y.agg, .int .i64 0]) ∧ y.e = (⟨k1, ao1, av1, old1, b1, a1, r1, fl1⟩ : Ev) ∧ y.at 5 K.pc w' ∧ Ext W w')) := Hid.mk' (fun ba aa ra ha ga bc ac rc hc gc ta tc W h hs hcs => by
    have h1 := pfill_any (⟨⟨pk, pao, pav, po, pb, pa, prs, pf⟩, phb, pha⟩ : Pt) ba aa ra ha ga bc ac rc hc gc T ta tc W h HPS.out.ev (by have := HPS.out.n; simp only at this ⊢; omega) hs hcs.1 hcs.2 (by have := HTL.out.1; omega) (fun s hs => by have := HTL.out.2 s hs; omega)
    unfold PFillQ at h1
    rw [hP, show fillPE (Ev.part (⟨k1, ao1, av1, old1, b1, a1, r1, fl1⟩ : Ev)) T = 0 from by rw [HBB.out.2.1]; exact HB1.out.fe, show fillPV (Ev.part (⟨k1, ao1, av1, old1, b1, a1, r1, fl1⟩ : Ev)) T = (⟨k1, ao1, av1, old1, b1, a1, r1, fl1⟩ : Ev) from by rw [HBB.out.2.1]; exact HB1.out.fv, ← hP] at h1
    exact h1)
  have HK : Hid (k < B.length ∧ (cut.toNat % B.length : Nat) = k) := Hid.mk' ⟨hkB, hk.symm⟩
  unfold EL.agg at HFI
  unfold TakeQ at HTK1 HTK2 HTK3
  simp only at HTK1 HTK2
  simp only [Pt.zero, Ev.zero, List.length_nil] at HTK3
  clear hP hk hkB HTK HB1 HB2 HBB HR HR2 HPS HIB
  have gv := HV7.out.cell
  have zv := HV7.out.lt
  go_upto_region 11 with (go_at_call 56; refine (HTK1.out _ _ (HX5.out.trans HX7.out) (HO5.out.ext HX7.out).sl).mono ?_; rintro e w8 ⟨ba5, aa5, ra5, ha5, ga5, bc5, ac5, rc5, hc5, gc5, rfl, hp8, hb8⟩; have HP8 := Hid.mk' hp8; have HX8 := Hid.mk' hb8; clear hp8 hb8 gv zv)
  have HBA := Hid.mk' (Blk.new w8 #[.int .u8 pk, .int .u32 pao, .int .u32 pav, .int .u8 po, .slice ba5 pb.length bc5, .slice aa5 pa.length ac5, .slice ra5 prs.length rc5, .int .u8 pf, .slice ha5 phb.length hc5, .slice ga5 pha.length gc5] 124)
  have HXA := Hid.mk' (HX8.out.alloc (.cells #[.int .u8 pk, .int .u32 pao, .int .u32 pav, .int .u8 po, .slice ba5 pb.length bc5, .slice aa5 pa.length ac5, .slice ra5 prs.length rc5, .int .u8 pf, .slice ha5 phb.length hc5, .slice ga5 pha.length gc5] 124))
  have HPA := Hid.mk' (HP8.out.ext ((Ext.refl w8).alloc (.cells #[.int .u8 pk, .int .u32 pao, .int .u32 pav, .int .u8 po, .slice ba5 pb.length bc5, .slice aa5 pa.length ac5, .slice ra5 prs.length rc5, .int .u8 pf, .slice ha5 phb.length hc5, .slice ga5 pha.length gc5] 124)))
  obtain ⟨QA, hQA⟩ : ∃ q, q = w8.heap.size := ⟨_, rfl⟩
  obtain ⟨wA, hwA⟩ : ∃ W, W = w8.alloc (.cells #[.int .u8 pk, .int .u32 pao, .int .u32 pav, .int .u8 po, .slice ba5 pb.length bc5, .slice aa5 pa.length ac5, .slice ra5 prs.length rc5, .int .u8 pf, .slice ha5 phb.length hc5, .slice ga5 pha.length gc5] 124) := ⟨_, rfl⟩
  rw [← hQA] at HBA ⊢
  rw [← hwA] at HBA HXA HPA ⊢
  have HVA := Hid.mk' (HV7.out.ext HXA.out)
  clear hQA hwA HP8 HX8 HTK1
  have gv := HVA.out.cell
  have zv := HVA.out.lt
  go_upto_region 12 with (go_at_call 56; refine (HTK2.out _ _ (HX5.out.trans (HX7.out.trans HXA.out)) (HO7.out.ext HXA.out).sl).mono ?_; rintro e w9 ⟨ba6, aa6, ra6, ha6, ga6, bc6, ac6, rc6, hc6, gc6, rfl, hp8, hb8⟩; have HP8 := Hid.mk' hp8; have HX8 := Hid.mk' hb8; clear hp8 hb8 gv zv)
  have HBB := Hid.mk' (Blk.new w9 #[.int .u8 pk, .int .u32 pao, .int .u32 pav, .int .u8 po, .slice ba6 pb.length bc6, .slice aa6 pa.length ac6, .slice ra6 prs.length rc6, .int .u8 pf, .slice ha6 phb.length hc6, .slice ga6 pha.length gc6] 124)
  have HXB := Hid.mk' (HX8.out.alloc (.cells #[.int .u8 pk, .int .u32 pao, .int .u32 pav, .int .u8 po, .slice ba6 pb.length bc6, .slice aa6 pa.length ac6, .slice ra6 prs.length rc6, .int .u8 pf, .slice ha6 phb.length hc6, .slice ga6 pha.length gc6] 124))
  have HPB := Hid.mk' (HP8.out.ext ((Ext.refl w9).alloc (.cells #[.int .u8 pk, .int .u32 pao, .int .u32 pav, .int .u8 po, .slice ba6 pb.length bc6, .slice aa6 pa.length ac6, .slice ra6 prs.length rc6, .int .u8 pf, .slice ha6 phb.length hc6, .slice ga6 pha.length gc6] 124)))
  obtain ⟨QB, hQB⟩ : ∃ q, q = w9.heap.size := ⟨_, rfl⟩
  obtain ⟨wB, hwB⟩ : ∃ W, W = w9.alloc (.cells #[.int .u8 pk, .int .u32 pao, .int .u32 pav, .int .u8 po, .slice ba6 pb.length bc6, .slice aa6 pa.length ac6, .slice ra6 prs.length rc6, .int .u8 pf, .slice ha6 phb.length hc6, .slice ga6 pha.length gc6] 124) := ⟨_, rfl⟩
  rw [← hQB] at HBB ⊢
  rw [← hwB] at HBB HXB HPB ⊢
  clear hQB hwB HP8 HX8 HTK2
  have gA := (HBA.out.ext HXB.out).cell
  have zA := (HBA.out.ext HXB.out).lt
  go_upto_region 13 with (go_at_call 57; refine (HFI.out _ _ _ _ _ _ _ _ _ _ _ _ _ (HPA.out.ext HXB.out) (HS5.out.ext (HX7.out.trans (HXA.out.trans HXB.out))) HC5.out).mono ?_; rintro e w10 ⟨⟨yy, yb1, yc1, ya1, yd1, yr1, ye1⟩, rfl, hye, hat, hb8⟩; simp only at hye; subst hye; have HY1 := Hid.mk' hat; have HX8 := Hid.mk' hb8; clear hat hb8 gA zA; (try simp only))
  have HBC := Hid.mk' (Blk.new w10 #[.int .u8 k1, .int .u32 ao1, .int .u32 av1, .int .u8 old1, .slice yb1 b1.length yc1, .slice ya1 a1.length yd1, .slice yr1 r1.length ye1, .int .u8 fl1] 120)
  have HXC := Hid.mk' (HX8.out.alloc (.cells #[.int .u8 k1, .int .u32 ao1, .int .u32 av1, .int .u8 old1, .slice yb1 b1.length yc1, .slice ya1 a1.length yd1, .slice yr1 r1.length ye1, .int .u8 fl1] 120))
  have HYC := Hid.mk' (HY1.out.ext ((Ext.refl w10).alloc (.cells #[.int .u8 k1, .int .u32 ao1, .int .u32 av1, .int .u8 old1, .slice yb1 b1.length yc1, .slice ya1 a1.length yd1, .slice yr1 r1.length ye1, .int .u8 fl1] 120)))
  obtain ⟨QC, hQC⟩ : ∃ q, q = w10.heap.size := ⟨_, rfl⟩
  obtain ⟨wC, hwC⟩ : ∃ W, W = w10.alloc (.cells #[.int .u8 k1, .int .u32 ao1, .int .u32 av1, .int .u8 old1, .slice yb1 b1.length yc1, .slice ya1 a1.length yd1, .slice yr1 r1.length ye1, .int .u8 fl1] 120) := ⟨_, rfl⟩
  rw [← hQC] at HBC ⊢
  rw [← hwC] at HBC HXC HYC ⊢
  clear hQC hwC HY1 HX8
  have gB := (HBB.out.ext HXC.out).cell
  have zB := (HBB.out.ext HXC.out).lt
  go_upto_region 14 with (go_at_call 57; refine (HFI.out _ _ _ _ _ _ _ _ _ _ _ _ _ (HPB.out.ext HXC.out) (HS7.out.ext (HXA.out.trans (HXB.out.trans HXC.out))) HC7.out).mono ?_; rintro e w11 ⟨⟨yy, yb2, yc2, ya2, yd2, yr2, ye2⟩, rfl, hye, hat, hb8⟩; simp only at hye; subst hye; have HY2 := Hid.mk' hat; have HX8 := Hid.mk' hb8; clear hat hb8 gB zB; (try simp only))
  have HBD := Hid.mk' (Blk.new w11 #[.int .u8 k1, .int .u32 ao1, .int .u32 av1, .int .u8 old1, .slice yb2 b1.length yc2, .slice ya2 a1.length yd2, .slice yr2 r1.length ye2, .int .u8 fl1] 120)
  have HXD := Hid.mk' (HX8.out.alloc (.cells #[.int .u8 k1, .int .u32 ao1, .int .u32 av1, .int .u8 old1, .slice yb2 b1.length yc2, .slice ya2 a1.length yd2, .slice yr2 r1.length ye2, .int .u8 fl1] 120))
  have HYD := Hid.mk' (HY2.out.ext ((Ext.refl w11).alloc (.cells #[.int .u8 k1, .int .u32 ao1, .int .u32 av1, .int .u8 old1, .slice yb2 b1.length yc2, .slice ya2 a1.length yd2, .slice yr2 r1.length ye2, .int .u8 fl1] 120)))
  obtain ⟨QD, hQD⟩ : ∃ q, q = w11.heap.size := ⟨_, rfl⟩
  obtain ⟨wD, hwD⟩ : ∃ W, W = w11.alloc (.cells #[.int .u8 k1, .int .u32 ao1, .int .u32 av1, .int .u8 old1, .slice yb2 b1.length yc2, .slice ya2 a1.length yd2, .slice yr2 r1.length ye2, .int .u8 fl1] 120) := ⟨_, rfl⟩
  rw [← hQD] at HBD ⊢
  rw [← hwD] at HBD HXD HYD ⊢
  clear hQD hwD HY2 HX8 HFI HPA HPB
  have HEB : Hid (evB (⟨k1, ao1, av1, old1, b1, a1, r1, fl1⟩ : Ev) (⟨k1, ao1, av1, old1, b1, a1, r1, fl1⟩ : Ev) = true) := Hid.mk' (evB_true.2 rfl)
  have HSM := Hid.mk' (fun W (h : Ext wD W) => rsame11_any T T a6 a8 c6 c8 W (HS5.out.ext (HX7.out.trans (HXA.out.trans (HXB.out.trans (HXC.out.trans (HXD.out.trans h)))))) (HS7.out.ext (HXA.out.trans (HXB.out.trans (HXC.out.trans (HXD.out.trans h))))) (by have := HTL.out.1; omega))
  rw [decide_eq_true rfl] at HSM
  have HAL := Hid.mk' (fun W (h : Ext wD W) => ealike_any (⟨(⟨k1, ao1, av1, old1, b1, a1, r1, fl1⟩ : Ev), yb1, yc1, ya1, yd1, yr1, ye1⟩ : EL) (⟨(⟨k1, ao1, av1, old1, b1, a1, r1, fl1⟩ : Ev), yb2, yc2, ya2, yd2, yr2, ye2⟩ : EL) W (HYC.out.ext (HXD.out.trans h)) (HYD.out.ext h) HS1.out HS1.out)
  unfold EL.agg at HAL
  simp only at HAL
  rw [HEB.out] at HAL
  have hB0 : ((B.length : Int) == 0) = false := by rw [beq_eq_false_iff_ne]; have := HBL.out; omega
  have HQS : Hid (QC < wD.heap.size ∧ QD < wD.heap.size) := Hid.mk' ⟨(HBC.out.ext HXD.out).lt, HBD.out.lt⟩
  have HCC : Hid (∀ W, Ext wD W → (∀ o, W.cell? ⟨QC, o, none⟩ = (#[.int .u8 k1, .int .u32 ao1, .int .u32 av1, .int .u8 old1, .slice yb1 b1.length yc1, .slice ya1 a1.length yd1, .slice yr1 r1.length ye1, .int .u8 fl1] : Array Value)[o]?) ∧ (∀ o, W.cell? ⟨QD, o, none⟩ = (#[.int .u8 k1, .int .u32 ao1, .int .u32 av1, .int .u8 old1, .slice yb2 b1.length yc2, .slice ya2 a1.length yd2, .slice yr2 r1.length ye2, .int .u8 fl1] : Array Value)[o]?) ∧ QC < W.heap.size ∧ QD < W.heap.size) := Hid.mk' (fun W h => ⟨(HBC.out.ext (HXD.out.trans h)).cell, (HBD.out.ext h).cell, (HBC.out.ext (HXD.out.trans h)).lt, (HBD.out.ext h).lt⟩)
  go_upto_region 16 with (first
    | (go_at_call 58; refine (HSM.out _ (Ext.refl wD)).mono ?_; rintro e w12 ⟨rfl, hb8⟩; have HX12 := Hid.mk' hb8; clear hb8; obtain ⟨gC, gD, zC, zD⟩ := HCC.out _ HX12.out)
    | (go_at_call 59; refine (HAL.out _ HX12.out).mono ?_; rintro e w13 ⟨rfl, hb8⟩; have HX13 := Hid.mk' (HX12.out.trans hb8); clear hb8 gC gD zC zD))
  have HX57 := Hid.mk' (HX7.out.trans (HXA.out.trans (HXB.out.trans (HXC.out.trans (HXD.out.trans HX13.out)))))
  have HE13 := Hid.mk' (HE7.out.trans (HXA.out.trans (HXB.out.trans (HXC.out.trans (HXD.out.trans HX13.out)))))
  have HV13 := Hid.mk' (HVA.out.ext (HXB.out.trans (HXC.out.trans (HXD.out.trans HX13.out))))
  have HSK : Hid (Sl w13 (.slice a5 k c5) 1 ((B.take k).map bcell)) := Hid.mk' (by
    have h1 := (HO5.out.ext HX57.out).sl.front (m := k) (by have := HK.out.1; omega)
    rw [← List.map_take] at h1
    exact h1)
  have HXX := Hid.mk' (HX5.out.trans HX57.out)
  have hcc := owns_caps HO5.out
  have hcw : IntKind.i64.wrap cut = cut := by rw [IntKind.wrap_i64]; have := HC.out; omega
  have hrem : cut.tmod (B.length : Int) = (k : Int) := by
    have h1 := HK.out.2
    have h2 := HC.out.1
    obtain ⟨n, rfl⟩ := Int.eq_ofNat_of_zero_le h2
    rw [Int.toNat_natCast] at h1
    rw [← Int.ofNat_tmod, h1]
  have hBe : ¬ B = [] := fun h => by have := HBL.out.2.2; rw [h] at this; exact absurd this (by decide)
  have hkc : (k : Int) ≤ (c5 : Int) := by have := HK.out.1; omega
  have hcm : (c5 : Int) ≤ 9223372036854775807 := by have := hcc.2; unfold maxLen at this; omega
  clear hcc HVA HXA HXB HXC HXD HX13 HX12 HSM HAL HCC HQS HBC HBD HYC HYD HBA HBB HO7 HS7 HV7 HX7 HX57 HX5 HE7 HEB HS5 HO5
  have gv := HV13.out.cell
  have zv := HV13.out.lt
  refine wp_region_head 16 (fun w' => Ext (w13) w' ∧ (∀ b o, b < (w13).heap.size → w'.cell? ⟨b, o, none⟩ = (w13).cell? ⟨b, o, none⟩) ∧ (∀ b o, b < (w13).heap.size → w'.frozen? ⟨b, o, none⟩ = (w13).frozen? ⟨b, o, none⟩)) (by kernel_rfl) (by decide) ?_
  have hA0 : Hid ((fun w' => Ext (w13) w' ∧ (∀ b o, b < (w13).heap.size → w'.cell? ⟨b, o, none⟩ = (w13).cell? ⟨b, o, none⟩) ∧ (∀ b o, b < (w13).heap.size → w'.frozen? ⟨b, o, none⟩ = (w13).frozen? ⟨b, o, none⟩)) w13.drew) := Hid.mk' (held_of (Ext.refl w13).drew)
  (refine wpHd_takeD (i := 0) (d := some 131) (v := ?_) rfl rfl (by kernel_rfl) (by kernel_rfl) (by kernel_rfl) (fun _ _ _ h => h) (Or.inl ⟨by rfl, ?_⟩) hA0.out ?_; rotate_left 1; (· (intro w' hS'; (obtain ⟨hEs', hcs', hfs'⟩ := hS'); go_simp; try with_reducible rfl)))
  try simp only [Act.put, List.setIfInBounds_toArray, List.set_cons_zero, List.set_cons_succ]
  (refine wpHd_takeD (i := 1) (d := some 132) (v := ?_) rfl rfl (by kernel_rfl) (by kernel_rfl) (by kernel_rfl) (fun _ _ _ h => h) (Or.inl ⟨by rfl, ?_⟩) hA0.out ?_; rotate_left 1; (· (intro w' hS'; (obtain ⟨hEs', hcs', hfs'⟩ := hS'); go_simp; try with_reducible rfl)))
  try simp only [Act.put, List.setIfInBounds_toArray, List.set_cons_zero, List.set_cons_succ]
  (refine wpHd_takeD (i := 2) (d := some 133) (v := ?_) rfl rfl (by kernel_rfl) (by kernel_rfl) (by kernel_rfl) (fun _ _ _ h => h) (Or.inl ⟨by rfl, ?_⟩) hA0.out ?_; rotate_left 1; (· (intro w' hS'; (obtain ⟨hEs', hcs', hfs'⟩ := hS'); go_simp; try with_reducible rfl)))
  try simp only [Act.put, List.setIfInBounds_toArray, List.set_cons_zero, List.set_cons_succ]
  (refine wpHd_takeD (i := 3) (d := some 134) (v := ?_) rfl rfl (by kernel_rfl) (by kernel_rfl) (by kernel_rfl) (fun _ _ _ h => h) (Or.inl ⟨by rfl, ?_⟩) hA0.out ?_; rotate_left 1; (· (intro w' hS'; (obtain ⟨hEs', hcs', hfs'⟩ := hS'); go_simp; try with_reducible rfl)))
  try simp only [Act.put, List.setIfInBounds_toArray, List.set_cons_zero, List.set_cons_succ]
  (refine wpHd_takeD (i := 4) (d := some 135) (v := ?_) rfl rfl (by kernel_rfl) (by kernel_rfl) (by kernel_rfl) (fun _ _ _ h => h) (Or.inl ⟨by rfl, ?_⟩) hA0.out ?_; rotate_left 1; (· (intro w' hS'; (obtain ⟨hEs', hcs', hfs'⟩ := hS'); go_simp; try with_reducible rfl)))
  try simp only [Act.put, List.setIfInBounds_toArray, List.set_cons_zero, List.set_cons_succ]
  (refine wpHd_takeD (i := 5) (d := some 136) (v := ?_) rfl rfl (by kernel_rfl) (by kernel_rfl) (by kernel_rfl) (fun _ _ _ h => h) (Or.inl ⟨by rfl, ?_⟩) hA0.out ?_; rotate_left 1; (· (intro w' hS'; (obtain ⟨hEs', hcs', hfs'⟩ := hS'); go_simp; try with_reducible rfl)))
  try simp only [Act.put, List.setIfInBounds_toArray, List.set_cons_zero, List.set_cons_succ]
  (refine wpHd_takeD (i := 6) (d := some 137) (v := ?_) rfl rfl (by kernel_rfl) (by kernel_rfl) (by kernel_rfl) (fun _ _ _ h => h) (Or.inl ⟨by rfl, ?_⟩) hA0.out ?_; rotate_left 1; (· (intro w' hS'; (obtain ⟨hEs', hcs', hfs'⟩ := hS'); go_simp; try with_reducible rfl)))
  try simp only [Act.put, List.setIfInBounds_toArray, List.set_cons_zero, List.set_cons_succ]
  (refine wpHd_takeD (i := 7) (d := some 138) (v := ?_) rfl rfl (by kernel_rfl) (by kernel_rfl) (by kernel_rfl) (fun _ _ _ h => h) (Or.inl ⟨by rfl, ?_⟩) hA0.out ?_; rotate_left 1; (· (intro w' hS'; (obtain ⟨hEs', hcs', hfs'⟩ := hS'); go_simp; try with_reducible rfl)))
  try simp only [Act.put, List.setIfInBounds_toArray, List.set_cons_zero, List.set_cons_succ]
  (refine wpHd_takeD (i := 8) (d := some 139) (v := ?_) rfl rfl (by kernel_rfl) (by kernel_rfl) (by kernel_rfl) (fun _ _ _ h => h) (Or.inl ⟨by rfl, ?_⟩) hA0.out ?_; rotate_left 1; (· (intro w' hS'; (obtain ⟨hEs', hcs', hfs'⟩ := hS'); go_simp; try with_reducible rfl)))
  try simp only [Act.put, List.setIfInBounds_toArray, List.set_cons_zero, List.set_cons_succ]
  (refine wpHd_takeD (i := 9) (d := some 140) (v := ?_) rfl rfl (by kernel_rfl) (by kernel_rfl) (by kernel_rfl) (fun _ _ _ h => h) (Or.inl ⟨by rfl, ?_⟩) hA0.out ?_; rotate_left 1; (· (intro w' hS'; (obtain ⟨hEs', hcs', hfs'⟩ := hS'); go_simp; try with_reducible rfl)))
  try simp only [Act.put, List.setIfInBounds_toArray, List.set_cons_zero, List.set_cons_succ]
  refine wpHd_two (i := 10) (j := 14) rfl rfl rfl rfl (by kernel_rfl) (fun KK hK => ?_) (fun KK hK => ?_)
  · go_simp
    refine (HTK3.out _ _ (HXX.out.trans (Ext.refl w13).drew) (HSK.out.ext (Ext.refl w13).drew)).mono ?_
    rintro e w14 ⟨ba7, aa7, ra7, ha7, ga7, bc7, ac7, rc7, hc7, gc7, rfl, -, hb14⟩
    have HX14 : Hid (Ext w13 w14) := Hid.mk' ((Ext.refl w13).drew.trans hb14)
    refine hK.out _ _ (held_of HX14.out) (fun hA => ?_)
    clear hK KK hA hb14 hA0
    have hA0 : Hid ((fun w' => Ext (w13) w' ∧ (∀ b o, b < (w13).heap.size → w'.cell? ⟨b, o, none⟩ = (w13).cell? ⟨b, o, none⟩) ∧ (∀ b o, b < (w13).heap.size → w'.frozen? ⟨b, o, none⟩ = (w13).frozen? ⟨b, o, none⟩)) w14) := Hid.mk' (held_of HX14.out)
    (refine wpHd_takeD (i := 11) (d := some 130) (v := ?_) rfl rfl (by kernel_rfl) (by kernel_rfl) (by kernel_rfl) (fun _ _ _ h => h) (Or.inl ⟨by rfl, ?_⟩) hA0.out ?_; rotate_left 1; (· (intro w' hS'; (obtain ⟨hEs', hcs', hfs'⟩ := hS'); go_simp; try with_reducible rfl)))
    try simp only [Act.put, List.setIfInBounds_toArray, List.set_cons_zero, List.set_cons_succ]
    (refine wpHd_takeD (i := 12) (d := some 142) (v := ?_) rfl rfl (by kernel_rfl) (by kernel_rfl) (by kernel_rfl) (fun _ _ _ h => h) (Or.inl ⟨by rfl, ?_⟩) hA0.out ?_; rotate_left 1; (· (intro w' hS'; (obtain ⟨hEs', hcs', hfs'⟩ := hS'); go_simp; try with_reducible rfl)))
    try simp only [Act.put, List.setIfInBounds_toArray, List.set_cons_zero, List.set_cons_succ]
    (refine wpHd_takeD (i := 13) (d := some 143) (v := ?_) rfl rfl (by kernel_rfl) (by kernel_rfl) (by kernel_rfl) (fun _ _ _ h => h) (Or.inl ⟨by rfl, ?_⟩) hA0.out ?_; rotate_left 1; (· (intro w' hS'; (obtain ⟨hEs', hcs', hfs'⟩ := hS'); go_simp; try with_reducible rfl)))
    try simp only [Act.put, List.setIfInBounds_toArray, List.set_cons_zero, List.set_cons_succ]
    refine wpHd_one (i := 14) rfl rfl (by kernel_rfl) (fun KK hK => ?_)
    go_simp
    refine hK.out _ _ (held_of (HX14.out.alloc _)) (fun hA => ?_)
    clear hK KK hA hA0
    have HBE := Hid.mk' (Blk.new w14 #[.int .u8 0, .int .u32 0, .int .u32 0, .int .u8 0, .slice none 0 0, .slice none 0 0, .slice none 0 0, .int .u8 0, .slice none 0 0, .slice none 0 0] 124)
    have HXE : Hid (Ext w13 (w14.alloc (.cells #[.int .u8 0, .int .u32 0, .int .u32 0, .int .u8 0, .slice none 0 0, .slice none 0 0, .slice none 0 0, .int .u8 0, .slice none 0 0, .slice none 0 0] 124))) := Hid.mk' (HX14.out.alloc _)
    have hsz := HX14.out.size
    obtain ⟨wE, hwE⟩ : ∃ W, W = w14.alloc (.cells #[.int .u8 0, .int .u32 0, .int .u32 0, .int .u8 0, .slice none 0 0, .slice none 0 0, .slice none 0 0, .int .u8 0, .slice none 0 0, .slice none 0 0] 124) := ⟨_, rfl⟩
    obtain ⟨QE, hQE⟩ : ∃ q, q = w14.heap.size := ⟨_, rfl⟩
    rw [← hwE, ← hQE] at HBE
    rw [← hwE] at HXE ⊢
    rw [← hQE] at hsz ⊢
    clear hwE hQE gv zv
    have gE := HBE.out.cell
    have fE := HBE.out.frozen
    have zE := HBE.out.lt
    refine wpHd_one (i := 15) rfl rfl (by kernel_rfl) (fun KK hK => ?_)
    go_simp
    refine hK.out _ _ (held_of (HXE.out.ten hsz)) (fun hA => ?_)
    clear hK KK hA gE fE zE
    refine wpHd_tail (by kernel_rfl) ?_
    simp only [List.drop_succ_cons, List.drop_zero]
    go_wp2_with (go_at_call 55; refine (HW.out _).mono ?_; rintro e w8 ⟨rfl, hb8⟩; have HE8 := Hid.mk' hb8; clear hb8)
    go_ret
    exact ⟨rfl, HE13.out.trans ((HXE.out.ten hsz).trans HE8.out)⟩
  · go_simp
    have HXE : Hid (Ext w13 ((w13.alloc (.cells #[.int .u8 0, .int .u32 0, .int .u32 0, .int .u8 0, .slice none 0 0, .slice none 0 0, .slice none 0 0, .int .u8 0, .slice none 0 0, .slice none 0 0] 124)).drew)) := Hid.mk' ((Ext.refl w13).alloc _).drew
    have HBE : Hid (Blk ((w13.alloc (.cells #[.int .u8 0, .int .u32 0, .int .u32 0, .int .u8 0, .slice none 0 0, .slice none 0 0, .slice none 0 0, .int .u8 0, .slice none 0 0, .slice none 0 0] 124)).drew) w13.heap.size #[.int .u8 0, .int .u32 0, .int .u32 0, .int .u8 0, .slice none 0 0, .slice none 0 0, .slice none 0 0, .int .u8 0, .slice none 0 0, .slice none 0 0] 124) := Hid.mk' ((Blk.new w13 #[.int .u8 0, .int .u32 0, .int .u32 0, .int .u8 0, .slice none 0 0, .slice none 0 0, .slice none 0 0, .int .u8 0, .slice none 0 0, .slice none 0 0] 124).ext (Ext.refl _).drew)
    refine hK.out _ _ (held_of HXE.out) (fun hA => ?_)
    clear hK KK hA hA0
    obtain ⟨wE, hwE⟩ : ∃ W, W = (w13.alloc (.cells #[.int .u8 0, .int .u32 0, .int .u32 0, .int .u8 0, .slice none 0 0, .slice none 0 0, .slice none 0 0, .int .u8 0, .slice none 0 0, .slice none 0 0] 124)).drew := ⟨_, rfl⟩
    rw [← hwE] at HBE HXE ⊢
    clear hwE gv zv
    refine wpHd_one (i := 10) rfl rfl (by kernel_rfl) (fun KK hK => ?_)
    go_simp
    refine (HTK3.out _ _ (HXX.out.trans HXE.out) (HSK.out.ext HXE.out)).mono ?_
    rintro e w14 ⟨ba7, aa7, ra7, ha7, ga7, bc7, ac7, rc7, hc7, gc7, rfl, -, hb14⟩
    have HX14 : Hid (Ext wE w14) := Hid.mk' hb14
    have HXF : Hid (Ext w13 w14) := Hid.mk' (HXE.out.trans hb14)
    refine hK.out _ _ (held_of HXF.out) (fun hA => ?_)
    clear hK KK hA hb14
    have hA0 : Hid ((fun w' => Ext (w13) w' ∧ (∀ b o, b < (w13).heap.size → w'.cell? ⟨b, o, none⟩ = (w13).cell? ⟨b, o, none⟩) ∧ (∀ b o, b < (w13).heap.size → w'.frozen? ⟨b, o, none⟩ = (w13).frozen? ⟨b, o, none⟩)) w14) := Hid.mk' (held_of HXF.out)
    (refine wpHd_takeD (i := 11) (d := some 130) (v := ?_) rfl rfl (by kernel_rfl) (by kernel_rfl) (by kernel_rfl) (fun _ _ _ h => h) (Or.inl ⟨by rfl, ?_⟩) hA0.out ?_; rotate_left 1; (· (intro w' hS'; (obtain ⟨hEs', hcs', hfs'⟩ := hS'); go_simp; try with_reducible rfl)))
    try simp only [Act.put, List.setIfInBounds_toArray, List.set_cons_zero, List.set_cons_succ]
    (refine wpHd_takeD (i := 12) (d := some 142) (v := ?_) rfl rfl (by kernel_rfl) (by kernel_rfl) (by kernel_rfl) (fun _ _ _ h => h) (Or.inl ⟨by rfl, ?_⟩) hA0.out ?_; rotate_left 1; (· (intro w' hS'; (obtain ⟨hEs', hcs', hfs'⟩ := hS'); go_simp; try with_reducible rfl)))
    try simp only [Act.put, List.setIfInBounds_toArray, List.set_cons_zero, List.set_cons_succ]
    (refine wpHd_takeD (i := 13) (d := some 143) (v := ?_) rfl rfl (by kernel_rfl) (by kernel_rfl) (by kernel_rfl) (fun _ _ _ h => h) (Or.inl ⟨by rfl, ?_⟩) hA0.out ?_; rotate_left 1; (· (intro w' hS'; (obtain ⟨hEs', hcs', hfs'⟩ := hS'); go_simp; try with_reducible rfl)))
    try simp only [Act.put, List.setIfInBounds_toArray, List.set_cons_zero, List.set_cons_succ]
    have HBF := Hid.mk' (HBE.out.ext HX14.out)
    have gE := HBF.out.cell
    have fE := HBF.out.frozen
    have zE := HBF.out.lt
    refine wpHd_one (i := 15) rfl rfl (by kernel_rfl) (fun KK hK => ?_)
    go_simp
    refine hK.out _ _ (held_of (HXF.out.ten (Nat.le_refl _))) (fun hA => ?_)
    clear hK KK hA gE fE zE hA0
    refine wpHd_tail (by kernel_rfl) ?_
    simp only [List.drop_succ_cons, List.drop_zero]
    go_wp2_with (go_at_call 55; refine (HW.out _).mono ?_; rintro e w8 ⟨rfl, hb8⟩; have HE8 := Hid.mk' hb8; clear hb8)
    go_ret
    exact ⟨rfl, HE13.out.trans ((HXF.out.ten (Nat.le_refl _)).trans HE8.out)⟩

end Go.Proofs.YtjnafppkbhldlaaGreat
