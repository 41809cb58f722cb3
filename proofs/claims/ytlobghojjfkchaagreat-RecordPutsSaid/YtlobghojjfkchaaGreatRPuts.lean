/-
The walk of RecordPuts.
-/
import Derived.Test.YtlobghojjfkchaaGreatP20
import Derived.Test.YtlobghojjfkchaaGreatRecPutX
import Derived.Test.YtlobghojjfkchaaGreatRShort
namespace Go.Proofs.YtlobghojjfkchaaGreat
open Go.RowKit

set_option maxRecDepth 100000 in set_option maxHeartbeats 8000000 in
theorem recputs_law (ps : List RR) (a : Option Addr) (cap : Nat) (x : EL) (ver : Int) (w : World) (hl : RL w (.slice a ps.length cap) ps) (hb : ∀ p ∈ ps, p.r.wb) (hlen : ps.length ≤ 9223372036854775807) (hx : x.at 6 K.rc w) (hz : x.e.sz) (ht : x.e.tw) (hv : 0 ≤ ver) :
    Calls Tryz.prog 3 #[.slice a ps.length cap, x.agg, .int .u8 ver] w fun e w' => e = .returned (.bool true) ∧ Ext w w' := by
  have HGR := Hid.mk' (great15_any ps a cap x w hl hb hlen hx hz _ rfl)
  have HRI := Hid.mk' (fun W (h : Ext w W) => right15_any ps a cap W (hl.ext h) hb hlen)
  have HWN := Hid.mk' (fun W (h : Ext w W) (h1 : ps.length ≤ 1000) (h0 : ofE (ps.map RR.r) = 0) => own15_any ps a cap W (hl.ext h) hb h1 h0)
  have HX := Hid.mk' hx
  have HT := Hid.mk' ht
  have HV := Hid.mk' hv
  have HWK : Hid x.e.wk := Hid.mk' ⟨hz.sb, hz.sa, hz.old.1⟩
  obtain ⟨⟨k1, ao1, av1, old1, b1, a1, r1, fl1⟩, ba1, bc1, aa1, ac1, ra1, rc1⟩ := x
  obtain ⟨EA, hEA⟩ : ∃ E, E = ofE (ps.map RR.r) := ⟨_, rfl⟩
  rw [← hEA] at HRI HWN
  clear hEA hl hb hlen hx hz ht hv
  unfold EL.agg
  simp only at HGR HX HT HWK ⊢
  by_cases hA : EA = 0
  case neg =>
    have hA1 : (EA == 0) = false := by simpa using hA
    rw [hA1] at HRI
    clear hA hA1 HWN
    go_enter Tryz.func3, Tryz.ntmps3
    go_wp2_with (first
      | (go_at_call 9; refine HGR.out.mono ?_; rintro e w1 ⟨g, rfl, -, hb1⟩; have HX1 := Hid.mk' hb1; have HB1 := Hid.mk' (((Ext.refl w).alloc _).trans hb1); clear hb1; cases g)
      | (go_at_call 10; refine (HRI.out _ HB1.out).mono ?_; rintro e w2 ⟨rfl, hb2⟩; have HB2 := Hid.mk' (HB1.out.trans hb2); clear hb2))
    all_goals go_ret
    · exact ⟨rfl, HB2.out⟩
    · exact ⟨rfl, HB1.out⟩
  subst hA
  rw [show ((0 : Int) == 0) = true from rfl] at HRI
  go_enter Tryz.func3, Tryz.ntmps3
  go_upto_region 3 with (first
      | (go_at_call 9; refine HGR.out.mono ?_; rintro e w1 ⟨g, rfl, hg, hb1⟩; have HG := Hid.mk' hg; have HX1 := Hid.mk' hb1; have HB1 := Hid.mk' (((Ext.refl w).alloc _).trans hb1); clear hb1 hg; cases g)
      | (go_at_call 10; refine (HRI.out _ HB1.out).mono ?_; rintro e w2 ⟨rfl, hb2⟩; have HB2 := Hid.mk' (HB1.out.trans hb2); have HX2 := Hid.mk' (HX1.out.trans hb2); clear hb2))
  all_goals try (go_ret; exact ⟨rfl, HB1.out⟩)
  have HLT := Hid.mk' (HG.out (by first | exact rfl | exact trivial))
  have HVB := Hid.mk' ((Blk.new w #[.int .u8 k1, .int .u32 ao1, .int .u32 av1, .int .u8 old1, .slice ba1 b1.length bc1, .slice aa1 a1.length ac1, .slice ra1 r1.length rc1, .int .u8 fl1] 29).ext HX2.out)
  clear HG HGR HRI
  go_upto_region 6 with (go_at_call 11; refine (HWN.out _ HB2.out HLT.out.1 (by first | exact rfl | exact trivial)).mono ?_; rintro e w3 ⟨g, N, cc, qc, aw, cw, U, rfl, hq, hb3⟩; have HQ := Hid.mk' hq; have HX3 := Hid.mk' hb3; have HB3 := Hid.mk' (HB2.out.trans hb3); clear hb3 hq)
  have HV3 := Hid.mk' (HVB.out.ext HX3.out)
  have gv := HV3.out.cell
  have zv := HV3.out.lt
  have HS1 := Hid.mk' HLT.out.2
  have HOE := Hid.mk' (fun W (h : Ext w W) => eown_el (⟨(⟨k1, ao1, av1, old1, b1, a1, r1, fl1⟩ : Ev), ba1, bc1, aa1, ac1, ra1, rc1⟩ : EL) W (HX.out.ext h) HS1.out.b HS1.out.a HS1.out.r)
  unfold EL.agg at HOE
  simp only at HOE
  obtain ⟨B, hB⟩ : ∃ B, B = recB (⟨k1, ao1, av1, old1, b1, a1, r1, fl1⟩ : Ev) (qc.map RR.r) ver := ⟨_, rfl⟩
  obtain ⟨T, hT⟩ : ∃ T, T = recT (⟨k1, ao1, av1, old1, b1, a1, r1, fl1⟩ : Ev) (qc.map RR.r) ver := ⟨_, rfl⟩
  obtain ⟨R, hR⟩ : ∃ R, R = recE (⟨k1, ao1, av1, old1, b1, a1, r1, fl1⟩ : Ev) (qc.map RR.r) ver := ⟨_, rfl⟩
  have HRP := Hid.mk' (fun (ba3 aa3 ra3 : Option Addr) (bc3 ac3 rc3 : Nat) W (h : Ext w3 W) (h1 : (⟨(⟨k1, ao1, av1, old1, b1, a1, r1, fl1⟩ : Ev), ba3, bc3, aa3, ac3, ra3, rc3⟩ : EL).at 5 K.pc W) => recput_any (⟨(⟨k1, ao1, av1, old1, b1, a1, r1, fl1⟩ : Ev), ba3, bc3, aa3, ac3, ra3, rc3⟩ : EL) ver N g cc qc W h1 HS1.out HWK.out (HQ.out.ca.ext h) HT.out HV.out)
  have HRR := Hid.mk' (fun W (h : Ext w3 W) => rrecput_any (⟨(⟨k1, ao1, av1, old1, b1, a1, r1, fl1⟩ : Ev), ba1, bc1, aa1, ac1, ra1, rc1⟩ : EL) ver U aw cw W (HX.out.ext (HB3.out.trans h)) HS1.out HWK.out (HQ.out.rl.ext h) HQ.out.rc HT.out)
  rw [HQ.out.eq] at HRR
  unfold RecPutQ EL.agg at HRP HRR
  simp only at HRP HRR
  rw [← hB, ← hT, ← hR] at HRP HRR
  have HTL : Hid (T.length ≤ 256) := Hid.mk' (by rw [hT]; exact recT_len HWK.out)
  clear hB hT hR HQ HWN HLT HVB HX2 HX1 HB1
  go_upto_region 8 with (first
    | (go_at_call 13; refine (HOE.out _ HB3.out).mono ?_; rintro e w4 ⟨⟨ye, ba3, bc3, aa3, ac3, ra3, rc3⟩, rfl, hye, hat, -, hb4⟩; simp only at hye; subst hye; have HAT := Hid.mk' hat; have HX4 := Hid.mk' hb4; clear hat hb4 gv zv; (try simp only))
    | (go_at_call 12; refine (HRP.out ba3 aa3 ra3 bc3 ac3 rc3 _ HX4.out HAT.out).mono ?_; rintro e w5 ⟨a5, c5, a6, c6, rfl, ho5, hs5, hb5⟩; have HO5 := Hid.mk' ho5; have HS5 := Hid.mk' hs5; have HX5 := Hid.mk' (HX4.out.trans hb5); have HV5 := Hid.mk' (HV3.out.ext HX5.out); clear ho5 hs5 hb5; have gv := HV5.out.cell; have zv := HV5.out.lt)
    | (go_at_call 14; refine (HRR.out _ HX5.out).mono ?_; rintro e w6 ⟨a7, c7, a8, c8, rfl, ho6, hs6, hb6⟩; have HO6 := Hid.mk' ho6; have HS6 := Hid.mk' hs6; have HX6 := Hid.mk' hb6; clear ho6 hs6 hb6 gv zv))
  have HE6 := Hid.mk' (HB3.out.trans (HX5.out.trans HX6.out))
  have hc5 := conv_Sl (HO5.out.ext HX6.out).sl
  have hc6 := conv_Sl HO6.out.sl
  have HSM := Hid.mk' (fun W (h : Ext w6 W) => rsame11_any T T a6 a8 c6 c8 W (HS5.out.ext (HX6.out.trans h)) (HS6.out.ext h) (by have := HTL.out; omega))
  rw [decide_eq_true rfl] at HSM
  have HW := Hid.mk' (fun W => awake15_any W)
  clear HOE HRP HRR HAT HX4 HX3 HB3 HV3 HX HV5
  generalize strOfNums B = SB at hc5 hc6
  go_wp2_with (first
    | (go_at_call 15; refine (HSM.out _ (by exact eX)).mono ?_; rintro e w7 ⟨rfl, hb7⟩; have HE7 := Hid.mk' (show Ext w6 w7 from by exact eX); clear hb7)
    | (go_at_call 16; refine (HW.out _).mono ?_; rintro e w8 ⟨rfl, hb8⟩; have HE8 := Hid.mk' (HE7.out.trans hb8); clear hb8))
  go_ret
  exact ⟨rfl, HE6.out.trans HE8.out⟩

end Go.Proofs.YtlobghojjfkchaaGreat
