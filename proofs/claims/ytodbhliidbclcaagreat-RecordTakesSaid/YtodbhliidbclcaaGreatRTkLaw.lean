/-
The walk of RecordTakes.
-/
import Derived.Test.YtodbhliidbclcaaGreatP30
set_option maxRecDepth 100000
set_option maxHeartbeats 16000000
namespace Go.Proofs.YtodbhliidbclcaaGreat
open Go.RowKit HG
theorem great15n_any (ps:List RR) (a:Option Addr) (cap:Nat) (w:World) (hl:RL w (.slice a ps.length cap) ps) (hb:∀p∈ps,p.r.wb) (hlen:ps.length≤9223372036854775807):
 Calls Tryz.prog 4 #[.slice a ps.length cap, .slice none 0 0] w fun e w' =>∃g:Bool,e= .returned (.bool g)∧(g=false→ps.length≤1000)∧Ext w w' :=by
 refine (greatT_any ps [] a none cap 0 w hl ⟨Sl.nil0 _ _,fun t ht=>(by cases ht)⟩ hlen (by simp) hb (fun t ht=>(by cases ht))).mono fun e w' h=> ?_
 obtain ⟨g,rfl,h3,h4⟩:=h
 exact ⟨g,rfl,fun hg=>by have:=(h3 hg).n;omega,h4⟩
theorem fillPV_smallT {p:Pt} {ps:List ByteArray} (h:p.small):(fillPV p ps).small:=by
 unfold fillPV
 have h1:=h.e
 split
 ·refine ⟨?_, ?_, ?_⟩
  ·simp only;rw [fillUp_len];omega
  ·simp only;rw [fillUp_len];omega
  ·simp only;omega
 ·exact ⟨Nat.zero_le _,Nat.zero_le _,Nat.zero_le _⟩
theorem rectakes_law (ps:List RR) (a:Option Addr) (cap:Nat) (kd vr:Int) (lb:List Int) (ab:Option Addr) (cb:Nat) (pcs:List ByteArray) (ap:Option Addr) (cp:Nat) (w:World) (hl:RL w (.slice a ps.length cap) ps) (hb:∀p∈ps,p.r.wb) (hlen:ps.length≤9223372036854775807)
 (hlb:Sl w (.slice ab lb.length cb) 1 (lb.map bcell)) (hlbl:lb.length≤9223372036854775807) (hcb:lb.length≤cb∧(ab=none→cb=0)) (hib:isB lb) (hpc:Sl w (.slice ap pcs.length cp) 1 (pcs.map strC)) (hpl:pcs.length≤9223372036854775807) (hcp:pcs.length≤cp∧cp≤maxLen) (hps:∀t∈pcs,t.size≤9223372036854775807):
 Calls Tryz.prog 3 #[.slice a ps.length cap, .agg #[.int .u8 kd, .int .u8 vr, .slice ab lb.length cb, .slice ap pcs.length cp]] w fun e w' =>e= .returned (.bool true)∧Ext w w' :=by
 have HGR:=Hm (fun W (h:Ext w W)=>great15n_any ps a cap W (hl.ext h) hb hlen)
 have HRI:=Hm (fun W (h:Ext w W)=>right15_any ps a cap W (hl.ext h) hb hlen)
 have HWN:=Hm (fun W (h:Ext w W) (h1:ps.length≤1000) (h0:ofE (ps.map RR.r)=0)=>own15_any ps a cap W (hl.ext h) hb h1 h0)
 have HLBS:=Hm hlb
 have HIB:=Hm hib
 have HPCS:=Hm hpc
 have HPS:=Hm hps
 have HCP:=Hm hcp
 have HCB:=Hm hcb
 obtain ⟨EA,hEA⟩:∃E,E=ofE (ps.map RR.r):=⟨_,rfl⟩
 rw [←hEA] at HRI HWN
 clear hEA hl hb hlen hlb hib hpc hcp hcb hps
 obtain ⟨nb,hnb⟩:∃n,n=lb.length:=⟨_,rfl⟩
 obtain ⟨np,hnp⟩:∃n,n=pcs.length:=⟨_,rfl⟩
 rw [←hnb] at HLBS HCB hlbl⊢
 rw [←hnp] at HPCS HCP hpl⊢
 have HNN:=Hm (And.intro hnb hnp)
 clear hnb hnp
 go_enter Tryz.func3,Tryz.ntmps3
 go_upto_region 1 with (fail)
 have HLB:Hid (Blk (w.alloc (.cells #[.int .u8 kd, .int .u8 vr, .slice ab nb cb, .slice ap np cp] 26)) w.heap.size #[.int .u8 kd, .int .u8 vr, .slice ab nb cb, .slice ap np cp] 26):=Hm (Blk.new w _ _)
 have HEA:Hid (Ext w (w.alloc (.cells #[.int .u8 kd, .int .u8 vr, .slice ab nb cb, .slice ap np cp] 26))):=Hm ((Ext.refl w).alloc _)
 obtain ⟨wA,hwA⟩:∃W,W=w.alloc (.cells #[.int .u8 kd, .int .u8 vr, .slice ab nb cb, .slice ap np cp] 26):=⟨_,rfl⟩
 rw [←hwA] at HLB HEA⊢
 clear hwA
 have HGA:=Hm (HGR.out wA HEA.out)
 have HRA:=Hm (fun W (h:Ext wA W)=>HRI.out W (HEA.out.trans h))
 clear HGR HRI
 have hnb64:(nb:Int)≤9223372036854775807:=by omega
 have hnp64:(np:Int)≤9223372036854775807:=by omega
 by_cases hA:EA=0
 case neg=>
  have hA1:(EA==0)=false:=by simpa using hA
  rw [hA1] at HRA
  clear hA hA1 HWN
  go_wp2_with (first
   |(go_at_call 4;refine HGA.out.mono ?_;rintro e w1 ⟨g,rfl, -,hb1⟩;have HX1:=Hm hb1;clear hb1;cases g)
   |(go_at_call 5;refine (HRA.out _ HX1.out).mono ?_;rintro e w2 ⟨rfl,hb2⟩;have HX2:=Hm (HX1.out.trans hb2);clear hb2))
  all_goals go_ret
  ·exact ⟨rfl,HEA.out.trans HX2.out⟩
  ·exact ⟨rfl,HEA.out.trans HX1.out⟩
 subst hA
 rw [show ((0:Int)==0)=true from rfl] at HRA
 by_cases hnb5:nb≤5000∧np≤300
 case neg=>
  clear HWN
  have hor:5000<(nb:Int)∨(¬ 5000<(nb:Int)∧300<(np:Int)):=by omega
  clear hnb5
  rcases hor with h5|⟨h5,h3⟩
  all_goals
   go_wp2_with (first
    |(go_at_call 4;refine HGA.out.mono ?_;rintro e w1 ⟨g,rfl, -,hb1⟩;have HX1:=Hm hb1;clear hb1;cases g)
    |(go_at_call 5;refine (HRA.out _ HX1.out).mono ?_;rintro e w2 ⟨rfl,hb2⟩;have HX2:=Hm (HX1.out.trans hb2);clear hb2;have gL:=(HLB.out.ext HX2.out).cell;have zL:=(HLB.out.ext HX2.out).lt))
   all_goals go_ret
   all_goals first|exact ⟨rfl,HEA.out.trans HX2.out⟩|exact ⟨rfl,HEA.out.trans HX1.out⟩
 have h5: ¬ 5000<(nb:Int):=by omega
 have h3: ¬ 300<(np:Int):=by omega
 have HNB:=Hm hnb5
 clear hnb5
 go_upto_region 3 with (first
  |(go_at_call 4;refine HGA.out.mono ?_;rintro e w1 ⟨g,rfl,hg,hb1⟩;have HG:=Hm hg;have HX1:=Hm hb1;clear hb1 hg;cases g)
  |(go_at_call 5;refine (HRA.out _ HX1.out).mono ?_;rintro e w2 ⟨rfl,hb2⟩;have HX2:=Hm (HX1.out.trans hb2);clear hb2;have gL:=(HLB.out.ext HX2.out).cell;have zL:=(HLB.out.ext HX2.out).lt))
 all_goals try (go_ret;exact ⟨rfl,HEA.out.trans HX1.out⟩)
 have HLT:=Hm (HG.out (by first|exact rfl|exact trivial))
 clear HG HGA HRA h5 h3 gL zL
 have HL2:=Hm (HLB.out.ext HX2.out)
 have HE2:=Hm (HEA.out.trans HX2.out)
 clear HLB HEA HX2 HX1
 go_wp2
 go_loopg [5] np (fun z i wr=>∃k:Nat,z+k=np∧i= .int .i64 k∧Hid (∀j (h:j<pcs.length),j<k→pcs[j].size≤3000)∧Hid (Ext w2 wr))
 case atStart=>exact ⟨0,by omega,rfl,Hm (fun j h h2=>by omega),Hm (Ext.refl _)⟩
 case round=>
  obtain ⟨k,hzk,rfl,hsz,hE⟩:=hrel
  have gL:=(HL2.out.ext hE.out).cell
  have zL:=(HL2.out.ext hE.out).lt
  by_cases hlt:k<np
  ·have hlp:k<pcs.length:=by have:=HNN.out.2;omega
   obtain ⟨b1,o1,rfl,hb1,hx1⟩:=HPCS.out.at_ (i:=k) (by simpa using hlp)
   have p0:=str_at hlp hx1 hb1 (HE2.out.trans hE.out)
   have hbw:b1<wr.heap.size:=Nat.lt_of_lt_of_le hb1 (HE2.out.trans hE.out).size
   have HZ:=Hm (fun (h:pcs[k].size≤3000) j (hj:j<pcs.length) (h2:j<k+1)=>(show pcs[j].size≤3000 by
    by_cases e:j=k
    ·subst e;exact h
    ·exact hsz.out j hj (by omega)))
   have hs64:(pcs[k].size:Int)≤9223372036854775807:=by have:=HPS.out _ (List.getElem_mem hlp);omega
   obtain ⟨t,ht⟩:∃t,t=pcs[k]:=⟨_,rfl⟩
   rw [←ht] at p0 HZ hs64
   have HLT2:=Hm hlt
   have hk63:(k:Int)≤300:=by have:=HNB.out;omega
   have hkl:(k:Int)<(np:Int):=by omega
   clear ht hx1 hb1 hlp hlt
   by_cases h3:3000<(t.size:Int)
   ·clear HZ
    go_wp2
    go_ret
    exact ⟨rfl,HE2.out.trans hE.out⟩
   ·have HZ2:=Hm (HZ.out (by omega))
    clear HZ
    go_wp2
    go_roundg (np - (k+1))
    case measure=>have:=HLT2.out;omega
    case rel=>exact ⟨k+1,Nat.sub_add_cancel HLT2.out,by go_num,HZ2,hE⟩
  ·have hkl: ¬ (k:Int)<(np:Int):=by omega
   have HPZ:Hid (∀t∈pcs,t.size≤3000):=Hm (fun t ht=>by
    obtain ⟨j,hj,rfl⟩:=List.getElem_of_mem ht
    exact hsz.out j hj (by have:=HNN.out.2;omega))
   have HE2R:=Hm (HE2.out.trans hE.out)
   clear hlt hzk hsz
   go_upto_region 11 with (go_at_call 6;refine (HWN.out _ HE2R.out HLT.out (by first|exact rfl|exact trivial)).mono ?_;rintro e w3 ⟨g,N,cc,qc,aw,cw,U,rfl,hq,hb3⟩;have HQ:=Hm hq;have HX3:=Hm hb3;clear hb3 hq)
   have HL3:=Hm (HL2.out.ext (hE.out.trans HX3.out))
   have HE3:=Hm (HE2R.out.trans HX3.out)
   obtain ⟨cat,hcat⟩:∃c,c=qc.map RR.r:=⟨_,rfl⟩
   have HUC:Hid (U.map RR.r=cat):=Hm (by rw [hcat];exact HQ.out.eq)
   have HUN:Hid (U.length≤1000):=Hm (by
    have h1:=HQ.out.ca.n64
    have h2:=congrArg List.length HQ.out.eq
    rw [List.length_map,List.length_map] at h2
    omega)
   have HTK:Hid (∀W,Ext w3 W→Calls Tryz.prog 7 #[.pointer (some ⟨g,0,none⟩), .int .u8 kd, .slice ab nb cb, .int .u8 vr] W (TakeQ (takeEP cat kd lb vr) (takeEE cat kd lb vr) W)):=Hm (fun W h=>by
    have h1:=rectake_any kd vr (.slice ab nb cb) lb N g cc qc W (HLBS.out.ext (HE3.out.trans h)) (by have:=HNB.out;have:=HNN.out.1;omega) HIB.out (HQ.out.ca.ext h)
    rw [←hcat] at h1
    exact h1)
   have HTR:Hid (∀W,Ext w3 W→Calls Tryz.prog 8 #[.slice aw U.length cw, .int .u8 kd, .slice ab nb cb, .int .u8 vr] W (RTakeQ (takeEP cat kd lb vr) (takeEE cat kd lb vr) W)):=Hm (fun W h=>by
    have h1:=rtake15_any kd vr (.slice ab nb cb) lb U aw cw W (AB.of_sl (HLBS.out.ext (HE3.out.trans h)) (fun a2 l2 c2 e=>by
     simp only [Value.slice.injEq] at e
     obtain ⟨rfl,rfl,rfl⟩:=e
     exact HCB.out)) (by have:=HNB.out;have:=HNN.out.1;omega) HIB.out (HQ.out.rl.ext h) HUN.out HQ.out.rc
    rw [HUC.out] at h1
    exact h1)
   obtain ⟨EE,hEE⟩:∃E,E=takeEE cat kd lb vr:=⟨_,rfl⟩
   obtain ⟨⟨⟨pk,pao,pav,po,pb,pa,prs,pf⟩,phb,pha⟩,hP⟩:∃P:Pt,P=takeEP cat kd lb vr:=⟨_,rfl⟩
   have HPSM:Hid (Pt.small (⟨⟨pk,pao,pav,po,pb,pa,prs,pf⟩,phb,pha⟩:Pt)):=Hm (by rw [hP];exact takeEP_small _ _ _ _)
   rw [←hEE,←hP] at HTK HTR
   unfold TakeQ at HTK
   unfold RTakeQ at HTR
   simp only at HTK HTR
   clear hEE hP hcat HQ HUC HUN HL2 HX3 hE gL zL
   have gL:=HL3.out.cell
   have zL:=HL3.out.lt
   go_upto_region 12 with (go_at_call 7;refine (HTK.out _ (Ext.refl w3)).mono ?_;rintro e w8 ⟨ba5,aa5,ra5,ha5,ga5,bc5,ac5,rc5,hc5,gc5,rfl,hp8,hb8⟩;have HP8:=Hm hp8;have HX8:=Hm hb8;clear hp8 hb8 gL zL)
   have HBA:=Hm (Blk.new w8 #[.int .u8 pk, .int .u32 pao, .int .u32 pav, .int .u8 po, .slice ba5 pb.length bc5, .slice aa5 pa.length ac5, .slice ra5 prs.length rc5, .int .u8 pf, .slice ha5 phb.length hc5, .slice ga5 pha.length gc5] 42)
   have HXA:=Hm (HX8.out.alloc (.cells #[.int .u8 pk, .int .u32 pao, .int .u32 pav, .int .u8 po, .slice ba5 pb.length bc5, .slice aa5 pa.length ac5, .slice ra5 prs.length rc5, .int .u8 pf, .slice ha5 phb.length hc5, .slice ga5 pha.length gc5] 42))
   have HPA:=Hm (HP8.out.ext ((Ext.refl w8).alloc (.cells #[.int .u8 pk, .int .u32 pao, .int .u32 pav, .int .u8 po, .slice ba5 pb.length bc5, .slice aa5 pa.length ac5, .slice ra5 prs.length rc5, .int .u8 pf, .slice ha5 phb.length hc5, .slice ga5 pha.length gc5] 42)))
   obtain ⟨QA,hQA⟩:∃q,q=w8.heap.size:=⟨_,rfl⟩
   obtain ⟨wB,hwB⟩:∃W,W=w8.alloc (.cells #[.int .u8 pk, .int .u32 pao, .int .u32 pav, .int .u8 po, .slice ba5 pb.length bc5, .slice aa5 pa.length ac5, .slice ra5 prs.length rc5, .int .u8 pf, .slice ha5 phb.length hc5, .slice ga5 pha.length gc5] 42):=⟨_,rfl⟩
   rw [←hQA] at HBA⊢
   rw [←hwB] at HBA HXA HPA⊢
   clear hQA hwB HP8 HX8 HTK
   have HLA:=Hm (HL3.out.ext HXA.out)
   have gL:=HLA.out.cell
   have zL:=HLA.out.lt
   go_upto_region 13 with (go_at_call 8;refine (HTR.out _ HXA.out).mono ?_;rintro e w9 ⟨ba6,aa6,ra6,ha6,ga6,bc6,ac6,rc6,hc6,gc6,rfl,hp8,hb8,hn8⟩;have HP8:=Hm hp8;have HNL:=Hm hn8;have HX8:=Hm hb8;clear hp8 hb8 hn8 gL zL)
   have HBB:=Hm (Blk.new w9 #[.int .u8 pk, .int .u32 pao, .int .u32 pav, .int .u8 po, .slice ba6 pb.length bc6, .slice aa6 pa.length ac6, .slice ra6 prs.length rc6, .int .u8 pf, .slice ha6 phb.length hc6, .slice ga6 pha.length gc6] 53)
   have HXB:=Hm (HX8.out.alloc (.cells #[.int .u8 pk, .int .u32 pao, .int .u32 pav, .int .u8 po, .slice ba6 pb.length bc6, .slice aa6 pa.length ac6, .slice ra6 prs.length rc6, .int .u8 pf, .slice ha6 phb.length hc6, .slice ga6 pha.length gc6] 53))
   have HPB:=Hm (HP8.out.ext ((Ext.refl w9).alloc (.cells #[.int .u8 pk, .int .u32 pao, .int .u32 pav, .int .u8 po, .slice ba6 pb.length bc6, .slice aa6 pa.length ac6, .slice ra6 prs.length rc6, .int .u8 pf, .slice ha6 phb.length hc6, .slice ga6 pha.length gc6] 53)))
   obtain ⟨QB,hQB⟩:∃q,q=w9.heap.size:=⟨_,rfl⟩
   obtain ⟨wC,hwC⟩:∃W,W=w9.alloc (.cells #[.int .u8 pk, .int .u32 pao, .int .u32 pav, .int .u8 po, .slice ba6 pb.length bc6, .slice aa6 pa.length ac6, .slice ra6 prs.length rc6, .int .u8 pf, .slice ha6 phb.length hc6, .slice ga6 pha.length gc6] 53):=⟨_,rfl⟩
   rw [←hQB] at HBB⊢
   rw [←hwC] at HBB HXB HPB⊢
   clear hQB hwC HP8 HX8 HTR
   have HAB:=Hm (HBA.out.ext HXB.out)
   have HPA2:=Hm (HPA.out.ext HXB.out)
   have HLC:=Hm (HLA.out.ext HXB.out)
   have HEC:=Hm (HE3.out.trans (HXA.out.trans HXB.out))
   clear HBA HPA HLA HXA HXB HE3 HL3
   have HBE:=Hm (fun W (h:Ext wC W)=>eback_el (⟨(⟨pk,pao,pav,po,pb,pa,prs,pf⟩:Ev),ba5,bc5,aa5,ac5,ra5,rc5⟩:EL) W ⟨HPA2.out.1.ext h,HPA2.out.2.1.ext h,HPA2.out.2.2.1.ext h⟩ HPSM.out.ev.b HPSM.out.ev.a HPSM.out.ev.r)
   have HEV:Hid (evB (⟨pk,pao,pav,po,pb,pa,prs,pf⟩:Ev) (⟨pk,pao,pav,po,pb,pa,prs,pf⟩:Ev)=true):=Hm (evB_true.2 rfl)
   have HSE:Hid (∀(yb2:Option Addr) (yc2:Nat) (ya2:Option Addr) (yd2:Nat) (yr2:Option Addr) (ye2:Nat) W,Ext wC W→(⟨(⟨pk,pao,pav,po,pb,pa,prs,pf⟩:Ev),yb2,yc2,ya2,yd2,yr2,ye2⟩:EL).at 6 K.rc W→Calls Tryz.prog 9 #[.agg #[.int .u8 pk, .int .u32 pao, .int .u32 pav, .int .u8 po, .slice yb2 pb.length yc2, .slice ya2 pa.length yd2, .slice yr2 prs.length ye2, .int .u8 pf], .agg #[.int .u8 pk, .int .u32 pao, .int .u32 pav, .int .u8 po, .slice ba6 pb.length bc6, .slice aa6 pa.length ac6, .slice ra6 prs.length rc6, .int .u8 pf]] W fun e w' =>e= .returned (.bool true)∧Ext W w'):=Hm (fun yb2 yc2 ya2 yd2 yr2 ye2 W h hy=>by
    have h1:=esame_any ⟨(⟨pk,pao,pav,po,pb,pa,prs,pf⟩:Ev),yb2,yc2,ya2,yd2,yr2,ye2⟩ (⟨(⟨pk,pao,pav,po,pb,pa,prs,pf⟩:Ev),ba6,bc6,aa6,ac6,ra6,rc6⟩:EL) W hy ⟨HPB.out.1.ext h,HPB.out.2.1.ext h,HPB.out.2.2.1.ext h⟩ HPSM.out.ev HPSM.out.ev
    unfold EL.agg at h1
    simp only at h1
    rw [HEV.out] at h1
    exact h1)
   unfold EL.agg at HBE
   simp only at HBE
   have HSB:Hid (∀W,Ext wC W→Calls Tryz.prog 11 #[.slice ha5 phb.length hc5, .slice ha6 phb.length hc6] W fun e w' =>e= .returned (.bool true)∧Ext W w'):=Hm (fun W h=>(hsame_any phb phb ha5 ha6 hc5 hc6 W (HPA2.out.2.2.2.1.ext h) (HPB.out.2.2.2.1.ext h) (by have:=HPSM.out.n;simp only at this;omega)).mono (fun e w' h=>by obtain ⟨r,rfl,h1,h2⟩:=h;rw [h1.2 rfl];exact ⟨rfl,h2⟩))
   have HSA:Hid (∀W,Ext wC W→Calls Tryz.prog 11 #[.slice ga5 pha.length gc5, .slice ga6 pha.length gc6] W fun e w' =>e= .returned (.bool true)∧Ext W w'):=Hm (fun W h=>(hsame_any pha pha ga5 ga6 gc5 gc6 W (HPA2.out.2.2.2.2.ext h) (HPB.out.2.2.2.2.ext h) (by have:=HPSM.out.n;simp only at this;omega)).mono (fun e w' h=>by obtain ⟨r,rfl,h1,h2⟩:=h;rw [h1.2 rfl];exact ⟨rfl,h2⟩))
   have gA:=HAB.out.cell
   have zA:=HAB.out.lt
   have gB:=HBB.out.cell
   have zB:=HBB.out.lt
   have hne:(EE !=EE)=false:=by simp
   go_wp2
   refine wp_region_head 27 (fun w' =>Ext (wC) w'∧(∀b o,b<(wC).heap.size→w'.cell? ⟨b,o,none⟩=(wC).cell? ⟨b,o,none⟩)∧(∀b o,b<(wC).heap.size→w'.frozen? ⟨b,o,none⟩=(wC).frozen? ⟨b,o,none⟩)) (by kernel_rfl) (by decide) ?_
   have hA0:Hid ((fun w' =>Ext (wC) w'∧(∀b o,b<(wC).heap.size→w'.cell? ⟨b,o,none⟩=(wC).cell? ⟨b,o,none⟩)∧(∀b o,b<(wC).heap.size→w'.frozen? ⟨b,o,none⟩=(wC).frozen? ⟨b,o,none⟩)) wC.drew):=Hm (held_of (Ext.refl wC).drew)
   refine HG.on 0 78 hA0.out ?_
   try simp only [Act.put,List.setIfInBounds_toArray,List.set_cons_zero,List.set_cons_succ]
   refine HG.on 1 79 hA0.out ?_
   try simp only [Act.put,List.setIfInBounds_toArray,List.set_cons_zero,List.set_cons_succ]
   refine HG.on 2 80 hA0.out ?_
   try simp only [Act.put,List.setIfInBounds_toArray,List.set_cons_zero,List.set_cons_succ]
   refine HG.on 3 81 hA0.out ?_
   try simp only [Act.put,List.setIfInBounds_toArray,List.set_cons_zero,List.set_cons_succ]
   refine HG.on 4 82 hA0.out ?_
   try simp only [Act.put,List.setIfInBounds_toArray,List.set_cons_zero,List.set_cons_succ]
   refine HG.on 5 83 hA0.out ?_
   try simp only [Act.put,List.setIfInBounds_toArray,List.set_cons_zero,List.set_cons_succ]
   refine HG.on 7 85 hA0.out ?_
   try simp only [Act.put,List.setIfInBounds_toArray,List.set_cons_zero,List.set_cons_succ]
   refine HG.on 8 86 hA0.out ?_
   try simp only [Act.put,List.setIfInBounds_toArray,List.set_cons_zero,List.set_cons_succ]
   clear hA0 gA zA gB zB
   refine wpHd_oneG (i:=6) rfl (by rfl) (by kernel_rfl) (fun KK hK=> ?_)
   go_simp
   refine (HBE.out _ (Ext.refl wC).drew).mono ?_
   rintro e w12 ⟨⟨yy,yb2,yc2,ya2,yd2,yr2,ye2⟩,rfl,hye,hat, -,hb12⟩
   simp only at hye
   subst hye
   have HAT2:=Hm hat
   have HX12:Hid (Ext wC w12):=Hm ((Ext.refl wC).drew.trans hb12)
   refine hK.out _ _ (held_of HX12.out) (fun hA=> ?_)
   clear hK KK hA hat hb12 HBE
   refine wpHd_oneG (i:=9) rfl (by rfl) (by kernel_rfl) (fun KK hK=> ?_)
   go_simp
   refine (HSE.out _ _ _ _ _ _ _ HX12.out HAT2.out).mono ?_
   rintro e w13 ⟨rfl,hb13⟩
   have HX13:Hid (Ext wC w13):=Hm (HX12.out.trans hb13)
   refine hK.out _ _ (held_of HX13.out) (fun hA=> ?_)
   clear hK KK hA hb13 HSE HAT2 HX12
   have hA0:Hid ((fun w' =>Ext (wC) w'∧(∀b o,b<(wC).heap.size→w'.cell? ⟨b,o,none⟩=(wC).cell? ⟨b,o,none⟩)∧(∀b o,b<(wC).heap.size→w'.frozen? ⟨b,o,none⟩=(wC).frozen? ⟨b,o,none⟩)) w13):=Hm (held_of HX13.out)
   have gA:=HAB.out.cell
   have zA:=HAB.out.lt
   have gB:=HBB.out.cell
   have zB:=HBB.out.lt
   refine HG.on 10 88 hA0.out ?_
   try simp only [Act.put,List.setIfInBounds_toArray,List.set_cons_zero,List.set_cons_succ]
   refine HG.on 11 89 hA0.out ?_
   try simp only [Act.put,List.setIfInBounds_toArray,List.set_cons_zero,List.set_cons_succ]
   refine HG.on 12 90 hA0.out ?_
   try simp only [Act.put,List.setIfInBounds_toArray,List.set_cons_zero,List.set_cons_succ]
   refine HG.on 13 91 hA0.out ?_
   try simp only [Act.put,List.setIfInBounds_toArray,List.set_cons_zero,List.set_cons_succ]
   refine HG.on 14 92 hA0.out ?_
   try simp only [Act.put,List.setIfInBounds_toArray,List.set_cons_zero,List.set_cons_succ]
   refine HG.on 15 93 hA0.out ?_
   try simp only [Act.put,List.setIfInBounds_toArray,List.set_cons_zero,List.set_cons_succ]
   refine HG.on 16 94 hA0.out ?_
   try simp only [Act.put,List.setIfInBounds_toArray,List.set_cons_zero,List.set_cons_succ]
   clear hA0 gA zA gB zB
   refine wpHd_oneG (i:=17) rfl (by rfl) (by kernel_rfl) (fun KK hK=> ?_)
   go_simp
   refine (HSB.out _ HX13.out).mono ?_
   rintro e w14 ⟨rfl,hb14⟩
   have HX14:Hid (Ext wC w14):=Hm (HX13.out.trans hb14)
   refine hK.out _ _ (held_of HX14.out) (fun hA=> ?_)
   clear hK KK hA hb14 HX13
   have hA0:Hid ((fun w' =>Ext (wC) w'∧(∀b o,b<(wC).heap.size→w'.cell? ⟨b,o,none⟩=(wC).cell? ⟨b,o,none⟩)∧(∀b o,b<(wC).heap.size→w'.frozen? ⟨b,o,none⟩=(wC).frozen? ⟨b,o,none⟩)) w14):=Hm (held_of HX14.out)
   have gA:=HAB.out.cell
   have zA:=HAB.out.lt
   have gB:=HBB.out.cell
   have zB:=HBB.out.lt
   refine HG.on 18 96 hA0.out ?_
   try simp only [Act.put,List.setIfInBounds_toArray,List.set_cons_zero,List.set_cons_succ]
   refine HG.on 19 97 hA0.out ?_
   try simp only [Act.put,List.setIfInBounds_toArray,List.set_cons_zero,List.set_cons_succ]
   refine HG.on 20 98 hA0.out ?_
   try simp only [Act.put,List.setIfInBounds_toArray,List.set_cons_zero,List.set_cons_succ]
   refine HG.on 21 99 hA0.out ?_
   try simp only [Act.put,List.setIfInBounds_toArray,List.set_cons_zero,List.set_cons_succ]
   refine HG.on 22 100 hA0.out ?_
   try simp only [Act.put,List.setIfInBounds_toArray,List.set_cons_zero,List.set_cons_succ]
   refine HG.on 23 101 hA0.out ?_
   try simp only [Act.put,List.setIfInBounds_toArray,List.set_cons_zero,List.set_cons_succ]
   refine HG.on 24 102 hA0.out ?_
   try simp only [Act.put,List.setIfInBounds_toArray,List.set_cons_zero,List.set_cons_succ]
   clear hA0 gA zA gB zB
   refine wpHd_oneG (i:=25) rfl (by rfl) (by kernel_rfl) (fun KK hK=> ?_)
   go_simp
   refine (HSA.out _ HX14.out).mono ?_
   rintro e w15 ⟨rfl,hb15⟩
   have HX15:Hid (Ext wC w15):=Hm (HX14.out.trans hb15)
   refine hK.out _ _ (held_of HX15.out) (fun hA=> ?_)
   clear hK KK hA hb15 HX14
   have hA0:Hid ((fun w' =>Ext (wC) w'∧(∀b o,b<(wC).heap.size→w'.cell? ⟨b,o,none⟩=(wC).cell? ⟨b,o,none⟩)∧(∀b o,b<(wC).heap.size→w'.frozen? ⟨b,o,none⟩=(wC).frozen? ⟨b,o,none⟩)) w15):=Hm (held_of HX15.out)
   refine HG.on 26 104 hA0.out ?_
   try simp only [Act.put,List.setIfInBounds_toArray,List.set_cons_zero,List.set_cons_succ]
   clear hA0
   refine wpHd_tail (by kernel_rfl) ?_
   simp only [List.drop_succ_cons,List.drop_zero]
   obtain ⟨FE,hFE⟩:∃E,E=fillPE (⟨⟨pk,pao,pav,po,pb,pa,prs,pf⟩,phb,pha⟩:Pt) pcs:=⟨_,rfl⟩
   obtain ⟨⟨fk,fao,fav,fo,fb,fa,frs,ff⟩,hFX⟩:∃E:Ev,E=fillPV (⟨⟨pk,pao,pav,po,pb,pa,prs,pf⟩,phb,pha⟩:Pt) pcs:=⟨_,rfl⟩
   have HFS:Hid (Ev.small (⟨fk,fao,fav,fo,fb,fa,frs,ff⟩:Ev)):=Hm (by rw [hFX];exact fillPV_smallT HPSM.out)
   have HFI:Hid (∀W,Ext wC W→Calls Tryz.prog 12 #[.agg #[.int .u8 pk, .int .u32 pao, .int .u32 pav, .int .u8 po, .slice ba5 pb.length bc5, .slice aa5 pa.length ac5, .slice ra5 prs.length rc5, .int .u8 pf, .slice ha5 phb.length hc5, .slice ga5 pha.length gc5], .slice ap np cp] W (fun e w' =>∃y:EL,e= .returned (.tuple #[y.agg, .int .i64 FE])∧y.e=(⟨fk,fao,fav,fo,fb,fa,frs,ff⟩:Ev)∧y.at 5 K.pc w'∧Ext W w')):=Hm (fun W h=>by
    have hnp:=HNN.out.2
    have h1:=pfill_any (⟨⟨pk,pao,pav,po,pb,pa,prs,pf⟩,phb,pha⟩:Pt) ba5 aa5 ra5 ha5 ga5 bc5 ac5 rc5 hc5 gc5 pcs ap cp W (HPA2.out.ext h) HPSM.out.ev (by have:=HPSM.out.n;simp only at this⊢;omega) (by rw [←hnp];exact HPCS.out.ext (HEC.out.trans h)) (by have:=HCP.out;omega) HCP.out.2 (by have:=HNB.out;omega) HPS.out
    unfold PFillQ at h1
    rw [←hFE,←hFX,←hnp] at h1
    exact h1)
   have HFR:Hid (∀W,Ext wC W→Calls Tryz.prog 13 #[.agg #[.int .u8 pk, .int .u32 pao, .int .u32 pav, .int .u8 po, .slice ba6 pb.length bc6, .slice aa6 pa.length ac6, .slice ra6 prs.length rc6, .int .u8 pf, .slice ha6 phb.length hc6, .slice ga6 pha.length gc6], .slice ap np cp] W (fun e w' =>∃y:EL,e= .returned (.tuple #[y.agg, .int .i64 FE])∧y.e=(⟨fk,fao,fav,fo,fb,fa,frs,ff⟩:Ev)∧y.at 6 K.rc w'∧Ext W w')):=Hm (fun W h=>by
    have hnp:=HNN.out.2
    have h1:=rpfill_any (⟨⟨pk,pao,pav,po,pb,pa,prs,pf⟩,phb,pha⟩:Pt) ba6 aa6 ra6 ha6 ga6 bc6 ac6 rc6 hc6 gc6 pcs ap cp W (HPB.out.ext h) HNL.out HPSM.out.ev (by have:=HPSM.out.n;simp only at this⊢;omega) (by rw [←hnp];exact HPCS.out.ext (HEC.out.trans h)) (by have:=HNB.out;omega) (fun t ht=>by have:=HPZ.out t ht;omega)
    unfold RPFillQ at h1
    rw [←hFE,←hFX,←hnp] at h1
    exact h1)
   unfold EL.agg at HFI HFR
   clear hFE hFX
   have gA:=(HAB.out.ext HX15.out).cell
   have zA:=(HAB.out.ext HX15.out).lt
   have gL:=(HLC.out.ext HX15.out).cell
   have zL:=(HLC.out.ext HX15.out).lt
   go_upto_region 16 with (go_at_call 12;refine (HFI.out _ HX15.out).mono ?_;rintro e w16 ⟨⟨yy,yb1,yc1,ya1,yd1,yr1,ye1⟩,rfl,hye,hat,hb8⟩;simp only at hye;subst hye;have HY1:=Hm hat;have HX16:=Hm (HX15.out.trans hb8);clear hat hb8 gA zA gL zL;(try simp only))
   have HBC:=Hm (Blk.new w16 #[.int .u8 fk, .int .u32 fao, .int .u32 fav, .int .u8 fo, .slice yb1 fb.length yc1, .slice ya1 fa.length yd1, .slice yr1 frs.length ye1, .int .u8 ff] 39)
   have HXC:=Hm (HX16.out.alloc (.cells #[.int .u8 fk, .int .u32 fao, .int .u32 fav, .int .u8 fo, .slice yb1 fb.length yc1, .slice ya1 fa.length yd1, .slice yr1 frs.length ye1, .int .u8 ff] 39))
   have HYC:=Hm (HY1.out.ext ((Ext.refl w16).alloc (.cells #[.int .u8 fk, .int .u32 fao, .int .u32 fav, .int .u8 fo, .slice yb1 fb.length yc1, .slice ya1 fa.length yd1, .slice yr1 frs.length ye1, .int .u8 ff] 39)))
   obtain ⟨QC,hQC⟩:∃q,q=w16.heap.size:=⟨_,rfl⟩
   obtain ⟨wD,hwD⟩:∃W,W=w16.alloc (.cells #[.int .u8 fk, .int .u32 fao, .int .u32 fav, .int .u8 fo, .slice yb1 fb.length yc1, .slice ya1 fa.length yd1, .slice yr1 frs.length ye1, .int .u8 ff] 39):=⟨_,rfl⟩
   rw [←hQC] at HBC⊢
   rw [←hwD] at HBC HXC HYC⊢
   clear hQC hwD HY1 HX16 HX15 HFI
   have gB:=(HBB.out.ext HXC.out).cell
   have zB:=(HBB.out.ext HXC.out).lt
   have gL:=(HLC.out.ext HXC.out).cell
   have zL:=(HLC.out.ext HXC.out).lt
   go_upto_region 17 with (go_at_call 13;refine (HFR.out _ HXC.out).mono ?_;rintro e w17 ⟨⟨yy,yb2,yc2,ya2,yd2,yr2,ye2⟩,rfl,hye,hat,hb8⟩;simp only at hye;subst hye;have HY2:=Hm hat;have HX17:=Hm hb8;clear hat hb8 gB zB gL zL;(try simp only))
   have HBD:=Hm (Blk.new w17 #[.int .u8 fk, .int .u32 fao, .int .u32 fav, .int .u8 fo, .slice yb2 fb.length yc2, .slice ya2 fa.length yd2, .slice yr2 frs.length ye2, .int .u8 ff] 50)
   have HXD:=Hm (HX17.out.alloc (.cells #[.int .u8 fk, .int .u32 fao, .int .u32 fav, .int .u8 fo, .slice yb2 fb.length yc2, .slice ya2 fa.length yd2, .slice yr2 frs.length ye2, .int .u8 ff] 50))
   have HYD:=Hm (HY2.out.ext ((Ext.refl w17).alloc (.cells #[.int .u8 fk, .int .u32 fao, .int .u32 fav, .int .u8 fo, .slice yb2 fb.length yc2, .slice ya2 fa.length yd2, .slice yr2 frs.length ye2, .int .u8 ff] 50)))
   obtain ⟨QD,hQD⟩:∃q,q=w17.heap.size:=⟨_,rfl⟩
   obtain ⟨wE,hwE⟩:∃W,W=w17.alloc (.cells #[.int .u8 fk, .int .u32 fao, .int .u32 fav, .int .u8 fo, .slice yb2 fb.length yc2, .slice ya2 fa.length yd2, .slice yr2 frs.length ye2, .int .u8 ff] 50):=⟨_,rfl⟩
   rw [←hQD] at HBD⊢
   rw [←hwE] at HBD HXD HYD⊢
   clear hQD hwE HY2 HX17 HFR
   have HXE:=Hm (HXC.out.trans HXD.out)
   have HEE:=Hm (HEC.out.trans HXE.out)
   have HAE:=Hm (HAB.out.ext HXE.out)
   have HBE2:=Hm (HBB.out.ext HXE.out)
   have HCE:=Hm (HBC.out.ext HXD.out)
   obtain ⟨C,hC⟩:∃C,C=cntL (sizesP (⟨⟨pk,pao,pav,po,pb,pa,prs,pf⟩,phb,pha⟩:Pt)):=⟨_,rfl⟩
   have HCT:Hid (∀W,Ext wE W→Calls Tryz.prog 14 #[.agg #[.int .u8 pk, .int .u32 pao, .int .u32 pav, .int .u8 po, .slice ba5 pb.length bc5, .slice aa5 pa.length ac5, .slice ra5 prs.length rc5, .int .u8 pf, .slice ha5 phb.length hc5, .slice ga5 pha.length gc5]] W (fun e w' =>e= .returned (.int .i64 (C:Nat))∧Ext W w')):=Hm (fun W h=>by
    have h1:=pcount_any (⟨⟨pk,pao,pav,po,pb,pa,prs,pf⟩,phb,pha⟩:Pt) ba5 aa5 ra5 ha5 ga5 bc5 ac5 rc5 hc5 gc5 W (HPA2.out.ext (HXE.out.trans h)) (by have:=HPSM.out.n;simp only at this⊢;omega) (fun x hx=>by have:=HPSM.out.sz x hx;omega)
    rw [←hC] at h1
    exact h1)
   have HSZ:Hid (∀W,Ext wE W→Calls Tryz.prog 16 #[.agg #[.int .u8 pk, .int .u32 pao, .int .u32 pav, .int .u8 po, .slice ba6 pb.length bc6, .slice aa6 pa.length ac6, .slice ra6 prs.length rc6, .int .u8 pf, .slice ha6 phb.length hc6, .slice ga6 pha.length gc6]] W (fun e w' =>∃a' c',e= .returned (.slice a' (sizesP (⟨⟨pk,pao,pav,po,pb,pa,prs,pf⟩,phb,pha⟩:Pt)).length c')∧Sl w' (.slice a' (sizesP (⟨⟨pk,pao,pav,po,pb,pa,prs,pf⟩,phb,pha⟩:Pt)).length c') 1 ((sizesP (⟨⟨pk,pao,pav,po,pb,pa,prs,pf⟩,phb,pha⟩:Pt)).map icell)∧Ext W w')):=Hm (fun W h=>rsizes_any (⟨⟨pk,pao,pav,po,pb,pa,prs,pf⟩,phb,pha⟩:Pt) ba6 aa6 ra6 ha6 ga6 bc6 ac6 rc6 hc6 gc6 W (HPB.out.ext (HXE.out.trans h)) (by have:=HPSM.out.n;simp only at this⊢;omega))
   have HLN:Hid (∀(q:Option Addr) (cq:Nat) W,Sl W (.slice q (sizesP (⟨⟨pk,pao,pav,po,pb,pa,prs,pf⟩,phb,pha⟩:Pt)).length cq) 1 ((sizesP (⟨⟨pk,pao,pav,po,pb,pa,prs,pf⟩,phb,pha⟩:Pt)).map icell)→Calls Tryz.prog 15 #[.slice q (sizesP (⟨⟨pk,pao,pav,po,pb,pa,prs,pf⟩,phb,pha⟩:Pt)).length cq] W (fun e w' =>∃a' c',e= .returned (.slice a' C c')∧Ext W w')):=Hm (fun q cq W h=>by
    have h1:=rlens_any (sizesP (⟨⟨pk,pao,pav,po,pb,pa,prs,pf⟩,phb,pha⟩:Pt)) q cq W h (by unfold sizesP;rw [List.length_append,List.length_map,List.length_map];have:=HPSM.out.n;simp only at this⊢;omega) HPSM.out.sz
    unfold LensQ at h1
    rw [←cntL_sum,←hC] at h1
    exact h1.mono (fun e w' h=>by obtain ⟨a',c',h1, -,h2⟩:=h;exact ⟨a',c',h1,h2⟩))
   obtain ⟨SL,hSL⟩:∃L,L=sizesP (⟨⟨pk,pao,pav,po,pb,pa,prs,pf⟩,phb,pha⟩:Pt):=⟨_,rfl⟩
   rw [←hSL] at HSZ HLN
   clear hC hSL
   have HBK:=Hm (fun W (h:Ext wE W)=>eback_el (⟨(⟨fk,fao,fav,fo,fb,fa,frs,ff⟩:Ev),yb1,yc1,ya1,yd1,yr1,ye1⟩:EL) W (HYC.out.ext (HXD.out.trans h)) HFS.out.b HFS.out.a HFS.out.r)
   unfold EL.agg at HBK
   simp only at HBK
   have HEV2:Hid (evB (⟨fk,fao,fav,fo,fb,fa,frs,ff⟩:Ev) (⟨fk,fao,fav,fo,fb,fa,frs,ff⟩:Ev)=true):=Hm (evB_true.2 rfl)
   have HSE:Hid (∀(yb3:Option Addr) (yc3:Nat) (ya3:Option Addr) (yd3:Nat) (yr3:Option Addr) (ye3:Nat) W,Ext wE W→(⟨(⟨fk,fao,fav,fo,fb,fa,frs,ff⟩:Ev),yb3,yc3,ya3,yd3,yr3,ye3⟩:EL).at 6 K.rc W→Calls Tryz.prog 9 #[.agg #[.int .u8 fk, .int .u32 fao, .int .u32 fav, .int .u8 fo, .slice yb3 fb.length yc3, .slice ya3 fa.length yd3, .slice yr3 frs.length ye3, .int .u8 ff], .agg #[.int .u8 fk, .int .u32 fao, .int .u32 fav, .int .u8 fo, .slice yb2 fb.length yc2, .slice ya2 fa.length yd2, .slice yr2 frs.length ye2, .int .u8 ff]] W fun e w' =>e= .returned (.bool true)∧Ext W w'):=Hm (fun yb3 yc3 ya3 yd3 yr3 ye3 W h hy=>by
    have h1:=esame_any ⟨(⟨fk,fao,fav,fo,fb,fa,frs,ff⟩:Ev),yb3,yc3,ya3,yd3,yr3,ye3⟩ (⟨(⟨fk,fao,fav,fo,fb,fa,frs,ff⟩:Ev),yb2,yc2,ya2,yd2,yr2,ye2⟩:EL) W hy (HYD.out.ext h) HFS.out HFS.out
    unfold EL.agg at h1
    simp only at h1
    rw [HEV2.out] at h1
    exact h1)
   have HW:=Hm (fun W=>awake15_any W)
   have hce:((C:Int)==(C:Int))=true:=by simp
   have hfe:(FE==FE)=true:=by simp
   clear hne HPA2 HPB HNL HPSM HAB HBB HLC HEC HXC HXD HYC HBC HSB HSA HPCS HLBS HPS HCP HCB HIB HPZ
   have gA:=HAE.out.cell
   have zA:=HAE.out.lt
   have gB:=HBE2.out.cell
   have zB:=HBE2.out.lt
   refine wp_region_head 21 (fun w' =>Ext (wE) w'∧(∀b o,b<(wE).heap.size→w'.cell? ⟨b,o,none⟩=(wE).cell? ⟨b,o,none⟩)∧(∀b o,b<(wE).heap.size→w'.frozen? ⟨b,o,none⟩=(wE).frozen? ⟨b,o,none⟩)) (by kernel_rfl) (by decide) ?_
   have hA0:Hid ((fun w' =>Ext (wE) w'∧(∀b o,b<(wE).heap.size→w'.cell? ⟨b,o,none⟩=(wE).cell? ⟨b,o,none⟩)∧(∀b o,b<(wE).heap.size→w'.frozen? ⟨b,o,none⟩=(wE).frozen? ⟨b,o,none⟩)) wE.drew):=Hm (held_of (Ext.refl wE).drew)
   refine HG.on 0 120 hA0.out ?_
   try simp only [Act.put,List.setIfInBounds_toArray,List.set_cons_zero,List.set_cons_succ]
   refine HG.on 2 122 hA0.out ?_
   try simp only [Act.put,List.setIfInBounds_toArray,List.set_cons_zero,List.set_cons_succ]
   clear hA0 gA zA gB zB
   refine wpHd_one (i:=1) rfl rfl (by kernel_rfl) (fun KK hK=> ?_)
   go_simp
   refine (HCT.out _ (Ext.refl wE).drew).mono ?_
   rintro e w20 ⟨rfl,hb20⟩
   have HX20:Hid (Ext wE w20):=Hm ((Ext.refl wE).drew.trans hb20)
   refine hK.out _ _ (held_of HX20.out) (fun hA=> ?_)
   clear hK KK hA hb20 HCT
   refine wpHd_one (i:=3) rfl rfl (by kernel_rfl) (fun KK hK=> ?_)
   go_simp
   refine (HSZ.out _ HX20.out).mono ?_
   rintro e w21 ⟨a21,c21,rfl,hs21,hb21⟩
   have HS21:=Hm hs21
   have HX21:Hid (Ext wE w21):=Hm (HX20.out.trans hb21)
   refine hK.out _ _ (held_of HX21.out) (fun hA=> ?_)
   clear hK KK hA hb21 hs21 HSZ HX20
   refine wpHd_one (i:=4) rfl rfl (by kernel_rfl) (fun KK hK=> ?_)
   go_simp
   refine (HLN.out _ _ _ HS21.out).mono ?_
   rintro e w22 ⟨a22,c22,rfl,hb22⟩
   have HX22:Hid (Ext wE w22):=Hm (HX21.out.trans hb22)
   refine hK.out _ _ (held_of HX22.out) (fun hA=> ?_)
   clear hK KK hA hb22 HLN HX21 HS21
   have hA0:Hid ((fun w' =>Ext (wE) w'∧(∀b o,b<(wE).heap.size→w'.cell? ⟨b,o,none⟩=(wE).cell? ⟨b,o,none⟩)∧(∀b o,b<(wE).heap.size→w'.frozen? ⟨b,o,none⟩=(wE).frozen? ⟨b,o,none⟩)) w22):=Hm (held_of HX22.out)
   have gC:=HCE.out.cell
   have zC:=HCE.out.lt
   have gD:=HBD.out.cell
   have zD:=HBD.out.lt
   refine HG.on 5 125 hA0.out ?_
   try simp only [Act.put,List.setIfInBounds_toArray,List.set_cons_zero,List.set_cons_succ]
   refine HG.on 6 126 hA0.out ?_
   try simp only [Act.put,List.setIfInBounds_toArray,List.set_cons_zero,List.set_cons_succ]
   refine HG.on 7 127 hA0.out ?_
   try simp only [Act.put,List.setIfInBounds_toArray,List.set_cons_zero,List.set_cons_succ]
   refine HG.on 8 128 hA0.out ?_
   try simp only [Act.put,List.setIfInBounds_toArray,List.set_cons_zero,List.set_cons_succ]
   refine HG.on 9 129 hA0.out ?_
   try simp only [Act.put,List.setIfInBounds_toArray,List.set_cons_zero,List.set_cons_succ]
   refine HG.on 10 130 hA0.out ?_
   try simp only [Act.put,List.setIfInBounds_toArray,List.set_cons_zero,List.set_cons_succ]
   refine HG.on 11 131 hA0.out ?_
   try simp only [Act.put,List.setIfInBounds_toArray,List.set_cons_zero,List.set_cons_succ]
   refine HG.on 12 132 hA0.out ?_
   try simp only [Act.put,List.setIfInBounds_toArray,List.set_cons_zero,List.set_cons_succ]
   refine HG.on 13 133 hA0.out ?_
   try simp only [Act.put,List.setIfInBounds_toArray,List.set_cons_zero,List.set_cons_succ]
   refine HG.on 15 135 hA0.out ?_
   try simp only [Act.put,List.setIfInBounds_toArray,List.set_cons_zero,List.set_cons_succ]
   clear hA0 gC zC gD zD
   refine wpHd_oneG (i:=14) rfl (by rfl) (by kernel_rfl) (fun KK hK=> ?_)
   go_simp
   refine (HBK.out _ HX22.out).mono ?_
   rintro e w23 ⟨⟨yy,yb3,yc3,ya3,yd3,yr3,ye3⟩,rfl,hye,hat, -,hb23⟩
   simp only at hye
   subst hye
   have HAT3:=Hm hat
   have HX23:Hid (Ext wE w23):=Hm (HX22.out.trans hb23)
   refine hK.out _ _ (held_of HX23.out) (fun hA=> ?_)
   clear hK KK hA hat hb23 HBK HX22
   refine wpHd_oneG (i:=16) rfl (by rfl) (by kernel_rfl) (fun KK hK=> ?_)
   go_simp
   refine (HSE.out _ _ _ _ _ _ _ HX23.out HAT3.out).mono ?_
   rintro e w24 ⟨rfl,hb24⟩
   have HX24:Hid (Ext wE w24):=Hm (HX23.out.trans hb24)
   refine hK.out _ _ (held_of HX24.out) (fun hA=> ?_)
   clear hK KK hA hb24 HSE HAT3 HX23
   have hA0:Hid ((fun w' =>Ext (wE) w'∧(∀b o,b<(wE).heap.size→w'.cell? ⟨b,o,none⟩=(wE).cell? ⟨b,o,none⟩)∧(∀b o,b<(wE).heap.size→w'.frozen? ⟨b,o,none⟩=(wE).frozen? ⟨b,o,none⟩)) w24):=Hm (held_of HX24.out)
   refine HG.on 17 137 hA0.out ?_
   try simp only [Act.put,List.setIfInBounds_toArray,List.set_cons_zero,List.set_cons_succ]
   refine HG.on 18 138 hA0.out ?_
   try simp only [Act.put,List.setIfInBounds_toArray,List.set_cons_zero,List.set_cons_succ]
   clear hA0
   refine wpHd_oneG (i:=19) rfl (by rfl) (by kernel_rfl) (fun KK hK=> ?_)
   go_simp
   refine (HW.out _).mono ?_
   rintro e w25 ⟨rfl,hb25⟩
   have HX25:Hid (Ext wE w25):=Hm (HX24.out.trans hb25)
   refine hK.out _ _ (held_of HX25.out) (fun hA=> ?_)
   clear hK KK hA hb25 HX24
   have hA0:Hid ((fun w' =>Ext (wE) w'∧(∀b o,b<(wE).heap.size→w'.cell? ⟨b,o,none⟩=(wE).cell? ⟨b,o,none⟩)∧(∀b o,b<(wE).heap.size→w'.frozen? ⟨b,o,none⟩=(wE).frozen? ⟨b,o,none⟩)) w25):=Hm (held_of HX25.out)
   refine HG.on 20 140 hA0.out ?_
   try simp only [Act.put,List.setIfInBounds_toArray,List.set_cons_zero,List.set_cons_succ]
   clear hA0
   refine wpHd_tail (by kernel_rfl) ?_
   simp only [List.drop_succ_cons,List.drop_zero]
   go_wp2
   go_ret
   exact ⟨rfl,HEE.out.trans HX25.out⟩
end Go.Proofs.YtodbhliidbclcaaGreat
