/-
The walk of SessionOrder.
-/
import Derived.Test.YtgmphpccpfaapaaGreatDoorP37
import Derived.Test.YtgmphpccpfaapaaGreatDoorP44
import Derived.Test.YtgmphpccpfaapaaGreatDoorP33
import Derived.Test.YtgmphpccpfaapaaGreatDoorP46
set_option maxRecDepth 100000
set_option maxHeartbeats 16000000
namespace Go.Proofs.YtgmphpccpfaapaaGreatDoor
open Go.RowKit
theorem ob_cap {w:World} {base n c:Nat} {a:Option Addr} {l:List Int} (h:OB w base (.slice a n c) l):n≤c:=by
 rcases h.2 with ⟨e, -⟩|⟨g,cap,cur,e, -⟩
 ·simp only [Value.slice.injEq] at e;omega
 ·simp only [Value.slice.injEq] at e
  obtain ⟨rfl, -, -⟩:=e
  exact OB.cap h
structure Lft (W:World) (v:Value) (l:List Int):Prop where
 sl:Sl W v 1 (l.map bcell)
 cap:∀a n c,v= .slice a n c→n=l.length∧n≤c
theorem Lft.ext {W W' :World} {v:Value} {l:List Int} (h:Lft W v l) (he:Ext W W'):Lft W' v l:=⟨h.sl.ext he,h.cap⟩
theorem Lft.shape {W:World} {v:Value} {l:List Int} (h:Lft W v l):∃a c,v= .slice a l.length c∧l.length≤c:=by
 obtain ⟨a,c,e, -⟩:=h.sl
 rw [List.length_map] at e
 exact ⟨a,c,e,(h.cap _ _ _ e).2⟩
theorem order_law (ps:List RR) (a:Option Addr) (cap:Nat) (ts:List TL) (ta:Option Addr) (tc:Nat) (w:World) (hT:Tab w) (hK:Kin w) (hN:Non w) (hS:NonS w) (hl:RL w (.slice a ps.length cap) ps) (hb:∀p∈ps,p.r.wb) (hB:∀p∈ps,B32 p.r.oid∧B32 p.r.ver) (hlen:ps.length≤9223372036854775807)
 (ht:TS 6 K.rc w (.slice ta ts.length tc) ts) (hnt:ts.length≤9223372036854775807) (hz:∀p∈ts,p.sz) (hw:∀p∈ts,p.tw):
 Calls Tryz.prog 3 #[.slice a ps.length cap, .slice ta ts.length tc] w fun e w' =>e= .returned (.bool true)∧Ext w w' :=by
 have HL:=Hm hl
 have HB:=Hm hb
 have HB2:=Hm hB
 have HT:=Hm ht
 have HZ:=Hm hz
 have HW:=Hm hw
 have HV:=Hm (And.intro hT (And.intro hK (And.intro hN hS)))
 have HGR:=Hm (fun W (h:Ext w W)=>greatT_any ps ts a ta cap tc W (hl.ext h) (ht.ext h) hlen hnt hb hz)
 have HINN:=Hm (fun W (h:Ext w W)=>in16_any ps a cap W (hl.ext h) hb hlen)
 clear hl hb ht hz hw hlen hnt hT hK hN hS hB
 by_cases hA:ofE (ps.map RR.r)=0
 case neg=>
  have hd:decide (ofE (ps.map RR.r)=0)=false:=decide_eq_false hA
  rw [hd] at HINN
  clear hA hd
  go_enter Tryz.func3,Tryz.ntmps3
  go_wp2_with (first
   |(go_at_call 4;refine (HGR.out _ (Ext.refl _)).mono ?_;rintro e w1 ⟨g,rfl, -,hb1⟩;have HB1:=Hm hb1;clear hb1;cases g)
   |(go_at_call 5;refine (HINN.out _ HB1.out).mono ?_;rintro e w2 ⟨rfl,hb2⟩;have HB2' :=Hm (HB1.out.trans hb2);clear hb2))
  all_goals
   go_ret
   first|exact ⟨rfl,HB2'.out⟩|exact ⟨rfl,HB1.out⟩
 have hd:decide (ofE (ps.map RR.r)=0)=true:=decide_eq_true hA
 rw [hd] at HINN
 have HA:=Hm hA
 clear hA hd
 go_enter Tryz.func3,Tryz.ntmps3
 go_upto_region 3 with (first
  |(go_at_call 4;refine (HGR.out _ (Ext.refl _)).mono ?_;rintro e w1 ⟨g,rfl,hg,hb1⟩;have HB1:=Hm hb1;have HG:=Hm hg;clear hb1 hg;cases g)
  |(go_at_call 5;refine (HINN.out _ HB1.out).mono ?_;rintro e w2 ⟨rfl,hb2⟩;have HB2' :=Hm (HB1.out.trans hb2);clear hb2))
 all_goals try (go_ret;exact ⟨rfl,HB1.out⟩)
 have HLT:=Hm (HG.out (by first|exact rfl|exact trivial))
 have hn70:ps.length≤1000:=by have:=HLT.out.n;omega
 have HOW:=Hm (own16_any ps a cap w2 (HL.out.ext HB2'.out) HB.out hn70 HA.out)
 unfold Own16Post at HOW
 clear HG HGR HINN HB1
 go_upto_region 6 with (go_at_call 6;refine HOW.out.mono ?_;rintro e w3 ⟨gc,cc,qc,rfl, -,hcc,hqc,hb3⟩;have HCC:=Hm hcc;have HQC:=Hm hqc;have HB3:=Hm (HB2'.out.trans hb3);clear hcc hqc hb3)
 have hqm:∀r∈qc.map RR.r,r∈ps.map RR.r:=fun r hr=>by
  rw [HQC.out] at hr
  have h:=(ofE_all HA.out).1 r
  rw [List.length_map] at h
  exact h.1 hr
 have hkw:∀r∈qc.map RR.r,r.okw∧r.wb∧r.right=0:=fun r hr=>by
  obtain ⟨p,hp,rfl⟩:=List.mem_map.1 (hqm r hr)
  exact ⟨Rl.okw_of (HCC.out.ok.right _ hr) (HB.out p hp) (HB2.out p hp),HB.out p hp,HCC.out.ok.right _ hr⟩
 have hpu:RCatU ps:=⟨hn70,fun p hp=>by have:=ofE_right HA.out p.r (List.mem_map_of_mem hp);exact Rl.cols_le this,HB.out⟩
 have HLA:=Hm (HLT.out.ok)
 have HOK:=Hm (HLT.out.okw HZ.out HW.out)
 have HPU:=Hm hpu
 have HKW:=Hm hkw
 have hlt60:ts.length≤60:=HLT.out.t
 have HTX:=Hm (fun W (h:Ext w W)=>txs_any ts ta tc W (HT.out.ext h) HLA.out.1 HLA.out.2.1 HLA.out.2.2.1)
 have HUD:=Hm (fun W (h:Ext w W)=>rused_any ts ta tc W (HT.out.ext h) HLA.out.1 HLA.out.2.1 HLA.out.2.2.2)
 have HSE:=Hm (fun (qs:List TL) a5 c5 W (h:Ext w W) (h2:Ext w3 W) (hq:TS 5 K.pc W (.slice a5 qs.length c5) qs) (ht:qs.map TL.t=ts.map TL.t)=>show Calls Tryz.prog 7 #[.pointer (some ⟨gc,0,none⟩), .slice a5 qs.length c5] W (SendPost (qc.map RR.r) (ts.map TL.t) W) from by
  have hl:qs.length=ts.length:=by have h:=congrArg List.length ht;simpa using h
  have hk2:∀q∈qs,q.okw:=fun q hq=>by
   have h4:q.t∈ts.map TL.t:=by rw [←ht];exact List.mem_map_of_mem hq
   obtain ⟨t,h5,h6⟩:=List.mem_map.1 h4
   exact TL.okw_t h6.symm (HOK.out t h5)
  have h3:=send_any qs a5 c5 gc gc cc qc W hq hk2 (by omega) (HCC.out.ext h2) (fun r hr=>(HKW.out r hr).1) (HV.out.2.1.ext h) (HV.out.1.ext h) (HV.out.2.2.1.ext h) (HV.out.2.2.2.ext h)
  rw [ht] at h3
  exact h3)
 have HAW:=Hm (fun W (h:Ext w W)=>awake21_any W (HV.out.2.1.ext h) (HV.out.1.ext h) (HV.out.2.2.1.ext h) (HV.out.2.2.2.ext h))
 have HTD:=Hm (fun (hE:ckE (ts.map TL.t) (qc.map RR.r)=0)=>told_of (by rw [HQC.out,List.length_map]) HA.out HOK.out hlt60 HKW.out hE)
 have HPA:=Hm (fun m rest L b o c W (h:Ext w W) hL hs hc hl hm=>parse_any m rest L b o c ps a cap W hL hs hc hl hm (HL.out.ext h) HPU.out)
 unfold SendPost at HSE
 obtain ⟨T,hTT2⟩:∃T,T=ckT (ts.map TL.t) (qc.map RR.r):=⟨_,rfl⟩
 obtain ⟨P,hPP⟩:∃P,P=ckP (ts.map TL.t) (qc.map RR.r):=⟨_,rfl⟩
 obtain ⟨E,hEE⟩:∃E,E=ckE (ts.map TL.t) (qc.map RR.r):=⟨_,rfl⟩
 rw [←hTT2,←hPP,←hEE] at HSE
 rw [←hEE] at HTD
 obtain ⟨M,hM⟩:∃M,M=storyM (qc.map RR.r) (ts.map TL.t):=⟨_,rfl⟩
 obtain ⟨nu,hnu⟩:∃n,n=(usedL (ts.map TL.t)).length:=⟨_,rfl⟩
 rw [←hM,←hnu] at HTD
 obtain ⟨SB,hSB⟩:∃S,S=(if E=0 then sendW (qc.map RR.r) (ts.map TL.t) else []):=⟨_,rfl⟩
 rw [←hSB] at HSE
 have HSB:=Hm hSB
 have HNU:=Hm hnu
 clear hqm hkw hpu HKW HLT HB HB2 HL HZ HW HA HOW HQC HB2' hTT2 hPP hEE hSB hM hnu hn70 HPU
 go_upto_region 7 with (first
  |(go_at_call 8;refine (HTX.out _ HB3.out).mono ?_;rintro e w5 ⟨a5,c5,qs,rfl,ho5,hb5⟩;have HO5:=Hm ho5;have HY5:=Hm hb5;have HB5:=Hm (HB3.out.trans hb5);have HQL:Hid (ts.length=qs.length):=Hm (by have h:=ho5.len;rw [List.length_map] at h;exact h.symm);clear ho5 hb5)
  |(rw [HQL.out];go_at_call 7;refine (HSE.out qs a5 c5 _ HB5.out HY5.out (by have h:=HO5.out.ts;rw [HQL.out] at h;exact h) HO5.out.t).mono ?_;rintro e w6 ⟨v6,rfl,ho6,hb6⟩;have HV6:=Hm ho6;have HB6:=Hm (HB5.out.trans hb6);clear ho6 hb6))
 rw [←HQL.out]
 have HX7:Hid (Ext w6 (w6.alloc (.cells #[.int .i64 T, .int .i64 P, .int .i64 E] 31))):=Hm ((Ext.refl _).alloc _)
 have HF7:=Hm (Blk.new w6 #[.int .i64 T, .int .i64 P, .int .i64 E] 31)
 have HB7:=Hm (HB6.out.trans HX7.out)
 have HV7:=Hm (OB.ext HV6.out HX7.out)
 obtain ⟨X,hX⟩:∃X,X=w6.heap.size:=⟨_,rfl⟩
 obtain ⟨w7,hw7⟩:∃W,W=w6.alloc (.cells #[.int .i64 T, .int .i64 P, .int .i64 E] 31):=⟨_,rfl⟩
 rw [←hX,←hw7] at HF7
 rw [←hw7] at HB7 HV7
 rw [←hX,←hw7]
 obtain ⟨av,cv,rfl⟩:=OB.shape HV7.out
 have hcv:=ob_cap HV7.out
 have HLF:Hid (Lft w7 (.slice av SB.length cv) SB):=Hm ⟨OB.sl HV7.out,fun a n c e=>by simp only [Value.slice.injEq] at e;obtain ⟨-,rfl,rfl⟩:=e;exact ⟨rfl,hcv⟩⟩
 clear hX hw7 HX7 HB6 HV6 HSE HTX HO5 HB5 HY5 HB3 HV7 hcv HCC
 have f7:=HF7.out.cell
 have f7z:=HF7.out.lt
 by_cases hE:E=0
 case neg=>
  have hSL:SB.length=0:=by rw [HSB.out,if_neg hE];rfl
  rw [hSL]
  have hE' :(E !=0)=true:=by simpa using hE
  clear hSL HSB HTD
  go_wp2_with (go_at_call 9;refine (HAW.out _ HB7.out).mono ?_;rintro e w9 ⟨rfl,hb9⟩;have HB9:=Hm (HB7.out.trans hb9);clear hb9)
  go_ret
  exact ⟨rfl,HB9.out⟩
 subst hE
 obtain ⟨htold,hsend⟩:=HTD.out rfl
 have HTL:=Hm htold
 have hSBs:SB=saidW (ps.map RR.r) M:=by rw [HSB.out,if_pos rfl,hsend]
 obtain ⟨rs0,hrs0,hrn⟩:=htold.ord
 have HRS:=Hm hrs0
 have HRN:=Hm hrn
 rw [hSBs] at HLF⊢
 clear htold hsend HTD HSB hSBs hrs0 hrn
 obtain ⟨C,hC⟩:∃C,C=ps.map RR.r:=⟨_,rfl⟩
 rw [←hC] at HLF HTL HPA⊢
 clear hC
 have hML:=HTL.out.len
 obtain ⟨i0,hi,hz0,hz1,hz2⟩:=info_parts Tryz.infoRRfS
 go_wp2
 clear f7 f7z HF7
 go_loopg [6,8,9] M.length (fun z bv op rv wr=>∃(j:Nat) (s:Bool×List Rf),z+j=M.length∧Hid (ordF (M.take j)=some s)∧op= .bool s.1∧Hid (Lft w7 bv (saidW C (M.drop j)))∧Hid (wr.ownsRow w7.heap.size 41 2 rv s.2.length ((s.2.map Rf.cells).flatten))∧Hid (Ext w7 wr))
 case atStart=>exact ⟨0,(false, []),by omega,Hm rfl,rfl,HLF,Hm (World.ownsRow_nil _ _ _ _),Hm (Ext.refl _)⟩
 case round=>
  obtain ⟨j,⟨op,rfs⟩,hzj,hord,rfl,hlf,hown,hE⟩:=hrel
  have hEw:=Hm (HB7.out.trans hE.out)
  obtain ⟨ar,cr,rfl⟩:=owns_shape hown.out
  have hrl:rfs.length≤1200000:=by have:=ordF_len j (by omega) hord.out;simp only at this;omega
  by_cases hlt:j<M.length
  ·obtain ⟨t',hst,hnx⟩:=ordF_at HRS.out hlt hord.out
   have hg:=HTL.out.good _ (List.getElem_mem hlt)
   have hsd:=saidW_at C hlt
   have hmw:=msgW_good hg
   obtain ⟨m,hm⟩:∃m,m=M[j]:=⟨_,rfl⟩
   obtain ⟨rest,hrest⟩:∃r,r=saidW C (M.drop (j+1)):=⟨_,rfl⟩
   have hrb:rest.length≤10000005*1200000:=by
    have h1:=saidW_leG (C:=C) (M.drop (j+1)) (fun x hx=>HTL.out.good x (List.mem_of_mem_drop hx))
    have h2:(M.drop (j+1)).length≤1200000:=by rw [List.length_drop];omega
    have h3:=Nat.mul_le_mul_left 10000005 h2
    rw [hrest]
    omega
   have hmb:=msgW_le (rs:=C) hg.e.sm hg.e.wb hg.e.wa
   rw [←hm] at hst hg hsd hmw hmb
   rw [←hrest] at hsd
   have HUB:Hid ((usesE m.e).length≤1000000):=Hm (by
    have h1:=hg.e.sm.r
    unfold usesE
    split
    ·simp
    ·split
     ·omega
     ·simp)
   obtain ⟨L,hL⟩:∃L,L=saidW C (M.drop j):=⟨_,rfl⟩
   rw [←hL] at hsd hlf
   obtain ⟨NN,hNN⟩:∃N,N=(msgW m C).length:=⟨_,rfl⟩
   rw [←hNN] at hmw hmb
   have hLl:L.length=NN+rest.length:=by rw [hsd,List.length_append,←hNN]
   obtain ⟨ab,cb,rfl,hcb⟩:=hlf.out.shape
   obtain ⟨b,o,rfl, -, -⟩:=hlf.out.sl.at_ (i:=0) (by rw [List.length_map];omega)
   have HP:=Hm (show Calls Tryz.prog 10 #[.slice a ps.length cap, .slice (some ⟨b,o,none⟩) L.length cb] wr (fun e w' =>∃p:ML,e= .returned (.tuple #[p.agg, .int .i64 (NN:Int), .int .i64 0])∧p.m=m∧p.at 6 K.rc w'∧Ext wr w') from by
    have h1:=HPA.out m rest L b o cb wr hEw.out hsd (hlf.out.sl.ext hE.out) hcb (by omega) hg
    unfold ParsePost at h1
    rw [show (5:Int)+((bodyW m).length:Int)=((NN:Nat):Int) by omega] at h1
    exact h1)
   have HSD:=Hm (sl_drop (m:=NN) hlf.out.sl (by omega))
   have hdr:L.drop NN=rest:=by rw [hsd,hNN,List.drop_left' rfl]
   rw [hdr] at HSD
   have HST:=Hm hst
   have HNX:=Hm hnx
   have HRE:=Hm hrest
   have hNp:0<NN:=by omega
   obtain ⟨n0,hn0⟩:∃n,n=L.length:=⟨_,rfl⟩
   have HRL:Hid (rest.length=n0 - NN):=Hm (by omega)
   have hcb0:n0≤cb:=by omega
   have hn1:(0:Int)<n0:=by omega
   have hnn:NN≤n0:=by omega
   rw [←hn0] at HP HSD⊢
   clear hst hnx hg hmw hm hrest hrb hmb hsd hL hNN hLl hdr hn0 hlf hcb
   go_upto_region 15 with (go_at_call 10;refine HP.out.mono ?_;rintro e w8 ⟨p,rfl,hpm,hpa,hb8⟩;have HPM:=Hm hpm;have HPT:=Hm hpa;have HE8:=Hm (hE.out.trans hb8);have HO8:=Hm (owns_ext hown.out hb8);clear hpm hpa hb8 HP hE hown hEw;obtain ⟨k,x,st,n,⟨⟨po,pv,nm,id,cols⟩,ca,cc⟩,⟨⟨kd,ao,av,old,eb,aa,rs,fl⟩,ba,bc,aad,ac,ra,rc⟩⟩:=p;unfold ML.agg ML.arr;dsimp only)
   have HY9:=Hm (Blk.new w8 #[.int .u8 k, .int .u32 x, .int .u64 st, .int .u32 n, .int .u32 po, .int .u32 pv, .string nm, .int .u8 id, .slice ca cols.length cc, .int .u8 kd, .int .u32 ao, .int .u32 av, .int .u8 old, .slice ba eb.length bc, .slice aad aa.length ac, .slice ra rs.length rc, .int .u8 fl] 49)
   have HE9:=Hm (HE8.out.alloc (.cells #[.int .u8 k, .int .u32 x, .int .u64 st, .int .u32 n, .int .u32 po, .int .u32 pv, .string nm, .int .u8 id, .slice ca cols.length cc, .int .u8 kd, .int .u32 ao, .int .u32 av, .int .u8 old, .slice ba eb.length bc, .slice aad aa.length ac, .slice ra rs.length rc, .int .u8 fl] 49))
   have HO9:=Hm (owns_ext HO8.out ((Ext.refl w8).alloc (.cells #[.int .u8 k, .int .u32 x, .int .u64 st, .int .u32 n, .int .u32 po, .int .u32 pv, .string nm, .int .u8 id, .slice ca cols.length cc, .int .u8 kd, .int .u32 ao, .int .u32 av, .int .u8 old, .slice ba eb.length bc, .slice aad aa.length ac, .slice ra rs.length rc, .int .u8 fl] 49)))
   have HP9:=Hm (HPT.out.ext ((Ext.refl w8).alloc (.cells #[.int .u8 k, .int .u32 x, .int .u64 st, .int .u32 n, .int .u32 po, .int .u32 pv, .string nm, .int .u8 id, .slice ca cols.length cc, .int .u8 kd, .int .u32 ao, .int .u32 av, .int .u8 old, .slice ba eb.length bc, .slice aad aa.length ac, .slice ra rs.length rc, .int .u8 fl] 49)))
   obtain ⟨Y,hY⟩:∃Y,Y=w8.heap.size:=⟨_,rfl⟩
   obtain ⟨w9,hw9⟩:∃W,W=w8.alloc (.cells #[.int .u8 k, .int .u32 x, .int .u64 st, .int .u32 n, .int .u32 po, .int .u32 pv, .string nm, .int .u8 id, .slice ca cols.length cc, .int .u8 kd, .int .u32 ao, .int .u32 av, .int .u8 old, .slice ba eb.length bc, .slice aad aa.length ac, .slice ra rs.length rc, .int .u8 fl] 49):=⟨_,rfl⟩
   rw [←hY,←hw9] at HY9
   rw [←hw9] at HE9 HO9 HP9
   rw [←hY,←hw9]
   clear hY hw9 HE8 HO8 HPT
   go_cut [6] (fun v wx=>Hid (Ext w9 wx)∧Hid (Lft w7 v rest))
   case first=>
    by_cases hcn:cb=NN
    ·have hn0N:n0=NN:=by omega
     subst hcn hn0N
     have hR0:Hid (rest= []):=Hm (List.length_eq_zero_iff.1 (by rw [HRL.out];omega))
     have hk0: ¬ (0:Int)<((n0:Int) - (n0:Int)):=by omega
     go_wp2
     go_meet
     case rel=>exact ⟨Hm (Ext.refl _),Hm ⟨by rw [hR0.out];exact ⟨some ⟨b,o,none⟩,0,rfl, .inl rfl⟩,fun a n c e=>by simp only [Value.slice.injEq] at e;obtain ⟨-,rfl,rfl⟩:=e;rw [hR0.out];exact ⟨rfl,Nat.le_refl _⟩⟩⟩
    ·have hc0: ¬ cb - NN=0:=by omega
     have hcs:((cb:Int) - (NN:Int)).toNat=cb - NN:=by omega
     have hls:((n0:Int) - (NN:Int)).toNat=n0 - NN:=by omega
     go_wp2
     go_meet
     case rel=>exact ⟨Hm (Ext.refl _),Hm ⟨HSD.out,fun a n c e=>by simp only [Value.slice.injEq] at e;obtain ⟨-,rfl,rfl⟩:=e;exact ⟨HRL.out.symm,by omega⟩⟩⟩
   case rest=>
   obtain ⟨HX9,HLF2⟩:=hcut
   have HEc:=Hm (HE9.out.trans HX9.out)
   have HYc:=Hm (HY9.out.ext HX9.out)
   have HOc:=Hm (owns_ext HO9.out HX9.out)
   have HPc:=Hm (HP9.out.ext HX9.out)
   have HLN:Hid (Lft w7 u6 (saidW C (M.drop (j+1)))):=Hm (by rw [←HRE.out];exact HLF2.out)
   have hmk:m.k=k:=by rw [←HPM.out];rfl
   have yc:=HYc.out.cell
   have yz:=HYc.out.lt
   have hj1:j+1≤M.length:=hlt
   clear HX9 HLF2 HE9 HY9 HO9 HP9 HSD HRL HRE hn1 hnn hcb0 hNp
   by_cases q1:k=66
   ·subst q1
    obtain ⟨e1,e2⟩:=ordS_B HST.out hmk
    simp only at e1 e2
    subst e1 e2
    clear hmk HST HPM
    go_wp2
    go_roundg (M.length - (j+1))
    case measure=>omega
    case rel=>exact ⟨j+1,(true,rfs),by omega,HNX,rfl,HLN,HOc,HEc⟩
   by_cases q2:k=67
   ·subst q2
    obtain ⟨e1,e2⟩:=ordS_C HST.out hmk
    simp only at e1 e2
    subst e1 e2
    clear hmk HST HPM q1
    go_wp2
    go_roundg (M.length - (j+1))
    case measure=>omega
    case rel=>exact ⟨j+1,(false,rfs),by omega,HNX,rfl,HLN,HOc,HEc⟩
   have hsl:Sl wc (.slice ar rfs.length cr) 2 (rfs.map Rf.cells):=Sl.of_owns (base:=w7.heap.size) (e:=41) (by rw [List.length_map];exact HOc.out) (rf_len rfs)
   have HSL:=Hm hsl
   clear hsl
   have q1' :(k==66)=false:=by simpa using q1
   have q2' :(k==67)=false:=by simpa using q2
   by_cases q3:k=82
   ·subst q3
    obtain ⟨e1,e2,e3⟩:=ordS_R HST.out hmk
    simp only at e1 e2 e3
    have ho:m.r.oid=po:=by rw [←HPM.out];rfl
    have hv:m.r.ver=pv:=by rw [←HPM.out];rfl
    rw [ho,hv] at e1 e3
    subst e2
    have HT3:=Hm e3
    have HTO:=Hm (told21_any rfs ⟨po,pv⟩ ar cr wc HSL.out (by omega))
    rw [e1] at HTO
    clear e1 e3 ho hv hmk HST HPM q1 q2 q1' q2' HSL
    go_upto_region 33 with (go_at_call 11;refine HTO.out.mono ?_;rintro e w10 ⟨rfl,hb10⟩;have HE10:=Hm (HEc.out.trans hb10);have HY10:=Hm (HYc.out.ext hb10);have HO10:=Hm (owns_ext HOc.out hb10);clear hb10 yc yz HEc HYc HOc HTO;have y10:=HY10.out.cell;have y10z:=HY10.out.lt)
    go_wp2_with (at_builtin;refine wpList_append_own _ rfl _ _ 37 rfl w7.heap.size 41 i0 _ 2 8 Tryz.underlying37 hi hz0 hz1 hz2 rfl (by decide) _ _ _ rfl (HO10.out.alloc (.cells #[.int .u32 po, .int .u32 pv] 41)) ⟨_,0,none⟩ 1 1 (Rf.cells ⟨po,pv⟩) rfl rfl ?c1 ?c2 ?c3 ?c4 ?c5 ?_)
    case c1=>exact cells_new _ #[.int .u32 po, .int .u32 pv] _
    case c2=>intro u hu;simp [Rf.cells] at hu;rcases hu with rfl|rfl<;>rfl
    case c3=>unfold maxLen;omega
    case c4=>omega
    case c5=>have:=HE10.out.size;simp;omega
    intro v' w11 hown' hgrow _
    obtain ⟨a',c',rfl⟩:=owns_shape hown'
    have HO11:=Hm hown'
    have HE11:Hid (Ext w7 w11):=Hm (Below.grown (HE10.out.alloc (.cells #[.int .u32 po, .int .u32 pv] 41)) hgrow (HE10.out.alloc (.cells #[.int .u32 po, .int .u32 pv] 41)).size (fun g e=>(HO10.out.lt g e).1))
    clear hown' hgrow HO10 HE10 HY10 y10 y10z
    go_wp2
    go_roundg (M.length - (j+1))
    case measure=>omega
    case rel=>
     have h3:=HT3.out
     subst h3
     refine ⟨j+1,(true,rfs++ [⟨po,pv⟩]),by omega,HNX,rfl,HLN,Hm ?_,HE11⟩
     simpa [List.map_append,List.flatten_append] using HO11.out
   obtain ⟨e1,e2,e3⟩:=ordS_E HST.out (by rw [hmk];exact q1) (by rw [hmk];exact q2) (by rw [hmk];exact q3)
   simp only at e1 e2 e3
   have hme:m.e=⟨kd,ao,av,old,eb,aa,rs,fl⟩:=by rw [←HPM.out];rfl
   rw [hme] at e1 HUB
   subst e2 e3
   have q3' :(k==82)=false:=by simpa using q3
   have HUS:=Hm (reuses_at ⟨⟨kd,ao,av,old,eb,aa,rs,fl⟩,ba,bc,aad,ac,ra,rc⟩ wc HPc.out.2)
   unfold EL.agg at HUS
   simp only at HUS
   obtain ⟨U,hU⟩:∃U,U=usesE ⟨kd,ao,av,old,eb,aa,rs,fl⟩:=⟨_,rfl⟩
   rw [←hU] at e1 HUS HUB
   have HAL:=Hm e1
   clear e1 hme hU hmk HST HPM q1 q2 q3 HPc
   go_wp2_with (go_at_call 12;refine HUS.out.mono ?_;rintro e w10 ⟨au,nq,cu,rfl,hnq,hsu, -,hb10⟩;subst hnq;have HSU:=Hm hsu;have HE10:=Hm (HEc.out.trans hb10);have HO10:=Hm (owns_ext HOc.out hb10);have HSL10:=Hm (HSL.out.ext hb10);clear hb10 hsu yc yz HEc HYc HOc HUS HSL)
   go_loopg [14] U.length (fun z i wq=>∃(q:Nat),z+q=U.length∧i= .int .i64 q∧Hid (Ext w10 wq))
   case atStart=>exact ⟨0,by omega,rfl,Hm (Ext.refl _)⟩
   case round=>
    obtain ⟨q,hzq,rfl,hEq⟩:=hrel
    by_cases hql:q<U.length
    ·obtain ⟨b2,o2,hae,hb2,hx2⟩:=HSU.out.at_ (i:=q) (by rw [List.length_map];exact hql)
     obtain ⟨f0,f1⟩:=Rf.at_ hql hx2 hb2 hEq.out
     have hb2w:b2<wr.heap.size:=Nat.lt_of_lt_of_le hb2 hEq.out.size
     have hal:=HAL.out _ (List.getElem_mem hql)
     obtain ⟨y,hy⟩:∃y,y=U[q]:=⟨_,rfl⟩
     rw [←hy] at f0 f1 hal
     obtain ⟨uo,uv⟩:=y
     simp only at f0 f1
     have HTO:=Hm (told21_any rfs ⟨uo,uv⟩ ar cr wr (HSL10.out.ext hEq.out) (by omega))
     rw [hal] at HTO
     clear hy hal hx2
     have HQL:=Hm (show q+1≤U.length from hql)
     have hub:=HUB.out
     subst hae
     go_wp2_with (go_at_call 11;refine HTO.out.mono ?_;rintro e w12 ⟨rfl,hb12⟩;have HE12:=Hm (hEq.out.trans hb12);clear hb12)
     go_roundg (U.length - (q+1))
     case measure=>have:=HQL.out;omega
     case rel=>exact ⟨q+1,Nat.sub_add_cancel HQL.out,by go_num,HE12⟩
    ·have HEf:=Hm (HE10.out.trans hEq.out)
     have HOf:=Hm (owns_ext HO10.out hEq.out)
     have hqq:q=U.length:=by omega
     subst hqq
     go_wp2
     go_roundg (M.length - (j+1))
     case measure=>omega
     case rel=>exact ⟨j+1,(true,rfs),by omega,HNX,rfl,HLN,HOf,HEf⟩
  ·have hjj:j=M.length:=by omega
   subst hjj
   have h1:=hord.out
   rw [List.take_length,HRS.out] at h1
   simp only [Option.some.injEq,Prod.mk.injEq] at h1
   obtain ⟨rfl,rfl⟩:=h1
   have h0:saidW C (M.drop M.length)= []:=by rw [List.drop_length];rfl
   rw [h0] at hlf
   obtain ⟨ab,cb,rfl, -⟩:=hlf.out.shape
   rw [HRN.out]
   clear h0 hlf hord hown HPA HTL
   go_wp2_with (first
    |(go_at_call 13;refine (HUD.out _ hEw.out).mono ?_;rintro e w10 ⟨au,nq,cu,rfl,hnq, -,hb10⟩;obtain rfl:nq=nu:=hnq.trans HNU.out.symm;have HE10:=Hm (hEw.out.trans hb10);clear hb10 hnq)
    |(go_at_call 9;refine (HAW.out _ HE10.out).mono ?_;rintro e w11 ⟨rfl,hb11⟩;have HE11:=Hm (HE10.out.trans hb11);clear hb11))
   go_ret
   exact ⟨rfl,HE11.out⟩
end Go.Proofs.YtgmphpccpfaapaaGreatDoor
