/-
A message stored turns its block alone.
-/
import Derived.LoopIn
import Derived.Maps.OwnIn
import Derived.Test.YtgmphpccpfaapaaGreatDoorP25
import Derived.Test.YtgmphpccpfaapaaGreatDoorP28
import Derived.Test.YtgmphpccpfaapaaGreatDoorP7
import Derived.Test.YtgmphpccpfaapaaGreatDoorP17
import Derived.Test.YtgmphpccpfaapaaGreatDoorP21
import Derived.Test.YtgmphpccpfaapaaGreatDoorP19
import Derived.Test.YtgmphpccpfaapaaGreatDoorP12
set_option maxRecDepth 100000
set_option maxHeartbeats 16000000
namespace Go.Proofs.YtgmphpccpfaapaaGreatDoor
open Go.RowKit
theorem Kp.c17 {W:World} {b:Nat} {v0 v1 v2 v3 v4 v5 v6 v7 v8 v9 v10 v11 v12 v13 v14 v15 v16:Value} :Kp (fun x=>x=b) W (((((((((((((((((W.setCell ⟨b,0,none⟩ v0).setCell ⟨b,1,none⟩ v1).setCell ⟨b,2,none⟩ v2).setCell ⟨b,3,none⟩ v3).setCell ⟨b,4,none⟩ v4).setCell ⟨b,5,none⟩ v5).setCell ⟨b,6,none⟩ v6).setCell ⟨b,7,none⟩ v7).setCell ⟨b,8,none⟩ v8).setCell ⟨b,9,none⟩ v9).setCell ⟨b,10,none⟩ v10).setCell ⟨b,11,none⟩ v11).setCell ⟨b,12,none⟩ v12).setCell ⟨b,13,none⟩ v13).setCell ⟨b,14,none⟩ v14).setCell ⟨b,15,none⟩ v15).setCell ⟨b,16,none⟩ v16):=by
 iterate 17 refine Kp.trans ?_ (Kp.set (S:=fun x=>x=b) _ _ rfl) (fun _ hx _=>hx)
 exact Kp.refl
open Go.RowKit Go.Maps Go.Shelf
theorem ext_of_none20 {w w' :World} (h:w.grownBy w' none):Ext w w' :=⟨h.os,h.tape,h.output,h.size,fun k hk=>h.block k hk (by simp)⟩
theorem Ext.map20 {w W W' :World} {m:Nat} (hE:Ext w W) (hg:W.grownBy W' (some m)) (hm:w.heap.size≤m):Ext w W' :=
 ⟨hg.os.trans hE.os,hg.tape.trans hE.tape,hg.output.trans hE.output,Nat.le_trans hE.size hg.size,fun k hk=>(hg.block k (by have:=hE.size;omega) (by simp;omega)).trans (hE.block k hk)⟩
theorem EL.owned.at20 {N:Nat} {W:World} {y:EL} (h:y.owned N W):y.at 5 K.pc W:=
 ⟨Sl.of_owns (base:=N) (by rw [List.length_map];exact h.b) (by intro xs hxs;simp at hxs;obtain ⟨_,_,rfl⟩:=hxs;rfl),Sl.of_owns (base:=N) (by rw [List.length_map];exact h.a) (by intro xs hxs;simp at hxs;obtain ⟨_,_,rfl⟩:=hxs;rfl),Sl.of_owns (base:=N) (by rw [List.length_map];exact h.r) (by intro xs hxs;simp at hxs;obtain ⟨_,_,rfl⟩:=hxs;rfl)⟩
theorem EL.owned.on20 {N:Nat} {W:World} {y:EL} (h:y.owned N W):y.on (fun b=>N≤b):=
 ⟨fun _ b o e=>(h.b.lt b (by rw [e];rfl)).1,fun _ b o e=>(h.a.lt b (by rw [e];rfl)).1,fun _ b o e=>(h.r.lt b (by rw [e];rfl)).1⟩
theorem kd_in {k c:Int} (h:∀zd,KD.atKey (.int .u8 k) zd= .lit (.int .u8 c)):c=wkind k∧0<wkind k:=by
 have h1:=h (.lit (.int .u8 0))
 rw [kd_at] at h1
 simp only [DataW.lit.injEq,Go.Lit.int.injEq,true_and] at h1
 refine ⟨h1.symm, ?_⟩
 apply Classical.byContradiction
 intro hn
 have h2:=h (.lit (.int .u8 99))
 have q1:k≠68:=fun e=>hn (by rw [e];decide)
 have q2:k≠73:=fun e=>hn (by rw [e];decide)
 have q3:k≠84:=fun e=>hn (by rw [e];decide)
 have q4:k≠85:=fun e=>hn (by rw [e];decide)
 have g1:(68:Int)≠k:=fun e=>q1 e.symm
 have g2:(73:Int)≠k:=fun e=>q2 e.symm
 have g3:(84:Int)≠k:=fun e=>q3 e.symm
 have g4:(85:Int)≠k:=fun e=>q4 e.symm
 have h3:c=99:=by
  have h4:KD.atKey (.int .u8 k) (.lit (.int .u8 99))= .lit (.int .u8 99):=by
   unfold KD DataW.atKey
   simp [List.find?,Go.Lit.sameKey,g1,g2,g3,g4]
  rw [h4] at h2
  simpa using h2.symm
 rw [←h1] at h3
 unfold wkind at h3
 (repeat' split at h3)<;>omega
theorem kd_has (k:Int) (h:0<wkind k):Maps.has KD (.int .u8 k)=true:=by
 unfold wkind at h
 by_cases h1:k=73
 ·subst h1;rfl
 by_cases h2:k=85
 ·subst h2;rfl
 by_cases h3:k=68
 ·subst h3;rfl
 by_cases h4:k=84
 ·subst h4;rfl
 rw [if_neg h1,if_neg h2,if_neg h3,if_neg h4] at h
 omega
theorem msgOf_let {e:Ev} {k:Int} (h:e.kind=wkind k) (h0:0<wkind k):msgOf e=⟨k,0,0,0,Rl0,e⟩:=by
 unfold msgOf
 by_cases h1:k=73
 ·subst h1;rw [if_pos (show e.kind=4 from h)]
 by_cases h2:k=85
 ·subst h2;rw [if_neg (by rw [h];decide),if_pos (show e.kind=5 from h)]
 by_cases h3:k=68
 ·subst h3;rw [if_neg (by rw [h];decide),if_neg (by rw [h];decide),if_pos (show e.kind=6 from h)]
 by_cases h4:k=84
 ·subst h4;rw [if_neg (by rw [h];decide),if_neg (by rw [h];decide),if_neg (by rw [h];decide),if_pos (show e.kind=7 from h)]
 unfold wkind at h0
 rw [if_neg h1,if_neg h2,if_neg h3,if_neg h4] at h0
 omega
theorem msgOf_none {e:Ev} (h:∀k,0<wkind k→e.kind≠wkind k):msgOf e=⟨0,0,0,0,Rl0,Ev0⟩:=by
 unfold msgOf
 rw [if_neg (fun q=>h 73 (by decide) (by rw [q];rfl)),if_neg (fun q=>h 85 (by decide) (by rw [q];rfl)),if_neg (fun q=>h 68 (by decide) (by rw [q];rfl)),if_neg (fun q=>h 84 (by decide) (by rw [q];rfl))]
theorem res_mof {W:World} {b:Nat} {v0 v1 v2 v3 v4 v5 v6 v7 v8 v9 v10 v11 v12 v13 v14 v15 v16:Value} {tm:Array Value} (h:Blk W b #[v0,v1,v2,v3,v4,v5,v6,v7,v8,v9,v10,v11,v12,v13,v14,v15,v16] 79) (ht:tm.getD 2 undef= .pointer (some ⟨b,0,none⟩)):
 (results Tryz.f37 tm).run Tryz.prog W= .ok (.agg #[v0,v1,v2,v3,v4,v5,v6,v7,v8,v9,v10,v11,v12,v13,v14,v15,v16]) W:=by
 have c:=h.cell
 have c0:=c 0
 have c1:=c 1
 have c2:=c 2
 have c3:=c 3
 have c4:=c 4
 have c5:=c 5
 have c6:=c 6
 have c7:=c 7
 have c8:=c 8
 have c9:=c 9
 have c10:=c 10
 have c11:=c 11
 have c12:=c 12
 have c13:=c 13
 have c14:=c 14
 have c15:=c 15
 have c16:=c 16
 clear c h
 simp at c0 c1 c2 c3 c4 c5 c6 c7 c8 c9 c10 c11 c12 c13 c14 c15 c16
 rw [Array.getD_eq_getD_getElem?] at ht
 simp [results,Tryz.results37,go_sem,ht,c0,c1,c2,c3,c4,c5,c6,c7,c8,c9,c10,c11,c12,c13,c14,c15,c16]
theorem mof_any (x:EL) (w:World) (hx:x.at 5 K.pc w) (hs:x.e.small) (hk:Kin w):
 Calls Tryz.prog 37 #[x.agg] w fun e w' =>∃p:ML,e= .returned p.agg∧p.m=msgOf x.e∧p.at 5 K.pc w'∧Ext w w' :=by
 have HCP:=Hm (fun W (h:Ext w W)=>ecopy_any x W (hx.ext h) hs)
 obtain ⟨B,hb1,hb2,hb3⟩:=hk.ext (show Ext w ((w.alloc (.cells #[.int .u8 x.e.kind, .int .u32 x.e.ao, .int .u32 x.e.av, .int .u8 x.e.old, .slice x.ba x.e.b.length x.bc, .slice x.aa x.e.a.length x.ac, .slice x.ra x.e.rs.length x.rc, .int .u8 x.e.fl] 77)).alloc (.cells #[.int .u8 0, .int .u32 0, .int .u64 0, .int .u32 0, .int .u32 0, .int .u32 0, .string ⟨#[]⟩, .int .u8 0, .slice none 0 0, .int .u8 0, .int .u32 0, .int .u32 0, .int .u8 0, .slice none 0 0, .slice none 0 0, .slice none 0 0, .int .u8 0] 79)) from ((Ext.refl w).alloc _).alloc _)
 have HMO:=Hm hb2
 have HMC:=Hm hb1
 have HMZ:=Hm hb3
 clear hx hs hk hb1 hb2 hb3
 obtain ⟨⟨kd,ao,av,old,b,aa,rs,fl⟩,ba,bc,aad,ac,ra,rc⟩:=x
 unfold EL.agg at HCP⊢
 dsimp only at HCP HMO HMC HMZ⊢
 have HX:=Hm (show Blk ((w.alloc (.cells #[.int .u8 kd, .int .u32 ao, .int .u32 av, .int .u8 old, .slice ba b.length bc, .slice aad aa.length ac, .slice ra rs.length rc, .int .u8 fl] 77)).alloc (.cells #[.int .u8 0, .int .u32 0, .int .u64 0, .int .u32 0, .int .u32 0, .int .u32 0, .string ⟨#[]⟩, .int .u8 0, .slice none 0 0, .int .u8 0, .int .u32 0, .int .u32 0, .int .u8 0, .slice none 0 0, .slice none 0 0, .slice none 0 0, .int .u8 0] 79)) w.heap.size #[.int .u8 kd, .int .u32 ao, .int .u32 av, .int .u8 old, .slice ba b.length bc, .slice aad aa.length ac, .slice ra rs.length rc, .int .u8 fl] 77 from (Blk.new _ _ _).alloc _)
 have HZ:=Hm (show Blk ((w.alloc (.cells #[.int .u8 kd, .int .u32 ao, .int .u32 av, .int .u8 old, .slice ba b.length bc, .slice aad aa.length ac, .slice ra rs.length rc, .int .u8 fl] 77)).alloc (.cells #[.int .u8 0, .int .u32 0, .int .u64 0, .int .u32 0, .int .u32 0, .int .u32 0, .string ⟨#[]⟩, .int .u8 0, .slice none 0 0, .int .u8 0, .int .u32 0, .int .u32 0, .int .u8 0, .slice none 0 0, .slice none 0 0, .slice none 0 0, .int .u8 0] 79)) (w.heap.size+1) #[.int .u8 0, .int .u32 0, .int .u64 0, .int .u32 0, .int .u32 0, .int .u32 0, .string ⟨#[]⟩, .int .u8 0, .slice none 0 0, .int .u8 0, .int .u32 0, .int .u32 0, .int .u8 0, .slice none 0 0, .slice none 0 0, .slice none 0 0, .int .u8 0] 79 from Blk.new' (w:=w.alloc (.cells #[.int .u8 kd, .int .u32 ao, .int .u32 av, .int .u8 old, .slice ba b.length bc, .slice aad aa.length ac, .slice ra rs.length rc, .int .u8 fl] 77)) _ _ (by simp))
 have HE1:=Hm (show Ext w ((w.alloc (.cells #[.int .u8 kd, .int .u32 ao, .int .u32 av, .int .u8 old, .slice ba b.length bc, .slice aad aa.length ac, .slice ra rs.length rc, .int .u8 fl] 77)).alloc (.cells #[.int .u8 0, .int .u32 0, .int .u64 0, .int .u32 0, .int .u32 0, .int .u32 0, .string ⟨#[]⟩, .int .u8 0, .slice none 0 0, .int .u8 0, .int .u32 0, .int .u32 0, .int .u8 0, .slice none 0 0, .slice none 0 0, .slice none 0 0, .int .u8 0] 79)) from ((Ext.refl w).alloc _).alloc _)
 have HSZ:=Hm (show ((w.alloc (.cells #[.int .u8 kd, .int .u32 ao, .int .u32 av, .int .u8 old, .slice ba b.length bc, .slice aad aa.length ac, .slice ra rs.length rc, .int .u8 fl] 77)).alloc (.cells #[.int .u8 0, .int .u32 0, .int .u64 0, .int .u32 0, .int .u32 0, .int .u32 0, .string ⟨#[]⟩, .int .u8 0, .slice none 0 0, .int .u8 0, .int .u32 0, .int .u32 0, .int .u8 0, .slice none 0 0, .slice none 0 0, .slice none 0 0, .int .u8 0] 79)).heap.size=w.heap.size+2 by simp)
 obtain ⟨w1,hw1⟩:∃W,W=(w.alloc (.cells #[.int .u8 kd, .int .u32 ao, .int .u32 av, .int .u8 old, .slice ba b.length bc, .slice aad aa.length ac, .slice ra rs.length rc, .int .u8 fl] 77)).alloc (.cells #[.int .u8 0, .int .u32 0, .int .u64 0, .int .u32 0, .int .u32 0, .int .u32 0, .string ⟨#[]⟩, .int .u8 0, .slice none 0 0, .int .u8 0, .int .u32 0, .int .u32 0, .int .u8 0, .slice none 0 0, .slice none 0 0, .slice none 0 0, .int .u8 0] 79):=⟨_,rfl⟩
 rw [←hw1] at HX HZ HE1 HMO HMC HMZ HSZ
 go_enter Tryz.func37,Tryz.ntmps37
 go_upto_region 1 with (fail)
 rw [←hw1]
 clear hw1
 obtain ⟨X,hX⟩:∃X,X=w.heap.size:=⟨_,rfl⟩
 rw [←hX] at HX HZ HSZ⊢
 have HXE:=Hm hX
 clear hX
 have gG:=HMC.out
 have gZ:=HMZ.out
 have hown:=HMO.out
 go_wp2_with (first
  |(at_range;refine wpList_range_own _ rfl _ 155 rfl 5 5 lawU8 Tryz.underlying155 (plainElem Tryz.prog 5) B 4 KD rfl hown ?_;intro w0 hrg0 hg0 hs0)
  |go_in)
 go_frame
 have HE0:=Hm (ext_of_none20 hg0)
 have HR0:=Hm hs0
 clear hown hg0 gG gZ hs0
 go_loopw [8] (fun _ wr=>∃(left:Go.Lit→Bool) (cnt:Nat),wr.ranges Tryz.prog 5 (plainElem Tryz.prog 5) B w1.heap.size 4 KD left cnt∧Hid (∀l,0<wkind l→kd=wkind l→left (.int .u8 l)=true)∧Hid (Ext w1 wr)) (fun _ wr=>wr.rangeLeft B w1.heap.size)
 case atStart=>exact ⟨_,_,hrg0,Hm (fun l h _=>kd_has l h),HE0⟩
 case round=>
  obtain ⟨left,cnt,hrg,hL,hE⟩:=hrel
  go_wp2_with (first
   |(at_next;refine wpList_next_ranges_ii _ rfl _ rfl 5 5 .u8 .u8 lawU8 Tryz.underlying5 Tryz.underlying5 B w1.heap.size 4 _ _ _ rfl hrg ?_ ?_)
   |go_in)
  ·intro hc0 hl0
   have HNO:=Hm (show msgOf (⟨kd,ao,av,old,b,aa,rs,fl⟩:Ev)=⟨0,0,0,0,Rl0,Ev0⟩ from msgOf_none (fun l h0 h=>by have h2:=hL.out l h0 h;rw [hl0] at h2;cases h2))
   have HZr:=Hm (HZ.out.ext hE.out)
   have HS17:=Hm (show (Instr.storeAt 79 (.pointer (some ⟨X+1,0,none⟩)) (.agg #[.int .u8 0, .int .u32 0, .int .u64 0, .int .u32 0, .int .u32 0, .int .u32 0, .string ⟨#[]⟩, .int .u8 0, .slice none 0 0, .int .u8 0, .int .u32 0, .int .u32 0, .int .u8 0, .slice none 0 0, .slice none 0 0, .slice none 0 0, .int .u8 0])).run Tryz.prog wr= .ok () _ from store17 HZr.out)
   clear hc0 hl0 hL hrg
   go_wp2_with (refine wpList_store_to rfl 79 (.tmp 2) (.tmp 20) rfl _ _ ?e1 ?e2 HS17.out ?_;(case e1=>go_simp);(case e2=>go_simp))
   refine bodyPost_ret (res_mof (Blk.c17 HZr.out) rfl) rfl ⟨⟨0,0,0,0,⟨Rl0,none,0⟩,⟨Ev0,none,0,none,0,none,0⟩⟩,rfl,HNO.out.symm,⟨RR.in_zero _,EL.at_zero _ _ _⟩,Ext.c17 (HE1.out.trans hE.out) (by have:=HXE.out;omega)⟩
  ·intro x' c w2 cnt2 hwx hwc hlx hat hrg2 hlt hg2 hs2 hen
   obtain ⟨hc,hpos⟩:=kd_in hat
   have HE2:=Hm (Ext.map20 hE.out hg2 (Nat.le_refl _))
   have HX2:=Hm (HX.out.ext HE2.out)
   have HZ2:=Hm (HZ.out.ext HE2.out)
   have gX:=HX2.out.cell
   have zX:=HX2.out.lt
   have HRG2:=Hm hrg2
   have HRG:=Hm hrg
   have HLT:=Hm hlt
   have HC:=Hm hc
   have HPOS:=Hm hpos
   clear hwx hwc hlx hat hrg2 hrg hlt hg2 hs2 hc hpos
   by_cases hk:kd=c
   ·have hk' :(kd==c)=true:=by simpa using hk
    have HMS:=Hm (show msgOf (⟨kd,ao,av,old,b,aa,rs,fl⟩:Ev)=⟨x',0,0,0,Rl0,⟨kd,ao,av,old,b,aa,rs,fl⟩⟩ from msgOf_let (hk.trans HC.out) HPOS.out)
    clear hk hL HRG HRG2
    go_wp2_with (first
     |(go_at_call 70;refine (HCP.out _ (HE1.out.trans (HE2.out.trans (by exact eX)))).mono ?_;rintro e w4 ⟨y,rfl,hye,hyo,hb4⟩;obtain ⟨ye,a1,c1,a2,c2,a3,c3⟩:=y;(have hye:ye=_:=hye);subst hye;have HB4:=Hm (show Ext w1 w4 from HE2.out.trans (by exact eX));have HYO:=Hm hyo;have HZ4:=Hm (HZ.out.ext HB4.out);clear hb4 hyo gX zX;have HS17:=Hm (show (Instr.storeAt 79 (.pointer (some ⟨X+1,0,none⟩)) (.agg #[.int .u8 x', .int .u32 0, .int .u64 0, .int .u32 0, .int .u32 0, .int .u32 0, .string ⟨#[]⟩, .int .u8 0, .slice none 0 0, .int .u8 kd, .int .u32 ao, .int .u32 av, .int .u8 old, .slice a1 b.length c1, .slice a2 aa.length c2, .slice a3 rs.length c3, .int .u8 fl])).run Tryz.prog w4= .ok () _ from store17 HZ4.out))
     |(refine wpList_store_to rfl 79 (.tmp 2) (.tmp 19) rfl _ _ ?e1 ?e2 HS17.out ?_;(case e1=>go_simp);(case e2=>(try unfold EL.agg);go_simp)))
    refine bodyPost_ret (res_mof (Blk.c17 HZ4.out) rfl) rfl ⟨⟨x',0,0,0,⟨Rl0,none,0⟩,⟨⟨kd,ao,av,old,b,aa,rs,fl⟩,a1,c1,a2,c2,a3,c3⟩⟩,rfl,HMS.out.symm,⟨RR.in_zero _,EL.at.kp HYO.out.at20 Kp.c17 (HYO.out.on20.mono (fun b' hb h=> ?_))⟩,Ext.c17 (HE1.out.trans HB4.out) (by have:=HXE.out;omega)⟩
    have h1:=HZ2.out.lt
    have h:b' =X+1:=h
    omega
   ·have hk' :(kd==c)=false:=by simpa using hk
    have HL2:=Hm (show∀l,0<wkind l→kd=wkind l→(left (.int .u8 l)&& !(Go.Lit.int .u8 l).sameKey (.int .u8 x'))=true from fun l h0 h=>by
     have hne:l≠x' :=fun e=>hk (by rw [h,e];exact HC.out.symm)
     rw [hL.out l h0 h]
     simp [Go.Lit.sameKey,hne])
    clear hk hL
    go_wp2
    go_roundw
    case rel=>exact ⟨_,_,HRG2.out,HL2,HE2⟩
    case measure=>rw [HRG2.out.left_eq,HRG.out.left_eq];exact HLT.out
end Go.Proofs.YtgmphpccpfaapaaGreatDoor
namespace Go.Proofs.YtgmphpccpfaapaaGreatDoor
open Go.RowKit Go.Maps
theorem msgs1_in (F:Fence) (n:Nat) (hFe:F=Fence.wide) (hF:F.fn 33) (hF2:F.fn 34) (hGF:F.fn 36) (hUF:F.fn 35) (hOF:F.fn 37) (hro:F.round=none) (hn:2≤n) (l bl bc M:Nat) (w0:World) (N g:Nat) (c:Value) (ps:List RR) (hc:Hid (Ca w0 N g c ps)) (hB:Hid (∀r∈ps.map RR.r,r.okw))
 (ts:List TL) (a:Option Addr) (cap:Nat) (ht:Hid (TS 5 K.pc w0 (.slice a ts.length cap) ts)) (hok:Hid (∀t∈ts,t.okw)) (hlen:ts.length≤60) (hki:Hid (Kin w0))
 (J:List ML→World→Prop) (W0:World) (hJ:Hid (AbidesFrom W0.heap.size J))
 (hY:Hid (∀pre x W,J pre W→pre.length<1200001→(x.at 5 K.pc W∧x.ok)→YieldAt F (n - 1) Tryz.prog l #[x.agg] W fun e W' =>e= .returned (.bool true)∧J (pre++ [x]) W'∧KpY 5 w0.heap.size M W W'))
 (hE:Hid (Ext w0 W0)) (hMz:M≤W0.heap.size) (hMc:M≤bc) (hbl:W0.cell? ⟨bl,0,none⟩=some (.slice a ts.length cap)) (hbc:Hid (Blk W0 bc #[.pointer (some ⟨g,0,none⟩)] 26)) (h0:Hid (J [] W0)):
 CallsIn F n Tryz.prog 33 #[.func (.yield l) #[] #[], .pointer (some ⟨bl,0,none⟩), .pointer (some ⟨bc,0,none⟩)] W0 fun e W' =>(∃v,e= .returned v)∧∃ys,ys.map ML.m=storyM (ps.map RR.r) (ts.map TL.t)∧J ys W' :=by
 have hzl:bl<W0.heap.size:=by
  rcases Nat.lt_or_ge bl W0.heap.size with h|h
  ·exact h
  ·unfold World.cell? at hbl;rw [Array.getElem?_eq_none h] at hbl;cases hbl
 obtain ⟨LC,hLC⟩:∃LC,LC=ps.map RR.r:=⟨_,rfl⟩
 obtain ⟨TT,hTT⟩:∃TT,TT=ts.map TL.t:=⟨_,rfl⟩
 have hm:W0.heap.size+1=(W0.alloc (.cells #[.func (.yield l) #[] #[]] 110)).heap.size:=by simp
 have HL:=Hm hLC
 have HTT:=Hm hTT
 have HLIT:Hid ((∀t∈TT,t.lit)∧TT.length≤60):=Hm ⟨fun t h=>by
  rw [hTT] at h
  obtain ⟨x,hx,rfl⟩:=List.mem_map.1 h
  exact (hok.out x hx).lit,by rw [hTT,List.length_map];exact hlen⟩
 have HSAY:=Hm (fun (m:Nat) (hm:1≤m) (s:Said) (ys:List ML) (W:World) (x:ML) (hI:MsI J w0 M bc g W0.heap.size l (W0.heap.size+1) s ys W) (h:s.1.length≤1200000) (hx:x.at 5 K.pc W) (hk:x.ok)=>
  say_in (F:=F) m hFe hF2 hro hm hI hJ.out (fun pre x W h1 h2 h3=>by have:=hY.out pre x W h1 h2 h3;subst hFe;exact YieldAt.any (m:=n - 1) this) hMz hMc (by omega) h hx hk)
 have HGET:=Hm (fun m (o v:Int) W (h:Ext w0 W)=>(show CallsIn F m Tryz.prog 36 #[.pointer (some ⟨g,0,none⟩), .agg #[.int .u32 o, .int .u32 v]] W _ from by rw [hFe];exact callsIn_wide.2 (cget_any N g c ps o v W (hc.out.ext h))))
 have HUSE:=Hm (fun m (x:EL) W (h:x.at 5 K.pc W) (hs:x.e.small)=>(show CallsIn F m Tryz.prog 35 #[x.agg] W _ from by rw [hFe];exact callsIn_wide.2 (euses_any x W h hs)))
 have HOFF:=Hm (fun m (x:EL) W (h:x.at 5 K.pc W) (hs:x.e.small) (h2:Ext w0 W)=>(show CallsIn F m Tryz.prog 37 #[x.agg] W _ from by rw [hFe];exact callsIn_wide.2 (mof_any x W h hs (hki.out.ext h2))))
 have h1:1≤n:=by omega
 have hmm:= @run_makeMap Tryz.prog
 have hmf:∀(fn:Fn) (first cap:Array Value) (w:World),(Instr.makeFunc fn first cap).run Tryz.prog w= .ok (.func fn first cap) w:=fun _ _ _ _=>rfl
 have hstart:MsI J w0 M bc g W0.heap.size l (W0.heap.size+1) ([], []) [] ((W0.alloc (.cells #[.func (.yield l) #[] #[]] 110)).alloc (.map #[] 0)):=by
  have he:Ext W0 ((W0.alloc (.cells #[.func (.yield l) #[] #[]] 110)).alloc (.map #[] 0)):=((Ext.refl W0).alloc _).alloc _
  refine ⟨rfl,hJ.out _ _ _ none h0.out (ext_grownS he) (by simp), ?_,(Blk.new W0 _ _).alloc _,hbc.out.ext he,hE.out.trans he,(fun y h=>by cases h)⟩
  rw [hm];exact SetT.made _
 have HST:=Hm hstart
 clear hFe hc hki hY hbc h0 hm hstart hLC hTT
 refine callsIn_of_wp Tryz.func33 rfl hF ?_ hro
 simp only [Tryz.ntmps33,List.size_toArray,List.length_cons,List.length_nil,Nat.reduceAdd,Nat.reduceSub,Array.replicate_succ,Array.replicate_zero,List.push_toArray,List.append_toArray,List.nil_append,List.cons_append]
 gi_wp2
 clear hbl hmm hmf
 gi_loopw [6,19] (fun going i wr=>∃(k:Nat) (ys:List ML),k≤ts.length∧going= .bool true∧i= .int .i64 k∧Hid (MsI J w0 M bc g W0.heap.size l (W0.heap.size+1) (sAt LC TT k) ys wr)) (fun _ i _=>ts.length - (intOf i).toNat)
 case atStart=>exact ⟨0, [],Nat.zero_le _,rfl,rfl,HST⟩
 case round=>
  obtain ⟨k,ys,hk,rfl,rfl,hI⟩:=hrel
  by_cases hlt:k<ts.length
  ·obtain ⟨b,o,rfl,hb,hx⟩:=ht.out.row.at_ (i:=k) (by simpa using hlt)
   obtain ⟨f0,f1,f2⟩:=TL.at_ hlt hx hb hI.out.ext
   have hbw:b<wr.heap.size:=Nat.lt_of_lt_of_le hb hI.out.ext.size
   have HTA:=Hm (ht.out.sl _ (List.getElem_mem hlt))
   have HTO:=Hm (hok.out _ (List.getElem_mem hlt))
   have HTM:Hid (ts[k].t∈TT):=Hm (by rw [HTT.out];exact List.mem_map_of_mem (List.getElem_mem hlt))
   have HSA:=Hm (sAt_at LC ts hlt)
   rw [←HTT.out] at HSA
   have HKT:Hid (k<TT.length):=Hm (by rw [HTT.out,List.length_map];exact hlt)
   have HS0:=Hm (sAt_b (c:=LC) HLIT.out.1 HLIT.out.2 (Nat.le_of_lt HKT.out)).1
   obtain ⟨t,hte⟩:∃t,t=ts[k]:=⟨_,rfl⟩
   rw [←hte] at f0 f1 f2 HTA HTO HTM HSA
   have HLT:=Hm hlt
   clear hte hx hb
   obtain ⟨xid,st,es,ta,tc⟩:=t
   unfold TL.t at HSA HTM
   simp only at f0 f1 f2 HSA HTM
   have HES:Hid (ES 5 K.pc w0 (.slice ta es.length tc) es):=HTA
   obtain ⟨T,hT⟩:∃T,T=(⟨xid,st,es.map EL.e⟩:Tx):=⟨_,rfl⟩
   rw [←hT] at HSA HTM
   have HTE:=Hm hT
   have hMw:M≤wr.heap.size:=by have:=hI.out.box.lt;omega
   have hle:es.length≤600:=HTO.out.n
   have hwl:IntKind.u32.wrap (es.length:Int)=es.length:=by simp [IntKind.wrap,IntKind.signed,IntKind.bits];omega
   have HB1:=Hm (show∀m,1≤m→∀W,Ext wr W→CallsIn F m Tryz.prog 34 #[.agg #[.int .u8 66, .int .u32 xid, .int .u64 st, .int .u32 0, .int .u32 0, .int .u32 0, .string ⟨#[]⟩, .int .u8 0, .slice none 0 0, .int .u8 0, .int .u32 0, .int .u32 0, .int .u8 0, .slice none 0 0, .slice none 0 0, .slice none 0 0, .int .u8 0], .bool true, .pointer (some ⟨W0.heap.size,0,none⟩)] W (fun e W' =>e= .returned (.bool true)∧MsI J w0 M bc g W0.heap.size l (W0.heap.size+1) (sEv LC TT k T 0) (ys++ [mlB xid st]) W'∧KpY 5 w0.heap.size M W W') from fun m hm W h=>by
    rw [sEv_zero,hT]
    exact HSAY.out m hm _ _ W (mlB xid st) (hI.out.go hJ.out h) HS0.out (mlB_at W xid st) (mlB_ok HTO.out.xid HTO.out.st))
   have HC1:=Hm (show∀m,1≤m→∀W ys,MsI J w0 M bc g W0.heap.size l (W0.heap.size+1) (sEv LC TT k T es.length) ys W→CallsIn F m Tryz.prog 34 #[.agg #[.int .u8 67, .int .u32 xid, .int .u64 0, .int .u32 es.length, .int .u32 0, .int .u32 0, .string ⟨#[]⟩, .int .u8 0, .slice none 0 0, .int .u8 0, .int .u32 0, .int .u32 0, .int .u8 0, .slice none 0 0, .slice none 0 0, .slice none 0 0, .int .u8 0], .bool true, .pointer (some ⟨W0.heap.size,0,none⟩)] W (fun e W' =>e= .returned (.bool true)∧MsI J w0 M bc g W0.heap.size l (W0.heap.size+1) (sAt LC TT (k+1)) (ys++ [mlC xid es.length]) W'∧KpY 5 w0.heap.size M W W') from fun m hm W ys hi=>by
    rw [HSA.out]
    exact HSAY.out m hm _ _ W (mlC xid es.length) hi ((sEv_b (c:=LC) HLIT.out.1 HLIT.out.2 HTM.out HKT.out (by rw [HTE.out];show _≤(es.map EL.e).length;rw [List.length_map];exact Nat.le_refl _)).1) (mlC_at W xid _) (mlC_ok HTO.out.xid (by have:=HTO.out.n;show es.length<_;omega)))
   have HOK:=Hm HTO.out.es
   have HRS:=Hm HTO.out.r
   clear HTA HTO HS0 hT
   obtain ⟨wo,hwo⟩:∃x,x=wr:=⟨_,rfl⟩
   subst hwo
   gi_wp2_with (gi_at_call 34;refine (HB1.out _ (by omega) _ (by exact eX)).mono ?_;rintro e w1 ⟨rfl,hI1,hk1⟩;have HI1:=Hm hI1;have HX1:=Hm (hk1.blk hMw (Blk.new _ #[.int .u32 xid, .int .u64 st, .slice ta es.length tc] 84) (by decide));clear hI1 hk1;have g1:=HX1.out.cell;have z1:=HX1.out.lt)
   clear f0 f1 f2 g1 z1
   gi_loopw [6,34] (fun going i wq=>∃(k2:Nat) (ys2:List ML),k2≤es.length∧going= .bool true∧i= .int .i64 k2∧Hid (MsI J w0 M bc g W0.heap.size l (W0.heap.size+1) (sEv LC TT k T k2) ys2 wq)∧Hid (Blk wq wo.heap.size #[.int .u32 xid, .int .u64 st, .slice ta es.length tc] 84)) (fun _ i _=>es.length - (intOf i).toNat)
   case atStart=>exact ⟨0,_,Nat.zero_le _,rfl,rfl,HI1,HX1⟩
   case round=>
    obtain ⟨k2,ys2,hk2,rfl,rfl,hI2,hX2⟩:=hrel
    by_cases hlt2:k2<es.length
    ·obtain ⟨b2,o2,rfl,hb2,hx2⟩:=HES.out.row.at_ (i:=k2) (by simpa using hlt2)
     obtain ⟨e0,e1,e2,e3,e4,e5,e6,e7⟩:=EL.at_ hlt2 hx2 hb2 hI2.out.ext
     have hbw2:b2<wr.heap.size:=Nat.lt_of_lt_of_le hb2 hI2.out.ext.size
     have HEA:=Hm (HES.out.sl _ (List.getElem_mem hlt2))
     have HEO:=Hm (HOK.out _ (List.getElem_mem hlt2))
     have HSV:=Hm (sEv_at LC TT k ⟨xid,st,es,some ⟨b2,o2,none⟩,tc⟩ hlt2)
     unfold TL.t at HSV
     simp only at HSV
     rw [←HTE.out] at HSV
     have HVM:Hid (es[k2].e∈T.es):=Hm (by rw [HTE.out];exact List.mem_map_of_mem (List.getElem_mem hlt2))
     have HKE:Hid (k2<T.es.length):=Hm (by rw [HTE.out];show k2<(es.map EL.e).length;rw [List.length_map];exact hlt2)
     obtain ⟨x,hxx⟩:∃x,x=es[k2]:=⟨_,rfl⟩
     rw [←hxx] at e0 e1 e2 e3 e4 e5 e6 e7 HEA HEO HSV HVM
     have HLT2:=Hm hlt2
     clear hxx hx2 hb2
     obtain ⟨⟨kd,ao,av,old,lb,la,rs,fl⟩,ba,bcp,aa,ac,ra,rc⟩:=x
     simp only at e0 e1 e2 e3 e4 e5 e6 e7
     obtain ⟨V,hV⟩:∃V,V=(⟨kd,ao,av,old,lb,la,rs,fl⟩:Ev):=⟨_,rfl⟩
     have HV:=Hm hV
     have HUS:=Hm (show∀m W,Ext wr W→CallsIn F m Tryz.prog 35 #[.agg #[.int .u8 kd, .int .u32 ao, .int .u32 av, .int .u8 old, .slice ba lb.length bcp, .slice aa la.length ac, .slice ra rs.length rc, .int .u8 fl]] W _ from fun m W h=>HUSE.out m (⟨⟨kd,ao,av,old,lb,la,rs,fl⟩,ba,bcp,aa,ac,ra,rc⟩:EL) W (HEA.out.ext (hI2.out.ext.trans h)) HEO.out.sm)
     have HOF:=Hm (show∀m W,Ext w0 W→CallsIn F m Tryz.prog 37 #[.agg #[.int .u8 kd, .int .u32 ao, .int .u32 av, .int .u8 old, .slice ba lb.length bcp, .slice aa la.length ac, .slice ra rs.length rc, .int .u8 fl]] W (fun e w' =>∃p:ML,e= .returned p.agg∧p.m=msgOf V∧p.at 5 K.pc w'∧Ext W w') from fun m W h=>by rw [hV];exact HOFF.out m (⟨⟨kd,ao,av,old,lb,la,rs,fl⟩,ba,bcp,aa,ac,ra,rc⟩:EL) W (HEA.out.ext h) HEO.out.sm h)
     have HEV:Hid V.okw:=Hm (by rw [hV];exact HEO.out)
     dsimp only at HSV HVM HUS
     rw [←hV] at HSV HVM HUS
     have HUB:=Hm (usesE_b32 HEV.out)
     have HN2:=Hm (fun j=>sUs_n (c:=LC) (j:=j) HLIT.out.1 HLIT.out.2 HTM.out HKT.out HVM.out HKE.out)
     obtain ⟨U,hU⟩:∃U,U=usesE V:=⟨_,rfl⟩
     rw [←hU] at HSV HUS HUB
     have HUV:=Hm hU
     have hMw2:M≤wr.heap.size:=by have:=hI2.out.box.lt;omega
     have hUl:U.length≤1000000:=by
      rw [hU];have:=HEV.out.sm.r;unfold usesE;split
      ·simp
      ·split<;>simp<;>omega
     clear HEO hV hU HEA
     obtain ⟨wv,hwv⟩:∃x,x=wr:=⟨_,rfl⟩
     subst hwv
     gi_wp2_with (gi_at_call 35;refine (HUS.out _ _ (by exact eX)).mono ?_;rintro e w3 ⟨a3,n3,c3,rfl,rfl,ho3,hb3⟩;have HX3:=Hm (show Ext wv w3 by exact eX);have HO3:=Hm (owns_base ho3 (show M≤_ by simp;omega));have HB3:=Hm ((Blk.new wv #[.int .u8 kd, .int .u32 ao, .int .u32 av, .int .u8 old, .slice ba lb.length bcp, .slice aa la.length ac, .slice ra rs.length rc, .int .u8 fl] 77).ext hb3);clear ho3 hb3)
     have HI3:=Hm (hI2.out.go hJ.out HX3.out)
     have HX4:=Hm (hX2.out.ext HX3.out)
     clear hX2 hI2 HX3 e0 e1 e2 e3 e4 e5 e6 e7 hbw2
     gi_loopw [6,41] (fun going i wq=>∃(j:Nat) (ys3:List ML),j≤U.length∧going= .bool true∧i= .int .i64 j∧Hid (MsI J w0 M bc g W0.heap.size l (W0.heap.size+1) (sUs LC TT k T k2 V j) ys3 wq)∧Hid (Blk wq wo.heap.size #[.int .u32 xid, .int .u64 st, .slice (some ⟨b2,o2,none⟩) es.length tc] 84)∧Hid (Blk wq wv.heap.size #[.int .u8 kd, .int .u32 ao, .int .u32 av, .int .u8 old, .slice ba lb.length bcp, .slice aa la.length ac, .slice ra rs.length rc, .int .u8 fl] 77)∧Hid (wq.ownsRow M 69 2 (.slice a3 U.length c3) U.length (U.map Rf.cells).flatten)) (fun _ i _=>U.length - (intOf i).toNat)
     case atStart=>exact ⟨0,_,Nat.zero_le _,rfl,rfl,HI3,HX4,HB3,HO3⟩
     case round=>
      obtain ⟨j,ys3,hj,rfl,rfl,hI5,hX5,hB5,hO5⟩:=hrel
      by_cases hlt3:j<U.length
      ·obtain ⟨b5,o5,he5,hb5,hx5⟩:=(Sl.of_owns (xss:=U.map Rf.cells) (by rw [List.length_map];exact hO5.out) (rf_lenS U)).at_ (i:=j) (by simpa using hlt3)
       obtain ⟨r0,r1⟩:=Rf.at_ hlt3 hx5 hb5 (Ext.refl wr)
       have HBU:=Hm (HUB.out _ (List.getElem_mem hlt3))
       have HSU:Hid (sUs LC TT k T k2 V (j+1)=stU LC (sUs LC TT k T k2 V j) U[j]):=Hm (by
        have hq:=HUV.out
        subst hq
        exact sUs_succ LC TT k T k2 V hlt3)
       obtain ⟨u,hu⟩:∃u,u=U[j]:=⟨_,rfl⟩
       rw [←hu] at r0 r1 HBU HSU
       have HLT3:=Hm hlt3
       clear hu hx5
       obtain ⟨o,v⟩:=u
       simp only at r0 r1
       have hn1:=Hm (HN2.out j)
       obtain ⟨S,hS⟩:∃S,S=sUs LC TT k T k2 V j:=⟨_,rfl⟩
       rw [←hS] at hI5 HSU hn1
       clear hS
       subst he5
       have gc:=hI5.out.cat.cell
       have zc:=hI5.out.cat.lt
       obtain ⟨hh,hhe⟩:∃hh,hh=hasRf S.2 ⟨o,v⟩:=⟨_,rfl⟩
       have HH:=Hm hhe
       clear hhe
       obtain ⟨wx,hwx⟩:∃x,x=wr:=⟨_,rfl⟩
       subst hwx
       cases hh with
       |true=>
        have HST2:Hid (stU LC S ⟨o,v⟩=S):=Hm (by unfold stU;rw [if_pos HH.out.symm])
        gi_wp2_with (gi_at_call 36;refine (HGET.out _ _ _ _ (by have:=hI5.out.ext;exact eX)).mono ?_;rintro e w6 ⟨⟨⟨oid,ver,nm,id,cols⟩,ca,cc⟩,rfl,hqr,hqo,hb6⟩;have HX6:=Hm (show Ext wx (w6.alloc (.cells #[.int .u32 oid, .int .u32 ver, .string nm, .int .u8 id, .slice ca cols.length cc] 72)) by exact eX);have HI6:=Hm (hI5.out.go hJ.out HX6.out);have hlk:=HI6.out.set.look HBU.out.1 HBU.out.2;rw [←HH.out] at hlk;have h12:=((Blk.new wx #[.int .u32 o, .int .u32 v] 69).ext hb6).cell;have z12:=((Blk.new wx #[.int .u32 o, .int .u32 v] 69).ext hb6).lt;unfold RR.agg;dsimp only;clear hqr hqo hb6)
        go_roundw
        case rel=>exact ⟨j+1,_,HLT3.out,rfl,by go_num,by rw [HSU.out,HST2.out];exact HI6,Hm (hX5.out.ext HX6.out),Hm (hB5.out.ext HX6.out),Hm (owns_ext hO5.out HX6.out)⟩
        case measure=>simp [intOf];omega
       |false=>
        have HST2:Hid (stU LC S ⟨o,v⟩=(S.1++ [relM LC ⟨o,v⟩],S.2++ [⟨o,v⟩])):=Hm (by unfold stU;rw [if_neg (by rw [←HH.out];simp)])
        gi_wp2_with (first
         |(gi_at_call 36;refine (HGET.out _ _ _ _ (by have:=hI5.out.ext;exact eX)).mono ?_;rintro e w6 ⟨⟨⟨oid,ver,nm,id,cols⟩,ca,cc⟩,rfl,hqr,hqo,hb6⟩;have HX6:=Hm (show Ext wx (w6.alloc (.cells #[.int .u32 oid, .int .u32 ver, .string nm, .int .u8 id, .slice ca cols.length cc] 72)) by exact eX);have HI6:=Hm (hI5.out.go hJ.out HX6.out);have hlk:=HI6.out.set.look HBU.out.1 HBU.out.2;rw [←HH.out] at hlk;have HB12:=Hm (((Blk.new wx #[.int .u32 o, .int .u32 v] 69).ext hb6).alloc (.cells #[.int .u32 oid, .int .u32 ver, .string nm, .int .u8 id, .slice ca cols.length cc] 72));have h12:=HB12.out.cell;have z12:=HB12.out.lt;unfold RR.agg;dsimp only;have HQR:=Hm hqr;have HQO:=Hm (hqo.ext ((Ext.refl w6).alloc (.cells #[.int .u32 oid, .int .u32 ver, .string nm, .int .u8 id, .slice ca cols.length cc] 72)));have HQC:=Hm (owns_cap hqo);obtain ⟨D,hD1,hD2,hD3⟩:=HI6.out.set;have HD2:=Hm hD2;have HD3:=Hm hD3;have hD4:Maps.size D≤1200000:=(by have:=hn1.out.2;omega);have HB13:=Hm (Blk.new w6 #[.int .u32 oid, .int .u32 ver, .string nm, .int .u8 id, .slice ca cols.length cc] 72);clear hqr hqo hb6 hD2 hD3)
         |(gi_at_mapUpdate;refine wpListIn_mapUpdate_own _ rfl _ _ _ 111 rfl 69 4 Tryz.lawRefS Tryz.underlying111 RVS (W0.heap.size+1) (Maps.size D) D rfl hD1 (by unfold maxLen;omega) _ _ _ rfl rfl (keyRefS HBU.out.1 HBU.out.2) _ [] rfl ?_;intro w7 hown7 hg7;have HS7:=Hm (SetT.put HBU.out.1 HBU.out.2 hD1 HD2.out HD3.out hown7);have HG7:=Hm hg7;have HI7:=Hm (HI6.out.told hJ.out (by omega) (by have:=hE.out.size;omega) hg7 HS7.out);have HB7:=Hm (HB13.out.mapd HI6.out.set hg7);have h13:=HB7.out.cell;have z13:=HB7.out.lt;clear hown7 hg7 h12 z12)
         |(gi_at_call 34;refine (HSAY.out _ (by omega) _ _ _ (mlR ⟨⟨oid,ver,nm,id,cols⟩,ca,cc⟩) HI7.out hn1.out.1 (mlR_at (RR.owned.in (owns_mapd HQO.out HI6.out.set HG7.out))) (mlR_ok (got_ok HQR.out hB.out) HQC.out)).mono ?_;rintro e w8 ⟨rfl,hI8,hk8⟩;have HI8:=Hm hI8;have HX8:=Hm (hk8.blk hMw ((hX5.out.ext HX6.out).mapd HI6.out.set HG7.out) (by decide));have HB8:=Hm (hk8.blk hMw2 ((hB5.out.ext HX6.out).mapd HI6.out.set HG7.out) (by decide));have HO8:=Hm (owns_kpy (owns_mapd (owns_ext hO5.out HX6.out) HI6.out.set HG7.out) hk8 (Nat.le_refl _) (by decide));clear hI8 hk8))
        go_roundw
        case rel=>exact ⟨j+1,_,HLT3.out,rfl,by go_num,by rw [HSU.out,HST2.out,←mlR_m (q:=⟨⟨oid,ver,nm,id,cols⟩,ca,cc⟩) (by rw [HL.out];exact got_r HQR.out)];exact HI8,HX8,HB8,HO8⟩
        case measure=>simp [intOf];omega
      ·obtain rfl:j=U.length:=by omega
       have gx:=hB5.out.cell
       have zx:=hB5.out.lt
       gi_wp2_with (first
        |(gi_at_call 37;refine (HOF.out _ _ (hI5.out.ext)).mono ?_;rintro e w6 ⟨p,rfl,hpm,hpa,hb6⟩;have HPM:=Hm hpm;have HPA:=Hm hpa;have HI6:=Hm (hI5.out.go hJ.out hb6);have HX6:=Hm (hX5.out.ext hb6);clear hpm hpa hb6)
        |(gi_at_call 34;refine (HSAY.out _ (by omega) _ _ _ p HI6.out (HN2.out _).1 HPA.out ⟨okr_msgOf HPM.out HEV.out,cap_msgOf HPM.out⟩).mono ?_;rintro e w7 ⟨rfl,hI7,hk7⟩;have HI7:=Hm hI7;have HX7:=Hm (hk7.blk hMw HX6.out (by decide));clear hI7 hk7))
       go_roundw
       case rel=>exact ⟨k2+1,_,HLT2.out,rfl,by go_num,by rw [HSV.out,←HPM.out];exact HI7,HX7⟩
       case measure=>simp [intOf];omega
    ·obtain rfl:k2=es.length:=by omega
     have gx:=hX2.out.cell
     have zx:=hX2.out.lt
     gi_wp2_with (gi_at_call 34;refine (HC1.out _ (by omega) _ _ hI2.out).mono ?_;rintro e w4 ⟨rfl,hI4,hk4⟩;have HI4:=Hm hI4;clear hI4 hk4)
     go_roundw
     case rel=>exact ⟨k+1,_,HLT.out,rfl,by go_num,HI4⟩
     case measure=>simp [intOf];omega
  ·obtain rfl:k=ts.length:=by omega
   have hz:(sAt LC TT ts.length).1=storyM LC TT:=by
    rw [show ts.length=TT.length by rw [HTT.out,List.length_map]];exact sAt_end _ _
   have HF:=Hm (show ys.map ML.m=storyM LC TT∧J ys wr from ⟨by rw [hI.out.ms,hz],hI.out.j⟩)
   clear hI hz
   gi_wp2
   go_end0
   exact ⟨⟨_,rfl⟩,ys,by rw [←HL.out,←HTT.out];exact HF.out⟩
end Go.Proofs.YtgmphpccpfaapaaGreatDoor
