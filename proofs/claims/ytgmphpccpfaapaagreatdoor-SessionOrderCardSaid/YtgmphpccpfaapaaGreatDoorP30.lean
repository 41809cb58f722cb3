/-
A message's bytes: the program's Put.
-/
import Derived.Maps.AppendAt
import Derived.Test.YtgmphpccpfaapaaGreatDoorP24
import Derived.Test.YtgmphpccpfaapaaGreatDoorP19
import Derived.Test.YtgmphpccpfaapaaGreatDoorP28
import Derived.Test.YtgmphpccpfaapaaGreatDoorP8
set_option maxRecDepth 100000
set_option maxHeartbeats 16000000
namespace Go.Proofs.YtgmphpccpfaapaaGreatDoor
open Go.RowKit
theorem OB.one {w:World} {g:Nat} {x:Int} (h:Blk w g #[.int .u8 x] 5):OB w g (.slice (some ⟨g,0,none⟩) 1 1) [x]:=
 ⟨rfl, .inr ⟨g,1, #[.int .u8 x],rfl,Nat.le_refl _,h,Nat.le_refl _,by decide,rfl,rfl⟩⟩
theorem WB.fresh (w:World):WB (w.alloc (.cells #[.slice none 0 0] 120)) w.heap.size none []:=⟨_,Blk.new w _ _,OB.nil _ _,rfl⟩
theorem put_any (p:ML) (N gc:Nat) (cv:Value) (ps:List RR) (w:World) (hp:p.at 5 K.pc w) (ho:p.ok) (hk:Kin w) (hc:Ca w N gc cv ps) (ht:Tab w):
 Calls Tryz.prog 20 #[.pointer (some ⟨gc,0,none⟩),p.agg] w fun e w' =>∃v,e= .returned (.tuple #[v, .int .i64 (msgE p.m (ps.map RR.r))])∧OB w' w.heap.size v (msgW p.m (ps.map RR.r))∧Ext w w' :=by
 have HMR:=Hm (fun W (h:Ext w W)=>mright_any p N gc cv ps W (hp.ext h) ho.len ho.cap ho.nm ho.cs ho.sm ho.wk ho.k0 ho.k1 (hk.ext h) (hc.ext h))
 have HBL:=Hm (fun (h:msgE p.m (ps.map RR.r)=0)=>body_len (m:=p.m) h ho.sm ho.wb ho.wa)
 have HRR:=Hm (fun (h:msgE p.m (ps.map RR.r)=0)=>msg_rel (m:=p.m) h)
 have HP:=Hm hp
 have HOK:=Hm ho
 have HT:=Hm ht
 have HMW:=Hm (show msgW p.m (ps.map RR.r)=if msgE p.m (ps.map RR.r)≠0 then [] else p.k::(octs (bodyW p.m).length 4++bodyW p.m) from rfl)
 clear hp ho hk hc ht
 obtain ⟨MW,hMW⟩:∃M,M=msgW p.m (ps.map RR.r):=⟨_,rfl⟩
 obtain ⟨E,hE⟩:∃E,E=msgE p.m (ps.map RR.r):=⟨_,rfl⟩
 rw [←hMW,←hE] at HMW
 rw [←hMW,←hE]
 rw [←hE] at HMR HBL HRR
 clear hE hMW
 obtain ⟨k,x,st,n,⟨⟨o,v,nm,id,cols⟩,ca,cc⟩,⟨⟨kd,ao,av,old,b,aa,rs,fl⟩,ba,bc,aad,ac,ra,rc⟩⟩:=p
 rw [show (ML.agg (⟨k,x,st,n,⟨⟨o,v,nm,id,cols⟩,ca,cc⟩,⟨⟨kd,ao,av,old,b,aa,rs,fl⟩,ba,bc,aad,ac,ra,rc⟩⟩:ML))= .agg #[.int .u8 k, .int .u32 x, .int .u64 st, .int .u32 n, .int .u32 o, .int .u32 v, .string nm, .int .u8 id, .slice ca cols.length cc, .int .u8 kd, .int .u32 ao, .int .u32 av, .int .u8 old, .slice ba b.length bc, .slice aad aa.length ac, .slice ra rs.length rc, .int .u8 fl] from rfl] at HMR⊢
 unfold ML.m at HMW HBL HRR
 dsimp only at HMW HBL HRR
 have HX0:=Hm (Blk.new w #[.int .u8 k, .int .u32 x, .int .u64 st, .int .u32 n, .int .u32 o, .int .u32 v, .string nm, .int .u8 id, .slice ca cols.length cc, .int .u8 kd, .int .u32 ao, .int .u32 av, .int .u8 old, .slice ba b.length bc, .slice aad aa.length ac, .slice ra rs.length rc, .int .u8 fl] 79)
 by_cases hE:E=0
 case neg=>
  have hE1:(E !=0)=true:=by simpa using hE
  have HR:=Hm (HMW.out.trans (if_pos hE))
  clear HMW HBL HRR HP HOK HT hE
  go_enter Tryz.func20,Tryz.ntmps20
  go_wp2_with (first
   |(refine wpList_load_to rfl 79 (.tmp 3) rfl _ _ ?e1 (load17 HX0.out) ?_;(case e1=>go_simp))
   |(go_at_call 38;refine (HMR.out _ (by exact eX)).mono ?_;rintro e w1 ⟨rfl,hb1⟩))
  go_ret2
  exact ⟨_,rfl,by rw [HR.out];exact OB.nil _ _,by exact eX⟩
 subst hE
 have HB1:=Hm (HMW.out.trans (if_neg (fun h=>h rfl)))
 have hbl:=HBL.out rfl
 have HRL:=Hm (HRR.out rfl)
 clear HMW HBL HRR
 go_enter Tryz.func20,Tryz.ntmps20
 go_upto_region 4 with (first
  |(refine wpList_load_to rfl 79 (.tmp 3) rfl _ _ ?e1 (load17 HX0.out) ?_;(case e1=>go_simp))
  |(go_at_call 38;refine (HMR.out _ (by exact eX)).mono ?_;rintro e w1 ⟨rfl,hb1⟩;have HE1:=Hm (show Ext w w1 by exact eX);have HX1:=Hm (HX0.out.ext hb1);clear hb1))
 clear HX0 HMR
 have HW3:=Hm (WB.fresh w1)
 have HX3:=Hm (show Bx (w1.alloc (.cells #[.slice none 0 0] 120)) w1.heap.size none w.heap.size #[.int .u8 k, .int .u32 x, .int .u64 st, .int .u32 n, .int .u32 o, .int .u32 v, .string nm, .int .u8 id, .slice ca cols.length cc, .int .u8 kd, .int .u32 ao, .int .u32 av, .int .u8 old, .slice ba b.length bc, .slice aad aa.length ac, .slice ra rs.length rc, .int .u8 fl] 79 from ⟨HX1.out.alloc _,fun e=>by have:=HX1.out.lt;rcases e with e|e;omega;cases e⟩)
 have HE3:=Hm (show Ext w (w1.alloc (.cells #[.slice none 0 0] 120)) from HE1.out.alloc _)
 have HG:=Hm (show w.heap.size<w1.heap.size from HX1.out.lt)
 have HGS:=Hm (show w1.heap.size<(w1.alloc (.cells #[.slice none 0 0] 120)).heap.size by simp)
 go_upto_region 5 with (fail)
 obtain ⟨w3,hw3⟩:∃W,W=w1.alloc (.cells #[.slice none 0 0] 120):=⟨_,rfl⟩
 obtain ⟨G,hG⟩:∃G,G=w1.heap.size:=⟨_,rfl⟩
 rw [←hw3] at HW3 HX3 HE3 HGS⊢
 rw [←hG] at HW3 HX3 HG HGS⊢
 clear hw3 hG HX1 HE1
 obtain ⟨X,hX⟩:∃X,X=w.heap.size:=⟨_,rfl⟩
 rw [←hX] at HX3 HG⊢
 have gX:=HX3.out.1.cell
 have zX:=HX3.out.1.lt
 have HXX:=Hm hX
 clear hX
 have ux:=HOK.out.x.u64
 have un:=HOK.out.n.u64
 have x0:0≤x:=HOK.out.x.1
 have n0:0≤n:=HOK.out.n.1
 have st0:0≤st:=HOK.out.st
 have hle:w.heap.size≤G:=by have:=HG.out;have:=HXX.out;omega
 have HLE:=Hm hle
 clear hle
 go_upto_block 0 with (fail)
 go_cut [] (fun wx=>∃q',Hid (WB wx G q' (bodyW (⟨k,x,st,n,⟨o,v,nm,id,cols⟩,⟨kd,ao,av,old,b,aa,rs,fl⟩⟩:Msg)))∧Hid (Wr w3 wx G none q'))
 case first=>
  by_cases q1:k=66
  ·have q1' :(k==66)=true:=by simpa using q1
   have HBD:=Hm (show bodyW (⟨k,x,st,n,⟨o,v,nm,id,cols⟩,⟨kd,ao,av,old,b,aa,rs,fl⟩⟩:Msg)=octs x 4++octs st 8 from if_pos q1)
   clear q1
   go_upto_region 9 with (go_at_call 39;refine (number_any G none [] x 4 _ HW3.out (by simp) (by omega) x0).mono ?_;rintro e w4 ⟨rfl,q4,hw4,hr4⟩;have HW4:=Hm hw4;have HR4:=Hm hr4;have HX4:=Hm (HX3.out.wr hr4);clear hw4 hr4 gX zX)
   have gX:=HX4.out.1.cell
   have zX:=HX4.out.1.lt
   go_wp2_with (go_at_call 39;refine (number_any G q4 _ st 8 _ HW4.out (by simp [octs_len]) (by omega) st0).mono ?_;rintro e w5 ⟨rfl,q5,hw5,hr5⟩;have HW5:=Hm hw5;have HR5:=Hm (HR4.out.trans hr5);clear hw5 hr5 gX zX)
   go_meet
   case rel=>exact ⟨q5,Hm (by rw [HBD.out];simpa using HW5.out),HR5⟩
  have q1' :(k==66)=false:=by simpa using q1
  by_cases q2:k=67
  ·have q2' :(k==67)=true:=by simpa using q2
   have HBD:=Hm (show bodyW (⟨k,x,st,n,⟨o,v,nm,id,cols⟩,⟨kd,ao,av,old,b,aa,rs,fl⟩⟩:Msg)=octs x 4++octs n 4 from (if_neg q1).trans (if_pos q2))
   clear q1 q2
   go_upto_region 12 with (go_at_call 39;refine (number_any G none [] x 4 _ HW3.out (by simp) (by omega) x0).mono ?_;rintro e w4 ⟨rfl,q4,hw4,hr4⟩;have HW4:=Hm hw4;have HR4:=Hm hr4;have HX4:=Hm (HX3.out.wr hr4);clear hw4 hr4 gX zX)
   have gX:=HX4.out.1.cell
   have zX:=HX4.out.1.lt
   go_wp2_with (go_at_call 39;refine (number_any G q4 _ n 4 _ HW4.out (by simp [octs_len]) (by omega) n0).mono ?_;rintro e w5 ⟨rfl,q5,hw5,hr5⟩;have HW5:=Hm hw5;have HR5:=Hm (HR4.out.trans hr5);clear hw5 hr5 gX zX)
   go_meet
   case rel=>exact ⟨q5,Hm (by rw [HBD.out];simpa using HW5.out),HR5⟩
  have q2' :(k==67)=false:=by simpa using q2
  by_cases q3:k=82
  ·have q3' :(k==82)=true:=by simpa using q3
   have HBD:=Hm (show bodyW (⟨k,x,st,n,⟨o,v,nm,id,cols⟩,⟨kd,ao,av,old,b,aa,rs,fl⟩⟩:Msg)=relW ⟨o,v,nm,id,cols⟩ from (if_neg q1).trans ((if_neg q2).trans (if_pos q3)))
   have hr:=HRL.out q3
   have h4:=Rl.right_nm hr
   have HC:=Hm (Rl.right_wr hr)
   dsimp only at h4 HC
   clear q1 q2 q3 hr
   have HRE:=Hm (fun W (h:Ext w W) hw=>wrel_any G none [] o v nm id cols ca cc w W hw h HLE.out (by simp) HP.out.1 HOK.out.len HOK.out.o HOK.out.v (by omega) HOK.out.id HC.out)
   clear h4
   go_wp2_with (go_at_call 40;refine (HRE.out _ HE3.out HW3.out).mono ?_;rintro e w5 ⟨rfl,q5,hw5,hr5⟩;have HW5:=Hm hw5;have HR5:=Hm hr5;clear hw5 hr5 gX zX)
   go_meet
   case rel=>exact ⟨q5,Hm (by rw [HBD.out];simpa using HW5.out),HR5⟩
  have q3' :(k==82)=false:=by simpa using q3
  by_cases q4:k=84
  ·have q4' :(k==84)=true:=by simpa using q4
   have HBD:=Hm (show bodyW (⟨k,x,st,n,⟨o,v,nm,id,cols⟩,⟨kd,ao,av,old,b,aa,rs,fl⟩⟩:Msg)=octs rs.length 1++(octs fl 1++refsW rs) from (if_neg q1).trans ((if_neg q2).trans ((if_neg q3).trans (if_pos q4))))
   clear q1 q2 q3 q4
   have hrl:rs.length≤1000:=HOK.out.sm.r
   have uf:=u64_small (n:=fl) HOK.out.fl.1 (by have:=HOK.out.fl.2;dsimp only at this;omega)
   have ul:=u64_small (n:=(rs.length:Int)) (by omega) (by omega)
   have f0:0≤fl:=HOK.out.fl.1
   go_upto_region 17 with (go_at_call 39;refine (number_any G none [] rs.length 1 _ HW3.out (by simp) (by omega) (by omega)).mono ?_;rintro e w4 ⟨rfl,q4,hw4,hr4⟩;have HW4:=Hm hw4;have HR4:=Hm hr4;have HX4:=Hm (HX3.out.wr hr4);clear hw4 hr4 gX zX)
   have gX:=HX4.out.1.cell
   have zX:=HX4.out.1.lt
   go_upto_region 18 with (go_at_call 39;refine (number_any G q4 _ fl 1 _ HW4.out (by simp [octs_len]) (by omega) f0).mono ?_;rintro e w5 ⟨rfl,q5,hw5,hr5⟩;have HW5:=Hm hw5;have HR5:=Hm (HR4.out.trans hr5);have HX5:=Hm (HX4.out.wr hr5);clear hw5 hr5 gX zX)
   have gX:=HX5.out.1.cell
   have zX:=HX5.out.1.lt
   clear HX4 HW4 HR4
   have HEE:=Hm (fun q' W (k:Wr w3 W G none q')=>Wr.ext HE3.out HW3.out HLE.out k)
   obtain ⟨hd,hhd⟩:∃x,x= []++octs (rs.length:Int) 1++octs fl 1:=⟨_,rfl⟩
   rw [←hhd] at HW5
   have HHL:=Hm (show hd.length≤2 by rw [hhd];simp [octs_len])
   have HHD:=Hm hhd
   clear hhd
   go_wp2
   go_loopg [72] rs.length (fun y i wr=>∃(j:Nat) (q' :Option Nat),y+j=rs.length∧i= .int .i64 j∧Hid (WB wr G q' (hd++refsW (rs.take j)))∧Hid (Wr w3 wr G none q'))
   case atStart=>exact ⟨0,q5,rfl,rfl,Hm (by rw [List.take_zero];exact (List.append_nil _).symm ▸ HW5.out),HR5⟩
   case round=>
    obtain ⟨j,q',hj,rfl,hW,hR⟩:=hrel
    clear gX zX
    by_cases hlt:j<rs.length
    ·obtain ⟨b',o',rfl,hb2,hx2⟩:=HP.out.2.r.at_ (i:=j) (by simpa using hlt)
     have HE:=Hm (HEE.out _ _ hR.out)
     obtain ⟨f0,f1⟩:=Rf.at_ hlt hx2 hb2 HE.out
     have hbw:b' <wr.heap.size:=Nat.lt_of_lt_of_le hb2 HE.out.size
     have HCT:=Hm (refsW_take hlt)
     have HRB:=Hm (HOK.out.rs _ (List.getElem_mem hlt))
     have HLL:=Hm (refsW_len (rs.take j))
     obtain ⟨r,hr⟩:∃r,r=rs[j]'hlt:=⟨_,rfl⟩
     rw [←hr] at f0 f1 HCT HRB
     clear hr hx2 hb2
     have HLT:=Hm hlt
     have i1:(j:Int)<(rs.length:Int):=by omega
     have HW7:=Hm (hW.out.ext ((Ext.refl wr).alloc (.cells #[.int .u32 r.o, .int .u32 r.v] 69)))
     have HX7:=Hm (Bx.new hW.out #[.int .u32 r.o, .int .u32 r.v] 69)
     have HR7:=Hm (hR.out.post ((Ext.refl wr).alloc (.cells #[.int .u32 r.o, .int .u32 r.v] 69)))
     go_upto_region 21 with (fail)
     clear f0 f1 hbw
     have gC:=HX7.out.1.cell
     have zC:=HX7.out.1.lt
     go_wp2_with (go_at_call 41;refine (wref_any G q' _ r.o r.v _ HW7.out (by have:=HLL.out;have:=HHL.out;rw [List.length_append];rw [List.length_take] at*;omega) HRB.out.1 HRB.out.2).mono ?_;rintro e w8 ⟨rfl,q8,hw8,hr8⟩;have HW8:=Hm hw8;have HR8:=Hm (HR7.out.trans hr8);clear hw8 hr8 gC zC)
     go_roundg (rs.length - (j+1))
     case measure=>have:=HLT.out;omega
     case rel=>exact ⟨j+1,q8,Nat.sub_add_cancel HLT.out,by go_num,Hm (by rw [HCT.out,←List.append_assoc];exact HW8.out),HR8⟩
    ·obtain rfl:j=rs.length:=by omega
     rw [List.take_length,HHD.out] at hW
     go_wp2
     go_meet
     case rel=>exact ⟨q',Hm (by rw [HBD.out];simpa using hW.out),hR⟩
  have q4' :(k==84)=false:=by simpa using q4
  have HBD:=Hm (show bodyW (⟨k,x,st,n,⟨o,v,nm,id,cols⟩,⟨kd,ao,av,old,b,aa,rs,fl⟩⟩:Msg)=rowsW k ao av old b aa from (if_neg q1).trans ((if_neg q2).trans ((if_neg q3).trans (if_neg q4))))
  clear q1 q2 q3 q4
  have HRO:=Hm (fun W (h:Ext w W) hw=>wrows_any G none [] k x st n o v nm id cols ca cc kd ao av old b aa rs ba aad ra bc ac rc fl w W hw h HLE.out (by simp) HP.out.2.b HP.out.2.a HOK.out.sm.b HOK.out.sm.a HOK.out.wb HOK.out.wa HOK.out.ao HOK.out.av HT.out)
  clear gX zX
  go_wp2_with (first
   |(refine wpList_load_to rfl 79 (.tmp 3) rfl _ _ ?e1 (load17 HX3.out.1) ?_;(case e1=>go_simp))
   |(go_at_call 42;refine (HRO.out _ HE3.out HW3.out).mono ?_;rintro e w5 ⟨rfl,q5,hw5,hr5⟩;have HW5:=Hm hw5;have HR5:=Hm hr5;clear hw5 hr5))
  go_meet
  case rel=>exact ⟨q5,Hm (by rw [HBD.out];simpa using HW5.out),HR5⟩
 case rest=>
 obtain ⟨q',HW4,HR4⟩:=hcut
 have HE4:=Hm (Wr.ext HE3.out HW3.out HLE.out HR4.out)
 have HX4:=Hm (HX3.out.wr HR4.out)
 clear gX zX HX3 HR4 HRL HP HOK HT HW3 HE3 ux un x0 n0 st0
 have gX:=HX4.out.1.cell
 have zX:=HX4.out.1.lt
 obtain ⟨BW,hBW⟩:∃z,z=bodyW (⟨k,x,st,n,⟨o,v,nm,id,cols⟩,⟨kd,ao,av,old,b,aa,rs,fl⟩⟩:Msg):=⟨_,rfl⟩
 rw [←hBW] at HW4 HB1 hbl
 clear hBW
 have HGE:=Hm (show G<wc.heap.size from HW4.out.lt)
 go_upto_region 24 with (fail)
 obtain ⟨A,hA⟩:∃A,A=wc.heap.size:=⟨_,rfl⟩
 obtain ⟨w5,hw5⟩:∃W,W=(wc.alloc (.cells #[.int .u8 k] 5)).alloc (.cells #[.slice (some ⟨wc.heap.size,0,none⟩) 1 1] 120):=⟨_,rfl⟩
 have HE5:=Hm (show Ext wc w5 by rw [hw5];exact ((Ext.refl wc).alloc _).alloc _)
 have HBB:=Hm (show Blk w5 wc.heap.size #[.int .u8 k] 5 by rw [hw5];exact (Blk.new wc #[.int .u8 k] 5).alloc _)
 have HBG:=Hm (show Blk w5 (wc.heap.size+1) #[.slice (some ⟨wc.heap.size,0,none⟩) 1 1] 120 by rw [hw5];exact Blk.new' (w:=wc.alloc (.cells #[.int .u8 k] 5)) _ _ (by simp))
 have HSZ:=Hm (show w5.heap.size=wc.heap.size+2 by rw [hw5];simp)
 rw [←hw5]
 rw [←hA] at HBB HBG HSZ HGE⊢
 have hle5:w.heap.size≤A:=by rw [hA];exact HE4.out.size
 have HLE5:=Hm hle5
 have HAE:=Hm hA
 clear hw5 hA hle5 gX zX
 have HWG:=Hm (show WG w5 A (A+1) (some A) [k] from ⟨_,HBG.out,OB.one HBB.out,fun e=>by have e:some A=some (A+1):=e;injection e with e;omega,rfl⟩)
 have HW5:=Hm (HW4.out.ext HE5.out)
 obtain ⟨v5,hb5,ho5,hq5⟩:=HW5.out
 obtain ⟨va,vc,rfl⟩:=ho5.shape
 obtain ⟨lv,hlv⟩:∃L,L=BW.length:=⟨_,rfl⟩
 rw [←hlv] at hb5 ho5 hq5 HB1 hbl
 have HB5:=Hm hb5
 have HO5:=Hm ho5
 have HLV:=Hm hlv
 have gG:=hb5.cell0
 have zG:=hb5.lt
 have HNA:=Hm (show∀b,(Value.slice va lv vc).ownBlock=some b→b<A from fun b e=>by have:=(HW4.out.qlt (hq5 ▸ e)).2;have:=HAE.out;omega)
 clear hb5 ho5 hlv hq5 HW4 HBB HBG
 have ul:=u64_small (n:=(lv:Int)) (by omega) (by omega)
 go_upto_region 25 with (go_at_call 39;refine (number_gen A (A+1) (some A) [k] lv 4 _ HWG.out (by have:=HSZ.out;omega) (by simp) (by omega) (by omega)).mono ?_;rintro e w6 ⟨rfl,q6,hw6,hr6⟩;have HW6:=Hm hw6;have HR6:=Hm hr6;clear hw6 hr6 gG zG)
 have HB6:=Hm (HB5.out.wr HR6.out (fun e=>by have:=HGE.out;rcases e with e|e;omega;injection e with e;omega))
 have HO6:=Hm (HO5.out.kp HR6.out.1 (fun b e h=>by have h1:=HNA.out b e;have h:b=A+1∨some A=some b:=h;rcases h with h|h;omega;injection h with h;omega))
 obtain ⟨v6,hb6,ho6,hn6,rfl⟩:=HW6.out
 obtain ⟨a6,c6,rfl⟩:=ho6.shape
 obtain ⟨l6,hl6⟩:∃L,L=([k]++octs (lv:Int) 4).length:=⟨_,rfl⟩
 rw [←hl6] at hb6 ho6 hn6 HR6
 have HL6:=Hm (show l6=5 by rw [hl6];simp [octs_len])
 have HBW6:=Hm hb6
 have HOW6:=Hm ho6
 have HN6:=Hm hn6
 clear hb6 ho6 hn6 hl6 HW6 HB5 HO5
 have hA0:Hid ((fun w' =>w'.cell? ⟨G,0,none⟩=some (.slice va lv vc)∧w'.cell? ⟨A+1,0,none⟩=some (.slice a6 l6 c6)∧G<w'.heap.size∧A+1<w'.heap.size) w6.drew):=Hm ⟨HB6.out.cell0,HBW6.out.cell0,HB6.out.lt,HBW6.out.lt⟩
 refine wp_region_head 9 (fun w' =>w'.cell? ⟨G,0,none⟩=some (.slice va lv vc)∧w'.cell? ⟨A+1,0,none⟩=some (.slice a6 l6 c6)∧G<w'.heap.size∧A+1<w'.heap.size) (by kernel_rfl) (by decide) ?_
 (refine wpHd_take (i:=0) (v:= ?_) rfl (by kernel_rfl) (by kernel_rfl) (by kernel_rfl) (fun _ _ _ h=>h) (Or.inl ⟨by rfl, ?_⟩) hA0.out ?_;rotate_left 1; · (intro w' hS';(try dsimp only at hS');go_split_ands;go_simp;try with_reducible rfl))
 (refine wpHd_take (i:=1) (v:= ?_) rfl (by kernel_rfl) (by kernel_rfl) (by kernel_rfl) (fun _ _ _ h=>h) (Or.inl ⟨by rfl, ?_⟩) hA0.out ?_;rotate_left 1; · (intro w' hS';(try dsimp only at hS');go_split_ands;go_simp;try with_reducible rfl))
 (refine wpHd_take (i:=2) (v:= ?_) rfl (by kernel_rfl) (by kernel_rfl) (by kernel_rfl) (fun _ _ _ h=>h) (Or.inl ⟨by rfl, ?_⟩) hA0.out ?_;rotate_left 1; · (intro w' hS';(try dsimp only at hS');go_split_ands;go_simp;try with_reducible rfl))
 (refine wpHd_take (i:=3) (v:= ?_) rfl (by kernel_rfl) (by kernel_rfl) (by kernel_rfl) (fun _ _ _ h=>h) (Or.inl ⟨by rfl, ?_⟩) hA0.out ?_;rotate_left 1; · (intro w' hS';(try dsimp only at hS');go_split_ands;go_simp;try with_reducible rfl))
 (refine wpHd_take (i:=4) (v:= ?_) rfl (by kernel_rfl) (by kernel_rfl) (by kernel_rfl) (fun _ _ _ h=>h) (Or.inl ⟨by rfl, ?_⟩) hA0.out ?_;rotate_left 1; · (intro w' hS';(try dsimp only at hS');go_split_ands;go_simp;try with_reducible rfl))
 (refine wpHd_take (i:=5) (v:= ?_) rfl (by kernel_rfl) (by kernel_rfl) (by kernel_rfl) (fun _ _ _ h=>h) (Or.inl ⟨by rfl, ?_⟩) hA0.out ?_;rotate_left 1; · (intro w' hS';(try dsimp only at hS');go_split_ands;go_simp;try with_reducible rfl))
 (refine wpHd_take (i:=6) (v:= ?_) rfl (by kernel_rfl) (by kernel_rfl) (by kernel_rfl) (fun _ _ _ h=>h) (Or.inl ⟨by rfl, ?_⟩) hA0.out ?_;rotate_left 1; · (intro w' hS';(try dsimp only at hS');go_split_ands;go_simp;try with_reducible rfl))
 (refine wpHd_take (i:=7) (v:= ?_) rfl (by kernel_rfl) (by kernel_rfl) (by kernel_rfl) (fun _ _ _ h=>h) (Or.inl ⟨by rfl, ?_⟩) hA0.out ?_;rotate_left 1; · (intro w' hS';(try dsimp only at hS');go_split_ands;go_simp;try with_reducible rfl))
 refine wpHd_one (i:=8) rfl rfl (by kernel_rfl) (fun KK hK=> ?_)
 refine wp_app_bytes (.tmp 96) (.tmp 100) ?ho A (.slice a6 l6 c6) ([k]++octs (lv:Int) 4) ?ev1 (HOW6.out.ext ((Ext.refl _).drew)) (.slice va lv vc) BW ?ev2 ?c1 ?c2 ?c3 ?_
 case ho=>rfl
 case ev1=>(try go_simp);(try rfl)
 case ev2=>(try go_simp);(try rfl)
 case c1=>exact NB.of_own (HO6.out.ext ((Ext.refl _).drew))
 case c2=>have:=HLV.out;simp [octs_len];omega
 case c3=>have:=HSZ.out;have:=HR6.out.1.size;simp;omega
 intro v' w7 ho7 hg7 ha7
 have HO7:=Hm ho7
 have HK7:=Hm (show Wr w6 w7 (A+1) (Value.slice a6 l6 c6).ownBlock v'.ownBlock from (Wr.of_ext ((Ext.refl _).drew)).trans ⟨(Kp.of_grown hg7).mono (fun x hx _=> .inr hx),ha7⟩)
 have HB7:=Hm (HB6.out.kp HK7.out.1 (fun e=>by
  have h:=HR6.out.2
  rcases e with e|e
  ·have:=HGE.out;omega
  ·rcases h with h|⟨b,h,hb⟩
   ·rw [h] at e;injection e with e;have:=HGE.out;omega
   ·rw [h] at e;injection e with e;have:=HGE.out;have:=HSZ.out;omega))
 have HBW7:=Hm ((HBW6.out.ext ((Ext.refl _).drew)).kp (Kp.of_grown hg7) (fun e=>HN6.out e))
 clear ho7 hg7 ha7
 refine hK.out _ _ ⟨HB7.out.cell0,HBW7.out.cell0,HB7.out.lt,HBW7.out.lt⟩ (fun hA=> ?_)
 clear hK KK hA hA0
 refine wpHd_tail (by kernel_rfl) ?_
 simp only [List.drop_succ_cons,List.drop_zero]
 go_wp2
 go_ret2
 refine ⟨_,rfl, ?_, ?_⟩
 ·have h:=HO7.out.base HLE5.out
  rw [HB1.out]
  simpa using h
 ·exact WG.wext (HE4.out.trans HE5.out) HWG.out (by have:=HLE5.out;omega) HLE5.out (HR6.out.trans HK7.out)
theorem Tryz.infoEvP:(Tryz.prog.info? 77).map (fun i=>(i.zero,i.size,i.bytes))=some (some (.agg #[.int .u8 0, .int .u32 0, .int .u32 0, .int .u8 0, .slice none 0 0, .slice none 0 0, .slice none 0 0, .int .u8 0]),8,96):=by kernel_rfl
theorem Tryz.infoTxP:(Tryz.prog.info? 84).map (fun i=>(i.zero,i.size,i.bytes))=some (some (.agg #[.int .u32 0, .int .u64 0, .slice none 0 0]),3,40):=by kernel_rfl
structure TL.on (S:Nat→Prop) (x:TL):Prop where
 a:x.es≠ []→∀b o,x.a=some ⟨b,o,none⟩→S b
 e:∀e∈x.es,e.on S
theorem TL.on.mono {S T:Nat→Prop} {x:TL} (h:x.on S) (hs:∀b,S b→T b):x.on T:=⟨fun h0 b o e=>hs b (h.a h0 b o e),fun e he=>(h.e e he).mono hs⟩
theorem TL.on.and {S T:Nat→Prop} {x:TL} (h:x.on S) (k:x.on T):x.on (fun b=>S b∧T b):=⟨fun h0 b o e=>⟨h.a h0 b o e,k.a h0 b o e⟩,fun e he=>(h.e e he).and (k.e e he)⟩
theorem TL.at.lt {n:Nat} {f:K→List Value} {W:World} {x:TL} (h:x.at n f W):x.on (fun b=>b<W.heap.size):=
 ⟨fun h0 b o e=>Sl.lt (by have:=h.row;rw [e] at this;exact this) (fun q=>h0 (by simpa using q)),fun e he=>(h.sl e he).lt⟩
theorem TL.at.kp {S:Nat→Prop} {n:Nat} {f:K→List Value} {W W' :World} {x:TL} (h:x.at n f W) (hk:Kp S W W') (hs:x.on (fun b=> ¬ S b)):x.at n f W' :=ES.kp h hk hs.a hs.e
theorem TL.len (l:List TL):∀xs∈l.map TL.vals,xs.length=3:=by
 intro xs hxs
 rw [List.mem_map] at hxs
 obtain ⟨p,_,rfl⟩:=hxs
 rfl
structure OwnT (W:World) (N:Nat) (xs:List Tx) (v:Value) (qs:List TL):Prop where
 own:W.ownsRow N 84 3 v qs.length (qs.map TL.vals).flatten
 t:qs.map TL.t=xs
 sl:∀q∈qs,q.at 5 K.pc W
 ne:∀q∈qs,q.on (fun b=>N≤b∧v.ownBlock≠some b)
 cap:∀q∈qs,q.es.length≤q.c
section
variable {S : Nat → Prop} {W W' : World} {N : Nat} {xs : List Tx} {v v' : Value} {qs : List TL} {q : TL}
theorem OwnT.nil (W:World) (N:Nat):OwnT W N [] (.slice none 0 0) []:=⟨World.ownsRow_nil _ _ _ _,rfl,(fun q h=>by cases h),(fun q h=>by cases h),(fun q h=>by cases h)⟩
theorem OwnT.len (h:OwnT W N xs v qs):qs.length=xs.length:=by rw [←h.t,List.length_map]
theorem OwnT.kp (h:OwnT W N xs v qs) (hk:Kp S W W') (h1:∀b,v.ownBlock=some b→¬ S b) (h2:∀q∈qs,q.on (fun b=> ¬ S b)):OwnT W' N xs v qs:=
 ⟨owns_kp h.own hk h1,h.t,fun q hq=>(h.sl q hq).kp hk (h2 q hq),h.ne,h.cap⟩
theorem OwnT.low (h:OwnT W N xs v qs) (hk:Kp S W W') (h1:∀b,S b→b<N∨W.heap.size≤b):OwnT W' N xs v qs:=
 h.kp hk (fun b hb hs=>by have:=owns_lt3 h.own hb;have:=h1 b hs;omega) (fun q hq=>((h.ne q hq).and (h.sl q hq).lt).mono (fun b hb hs=>by have:=h1 b hs;omega))
theorem OwnT.ext (h:OwnT W N xs v qs) (he:Ext W W'):OwnT W' N xs v qs:=⟨owns_ext h.own he,h.t,fun q hq=>(h.sl q hq).ext he,h.ne,h.cap⟩
theorem OwnT.push (h:OwnT W N xs v qs) (hs:q.at 5 K.pc W) (hc:q.es.length≤q.c) (hn:q.on (fun b=>N≤b∧v.ownBlock≠some b))
 (hg:W.grownBy W' v.ownBlock) (hat:v'.ownBlock=v.ownBlock∨v'.ownBlock=some W.heap.size) (ho:W'.ownsRow N 84 3 v' (qs.length+1) ((qs.map TL.vals).flatten++q.vals)):OwnT W' N (xs++ [q.t]) v' (qs++ [q]):=by
 have hall:∀x∈qs++ [q],x.at 5 K.pc W∧x.on (fun b=>N≤b∧v.ownBlock≠some b):=fun x hx=>by
  rcases List.mem_append.1 hx with hx|hx
  ·exact ⟨h.sl x hx,h.ne x hx⟩
  ·obtain rfl:x=q:=by simpa using hx
   exact ⟨hs,hn⟩
 refine ⟨by simpa using ho,by rw [List.map_append,h.t];rfl,fun x hx=>(hall x hx).1.kp (Kp.of_grown hg) ((hall x hx).2.mono (fun b hb=>hb.2)),fun x hx=>((hall x hx).2.and (hall x hx).1.lt).mono (fun b hb=>⟨hb.1.1, ?_⟩),fun x hx=> ?_⟩
 rotate_left 1
 ·rcases List.mem_append.1 hx with hx|hx
  ·exact h.cap x hx
  ·obtain rfl:x=q:=by simpa using hx
   exact hc
 rcases hat with h4|h4
 ·rw [h4];exact hb.1.2
 ·rw [h4];intro h5;injection h5 with h5
  have:=hb.2;omega
theorem OwnT.ts (h:OwnT W N xs v qs):TS 5 K.pc W v qs:=⟨Sl.of_owns (base:=N) (e:=84) (by rw [List.length_map];exact h.own) (TL.len qs),h.sl⟩
end
theorem txs_any (ts:List TL) (a:Option Addr) (c:Nat) (w:World) (ht:TS 6 K.rc w (.slice a ts.length c) ts) (hn:ts.length≤1000) (hm:∀t∈ts,t.es.length≤1000) (hs:∀t∈ts,∀e∈t.es,e.e.small):
 Calls Tryz.prog 8 #[.slice a ts.length c] w fun e w' =>∃a' c' qs,e= .returned (.slice a' ts.length c')∧OwnT w' w.heap.size (ts.map TL.t) (.slice a' ts.length c') qs∧Ext w w' :=by
 obtain ⟨i0,hi,hz0,hz1,hz2⟩:=info_parts Tryz.infoEvP
 obtain ⟨j0,hj,hy0,hy1,hy2⟩:=info_parts Tryz.infoTxP
 have HT:=Hm ht
 have HM:=Hm hm
 have HS:=Hm hs
 clear ht hm hs
 go_enter Tryz.func8,Tryz.ntmps8
 go_wp2
 go_loopg [3,4] ts.length (fun z v i wr=>∃(k:Nat) (qs:List TL),z+k=ts.length∧i= .int .i64 k∧Hid (OwnT wr w.heap.size ((ts.take k).map TL.t) v qs)∧Hid (Ext w wr))
 case atStart=>exact ⟨0, [],by omega,rfl,Hm (OwnT.nil _ _),Hm (Ext.refl _)⟩
 case round=>
  obtain ⟨k,qs,hzk,rfl,hown,hE⟩:=hrel
  by_cases hlt:k<ts.length
  ·obtain ⟨b,o,rfl,hb,hx⟩:=HT.out.row.at_ (i:=k) (by simpa using hlt)
   have HF:=Hm (fun W (h:Ext w W)=>TL.at_ hlt hx hb h)
   obtain ⟨f0,f1,f2⟩:=HF.out wr hE.out
   have hbw:b<wr.heap.size:=Nat.lt_of_lt_of_le hb hE.out.size
   have HES:=Hm (HT.out.sl _ (List.getElem_mem hlt))
   have HMM:=Hm (HM.out _ (List.getElem_mem hlt))
   have HSS:=Hm (HS.out _ (List.getElem_mem hlt))
   have HTK:Hid (ts.take (k+1)=ts.take k++ [ts[k]]):=Hm (List.take_succ_eq_append_getElem hlt)
   obtain ⟨t,hte⟩:∃t,t=ts[k]:=⟨_,rfl⟩
   rw [←hte] at HF f0 f1 f2 HES HMM HSS HTK
   have HBW:=Hm hb
   have HLK:=Hm hlt
   clear hte hx hb
   obtain ⟨xid,st,es,ta,tc⟩:=t
   simp only at HF f0 f1 f2 HMM HSS
   have HES2:Hid (ES 6 K.rc w (.slice ta es.length tc) es):=HES
   clear HES
   go_wp2
   go_region_held3 (fun w' =>Ext (wr) w'∧(∀b o,b<(wr).heap.size→w'.cell? ⟨b,o,none⟩=(wr).cell? ⟨b,o,none⟩)∧(∀b o,b<(wr).heap.size→w'.frozen? ⟨b,o,none⟩=(wr).frozen? ⟨b,o,none⟩)) ((exact held_of (by exact eX))) (fail)
   have HX1:Hid (Blk (wr.alloc (.cells #[.int .u32 xid, .int .u64 st, .slice none 0 0] 84)).drew wr.heap.size #[.int .u32 xid, .int .u64 st, .slice none 0 0] 84):=Hm (Blk.new wr _ _).drew
   have HE1:Hid (Ext wr (wr.alloc (.cells #[.int .u32 xid, .int .u64 st, .slice none 0 0] 84)).drew):=Hm (by exact eX)
   have hsz1:(wr.alloc (.cells #[.int .u32 xid, .int .u64 st, .slice none 0 0] 84)).drew.heap.size=wr.heap.size+1:=World.size_alloc _ _
   obtain ⟨w1,hw1⟩:∃w1,w1=(wr.alloc (.cells #[.int .u32 xid, .int .u64 st, .slice none 0 0] 84)).drew:=⟨_,rfl⟩
   rw [←hw1] at HX1 HE1 hsz1⊢
   obtain ⟨wo,hwo⟩:∃x,x=wr:=⟨_,rfl⟩
   subst hwo
   obtain ⟨X,hX⟩:∃X,X=wo.heap.size:=⟨_,rfl⟩
   rw [←hX] at HX1 hsz1⊢
   have HSZ:=Hm (And.intro hX (And.intro hsz1 hE.out.size))
   have HEo:=Hm hE.out
   clear hw1 hX hsz1 f0 f1 f2 hE
   go_wp2
   go_loopg [6] es.length (fun z2 i wr=>∃(n:Nat) (va:Option Addr) (vc:Nat) (qs2:List EL),z2+n=es.length∧i= .int .i64 n∧Hid (Blk wr X #[.int .u32 xid, .int .u64 st, .slice va n vc] 84)∧Hid (OwnE 5 K.pc 77 wr (X+1) ((es.take n).map EL.e) (.slice va n vc) qs2)∧Hid (Kp (fun x=>x=X) w1 wr))
   case atStart=>exact ⟨0,none,0, [],by omega,rfl,HX1,Hm (OwnE.nil _ _),Hm Kp.refl⟩
   case round=>
    obtain ⟨n,va,vc,qs2,hzn,rfl,hB,hO,hK⟩:=hrel
    have HEW:Hid (Ext w wr):=Hm (Kp.ext (HEo.out.trans HE1.out) (fun x hx _=>by have:=HSZ.out;omega) hK.out)
    have gX:=hB.out.cell
    have gXf:=hB.out.frozen
    have zX:=hB.out.lt
    obtain ⟨f0,f1,f2⟩:=HF.out wr HEW.out
    have hbw2:b<wr.heap.size:=Nat.lt_of_lt_of_le HBW.out HEW.out.size
    have HKS:=Hm hK.out.size
    have HQL:=Hm hO.out.len
    by_cases hlt2:n<es.length
    ·obtain ⟨b2,o2,rfl,hb2,hx2⟩:=HES2.out.row.at_ (i:=n) (by simpa using hlt2)
     have HG:=Hm (fun W (h:Ext w W)=>EL.at_ hlt2 hx2 hb2 h)
     have HB2:=Hm hb2
     have HTN:Hid (es.take (n+1)=es.take n++ [es[n]]):=Hm (List.take_succ_eq_append_getElem hlt2)
     have hsm:=HSS.out _ (List.getElem_mem hlt2)
     have HOW:=Hm (fun W (h:Ext w W)=>eown_el es[n] W ((HES2.out.sl _ (List.getElem_mem hlt2)).ext h) hsm.b hsm.a hsm.r)
     obtain ⟨x,hxx⟩:∃x,x=es[n]:=⟨_,rfl⟩
     have HLT:=Hm hlt2
     rw [←hxx] at HG HTN HOW
     clear hxx hx2 hb2 hsm
     obtain ⟨⟨k1,ao1,av1,old1,b1,a1,r1,fl1⟩,ba1,bc1,aa1,ac1,ra1,rc1⟩:=x
     unfold EL.agg at HOW
     simp only at HG HOW
     have HSET:Hid (∀w',Kp (fun x=>w1.heap.size≤x) wr w'→(∀j,w'.cell? ⟨X,j,none⟩=(#[.int .u32 xid, .int .u64 st, .slice va n vc])[j]?)∧(∀j,w'.frozen? ⟨X,j,none⟩=false)∧w'.cell? ⟨b,o+k*3+2,none⟩=some (.slice (some ⟨b2,o2,none⟩) es.length tc)∧w'.cell? ⟨b2,o2+n*8,none⟩=some (.int .u8 k1)∧w'.cell? ⟨b2,o2+n*8+1,none⟩=some (.int .u32 ao1)∧w'.cell? ⟨b2,o2+n*8+2,none⟩=some (.int .u32 av1)∧w'.cell? ⟨b2,o2+n*8+3,none⟩=some (.int .u8 old1)∧w'.cell? ⟨b2,o2+n*8+4,none⟩=some (.slice ba1 b1.length bc1)∧w'.cell? ⟨b2,o2+n*8+5,none⟩=some (.slice aa1 a1.length ac1)∧w'.cell? ⟨b2,o2+n*8+6,none⟩=some (.slice ra1 r1.length rc1)∧w'.cell? ⟨b2,o2+n*8+7,none⟩=some (.int .u8 fl1)∧b<w'.heap.size∧b2<w'.heap.size∧X<w'.heap.size):=Hm (fun w' h=>by
      have hq:=HSZ.out
      have hE' :Ext w w' :=Kp.ext (HEo.out.trans HE1.out) (S:=fun x=>x=X∨w1.heap.size≤x) (fun x hx _=>by omega) ((hK.out.mono (T:=fun x=>x=X∨w1.heap.size≤x) (fun x hx _=> .inl hx)).trans h (fun x hx _=> .inr hx))
      have h2:=hB.out.kp h (by omega)
      obtain ⟨p0,p1,p2,p3,p4,p5,p6,p7⟩:=HG.out w' hE'
      exact ⟨h2.cell,h2.frozen,(HF.out w' hE').2.2,p0,p1,p2,p3,p4,p5,p6,p7,Nat.lt_of_lt_of_le HBW.out hE'.size,Nat.lt_of_lt_of_le HB2.out hE'.size,h2.lt⟩)
     obtain ⟨g0,g1,g2,g3,g4,g5,g6,g7⟩:=HG.out wr HEW.out
     have hbw3:b2<wr.heap.size:=Nat.lt_of_lt_of_le HB2.out HEW.out.size
     go_wp2
     clear gX gXf zX f0 f1 f2 g0 g1 g2 g3 g4 g5 g6 g7
     have hA0:Hid ((fun w' =>(∀j,w'.cell? ⟨X,j,none⟩=(#[.int .u32 xid, .int .u64 st, .slice va n vc])[j]?)∧(∀j,w'.frozen? ⟨X,j,none⟩=false)∧w'.cell? ⟨b,o+k*3+2,none⟩=some (.slice (some ⟨b2,o2,none⟩) es.length tc)∧w'.cell? ⟨b2,o2+n*8,none⟩=some (.int .u8 k1)∧w'.cell? ⟨b2,o2+n*8+1,none⟩=some (.int .u32 ao1)∧w'.cell? ⟨b2,o2+n*8+2,none⟩=some (.int .u32 av1)∧w'.cell? ⟨b2,o2+n*8+3,none⟩=some (.int .u8 old1)∧w'.cell? ⟨b2,o2+n*8+4,none⟩=some (.slice ba1 b1.length bc1)∧w'.cell? ⟨b2,o2+n*8+5,none⟩=some (.slice aa1 a1.length ac1)∧w'.cell? ⟨b2,o2+n*8+6,none⟩=some (.slice ra1 r1.length rc1)∧w'.cell? ⟨b2,o2+n*8+7,none⟩=some (.int .u8 fl1)∧b<w'.heap.size∧b2<w'.heap.size∧X<w'.heap.size) wr.drew):=Hm (HSET.out _ (Kp.of_ext (Ext.refl wr).drew))
     refine wp_region_head 13 (fun w' =>(∀j,w'.cell? ⟨X,j,none⟩=(#[.int .u32 xid, .int .u64 st, .slice va n vc])[j]?)∧(∀j,w'.frozen? ⟨X,j,none⟩=false)∧w'.cell? ⟨b,o+k*3+2,none⟩=some (.slice (some ⟨b2,o2,none⟩) es.length tc)∧w'.cell? ⟨b2,o2+n*8,none⟩=some (.int .u8 k1)∧w'.cell? ⟨b2,o2+n*8+1,none⟩=some (.int .u32 ao1)∧w'.cell? ⟨b2,o2+n*8+2,none⟩=some (.int .u32 av1)∧w'.cell? ⟨b2,o2+n*8+3,none⟩=some (.int .u8 old1)∧w'.cell? ⟨b2,o2+n*8+4,none⟩=some (.slice ba1 b1.length bc1)∧w'.cell? ⟨b2,o2+n*8+5,none⟩=some (.slice aa1 a1.length ac1)∧w'.cell? ⟨b2,o2+n*8+6,none⟩=some (.slice ra1 r1.length rc1)∧w'.cell? ⟨b2,o2+n*8+7,none⟩=some (.int .u8 fl1)∧b<w'.heap.size∧b2<w'.heap.size∧X<w'.heap.size) (by kernel_rfl) (by decide) ?_
     (refine wpHd_take (i:=0) (v:= ?_) rfl (by kernel_rfl) (by kernel_rfl) (by kernel_rfl) (fun _ _ _ h=>h) (Or.inl ⟨by rfl, ?_⟩) hA0.out ?_;rotate_left 1; · (intro w' hS';(try dsimp only at hS');go_split_ands;go_simp;try with_reducible rfl))
     (refine wpHd_take (i:=1) (v:= ?_) rfl (by kernel_rfl) (by kernel_rfl) (by kernel_rfl) (fun _ _ _ h=>h) (Or.inl ⟨by rfl, ?_⟩) hA0.out ?_;rotate_left 1; · (intro w' hS';(try dsimp only at hS');go_split_ands;go_simp;try with_reducible rfl))
     (refine wpHd_take (i:=2) (v:= ?_) rfl (by kernel_rfl) (by kernel_rfl) (by kernel_rfl) (fun _ _ _ h=>h) (Or.inl ⟨by rfl, ?_⟩) hA0.out ?_;rotate_left 1; · (intro w' hS';(try dsimp only at hS');go_split_ands;go_simp;try with_reducible rfl))
     (refine wpHd_take (i:=3) (v:= ?_) rfl (by kernel_rfl) (by kernel_rfl) (by kernel_rfl) (fun _ _ _ h=>h) (Or.inl ⟨by rfl, ?_⟩) hA0.out ?_;rotate_left 1; · (intro w' hS';(try dsimp only at hS');go_split_ands;go_simp;try with_reducible rfl))
     (refine wpHd_take (i:=4) (v:= ?_) rfl (by kernel_rfl) (by kernel_rfl) (by kernel_rfl) (fun _ _ _ h=>h) (Or.inl ⟨by rfl, ?_⟩) hA0.out ?_;rotate_left 1; · (intro w' hS';(try dsimp only at hS');go_split_ands;go_simp;try with_reducible rfl))
     (refine wpHd_take (i:=5) (v:= ?_) rfl (by kernel_rfl) (by kernel_rfl) (by kernel_rfl) (fun _ _ _ h=>h) (Or.inl ⟨by rfl, ?_⟩) hA0.out ?_;rotate_left 1; · (intro w' hS';(try dsimp only at hS');go_split_ands;go_simp;try with_reducible rfl))
     (refine wpHd_take (i:=6) (v:= ?_) rfl (by kernel_rfl) (by kernel_rfl) (by kernel_rfl) (fun _ _ _ h=>h) (Or.inl ⟨by rfl, ?_⟩) hA0.out ?_;rotate_left 1; · (intro w' hS';(try dsimp only at hS');go_split_ands;go_simp;try with_reducible rfl))
     (refine wpHd_take (i:=7) (v:= ?_) rfl (by kernel_rfl) (by kernel_rfl) (by kernel_rfl) (fun _ _ _ h=>h) (Or.inl ⟨by rfl, ?_⟩) hA0.out ?_;rotate_left 1; · (intro w' hS';(try dsimp only at hS');go_split_ands;go_simp;try with_reducible rfl))
     (refine wpHd_take (i:=8) (v:= ?_) rfl (by kernel_rfl) (by kernel_rfl) (by kernel_rfl) (fun _ _ _ h=>h) (Or.inl ⟨by rfl, ?_⟩) hA0.out ?_;rotate_left 1; · (intro w' hS';(try dsimp only at hS');go_split_ands;go_simp;try with_reducible rfl))
     (refine wpHd_take (i:=9) (v:= ?_) rfl (by kernel_rfl) (by kernel_rfl) (by kernel_rfl) (fun _ _ _ h=>h) (Or.inl ⟨by rfl, ?_⟩) hA0.out ?_;rotate_left 1; · (intro w' hS';(try dsimp only at hS');go_split_ands;go_simp;try with_reducible rfl))
     refine wpHd_one (i:=10) rfl rfl (by kernel_rfl) (fun KK hK=> ?_)
     go_simp
     refine (HOW.out _ HEW.out.drew).mono ?_
     rintro e w7 ⟨⟨ye,ba2,bc2,aa2,ac2,ra2,rc2⟩,rfl,hye,hat7,hon7,hb7⟩
     simp only at hye
     subst hye
     have H7:=Hm hat7
     have HN7:=Hm hon7
     have HB7:Hid (Ext wr w7):=Hm ((Ext.refl wr).drew.trans hb7)
     refine hK.out _ _ (HSET.out _ (Kp.of_ext HB7.out)) (fun hA=> ?_)
     clear hK KK hA hA0 hat7 hon7 hb7
     try simp only
     refine wpHd_one (i:=11) rfl rfl (by kernel_rfl) (fun KK hK=> ?_)
     go_simp
     refine hK.out _ _ (HSET.out _ (Kp.of_ext (HB7.out.alloc _))) (fun hA=> ?_)
     clear hK KK hA
     refine wpHd_one (i:=12) rfl rfl (by kernel_rfl) (fun KK hK=> ?_)
     have hqn:qs2.length=n:=by rw [HQL.out,List.length_map,List.length_take];have:=HLT.out;omega
     have HQN:=Hm hqn
     have HQN2:=Hm (show n+1≤1000 by have:=HLT.out;have:=HMM.out;omega)
     have HO7:Hid (OwnE 5 K.pc 77 (w7.alloc (.cells #[.int .u8 k1, .int .u32 ao1, .int .u32 av1, .int .u8 old1, .slice ba2 b1.length bc2, .slice aa2 a1.length ac2, .slice ra2 r1.length rc2, .int .u8 fl1] 77)) (X+1) ((es.take n).map EL.e) (.slice va n vc) qs2):=Hm (hO.out.ext (HB7.out.alloc _))
     refine wp_append_lies _ _ _ 82 (by rfl) (X+1) 77 i0 _ 8 96 Tryz.underlying82 hi hz0 hz1 hz2 rfl (by decide) (.slice va n vc) n _ (by rfl) (by have:=HO7.out.own;rw [HQN.out] at this;exact this) ⟨_,0,none⟩ 1 1 (EL.vals ⟨⟨k1,ao1,av1,old1,b1,a1,r1,fl1⟩,ba2,bc2,aa2,ac2,ra2,rc2⟩) (by rfl) rfl (cells_new _ #[.int .u8 k1, .int .u32 ao1, .int .u32 av1, .int .u8 old1, .slice ba2 b1.length bc2, .slice aa2 a1.length ac2, .slice ra2 r1.length rc2, .int .u8 fl1] _) (EL.one _) (by decide) (by unfold maxLen;have:=HQN2.out;omega) (by have:=HQN2.out;omega) (by have h1:=HB7.out.size;have h2:=HKS.out;have h3:=HSZ.out;simp;omega) _ rfl ?_
     intro g4 cap4 w4 hown4 hgrow4 hat4 hlt4
     have HP:Hid (OwnE 5 K.pc 77 w4 (X+1) ((es.take (n+1)).map EL.e) (.slice (some ⟨g4,0,none⟩) (n+1) cap4) (qs2++ [⟨⟨k1,ao1,av1,old1,b1,a1,r1,fl1⟩,ba2,bc2,aa2,ac2,ra2,rc2⟩])):=Hm (by
      rw [HTN.out,List.map_append]
      refine OwnE.push HO7.out (H7.out.ext ((Ext.refl _).alloc _)) ((HN7.out).mono (fun b hb=> ?_)) hgrow4 (hat4.elim (fun h=> .inl (by rw [h];rfl)) (fun h=> .inr (by rw [h];rfl))) (by rw [HQN.out];exact hown4)
      have hb' :wr.heap.size≤b:=hb
      have h2:=HKS.out
      have h3:=HSZ.out
      exact ⟨by omega,fun e=>by have:=owns_lt3 hO.out.own e;omega⟩)
     have HKG:Hid (Kp (fun x=>w1.heap.size≤x) wr w4):=Hm ((Kp.of_ext (S:=fun x=>w1.heap.size≤x) (HB7.out.alloc _)).trans (Kp.of_grown hgrow4) (fun x hx _=>by have:=owns_lt3 hO.out.own hx;have h3:=HSZ.out;omega))
     refine hK.out _ _ (HSET.out _ HKG.out) (fun hA=> ?_)
     clear hK KK hA hown4 hgrow4 hat4 hlt4 hqn
     have hX4:Hid (Blk w4 X #[.int .u32 xid, .int .u64 st, .slice va n vc] 84):=Hm (hB.out.kp HKG.out (by have:=HSZ.out;omega))
     have gX:=hX4.out.cell
     have gXf:=hX4.out.frozen
     have zX:=hX4.out.lt
     have hml:=HMM.out
     have hlt3:=HLT.out
     refine wpHd_tail (by kernel_rfl) ?_
     simp only [List.drop_succ_cons,List.drop_zero]
     go_wp2
     go_roundg (es.length - (n+1))
     case measure=>have:=HLT.out;omega
     case rel=>
      refine ⟨n+1,some ⟨g4,0,none⟩,cap4,_,Nat.sub_add_cancel HLT.out,by go_num,Hm ?_,Hm (HP.out.low (Kp.set (S:=fun x=>x=X) ⟨X,2,none⟩ _ rfl) (fun x hx=>by have hx' :x=X:=hx;omega)),Hm ?_⟩
      ·have:=hX4.out.set 2 (.slice (some ⟨g4,0,none⟩) (n+1) cap4)
       simpa only [List.setIfInBounds_toArray,List.set_cons_zero,List.set_cons_succ] using this
      ·exact ((hK.out.mono (T:=fun x=>x=X) (fun x hx _=>hx)).trans (HKG.out) (fun x hx h=>by omega)).trans (T:=fun x=>x=X) (Kp.set _ _ rfl) (fun x hx _=>hx)
    ·obtain rfl:n=es.length:=by omega
     rw [List.take_length] at hO
     have HON:Hid (OwnT wr w.heap.size ((ts.take k).map TL.t) _ qs):=Hm (hown.out.low (S:=fun x=>x=X) ((Kp.of_ext HE1.out).trans hK.out (fun x hx _=>hx)) (fun x hx=>by have:=HSZ.out;have hx' :x=X:=hx;omega))
     have HQT:Hid (qs.length=k):=Hm (by rw [hown.out.len,List.length_map,List.length_take];have:=HLK.out;omega)
     have HKN:=Hm (show k+1≤1000 by have:=HLK.out;omega)
     have HVB:=Hm (fun b hb=>(owns_lt3 hown.out.own (g:=b) hb))
     have HQS:Hid (ES 5 K.pc wr (.slice va es.length vc) qs2):=Hm hO.out.row
     have hqn:qs2.length=es.length:=by rw [HQL.out,List.length_map,List.length_take];omega
     have HQN:=Hm hqn
     have HQE:=Hm hO.out.e
     have HCV:=Hm (owns_cap hO.out.own)
     have HON2:=Hm hO.out.ne
     have HOB:=Hm (fun b hb=>(owns_lt3 hO.out.own (g:=b) hb))
     clear hqn hown hO
     go_wp2_with (at_builtin;refine wpList_append_own_at _ rfl _ _ 34 rfl w.heap.size 84 j0 _ 3 40 Tryz.underlying34 hj hy0 hy1 hy2 rfl (by decide) _ k _ rfl (by have h:=owns_ext HON.out.own ((Ext.refl wr).alloc (.cells #[.int .u32 xid, .int .u64 st, .slice va es.length vc] 84));rw [HQT.out] at h;exact h) ⟨_,0,none⟩ 1 1 [.int .u32 xid, .int .u64 st, .slice va es.length vc] rfl rfl ?c1 ?c2 ?c3 ?c4 ?c5 ?_)
     case c1=>exact cells_new _ #[.int .u32 xid, .int .u64 st, .slice va es.length vc] _
     case c2=>intro u hu;simp at hu;rcases hu with rfl|rfl|rfl<;>rfl
     case c3=>unfold maxLen;have:=HKN.out;omega
     case c4=>have:=HKN.out;omega
     case c5=>have:=HSZ.out;have:=HKS.out;simp;omega
     intro v' w2 hown' hgrow _ hat
     have HOF:Hid (OwnT w2 w.heap.size ((ts.take (k+1)).map TL.t) v' (qs++ [⟨xid,st,qs2,va,vc⟩])):=Hm (by
      rw [HTK.out,List.map_append]
      have h1:=OwnT.push (q:=⟨xid,st,qs2,va,vc⟩) (HON.out.ext ((Ext.refl wr).alloc (.cells #[.int .u32 xid, .int .u64 st, .slice va es.length vc] 84))) (by show ES 5 K.pc _ (.slice va qs2.length vc) qs2;rw [HQN.out];exact HQS.out.ext ((Ext.refl wr).alloc _)) (by show qs2.length≤vc;rw [HQN.out];exact HCV.out) ⟨fun h0 b o e=> ?_,fun x hx=>(HON2.out x hx).mono (fun b hb=> ?_)⟩ hgrow (by first|exact hat|(rw [World.size_alloc];exact hat)) (by rw [HQT.out,show TL.vals ⟨xid,st,qs2,va,vc⟩= [.int .u32 xid, .int .u64 st, .slice va es.length vc] from by unfold TL.vals;rw [HQN.out]];exact hown')
      ·have e2:TL.t ⟨xid,st,qs2,va,vc⟩=TL.t ⟨xid,st,es,ta,tc⟩:=by unfold TL.t;rw [HQE.out]
       rw [e2] at h1
       exact h1
      ·have h2:=HOB.out b (by rw [show va=some ⟨b,o,none⟩ from e];rfl)
       have h3:=HSZ.out
       exact ⟨by omega,fun e=>by have:=HVB.out b e;omega⟩
      ·have h3:=HSZ.out
       have h4:X+1≤b:=hb.1
       exact ⟨by omega,fun e=>by have:=HVB.out b e;omega⟩)
     have HEF:Hid (Ext w w2):=Hm ((HEW.out.alloc (.cells #[.int .u32 xid, .int .u64 st, .slice va es.length vc] 84)).grown (owns_ext HON.out.own ((Ext.refl wr).alloc _)) hgrow)
     clear hown' hgrow hat
     go_wp2
     go_roundg (ts.length - (k+1))
     case measure=>have:=HLK.out;omega
     case rel=>exact ⟨k+1,_,by have:=HLK.out;omega,by go_num,HOF,HEF⟩
  ·obtain rfl:k=ts.length:=by omega
   rw [List.take_length] at hown
   have hql:=hown.out.len
   rw [List.length_map] at hql
   obtain ⟨a',c',rfl⟩:=owns_shape hown.out.own
   rw [hql] at hown⊢
   clear hql
   go_wp2
   go_ret
   exact ⟨a',c',qs,rfl,hown.out,hE.out⟩
end Go.Proofs.YtgmphpccpfaapaaGreatDoor
