/-
What is wrong with an event: the reference's Right.
-/
import Derived.Test.YtgmphpccpfaapaaGreatDoorP18
import Derived.Test.YtgmphpccpfaapaaGreatDoorP34
import Derived.Test.YtgmphpccpfaapaaGreatDoorP9
import Derived.Test.YtgmphpccpfaapaaGreatDoorP33
import Derived.Test.YtgmphpccpfaapaaGreatDoorP21
set_option maxRecDepth 100000
set_option maxHeartbeats 16000000
namespace Go.Proofs.YtgmphpccpfaapaaGreatDoor
open Go.RowKit
theorem own_trunc {e:Ev} (hk:rowedB e.kind=false):ownB e=true↔(rfB ⟨e.ao,e.av⟩ ⟨0,0⟩=true∧e.old=0∧e.b= []∧e.a= []):=by
 unfold ownB Ev.only
 rw [if_neg (by rw [hk];simp),evB_true,rfB_true]
 obtain ⟨k,ao,av,old,b,a,rs,fl⟩:=e
 simp only [Ev.mk.injEq,Rf.mk.injEq,true_and,and_true]
 constructor
 ·rintro ⟨h1,h2,h3,h4,h5⟩;exact ⟨⟨h1,h2⟩,h3,h4,h5⟩
 ·rintro ⟨⟨h1,h2⟩,h3,h4,h5⟩;exact ⟨h1,h2,h3,h4,h5⟩
theorem own_row {e:Ev} (hk:rowedB e.kind=true):ownB e=true↔(e.rs= []∧e.fl=0):=by
 unfold ownB Ev.only
 rw [if_pos hk,evB_true]
 obtain ⟨k,ao,av,old,b,a,rs,fl⟩:=e
 simp only [Ev.mk.injEq,true_and]
theorem bool_ff {b:Bool} {p:Prop} (h:b=true↔p) (hn: ¬ p):b=false:=by
 cases b with
 |false=>rfl
 |true=>exact absurd (h.1 rfl) hn
theorem len_pos {α:Type} {l:List α} (h:0<l.length):l≠ []:=by rintro rfl;exact absurd h (by simp)
structure RCat (ps:List RR):Prop where
 ok:CatOk (ps.map RR.r)
 wb:∀p∈ps,p.r.wb
theorem RCat.n16 {ps:List RR} (h:RCat ps) {p:RR} (hp:p∈ps):p.r.cols.length≤16:=Rl.cols_le (h.ok.right _ (List.mem_map_of_mem hp))
structure RCatU (ps:List RR):Prop where
 n:ps.length≤1000
 n16:∀p∈ps,p.r.cols.length≤16
 wb:∀p∈ps,p.r.wb
theorem reright_anyU (x:EL) (ps:List RR) (a:Option Addr) (cap:Nat) (w:World) (hx:x.at 6 K.rc w) (hs:x.e.small) (hwk:x.e.wk) (hl:RL w (.slice a ps.length cap) ps) (hc:RCatU ps):
 Calls Tryz.prog 61 #[x.agg, .slice a ps.length cap] w fun e w' =>e= .returned (.int .i64 (evE x.e (ps.map RR.r)))∧Ext w w' :=by
 have HL:=Hm hx.r
 have hn:=hs.r
 have hpl:ps.length≤1000:=hc.n
 have HG:=Hm (fun o v W (h:Ext w W)=>rget_any ps a cap o v W (hl.ext h) hpl)
 have HIM:=Hm (fun (p:RR) (hp:p∈ps) W (h:Ext w W)=>
  (show Calls Tryz.prog 86 #[p.agg, .int .u8 x.e.kind, .int .u8 x.e.old, .slice x.ba x.e.b.length x.bc, .slice x.aa x.e.a.length x.ac] W (fun e w' =>e= .returned (.int .i64 (imgE p.r x.e.kind x.e.old x.e.b x.e.a))∧Ext W w') from
   rimage_any x.e.kind x.e.old x.e.b x.e.a x.ba x.aa x.bc x.ac p.r.oid p.r.ver p.r.nm p.r.id p.r.cols p.a p.c W ((hl.ext h).sl p hp) (by have:=hc.n16 p hp;omega) (hx.b.ext h) (hx.a.ext h) hs.b hs.a hwk.b hwk.a (hc.wb p hp).cs (hc.wb p hp).nm (hc.wb p hp).idn hwk.old))
 clear hx hs hwk hc hl
 obtain ⟨⟨k1,ao1,av1,old1,b1,a1,r1,fl1⟩,ba1,bc1,aa1,ac1,ra1,rc1⟩:=x
 unfold EL.agg
 simp only at HL hn HIM⊢
 by_cases h0:k1<4
 ·have HR:=Hm (show evE (⟨k1,ao1,av1,old1,b1,a1,r1,fl1⟩:Ev) (ps.map RR.r)=7 from if_pos (.inl h0))
  go_enter Tryz.func61,Tryz.ntmps61
  go_wp2
  go_ret
  exact ⟨ret_int HR.out.symm,by exact eX⟩
 by_cases h1:7<k1
 ·have HR:=Hm (show evE (⟨k1,ao1,av1,old1,b1,a1,r1,fl1⟩:Ev) (ps.map RR.r)=7 from if_pos (.inr h1))
  go_enter Tryz.func61,Tryz.ntmps61
  go_wp2
  go_ret
  exact ⟨ret_int HR.out.symm,by exact eX⟩
 have HR0:=Hm (show evE (⟨k1,ao1,av1,old1,b1,a1,r1,fl1⟩:Ev) (ps.map RR.r)=_ from if_neg (by simp only;omega))
 simp only at HR0
 by_cases h7:k1=7
 ·subst h7
  have hrow:rowedB 7=false:=rfl
  have hown:=own_trunc (e:=⟨7,ao1,av1,old1,b1,a1,r1,fl1⟩) hrow
  simp only at hown
  cases hq:rfB ⟨ao1,av1⟩ ⟨0,0⟩ with
  |false=>
   have HR:=Hm (show evE ⟨7,ao1,av1,old1,b1,a1,r1,fl1⟩ (ps.map RR.r)=3 from by rw [HR0.out,if_pos (bool_ff hown (fun h=>by rw [h.1] at hq;cases hq))])
   have hQ:=fun w=>neq_rref ao1 av1 0 0 w
   rw [hq] at hQ
   clear hq hown HR0 hrow
   go_enter Tryz.func61,Tryz.ntmps61
   go_wp2
   go_ret
   exact ⟨ret_int HR.out.symm,by exact eX⟩
  |true=>
  have hQ:=fun w=>neq_rref ao1 av1 0 0 w
  rw [hq] at hQ
  by_cases ho:old1=0
  case neg=>
   have HR:=Hm (show evE ⟨7,ao1,av1,old1,b1,a1,r1,fl1⟩ (ps.map RR.r)=3 from by rw [HR0.out,if_pos (bool_ff hown (fun h=>ho h.2.1))])
   have ho' :(old1 !=0)=true:=by simpa using ho
   clear hq hown HR0 hrow ho
   go_enter Tryz.func61,Tryz.ntmps61
   go_wp2
   go_ret
   exact ⟨ret_int HR.out.symm,by exact eX⟩
  subst ho
  by_cases hb:0<b1.length
  ·have HR:=Hm (show evE ⟨7,ao1,av1,0,b1,a1,r1,fl1⟩ (ps.map RR.r)=3 from by rw [HR0.out,if_pos (bool_ff hown (fun h=>len_pos hb h.2.2.1))])
   clear hq hown HR0 hrow
   go_enter Tryz.func61,Tryz.ntmps61
   go_wp2
   go_ret
   exact ⟨ret_int HR.out.symm,by exact eX⟩
  obtain rfl:b1= []:=List.length_eq_zero_iff.1 (by omega)
  by_cases ha:0<a1.length
  ·have HR:=Hm (show evE ⟨7,ao1,av1,0, [],a1,r1,fl1⟩ (ps.map RR.r)=3 from by rw [HR0.out,if_pos (bool_ff hown (fun h=>len_pos ha h.2.2.2))])
   clear hq hown HR0 hrow hb
   go_enter Tryz.func61,Tryz.ntmps61
   go_wp2
   go_ret
   exact ⟨ret_int HR.out.symm,by exact eX⟩
  obtain rfl:a1= []:=List.length_eq_zero_iff.1 (by omega)
  have HRT:=Hm (show evE ⟨7,ao1,av1,0, [], [],r1,fl1⟩ (ps.map RR.r)=truncE ⟨7,ao1,av1,0, [], [],r1,fl1⟩ (ps.map RR.r) from by
   rw [HR0.out,if_neg (by rw [hown.2 ⟨hq,rfl,rfl,rfl⟩];simp),if_pos rfl])
  clear hq hown HR0 hrow hb ha
  generalize evE ⟨7,ao1,av1,0, [], [],r1,fl1⟩ (ps.map RR.r)=R at HRT⊢
  by_cases hz:r1.length=0
  ·have HR:=Hm (show R=17 from by rw [HRT.out];exact if_pos (.inl (by simp only;omega)))
   obtain rfl:r1= []:=List.length_eq_zero_iff.1 hz
   clear HRT
   go_enter Tryz.func61,Tryz.ntmps61
   go_wp2
   go_ret
   exact ⟨ret_int HR.out.symm,by exact eX⟩
  have hz' :(((r1.length:Nat):Int)==0)=false:=by simp;intro e;exact hz (by rw [e];rfl)
  have HLP:=Hm (show 0<r1.length by omega)
  clear hz
  by_cases h8:8<r1.length
  ·have HR:=Hm (show R=17 from by rw [HRT.out];exact if_pos (.inr h8))
   clear HRT
   go_enter Tryz.func61,Tryz.ntmps61
   go_wp2
   go_ret
   exact ⟨ret_int HR.out.symm,by exact eX⟩
  have HRR:=Hm (show R=if risB r1=false then 15 else if hasAll r1 (ps.map RR.r)=false then 10 else if 3<fl1 then 4 else 0 from by rw [HRT.out];exact if_neg (by have:=HLP.out;simp only;omega))
  clear HRT
  go_enter Tryz.func61,Tryz.ntmps61
  go_wp2
  go_loopw [5] (fun i wr=>∃k:Nat,k+1≤r1.length∧i= .int .i64 ((k:Int)+1)∧Hid (∀j (h:j+1<r1.length),j<k→aheadB r1[j].o r1[j].v r1[j+1].o r1[j+1].v=true)∧Hid (Blk wr w.heap.size #[.int .u8 7, .int .u32 ao1, .int .u32 av1, .int .u8 0, .slice ba1 0 bc1, .slice aa1 0 ac1, .slice ra1 r1.length rc1, .int .u8 fl1] 47)∧Hid (Ext w wr)) (fun i _=>r1.length - (intOf i).toNat)
  case atStart=>exact ⟨0,HLP.out,rfl,Hm (fun j _ h=>by omega),Hm (Blk.new _ _ _),Hm (by exact eX)⟩
  case round=>
   obtain ⟨k,hk,rfl,hrel,hX,hE⟩:=hrel
   have gv:=hX.out.cell
   have zv:=hX.out.lt
   by_cases hlt:k+1<r1.length
   ·have hlt0:k<r1.length:=by omega
    obtain ⟨o1,p1,rfl,hb1,hx1⟩:=HL.out.at_ (i:=k) (by simpa using hlt0)
    obtain ⟨f0,f1⟩:=Rf.at_ hlt0 hx1 hb1 hE.out
    obtain ⟨o2,p2,he2,hb2,hx2⟩:=HL.out.at_ (i:=k+1) (by simpa using hlt)
    simp only [Option.some.injEq,Addr.mk.injEq] at he2
    obtain ⟨rfl,rfl, -⟩:=he2
    obtain ⟨s0,s1⟩:=Rf.at_ hlt hx2 hb2 hE.out
    have hbw:o1<wr.heap.size:=Nat.lt_of_lt_of_le hb1 hE.out.size
    have HCP:=Hm (fun W=>rahead_any r1[k].o r1[k].v r1[k+1].o r1[k+1].v W)
    have q1:IntKind.i64.wrap (k:Int)=(k:Int):=IntWalk.i64_in _ (by omega)
    have q2:((k:Int)+1).toNat=k+1:=by omega
    have i1:(k:Int)<(r1.length:Int):=by omega
    have i2:(k:Int)+1<(r1.length:Int):=by omega
    have i3:(0:Int)≤(k:Int)+1:=by omega
    have i4:(0:Int)≤(k:Int):=by omega
    clear hx1 hx2
    cases hA:aheadB r1[k].o r1[k].v r1[k+1].o r1[k+1].v with
    |true=>
     have HA:=Hm hA
     rw [hA] at HCP
     clear hA
     go_wp2
     go_region_held3 (fun w' =>Ext (wr) w'∧(∀b o,b<(wr).heap.size→w'.cell? ⟨b,o,none⟩=(wr).cell? ⟨b,o,none⟩)∧(∀b o,b<(wr).heap.size→w'.frozen? ⟨b,o,none⟩=(wr).frozen? ⟨b,o,none⟩)) ((exact held_of (by exact eX))) ((go_at_call 62;refine (HCP.out _).mono ?_;rintro e w2 ⟨rfl,hb2⟩))
     clear q1 q2
     go_wp2
     go_roundw
     case rel=>exact ⟨k+1,by omega,by go_num,Hm (fun j h hj=>by
      by_cases e:j=k
      ·subst e;exact HA.out
      ·exact hrel.out j h (by omega)),Hm (hX.out.ext (by exact eX)),Hm (hE.out.trans (by exact eX))⟩
     case measure=>simp [intOf];omega
    |false=>
     have HR:=Hm (show R=15 from by rw [HRR.out,if_pos (risB_no hlt hA)])
     rw [hA] at HCP
     clear hA
     go_wp2
     go_region_held3 (fun w' =>Ext (wr) w'∧(∀b o,b<(wr).heap.size→w'.cell? ⟨b,o,none⟩=(wr).cell? ⟨b,o,none⟩)∧(∀b o,b<(wr).heap.size→w'.frozen? ⟨b,o,none⟩=(wr).frozen? ⟨b,o,none⟩)) ((exact held_of (by exact eX))) ((go_at_call 62;refine (HCP.out _).mono ?_;rintro e w2 ⟨rfl,hb2⟩))
     clear q1 q2
     go_wp2
     go_ret
     exact ⟨ret_int HR.out.symm,hE.out.trans (by exact eX)⟩
   ·have HR1:=Hm (show R=if hasAll r1 (ps.map RR.r)=false then 10 else if 3<fl1 then 4 else 0 from by rw [HRR.out,if_neg (by rw [risB_true.2 (fun i h=>hrel.out i h (by omega))];simp)])
    clear HRR hrel
    obtain ⟨wo,hwo⟩:∃x,x=wr:=⟨_,rfl⟩
    subst hwo
    go_wp2
    go_loopw [6] (fun i wr=>∃k:Nat,k≤r1.length∧i= .int .i64 k∧Hid (∀j (h:j<r1.length),j<k→hasR r1[j].o r1[j].v (ps.map RR.r)=true)∧Hid (Ext wo wr)) (fun i _=>r1.length - (intOf i).toNat)
    case atStart=>exact ⟨0,by omega,rfl,Hm (fun j _ h=>by omega),Hm (by exact eX)⟩
    case round=>
     obtain ⟨m,hm,rfl,hrel,hF⟩:=hrel
     have gv2:=(hX.out.ext hF.out).cell
     have zv2:=(hX.out.ext hF.out).lt
     clear gv zv
     by_cases hlt2:m<r1.length
     ·obtain ⟨o1,p1,rfl,hb1,hx1⟩:=HL.out.at_ (i:=m) (by simpa using hlt2)
      obtain ⟨f0,f1⟩:=Rf.at_ hlt2 hx1 hb1 (hE.out.trans hF.out)
      have hbw:o1<wr.heap.size:=Nat.lt_of_lt_of_le hb1 (hE.out.trans hF.out).size
      have HGT:=Hm (fun W (h:Ext wr W)=>HG.out r1[m].o r1[m].v W (hE.out.trans (hF.out.trans h)))
      rw [getP_is] at HGT
      obtain ⟨q,hq⟩:∃q,q=(getP r1[m].o r1[m].v ps).getD RR.zero:=⟨_,rfl⟩
      rw [←hq] at HGT
      obtain ⟨⟨oid,ver,nm,id,cols⟩,qa,qc⟩:=q
      unfold RR.agg at HGT
      simp only at HGT
      clear hx1 hq
      cases hA:hasR r1[m].o r1[m].v (ps.map RR.r) with
      |true=>
       have HA:=Hm hA
       rw [hA] at HGT
       clear hA
       go_wp2_with (go_at_call 55;refine (HGT.out _ (by exact eX)).mono ?_;rintro e w3 ⟨rfl,hb3⟩)
       go_roundw
       case rel=>exact ⟨m+1,by omega,by go_num,Hm (fun j h hj=>by
        by_cases e:j=m
        ·subst e;exact HA.out
        ·exact hrel.out j h (by omega)),Hm (hF.out.trans (by exact eX))⟩
       case measure=>simp [intOf];omega
      |false=>
       have HR:=Hm (show R=10 from by rw [HR1.out,if_pos (hasAll_no hlt2 hA)])
       rw [hA] at HGT
       clear hA
       go_wp2_with (go_at_call 55;refine (HGT.out _ (by exact eX)).mono ?_;rintro e w3 ⟨rfl,hb3⟩)
       go_ret
       exact ⟨ret_int HR.out.symm,hE.out.trans (hF.out.trans (by exact eX))⟩
     ·have HR2:=Hm (show R=if 3<fl1 then 4 else 0 from by rw [HR1.out,if_neg (by rw [hasAll_yes (fun i h=>hrel.out i h (by omega))];simp)])
      clear HR1 hrel
      by_cases h3:3<fl1
      ·have HR:=Hm (show R=4 from by rw [HR2.out,if_pos h3])
       go_wp2
       go_ret
       exact ⟨ret_int HR.out.symm,hE.out.trans hF.out⟩
      ·have HR:=Hm (show R=0 from by rw [HR2.out,if_neg h3])
       go_wp2
       go_ret
       exact ⟨ret_int HR.out.symm,hE.out.trans hF.out⟩
 ·have hrow:rowedB k1=true:=decide_eq_true (by omega)
  have hown:=own_row (e:=(⟨k1,ao1,av1,old1,b1,a1,r1,fl1⟩:Ev)) hrow
  simp only at hown
  have h7' :(k1==7)=false:=by simpa using h7
  by_cases hb:0<r1.length
  ·have HR:=Hm (show evE (⟨k1,ao1,av1,old1,b1,a1,r1,fl1⟩:Ev) (ps.map RR.r)=3 from by rw [HR0.out,if_pos (bool_ff hown (fun h=>len_pos hb h.1))])
   clear hown HR0 hrow h7
   go_enter Tryz.func61,Tryz.ntmps61
   go_wp2
   go_ret
   exact ⟨ret_int HR.out.symm,by exact eX⟩
  obtain rfl:r1= []:=List.length_eq_zero_iff.1 (by omega)
  by_cases hf:fl1=0
  case neg=>
   have HR:=Hm (show evE ⟨k1,ao1,av1,old1,b1,a1, [],fl1⟩ (ps.map RR.r)=3 from by rw [HR0.out,if_pos (bool_ff hown (fun h=>hf h.2))])
   have hf' :(fl1 !=0)=true:=by simpa using hf
   clear hown HR0 hrow h7 hf hb
   go_enter Tryz.func61,Tryz.ntmps61
   go_wp2
   go_ret
   exact ⟨ret_int HR.out.symm,by exact eX⟩
  subst hf
  have HR1:=Hm (show evE ⟨k1,ao1,av1,old1,b1,a1, [],0⟩ (ps.map RR.r)=_ from by rw [HR0.out,if_neg (by rw [hown.2 ⟨rfl,rfl⟩];simp),if_neg h7])
  generalize evE ⟨k1,ao1,av1,old1,b1,a1, [],0⟩ (ps.map RR.r)=R at HR1⊢
  clear hown HR0 hrow h7 hb
  have HGT:=Hm (fun W (h:Ext w W)=>HG.out ao1 av1 W h)
  rw [getP_is] at HGT
  cases hg:getP ao1 av1 ps with
  |none=>
   have hgr:getR ao1 av1 (ps.map RR.r)=none:=by rw [←getP_map,hg];rfl
   have hh:=getR_none.1 hgr
   have HR:=Hm (show R=10 from by rw [HR1.out,hgr])
   rw [hg,hh] at HGT
   clear hg hgr hh HR1
   simp only [Option.getD_none] at HGT
   unfold RR.agg RR.zero at HGT
   go_enter Tryz.func61,Tryz.ntmps61
   go_wp2_with (go_at_call 55;refine (HGT.out _ (by exact eX)).mono ?_;rintro e w3 ⟨rfl,hb3⟩)
   go_ret
   exact ⟨ret_int HR.out.symm,by exact eX⟩
  |some p=>
   have hgr:getR ao1 av1 (ps.map RR.r)=some p.r:=by rw [←getP_map,hg];rfl
   have hh:hasR ao1 av1 (ps.map RR.r)=true:=by rw [←getP_is,hg];rfl
   have HR:=Hm (show R=imgE p.r k1 old1 b1 a1 from by rw [HR1.out,hgr])
   have HI:=Hm (HIM.out p (getP_some hg).1)
   rw [hg,hh] at HGT
   rw [←HR.out] at HI
   clear hg hgr hh HR1 HR HIM
   simp only [Option.getD_some] at HGT
   obtain ⟨⟨oid,ver,nm,id,cols⟩,qa,qc⟩:=p
   unfold RR.agg at HGT HI
   simp only at HGT HI
   go_enter Tryz.func61,Tryz.ntmps61
   go_wp2_with (first
    |(go_at_call 55;refine (HGT.out _ (by exact eX)).mono ?_;rintro e w3 ⟨rfl,hb3⟩;(have hE_w3:Ext (w.alloc (.cells #[.int .u8 k1, .int .u32 ao1, .int .u32 av1, .int .u8 old1, .slice ba1 b1.length bc1, .slice aa1 a1.length ac1, .slice ra1 0 rc1, .int .u8 0] 47)) w3:=(by exact eX);obtain ⟨hc_w3,hf_w3⟩:=hE_w3.cells;have hz_w3:=hE_w3.size);have z3:w.heap.size<w3.heap.size:=(by have:=hE_w3.size;simp at this;omega))
    |(go_at_call 86;refine (HI.out _ (by exact eX)).mono ?_;rintro e w4 ⟨rfl,hb4⟩))
   go_ret
   exact ⟨rfl,by exact eX⟩
def msgN (m:Msg):Bool:=(decide (m.k≠66)&&decide (m.k≠67)&&decide (m.x≠0))||(decide (m.k≠66)&&decide (m.st≠0))||(decide (m.k≠67)&&decide (m.n≠0))
theorem wkind_let {k:Int} (h:wlet k=true) (h1:k≠66) (h2:k≠67) (h3:k≠82):0<wkind k:=by
 unfold wlet at h
 have:=of_decide_eq_true h
 omega
theorem msgN_own {m:Msg} (h:msgN m=true):msgB m m.own=false:=by
 cases hb:msgB m m.own with
 |false=>rfl
 |true=>
  exfalso
  have he:=msgB_true.1 hb
  unfold Msg.own at he
  unfold msgN at h
  by_cases h1:m.k=66
  ·rw [if_pos h1] at he
   have:=congrArg Msg.n he
   simp [h1,this] at h
  ·rw [if_neg h1] at he
   by_cases h2:m.k=67
   ·rw [if_pos h2] at he
    have:=congrArg Msg.st he
    simp [h2,this] at h
   ·rw [if_neg h2] at he
    by_cases h3:m.k=82
    ·rw [if_pos h3] at he
     have e1:=congrArg Msg.st he
     have e2:=congrArg Msg.n he
     have e3:=congrArg Msg.x he
     simp [h3,e1,e2,e3] at h
    ·rw [if_neg h3] at he
     have e1:=congrArg Msg.st he
     have e2:=congrArg Msg.n he
     have e3:=congrArg Msg.x he
     simp [e1,e2,e3] at h
theorem msgB_bc {m:Msg} (h:msgN m=false) (hk:m.k=66∨m.k=67):msgB m m.own=(rlB m.r Rl0&&evB m.e Ev0):=by
 obtain ⟨k,x,st,n,r,e⟩:=m
 unfold msgN at h
 dsimp only at h hk⊢
 rcases hk with rfl|rfl
 ·have:n=0:=by simpa using h
  subst this
  unfold msgB Msg.own
  simp
 ·have:st=0:=by simpa using h
  subst this
  unfold msgB Msg.own
  simp
theorem msgB_r {m:Msg} (h:msgN m=false) (hk:m.k=82):msgB m m.own=evB m.e Ev0:=by
 obtain ⟨k,x,st,n,r,e⟩:=m
 unfold msgN at h
 dsimp only at h hk⊢
 subst hk
 have:(x=0∧st=0)∧n=0:=by simpa using h
 obtain ⟨⟨rfl,rfl⟩,rfl⟩:=this
 unfold msgB Msg.own
 simp [rlB_true.2 rfl]
theorem msgB_e {m:Msg} (h:msgN m=false) (h1:m.k≠66) (h2:m.k≠67) (h3:m.k≠82):msgB m m.own=rlB m.r Rl0:=by
 obtain ⟨k,x,st,n,r,e⟩:=m
 unfold msgN at h
 dsimp only at h h1 h2 h3⊢
 have:(x=0∧st=0)∧n=0:=by simpa [h1,h2] using h
 obtain ⟨⟨rfl,rfl⟩,rfl⟩:=this
 unfold msgB Msg.own
 simp [h1,h2,h3,evB_true.2 rfl]
theorem mrright_anyU (p:ML) (ps:List RR) (a:Option Addr) (cap:Nat) (w:World) (hp:p.at 6 K.rc w) (hlen:p.r.r.cols.length≤1000) (hnm:p.r.r.nm.size≤9223372036854775807) (hcs:∀c∈p.r.r.cols,c.nm.size≤9223372036854775807)
 (hs:p.e.e.small) (hwk:p.e.e.wk) (hl:RL w (.slice a ps.length cap) ps) (hc:RCatU ps):
 Calls Tryz.prog 27 #[.slice a ps.length cap,p.agg] w fun e w' =>e= .returned (.int .i64 (msgE p.m (ps.map RR.r)))∧Ext w w' :=by
 have HL:=Hm (fun W=>rlet_any p.k W)
 have HK:=Hm (fun W=>rkind_any p.k W)
 have HS8:=Hm (fun W (h:Ext w W)=>rsame8_any p.r ⟨Rl0,none,0⟩ W (hp.1.ext h) (RR.in_zero W) hlen (by simp [Rl0]))
 have z:Ev0.small:=⟨by show 0≤_;omega,by show 0≤_;omega,by show 0≤_;omega⟩
 have HS3:=Hm (fun W (h:Ext w W)=>esame_any p.e ⟨Ev0,none,0,none,0,none,0⟩ W (hp.2.ext h) (EL.at_zero 6 K.rc W) hs z)
 have HR8:=Hm (fun W (h:Ext w W)=>rright8_any p.r.r.oid p.r.r.ver p.r.r.nm p.r.r.id p.r.r.cols p.r.a p.r.c W (hp.1.ext h) hlen hnm hcs)
 have HER:=Hm (fun W (h:Ext w W)=>reright_anyU p.e ps a cap W (hp.2.ext h) hs hwk (hl.ext h) hc)
 clear hp hlen hnm hcs hs hwk hl hc z
 dsimp only at HS8 HS3
 obtain ⟨B1,hB1⟩:∃B,B=rlB p.r.r Rl0:=⟨_,rfl⟩
 obtain ⟨B2,hB2⟩:∃B,B=evB p.e.e Ev0:=⟨_,rfl⟩
 rw [←hB1] at HS8
 rw [←hB2] at HS3
 have HB1:=Hm hB1
 have HB2:=Hm hB2
 clear hB1 hB2
 obtain ⟨k,x,st,n,⟨⟨o,v,nm,id,cols⟩,ca,cc⟩,⟨⟨kd,ao,av,old,b,aa,rs,fl⟩,ba,bc,aad,ac,ra,rc⟩⟩:=p
 unfold EL.agg at HER HS3
 unfold RR.agg at HS8
 rw [show (ML.agg (⟨k,x,st,n,⟨⟨o,v,nm,id,cols⟩,ca,cc⟩,⟨⟨kd,ao,av,old,b,aa,rs,fl⟩,ba,bc,aad,ac,ra,rc⟩⟩:ML))= .agg #[.int .u8 k, .int .u32 x, .int .u64 st, .int .u32 n, .int .u32 o, .int .u32 v, .string nm, .int .u8 id, .slice ca cols.length cc, .int .u8 kd, .int .u32 ao, .int .u32 av, .int .u8 old, .slice ba b.length bc, .slice aad aa.length ac, .slice ra rs.length rc, .int .u8 fl] from rfl]
 unfold ML.m
 unfold Rl0 at HS8
 unfold Ev0 at HS3
 dsimp only [List.length_nil] at HB1 HB2 HL HK HS8 HS3 HR8 HER⊢
 have HX:=Hm (Blk.new w #[.int .u8 k, .int .u32 x, .int .u64 st, .int .u32 n, .int .u32 o, .int .u32 v, .string nm, .int .u8 id, .slice ca cols.length cc, .int .u8 kd, .int .u32 ao, .int .u32 av, .int .u8 old, .slice ba b.length bc, .slice aad aa.length ac, .slice ra rs.length rc, .int .u8 fl] 49)
 by_cases hl:wlet k=false
 ·have HR:=Hm (show msgE (⟨k,x,st,n,⟨o,v,nm,id,cols⟩,⟨kd,ao,av,old,b,aa,rs,fl⟩⟩:Msg) (ps.map RR.r)=7 from if_pos hl)
  rw [hl] at HL
  clear HS8 HS3 HR8 HER HK
  go_enter Tryz.func27,Tryz.ntmps27
  go_wp2_with (go_at_call 49;refine (HL.out _).mono ?_;rintro e w1 ⟨rfl,rfl⟩)
  go_ret
  exact ⟨ret_int HR.out.symm,by exact eX⟩
 have HR1:=Hm (show msgE (⟨k,x,st,n,⟨o,v,nm,id,cols⟩,⟨kd,ao,av,old,b,aa,rs,fl⟩⟩:Msg) (ps.map RR.r)=_ from if_neg hl)
 have HWL:=Hm (show wlet k=true by simpa using hl)
 rw [HWL.out] at HL
 clear hl
 obtain ⟨m,hm⟩:∃m,m=wkind k:=⟨_,rfl⟩
 rw [←hm] at HK
 have HM:=Hm hm
 clear hm
 have HE1:=Hm (show Ext w (w.alloc (.cells #[.int .u8 k, .int .u32 x, .int .u64 st, .int .u32 n, .int .u32 o, .int .u32 v, .string nm, .int .u8 id, .slice ca cols.length cc, .int .u8 kd, .int .u32 ao, .int .u32 av, .int .u8 old, .slice ba b.length bc, .slice aad aa.length ac, .slice ra rs.length rc, .int .u8 fl] 49)) from (Ext.refl w).alloc _)
 go_enter Tryz.func27,Tryz.ntmps27
 go_upto_region 4 with (first
  |(go_at_call 49;refine (HL.out _).mono ?_;rintro e w1 ⟨rfl,rfl⟩)
  |(go_at_call 54;refine (HK.out _).mono ?_;rintro e w1 ⟨rfl,rfl⟩))
 obtain ⟨w1,hw1⟩:∃W,W=w.alloc (.cells #[.int .u8 k, .int .u32 x, .int .u64 st, .int .u32 n, .int .u32 o, .int .u32 v, .string nm, .int .u8 id, .slice ca cols.length cc, .int .u8 kd, .int .u32 ao, .int .u32 av, .int .u8 old, .slice ba b.length bc, .slice aad aa.length ac, .slice ra rs.length rc, .int .u8 fl] 49):=⟨_,rfl⟩
 rw [←hw1] at HX HE1⊢
 obtain ⟨X,hX⟩:∃X,X=w.heap.size:=⟨_,rfl⟩
 rw [←hX] at HX⊢
 clear hw1 hX
 have gX:=HX.out.cell
 have zX:=HX.out.lt
 go_cut [46] (fun c wx=>c= .bool (msgN (⟨k,x,st,n,⟨o,v,nm,id,cols⟩,⟨kd,ao,av,old,b,aa,rs,fl⟩⟩:Msg))∧Hid (Ext w1 wx))
 case first=>
  by_cases q1:k=66
  ·have q1' :(k !=66)=false:=by simpa using q1
   have q2' :(k !=67)=true:=by subst q1;rfl
   by_cases qn:n=0
   ·have qn' :(n !=0)=false:=by simpa using qn
    go_wp2
    go_meet
    case rel=>exact ⟨by unfold msgN;simp [q1,qn],Hm (by exact eX)⟩
   ·have qn' :(n !=0)=true:=by simpa using qn
    go_wp2
    go_meet
    case rel=>exact ⟨by unfold msgN;simp [q1,qn],Hm (by exact eX)⟩
  have q1' :(k !=66)=true:=by simpa using q1
  by_cases q2:k=67
  ·have q2' :(k !=67)=false:=by simpa using q2
   by_cases qn:st=0
   ·have qn' :(st !=0)=false:=by simpa using qn
    go_wp2
    go_meet
    case rel=>exact ⟨by unfold msgN;simp [q2,qn],Hm (by exact eX)⟩
   ·have qn' :(st !=0)=true:=by simpa using qn
    go_wp2
    go_meet
    case rel=>exact ⟨by unfold msgN;simp [q2,qn],Hm (by exact eX)⟩
  have q2' :(k !=67)=true:=by simpa using q2
  by_cases qx:x=0
  ·have qx' :(x !=0)=false:=by simpa using qx
   by_cases qs:st=0
   ·have qs' :(st !=0)=false:=by simpa using qs
    by_cases qn:n=0
    ·have qn' :(n !=0)=false:=by simpa using qn
     go_wp2
     go_meet
     case rel=>exact ⟨by unfold msgN;simp [q1,q2,qx,qs,qn],Hm (by exact eX)⟩
    ·have qn' :(n !=0)=true:=by simpa using qn
     go_wp2
     go_meet
     case rel=>exact ⟨by unfold msgN;simp [q1,q2,qx,qs,qn],Hm (by exact eX)⟩
   ·have qs' :(st !=0)=true:=by simpa using qs
    go_wp2
    go_meet
    case rel=>exact ⟨by unfold msgN;simp [q1,q2,qx,qs],Hm (by exact eX)⟩
  ·have qx' :(x !=0)=true:=by simpa using qx
   go_wp2
   go_meet
   case rel=>exact ⟨by unfold msgN;simp [q1,q2,qx],Hm (by exact eX)⟩
 case rest=>
 obtain ⟨rfl,HE4⟩:=hcut
 have HEw:=Hm (HE1.out.trans HE4.out)
 have HX4:=Hm (HX.out.ext HE4.out)
 clear gX zX HX HE1 HE4
 have gX:=HX4.out.cell
 have zX:=HX4.out.lt
 cases hN:msgN (⟨k,x,st,n,⟨o,v,nm,id,cols⟩,⟨kd,ao,av,old,b,aa,rs,fl⟩⟩:Msg) with
 |true=>
  have HR:=Hm (show msgE (⟨k,x,st,n,⟨o,v,nm,id,cols⟩,⟨kd,ao,av,old,b,aa,rs,fl⟩⟩:Msg) (ps.map RR.r)=3 from by rw [HR1.out,if_pos (msgN_own hN)])
  clear hN HR1
  go_wp2
  go_ret
  exact ⟨ret_int HR.out.symm,HEw.out⟩
 |false=>
  by_cases qb:k=66∨k=67
  ·have HB:=Hm (show msgB (⟨k,x,st,n,⟨o,v,nm,id,cols⟩,⟨kd,ao,av,old,b,aa,rs,fl⟩⟩:Msg) (Msg.own (⟨k,x,st,n,⟨o,v,nm,id,cols⟩,⟨kd,ao,av,old,b,aa,rs,fl⟩⟩:Msg))=(rlB (⟨o,v,nm,id,cols⟩:Rl) Rl0&&evB (⟨kd,ao,av,old,b,aa,rs,fl⟩:Ev) Ev0) from msgB_bc hN qb)
   have HR2:=Hm (fun (h:msgB (⟨k,x,st,n,⟨o,v,nm,id,cols⟩,⟨kd,ao,av,old,b,aa,rs,fl⟩⟩:Msg) (Msg.own (⟨k,x,st,n,⟨o,v,nm,id,cols⟩,⟨kd,ao,av,old,b,aa,rs,fl⟩⟩:Msg))≠false)=>show msgE (⟨k,x,st,n,⟨o,v,nm,id,cols⟩,⟨kd,ao,av,old,b,aa,rs,fl⟩⟩:Msg) (ps.map RR.r)=if x=0 then 4 else 0 from by rw [HR1.out,if_neg h,if_pos qb])
   obtain rfl:m=0:=by rw [HM.out];rcases qb with rfl|rfl<;>rfl
   have q3' :(k !=82)=true:=by rcases qb with rfl|rfl<;>rfl
   have q3'' :(k==82)=false:=by rcases qb with rfl|rfl<;>rfl
   clear qb hN
   rw [HB.out] at HR1 HR2
   rw [←HB1.out,←HB2.out] at HR1 HR2
   clear HB1 HB2
   cases B1
   ·have HR:=Hm (show msgE (⟨k,x,st,n,⟨o,v,nm,id,cols⟩,⟨kd,ao,av,old,b,aa,rs,fl⟩⟩:Msg) (ps.map RR.r)=3 from by rw [HR1.out];simp)
    clear HR1 HR2 HB
    go_wp2_with (go_at_call 58;refine (HS8.out _ (HEw.out.trans (by exact eX))).mono ?_;rintro e w5 ⟨rfl,hb5⟩)
    go_ret
    exact ⟨ret_int HR.out.symm,HEw.out.trans (by exact eX)⟩
   cases B2
   ·have HR:=Hm (show msgE (⟨k,x,st,n,⟨o,v,nm,id,cols⟩,⟨kd,ao,av,old,b,aa,rs,fl⟩⟩:Msg) (ps.map RR.r)=3 from by rw [HR1.out];simp)
    clear HR1 HR2 HB
    go_wp2_with (first
     |(go_at_call 58;refine (HS8.out _ (HEw.out.trans (by exact eX))).mono ?_;rintro e w5 ⟨rfl,hb5⟩;have HB5:=Hm hb5;clear gX zX;have gX:=(HX4.out.ext hb5).cell;have zX:=(HX4.out.ext hb5).lt)
     |(go_at_call 59;refine (HS3.out _ (HEw.out.trans HB5.out)).mono ?_;rintro e w6 ⟨rfl,hb6⟩))
    go_ret
    exact ⟨ret_int HR.out.symm,HEw.out.trans (HB5.out.trans (by exact eX))⟩
   have HR3:=Hm (HR2.out (by simp))
   clear HR1 HR2 HB
   by_cases qx:x=0
   ·have qx' :(x==0)=true:=by simpa using qx
    have HR:=Hm (HR3.out.trans (if_pos qx))
    clear qx HR3
    go_wp2_with (first
     |(go_at_call 58;refine (HS8.out _ (HEw.out.trans (by exact eX))).mono ?_;rintro e w5 ⟨rfl,hb5⟩;have HB5:=Hm hb5;clear gX zX;have gX:=(HX4.out.ext hb5).cell;have zX:=(HX4.out.ext hb5).lt)
     |(go_at_call 59;refine (HS3.out _ (HEw.out.trans HB5.out)).mono ?_;rintro e w6 ⟨rfl,hb6⟩;clear gX zX;have gX:=(HX4.out.ext (HB5.out.trans hb6)).cell;have zX:=(HX4.out.ext (HB5.out.trans hb6)).lt))
    go_ret
    exact ⟨ret_int HR.out.symm,HEw.out.trans (HB5.out.trans (by exact eX))⟩
   ·have qx' :(x==0)=false:=by simpa using qx
    have HR:=Hm (HR3.out.trans (if_neg qx))
    clear qx HR3
    go_wp2_with (first
     |(go_at_call 58;refine (HS8.out _ (HEw.out.trans (by exact eX))).mono ?_;rintro e w5 ⟨rfl,hb5⟩;have HB5:=Hm hb5;clear gX zX;have gX:=(HX4.out.ext hb5).cell;have zX:=(HX4.out.ext hb5).lt)
     |(go_at_call 59;refine (HS3.out _ (HEw.out.trans HB5.out)).mono ?_;rintro e w6 ⟨rfl,hb6⟩;clear gX zX;have gX:=(HX4.out.ext (HB5.out.trans hb6)).cell;have zX:=(HX4.out.ext (HB5.out.trans hb6)).lt))
    go_ret
    exact ⟨ret_int HR.out.symm,HEw.out.trans (HB5.out.trans (by exact eX))⟩
  have h1:k≠66:=fun h=>qb (.inl h)
  have h2:k≠67:=fun h=>qb (.inr h)
  by_cases h3:k=82
  ·have HB:=Hm (show msgB (⟨k,x,st,n,⟨o,v,nm,id,cols⟩,⟨kd,ao,av,old,b,aa,rs,fl⟩⟩:Msg) (Msg.own (⟨k,x,st,n,⟨o,v,nm,id,cols⟩,⟨kd,ao,av,old,b,aa,rs,fl⟩⟩:Msg))=evB (⟨kd,ao,av,old,b,aa,rs,fl⟩:Ev) Ev0 from msgB_r hN h3)
   have HR2:=Hm (fun (h:msgB (⟨k,x,st,n,⟨o,v,nm,id,cols⟩,⟨kd,ao,av,old,b,aa,rs,fl⟩⟩:Msg) (Msg.own (⟨k,x,st,n,⟨o,v,nm,id,cols⟩,⟨kd,ao,av,old,b,aa,rs,fl⟩⟩:Msg))≠false)=>show msgE (⟨k,x,st,n,⟨o,v,nm,id,cols⟩,⟨kd,ao,av,old,b,aa,rs,fl⟩⟩:Msg) (ps.map RR.r)=Rl.right (⟨o,v,nm,id,cols⟩:Rl) from by rw [HR1.out,if_neg h,if_neg qb,if_pos h3])
   obtain rfl:m=0:=by rw [HM.out,h3];rfl
   have q3' :(k !=82)=false:=by simpa using h3
   have q3'' :(k==82)=true:=by simpa using h3
   clear qb hN h1 h2 h3
   rw [HB.out] at HR1 HR2
   rw [←HB2.out] at HR1 HR2
   clear HB1 HB2
   cases B2
   ·have HR:=Hm (show msgE (⟨k,x,st,n,⟨o,v,nm,id,cols⟩,⟨kd,ao,av,old,b,aa,rs,fl⟩⟩:Msg) (ps.map RR.r)=3 from by rw [HR1.out];simp)
    clear HR1 HR2 HB
    go_wp2_with (go_at_call 59;refine (HS3.out _ (HEw.out.trans (by exact eX))).mono ?_;rintro e w6 ⟨rfl,hb6⟩)
    go_ret
    exact ⟨ret_int HR.out.symm,HEw.out.trans (by exact eX)⟩
   have HR:=Hm (HR2.out (by simp))
   clear HR1 HR2 HB
   go_wp2_with (first
    |(go_at_call 59;refine (HS3.out _ (HEw.out.trans (by exact eX))).mono ?_;rintro e w5 ⟨rfl,hb5⟩;have HB5:=Hm hb5;clear gX zX;have gX:=(HX4.out.ext hb5).cell;have zX:=(HX4.out.ext hb5).lt)
    |(go_at_call 60;refine (HR8.out _ (HEw.out.trans HB5.out)).mono ?_;rintro e w6 ⟨rfl,hb6⟩))
   go_ret
   exact ⟨ret_int HR.out.symm,HEw.out.trans (HB5.out.trans (by exact eX))⟩
  have HB:=Hm (show msgB (⟨k,x,st,n,⟨o,v,nm,id,cols⟩,⟨kd,ao,av,old,b,aa,rs,fl⟩⟩:Msg) (Msg.own (⟨k,x,st,n,⟨o,v,nm,id,cols⟩,⟨kd,ao,av,old,b,aa,rs,fl⟩⟩:Msg))=rlB (⟨o,v,nm,id,cols⟩:Rl) Rl0 from msgB_e hN h1 h2 h3)
  have HR2:=Hm (fun (h:msgB (⟨k,x,st,n,⟨o,v,nm,id,cols⟩,⟨kd,ao,av,old,b,aa,rs,fl⟩⟩:Msg) (Msg.own (⟨k,x,st,n,⟨o,v,nm,id,cols⟩,⟨kd,ao,av,old,b,aa,rs,fl⟩⟩:Msg))≠false)=>show msgE (⟨k,x,st,n,⟨o,v,nm,id,cols⟩,⟨kd,ao,av,old,b,aa,rs,fl⟩⟩:Msg) (ps.map RR.r)=if kd≠wkind k then 7 else evE (⟨kd,ao,av,old,b,aa,rs,fl⟩:Ev) (ps.map RR.r) from by rw [HR1.out,if_neg h,if_neg qb,if_neg h3])
  have m0:0<m:=by rw [HM.out];exact wkind_let HWL.out h1 h2 h3
  have q3' :(k !=82)=true:=by simpa using h3
  have q3'' :(k==82)=false:=by simpa using h3
  rw [←HM.out] at HR2
  clear qb hN h1 h2 h3
  rw [HB.out] at HR1 HR2
  rw [←HB1.out] at HR1 HR2
  clear HB1 HB2
  cases B1
  ·have HR:=Hm (show msgE (⟨k,x,st,n,⟨o,v,nm,id,cols⟩,⟨kd,ao,av,old,b,aa,rs,fl⟩⟩:Msg) (ps.map RR.r)=3 from by rw [HR1.out];simp)
   clear HR1 HR2 HB
   go_wp2_with (go_at_call 58;refine (HS8.out _ (HEw.out.trans (by exact eX))).mono ?_;rintro e w5 ⟨rfl,hb5⟩)
   go_ret
   exact ⟨ret_int HR.out.symm,HEw.out.trans (by exact eX)⟩
  have HR3:=Hm (HR2.out (by simp))
  clear HR1 HR2 HB
  go_upto_region 14 with (go_at_call 58;refine (HS8.out _ (HEw.out.trans (by exact eX))).mono ?_;rintro e w5 ⟨rfl,hb5⟩;have HB5:=Hm hb5;clear gX zX;have gX:=(HX4.out.ext hb5).cell;have zX:=(HX4.out.ext hb5).lt)
  have hA0:Hid ((fun w' =>Ext (w5) w'∧(∀b o,b<(w5).heap.size→w'.cell? ⟨b,o,none⟩=(w5).cell? ⟨b,o,none⟩)∧(∀b o,b<(w5).heap.size→w'.frozen? ⟨b,o,none⟩=(w5).frozen? ⟨b,o,none⟩)) w5.drew):=held_of (by exact eX)
  refine wp_region_head 6 (fun w' =>Ext (w5) w'∧(∀b o,b<(w5).heap.size→w'.cell? ⟨b,o,none⟩=(w5).cell? ⟨b,o,none⟩)∧(∀b o,b<(w5).heap.size→w'.frozen? ⟨b,o,none⟩=(w5).frozen? ⟨b,o,none⟩)) (by kernel_rfl) (by decide) ?_
  refine HG.on 0 79 hA0.out ?_
  try simp only [Act.put,List.setIfInBounds_toArray,List.set_cons_zero,List.set_cons_succ]
  refine HG.on 1 80 hA0.out ?_
  try simp only [Act.put,List.setIfInBounds_toArray,List.set_cons_zero,List.set_cons_succ]
  refine HG.on 2 81 hA0.out ?_
  try simp only [Act.put,List.setIfInBounds_toArray,List.set_cons_zero,List.set_cons_succ]
  refine HG.on 3 82 hA0.out ?_
  try simp only [Act.put,List.setIfInBounds_toArray,List.set_cons_zero,List.set_cons_succ]
  refine HG.on 4 83 hA0.out ?_
  try simp only [Act.put,List.setIfInBounds_toArray,List.set_cons_zero,List.set_cons_succ]
  refine wpHd_one (i:=5) rfl rfl (by kernel_rfl) (fun KK hK=> ?_)
  go_simp
  refine (HK.out _).mono ?_
  rintro e w6 ⟨rfl,rfl⟩
  refine hK.out _ _ hA0.out (fun hA=> ?_)
  clear hK KK hA
  refine wpHd_tail (by kernel_rfl) ?_
  simp only [List.drop_succ_cons,List.drop_zero]
  have HE6:=Hm (show Ext w w5.drew from HEw.out.trans (HB5.out.trans (by exact eX)))
  clear hA0
  by_cases q4:kd=m
  ·have q4' :(kd !=m)=false:=by simpa using q4
   have HR:=Hm (HR3.out.trans (if_neg (fun h=>h q4)))
   clear q4 HR3
   go_wp2_with (go_at_call 61;refine (HER.out _ (HE6.out.trans (by exact eX))).mono ?_;rintro e w7 ⟨rfl,hb7⟩)
   go_ret
   exact ⟨ret_int HR.out.symm,HE6.out.trans (by exact eX)⟩
  ·have q4' :(kd !=m)=true:=by simpa using q4
   have HR:=Hm (HR3.out.trans (if_pos q4))
   clear q4 HR3
   go_wp2
   go_ret
   exact ⟨ret_int HR.out.symm,HE6.out.trans (by exact eX)⟩
end Go.Proofs.YtgmphpccpfaapaaGreatDoor
