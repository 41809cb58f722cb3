/-
All refs that transactions use: the reference's Used.
-/
import Derived.Test.YtgmphpccpfaapaaGreatDoorP41
import Derived.Test.YtgmphpccpfaapaaGreatDoorP38
import Derived.Test.YtgmphpccpfaapaaGreatDoorP33
set_option maxRecDepth 100000
set_option maxHeartbeats 16000000
namespace Go.Proofs.YtgmphpccpfaapaaGreatDoor
open Go.RowKit
theorem rf_len (l:List Rf):∀xs∈l.map Rf.cells,xs.length=2:=by
 intro xs hxs
 rw [List.mem_map] at hxs
 obtain ⟨p,_,rfl⟩:=hxs
 rfl
theorem rused_any (ts:List TL) (a:Option Addr) (c:Nat) (w:World) (ht:TS 6 K.rc w (.slice a ts.length c) ts) (hn:ts.length≤1000) (hm:∀t∈ts,t.es.length≤1000) (hs:∀t∈ts,∀e∈t.es,e.e.rs.length≤1000):
 Calls Tryz.prog 13 #[.slice a ts.length c] w fun e w' =>∃a' n c',e= .returned (.slice a' n c')∧n=(usedL (ts.map TL.t)).length∧Sl w' (.slice a' n c') 2 ((usedL (ts.map TL.t)).map Rf.cells)∧Ext w w' :=by
 have HT:=Hm ht
 have HM:=Hm hm
 have HLN:Hid (∀k,k≤ts.length→(usesTs ((ts.take k).map TL.t)).length≤1000000000):=Hm (fun k hk=>by
  have h:=usesTs_len (M:=1000) (L:=1000) (by decide) (ts:=(ts.take k).map TL.t) (fun t ht=>by
   obtain ⟨x,hx,rfl⟩:=List.mem_map.1 ht
   have hx:=List.mem_of_mem_take hx
   refine ⟨by show (x.es.map EL.e).length≤1000;rw [List.length_map];exact hm x hx,fun e he=> ?_⟩
   obtain ⟨y,hy,rfl⟩:=List.mem_map.1 he
   exact hs x hx y hy)
  rw [List.length_map,List.length_take] at h
  omega)
 clear ht hm hs
 go_enter Tryz.func13,Tryz.ntmps13
 go_wp2
 go_loopg [3,4] ts.length (fun z v i wr=>∃(k:Nat) (a' :Option Addr) (m c' :Nat),z+k=ts.length∧i= .int .i64 k∧v= .slice a' m c'∧Hid (m=(putRs [] (usesTs ((ts.take k).map TL.t))).length)∧Hid (Sl wr (.slice a' m c') 2 ((putRs [] (usesTs ((ts.take k).map TL.t))).map Rf.cells))∧Hid (Ext w wr))
 case atStart=>exact ⟨0,none,0,0,by omega,rfl,rfl,Hm rfl,Hm ⟨none,0,rfl, .inl rfl⟩,Hm (Ext.refl _)⟩
 case round=>
  obtain ⟨k,a',m',c',hzk,rfl,rfl,hml,hown,hE⟩:=hrel
  by_cases hlt:k<ts.length
  ·obtain ⟨b,o,rfl,hb,hx⟩:=HT.out.row.at_ (i:=k) (by simpa using hlt)
   have HF:=Hm (fun W (h:Ext w W)=>TL.at_ hlt hx hb h)
   have HES:=Hm (HT.out.sl _ (List.getElem_mem hlt))
   have HMM:=Hm (HM.out _ (List.getElem_mem hlt))
   have HTK:Hid (usesTs ((ts.take (k+1)).map TL.t)=usesTs ((ts.take k).map TL.t)++usesEs (ts[k].es.map EL.e)):=Hm (by rw [List.take_succ_eq_append_getElem hlt,List.map_append];exact usesTs_snoc _ _)
   have HLK:=Hm (HLN.out (k+1) hlt)
   obtain ⟨q,hq⟩:∃q,q=usesTs ((ts.take k).map TL.t):=⟨_,rfl⟩
   rw [←hq] at hown hml HTK
   obtain ⟨t,hte⟩:∃t,t=ts[k]:=⟨_,rfl⟩
   rw [←hte] at HF HES HMM HTK
   have HLT:=Hm hlt
   have HBB:=Hm hb
   clear hte hx hb hq
   obtain ⟨xid,st,es,ta,tc⟩:=t
   simp only at HF HMM HTK
   have HES2:Hid (ES 6 K.rc w (.slice ta es.length tc) es):=HES
   rw [HTK.out,List.length_append] at HLK
   clear HES
   obtain ⟨wo,hwo⟩:∃x,x=wr:=⟨_,rfl⟩
   subst hwo
   go_wp2
   go_loopg [3,5] es.length (fun z2 v i wr=>∃(n:Nat) (a2:Option Addr) (m2 c2:Nat),z2+n=es.length∧i= .int .i64 n∧v= .slice a2 m2 c2∧Hid (m2=(putRs [] (q++usesEs ((es.take n).map EL.e))).length)∧Hid (Sl wr (.slice a2 m2 c2) 2 ((putRs [] (q++usesEs ((es.take n).map EL.e))).map Rf.cells))∧Hid (Ext w wr))
   case atStart=>exact ⟨0,a',m',c',by omega,rfl,rfl,by rw [show usesEs ((es.take 0).map EL.e)= [] from rfl,List.append_nil];exact hml,by rw [show usesEs ((es.take 0).map EL.e)= [] from rfl,List.append_nil];exact hown,hE⟩
   case round=>
    obtain ⟨n,a2,m2,c2,hzn,rfl,rfl,hm2,hO,hK⟩:=hrel
    obtain ⟨f0,f1,f2⟩:=HF.out wr hK.out
    have hbw:b<wr.heap.size:=Nat.lt_of_lt_of_le HBB.out hK.out.size
    by_cases hlt2:n<es.length
    ·obtain ⟨b2,o2,rfl,hb2,hx2⟩:=HES2.out.row.at_ (i:=n) (by simpa using hlt2)
     obtain ⟨g0,g1,g2,g3,g4,g5,g6,g7⟩:=EL.at_ hlt2 hx2 hb2 hK.out
     have hbw2:b2<wr.heap.size:=Nat.lt_of_lt_of_le hb2 hK.out.size
     have HTN:Hid (usesEs ((es.take (n+1)).map EL.e)=usesEs ((es.take n).map EL.e)++usesE es[n].e):=Hm (by rw [List.take_succ_eq_append_getElem hlt2,List.map_append];exact usesEs_snoc _ _)
     have HLN2:Hid (q.length+(usesEs ((es.take n).map EL.e)).length+(usesE es[n].e).length≤1000000000):=Hm (by
      have h1:es.map EL.e=(es.take (n+1)).map EL.e++(es.drop (n+1)).map EL.e:=by rw [←List.map_append,List.take_append_drop]
      have h2:usesEs (es.map EL.e)=usesEs ((es.take (n+1)).map EL.e)++usesEs ((es.drop (n+1)).map EL.e):=by
       conv=>lhs;rw [h1]
       unfold usesEs;rw [List.map_append,List.flatten_append]
      have h3:=HLK.out
      rw [h2,HTN.out,List.length_append,List.length_append] at h3
      omega)
     have HUS:=Hm (fun W (h:Ext w W)=>reuses_any es[n] W ((HES2.out.sl _ (List.getElem_mem hlt2)).ext h))
     obtain ⟨p,hp⟩:∃p,p=usesEs ((es.take n).map EL.e):=⟨_,rfl⟩
     rw [←hp] at HTN HLN2 hO hm2
     obtain ⟨x,hxx⟩:∃x,x=es[n]:=⟨_,rfl⟩
     rw [←hxx] at g0 g1 g2 g3 g4 g5 g6 g7 HTN HLN2 HUS
     have HLT2:=Hm hlt2
     clear hxx hp hx2
     obtain ⟨⟨k1,ao1,av1,old1,b1,a1,r1,fl1⟩,ba1,bc1,aa1,ac1,ra1,rc1⟩:=x
     unfold EL.agg at HUS
     simp only at g0 g1 g2 g3 g4 g5 g6 g7 HUS HTN HLN2
     obtain ⟨U,hU⟩:∃U,U=usesE ⟨k1,ao1,av1,old1,b1,a1,r1,fl1⟩:=⟨_,rfl⟩
     rw [←hU] at HUS HTN HLN2
     clear hU
     have hml2:=HMM.out
     have hlk:=HLT.out
     obtain ⟨wv,hwv⟩:∃x,x=wr:=⟨_,rfl⟩
     subst hwv
     go_wp2_with (go_at_call 12;refine (HUS.out _ hK.out).mono ?_;rintro e w3 ⟨a3,n3,c3,rfl,rfl,ho3,hb3⟩;have HO3:=Hm ho3;have HB3:=Hm (hK.out.trans hb3);have HX3:=Hm hb3;clear ho3 hb3)
     clear f0 f1 f2 g0 g1 g2 g3 g4 g5 g6 g7
     go_loopg [3,7] U.length (fun z3 v i wr=>∃(j:Nat) (a4:Option Addr) (m4 c4:Nat),z3+j=U.length∧i= .int .i64 j∧v= .slice a4 m4 c4∧Hid (m4=(putRs [] (q++p++U.take j)).length)∧Hid (Sl wr (.slice a4 m4 c4) 2 ((putRs [] (q++p++U.take j)).map Rf.cells))∧Hid (Ext w3 wr))
     case atStart=>exact ⟨0,a2,m2,c2,by omega,rfl,rfl,by rw [List.take_zero,List.append_nil];exact hm2,by rw [List.take_zero,List.append_nil];exact Hm (hO.out.ext HX3.out),Hm (Ext.refl _)⟩
     case round=>
      obtain ⟨j,a4,m4,c4,hzj,rfl,rfl,hm4,hO4,hK4⟩:=hrel
      by_cases hlt3:j<U.length
      ·obtain ⟨b5,o5,rfl,hb5,hx5⟩:=HO3.out.at_ (i:=j) (by simpa using hlt3)
       obtain ⟨r0,r1'⟩:=Rf.at_ hlt3 hx5 hb5 hK4.out
       have hbw5:b5<wr.heap.size:=Nat.lt_of_lt_of_le hb5 hK4.out.size
       have HPL:=Hm (show putRs [] (q++p++U.take (j+1))=putF U[j] (putRs [] (q++p++U.take j)) by rw [List.take_succ_eq_append_getElem hlt3,←List.append_assoc,putRs_snoc])
       have hb10:(putRs [] (q++p++U.take j)).length≤1000000000:=by
        have h1:=putRs_len (q++p++U.take j) []
        have h2:=HLN2.out
        rw [List.length_append,List.length_append,List.length_take] at h1
        simp only [List.length_nil] at h1
        omega
       have hsl:=hO4.out
       rw [hm4.out] at hsl
       have HPF:=Hm (rputf_any (putRs [] (q++p++U.take j)) U[j] a4 c4 wr hsl hb10)
       rw [←hm4.out,←HPL.out] at HPF
       obtain ⟨x,hxx⟩:∃x,x=U[j]:=⟨_,rfl⟩
       rw [←hxx] at r0 r1' HPF
       have HL3:=Hm hlt3
       have hjU:U.length≤1000000000:=by have:=HLN2.out;omega
       clear hxx hx5 HPL hb10 hsl
       go_wp2_with (go_at_call 28;refine HPF.out.mono ?_;rintro e w5 ⟨a6,n6,c6,rfl,hn6,ho6,hb6⟩;have HN6:=Hm hn6;have HO6:=Hm ho6;have HB6:=Hm (hK4.out.trans hb6);clear hn6 ho6 hb6)
       go_roundg (U.length - (j+1))
       case measure=>have:=HL3.out;omega
       case rel=>
        refine ⟨j+1,a6,n6,c6,Nat.sub_add_cancel HL3.out,by go_num,rfl,HN6,Hm (Sl.of_owns (base:=wr.heap.size) (e:=41) ?_ (rf_len _)),HB6⟩
        rw [List.length_map,←HN6.out];exact HO6.out
      ·obtain rfl:j=U.length:=by omega
       rw [List.take_length,List.append_assoc,←HTN.out] at hm4 hO4
       go_wp2
       go_roundg (es.length - (n+1))
       case measure=>have:=HLT2.out;omega
       case rel=>exact ⟨n+1,a4,m4,c4,Nat.sub_add_cancel HLT2.out,by go_num,rfl,hm4,hO4,Hm (HB3.out.trans hK4.out)⟩
    ·obtain rfl:n=es.length:=by omega
     rw [List.take_length,←HTK.out] at hm2 hO
     have hlk:=HLT.out
     go_wp2
     go_roundg (ts.length - (k+1))
     case measure=>have:=HLT.out;omega
     case rel=>exact ⟨k+1,a2,m2,c2,Nat.sub_add_cancel HLT.out,by go_num,rfl,hm2,hO,hK⟩
  ·obtain rfl:k=ts.length:=by omega
   rw [List.take_length] at hown hml
   go_wp2
   go_ret
   exact ⟨a',m',c',rfl,hml.out,hown.out,hE.out⟩
theorem refsW_at {l:List Rf} {k:Nat} (h:k<l.length):refsW (l.drop k)=refW l[k].o l[k].v++refsW (l.drop (k+1)):=by
 rw [List.drop_eq_getElem_cons h];rfl
theorem PS.startA {w:World} {g:Nat} {l:List Int} (h:Rd w g (strOfNums l)) (A:Array Value):PS w g l A ((w.alloc (.cells #[.int .u8 0, .int .u32 0, .int .u64 0, .int .u32 0, .int .u32 0, .int .u32 0, .string ⟨#[]⟩, .int .u8 0, .slice none 0 0, .int .u8 0, .int .u32 0, .int .u32 0, .int .u8 0, .slice none 0 0, .slice none 0 0, .slice none 0 0, .int .u8 0] 49)).alloc (.cells A 49)):=
 ⟨(h.alloc _).alloc _,Blk.new' _ _ (by simp),(Blk.new w #[.int .u8 0, .int .u32 0, .int .u64 0, .int .u32 0, .int .u32 0, .int .u32 0, .string ⟨#[]⟩, .int .u8 0, .slice none 0 0, .int .u8 0, .int .u32 0, .int .u32 0, .int .u8 0, .slice none 0 0, .slice none 0 0, .slice none 0 0, .int .u8 0] 49).alloc _,Kp.of_ext (((Ext.refl w).alloc _).alloc _),h.lt⟩
theorem pbodyT_any (rs:List Rf) (fl:Int) (g:Nat) (cv:Value) (w:World) (h:Rd w g (strOfNums (octs rs.length 1++(octs fl 1++refsW rs)))) (hrs:∀r∈rs,B32 r.o∧B32 r.v) (hfl:0≤fl∧fl<256) (hn8:rs.length≤8):
 Calls Tryz.prog 25 #[.pointer (some ⟨g,0,none⟩),cv, .int .u8 84] w (BodyPost ⟨84,0,0,0,Rl0,⟨7,0,0,0, [], [],rs,fl⟩⟩ g w):=by
 have hg:=h.lt
 have hll:=refsW_len rs
 have HP1:=Hm (PS.startA h #[.int .u8 84, .int .u32 0, .int .u64 0, .int .u32 0, .int .u32 0, .int .u32 0, .string ⟨#[]⟩, .int .u8 0, .slice none 0 0, .int .u8 7, .int .u32 0, .int .u32 0, .int .u8 0, .slice none 0 0, .slice none 0 0, .slice none 0 0, .int .u8 0])
 have HCN:=Hm (fun W (h:Rd W g (strOfNums (octs rs.length 1++(octs fl 1++refsW rs))))=>show Calls Tryz.prog 51 #[.pointer (some ⟨g,0,none⟩), .int .u64 1] W (fun e w' =>e= .returned (.int .u64 rs.length)∧Rd w' g (strOfNums (octs fl 1++refsW rs))∧Kp (fun k=>k=g) W w') from pnumO_any g rs.length 1 _ W h (by rw [List.length_append,octs_len];omega) (by omega) (by omega) (by omega))
 have HFL:=Hm (fun W (h:Rd W g (strOfNums (octs fl 1++refsW rs)))=>show Calls Tryz.prog 51 #[.pointer (some ⟨g,0,none⟩), .int .u64 1] W (fun e w' =>e= .returned (.int .u64 fl)∧Rd w' g (strOfNums (refsW rs))∧Kp (fun k=>k=g) W w') from pnumO_any g fl 1 _ W h (by omega) hfl.1 (by omega) (by omega))
 have HRF:=Hm (fun k (hk:k<rs.length) W (h:Rd W g (strOfNums (refsW (rs.drop k))))=>show Calls Tryz.prog 52 #[.pointer (some ⟨g,0,none⟩)] W (fun e w' =>e= .returned (.agg #[.int .u32 rs[k].o, .int .u32 rs[k].v])∧Rd w' g (strOfNums (refsW (rs.drop (k+1))))∧Kp (fun k=>k=g) W w') from by
  rw [refsW_at hk] at h
  exact pref_any g rs[k].o rs[k].v _ W h (hrs _ (List.getElem_mem hk)).1 (hrs _ (List.getElem_mem hk)).2 (by rw [refsW_len,List.length_drop];omega))
 have HTK:=Hm (fun k (hk:k<rs.length)=>List.take_succ_eq_append_getElem (l:=rs) hk)
 obtain ⟨n,hn⟩:∃n,n=rs.length:=⟨_,rfl⟩
 have HNL:=Hm hn
 rw [←hn] at HP1 HCN hn8
 have hnw:IntKind.i64.wrap (n:Int)=n:=by simp [IntKind.wrap,IntKind.signed,IntKind.bits];omega
 have hfw:IntKind.u8.wrap fl=fl:=by simp [IntKind.wrap,IntKind.signed,IntKind.bits];omega
 have hDN:Hid (refsW (rs.drop n)= []):=Hm (by rw [hn,List.drop_length];rfl)
 have hTN:Hid (rs.take n=rs):=Hm (by rw [hn,List.take_length])
 obtain ⟨i0,hi,hz0,hz1,hz2⟩:=info_parts Tryz.infoRRfS
 clear h hrs hfl hll hn
 go_enter Tryz.func25,Tryz.ntmps25
 go_upto_region 27 with (fail)
 obtain ⟨w1,hw1⟩:∃W,W=(w.alloc (.cells #[.int .u8 0, .int .u32 0, .int .u64 0, .int .u32 0, .int .u32 0, .int .u32 0, .string ⟨#[]⟩, .int .u8 0, .slice none 0 0, .int .u8 0, .int .u32 0, .int .u32 0, .int .u8 0, .slice none 0 0, .slice none 0 0, .slice none 0 0, .int .u8 0] 49)).alloc (.cells #[.int .u8 84, .int .u32 0, .int .u64 0, .int .u32 0, .int .u32 0, .int .u32 0, .string ⟨#[]⟩, .int .u8 0, .slice none 0 0, .int .u8 7, .int .u32 0, .int .u32 0, .int .u8 0, .slice none 0 0, .slice none 0 0, .slice none 0 0, .int .u8 0] 49):=⟨_,rfl⟩
 rw [←hw1] at HP1⊢
 clear hw1
 go_upto_region 28 with (go_at_call 51;refine (HCN.out _ HP1.out.r).mono ?_;rintro e w2 ⟨rfl,hr2,hk2⟩;have HP2:=Hm (HP1.out.call hr2 hk2);clear hr2 hk2 HCN HP1)
 go_upto_region 29 with (go_at_call 51;refine (HFL.out _ HP2.out.r).mono ?_;rintro e w3 ⟨rfl,hr3,hk3⟩;have HP3:=Hm (HP2.out.call hr3 hk3);have c3:=HP3.out.x.cell;have c3f:=HP3.out.x.frozen;have c3z:=HP3.out.x.lt;clear hr3 hk3 HFL HP2)
 have HP4:=Hm (HP3.out.set 16 (.int .u8 fl) (A' := #[.int .u8 84, .int .u32 0, .int .u64 0, .int .u32 0, .int .u32 0, .int .u32 0, .string ⟨#[]⟩, .int .u8 0, .slice none 0 0, .int .u8 7, .int .u32 0, .int .u32 0, .int .u8 0, .slice none 0 0, .slice none 0 0, .slice none 0 0, .int .u8 fl]) rfl)
 obtain ⟨w4,hw4⟩:∃W,W=w3.setCell ⟨w.heap.size+1,16,none⟩ (.int .u8 fl):=⟨_,rfl⟩
 rw [←hw4] at HP4⊢
 clear hw4 HP3 c3 c3f c3z
 go_wp2
 go_loopw [13] (fun i wr=>∃(k:Nat) (a:Option Addr) (cp:Nat),k≤n∧i= .int .i64 k∧Hid (PS w g (refsW (rs.drop k)) #[.int .u8 84, .int .u32 0, .int .u64 0, .int .u32 0, .int .u32 0, .int .u32 0, .string ⟨#[]⟩, .int .u8 0, .slice none 0 0, .int .u8 7, .int .u32 0, .int .u32 0, .int .u8 0, .slice none 0 0, .slice none 0 0, .slice a k cp, .int .u8 fl] wr)∧Hid (wr.ownsRow (w.heap.size+2) 41 2 (.slice a k cp) k (((rs.take k).map Rf.cells).flatten))) (fun i _=>n - (intOf i).toNat)
 case atStart=>exact ⟨0,none,0,Nat.zero_le _,rfl,HP4,Hm (World.ownsRow_nil _ _ _ _)⟩
 case round=>
  obtain ⟨k,a,cp,hk,rfl,hP,hO⟩:=hrel
  have r0:=hP.out.r.cell
  have r0z:=hP.out.r.lt
  have x0:=hP.out.x.cell
  have x0z:=hP.out.x.lt
  by_cases hlt:k<n
  ·have hkc:k<rs.length:=by rw [←HNL.out];exact hlt
   have HK3:=Hm (HRF.out k hkc)
   have HTS:=Hm (HTK.out k hkc)
   obtain ⟨c,hc⟩:∃c,c=rs[k]:=⟨_,rfl⟩
   rw [←hc] at HK3 HTS
   obtain ⟨ro,rv⟩:=c
   simp only at HK3
   clear hc
   go_upto_region 32 with (fail)
   have hne:=(show w.heap.size+1≠g from by have:=hP.out.g;omega)
   have x0f:=hP.out.x.frozen
   have hA0:Hid (SK g (w.heap.size+1) wr wr.drew):=Hm (SK.of (Kp.of_ext (Ext.refl wr).drew) hP.out.x hne)
   refine wp_region_head 6 (SK g (w.heap.size+1) wr) (by kernel_rfl) (by decide) ?_
   refine HG.on 0 118 hA0.out ?_
   try simp only [Act.put,List.setIfInBounds_toArray,List.set_cons_zero,List.set_cons_succ]
   refine HG.on 1 119 hA0.out ?_
   try simp only [Act.put,List.setIfInBounds_toArray,List.set_cons_zero,List.set_cons_succ]
   refine HG.on 2 120 hA0.out ?_
   try simp only [Act.put,List.setIfInBounds_toArray,List.set_cons_zero,List.set_cons_succ]
   refine HG.on 3 121 hA0.out ?_
   try simp only [Act.put,List.setIfInBounds_toArray,List.set_cons_zero,List.set_cons_succ]
   clear hA0
   refine wpHd_one (i:=4) rfl rfl (by kernel_rfl) (fun KK hK=> ?_)
   go_simp
   refine (HK3.out _ (hP.out.r.ext (Ext.refl wr).drew)).mono ?_
   rintro e w10 ⟨rfl,hr10,hk10⟩
   have HK9:Hid (Kp (fun k=>k=g) wr w10):=Hm ((Kp.of_ext (S:=fun k=>k=g) (Ext.refl wr).drew).trans hk10 (fun _ h _=>h))
   refine hK.out _ _ (SK.of HK9.out hP.out.x hne) (fun hA=> ?_)
   clear hK KK hA
   have HP10:=Hm (hP.out.call hr10 HK9.out)
   have HO10:=Hm (owns_kp hO.out HK9.out (fun b hb e=>by have:=(hO.out.lt b hb).1;have:=hP.out.g;omega))
   clear hr10 hk10
   refine wpHd_one (i:=5) rfl rfl (by kernel_rfl) (fun KK hK=> ?_)
   go_simp
   refine hK.out _ _ (SK.of (HK9.out.trans (Kp.of_ext (S:=fun k=>k=g) ((Ext.refl w10).alloc _)) (fun _ h _=>h)) hP.out.x hne) (fun hA=> ?_)
   clear hK KK hA
   refine wpHd_tail (by kernel_rfl) ?_
   simp only [List.drop_succ_cons,List.drop_zero]
   clear x0 x0f x0z r0 r0z HK9
   go_wp2_with (at_builtin;refine wpList_append_own _ rfl _ _ 37 rfl (w.heap.size+2) 41 i0 _ 2 8 Tryz.underlying37 hi hz0 hz1 hz2 rfl (by decide) _ _ _ rfl (HO10.out.alloc (.cells #[.int .u32 ro, .int .u32 rv] 41)) ⟨_,0,none⟩ 1 1 (Rf.cells ⟨ro,rv⟩) rfl rfl ?c1 ?c2 ?c3 ?c4 ?c5 ?_)
   case c1=>exact cells_new _ #[.int .u32 ro, .int .u32 rv] _
   case c2=>intro u hu;simp [Rf.cells] at hu;rcases hu with rfl|rfl<;>rfl
   case c3=>unfold maxLen;omega
   case c4=>omega
   case c5=>have:=HP10.out.x.lt;simp;omega
   intro v' w11 hown' hgrow _
   obtain ⟨a',c',rfl⟩:=owns_shape hown'
   have HO11:=Hm hown'
   have HP11:=Hm ((HP10.out.ext ((Ext.refl w10).alloc (.cells #[.int .u32 ro, .int .u32 rv] 41))).kp (Kp.of_grown hgrow) (fun x hx=>(HO10.out.lt x hx).1))
   clear hown' hgrow HO10 HP10
   have x11:=HP11.out.x.cell
   have x11f:=HP11.out.x.frozen
   have x11z:=HP11.out.x.lt
   go_wp2
   go_roundw
   case rel=>exact ⟨k+1,a',c',by omega,by go_num,Hm (HP11.out.set 15 (.slice a' (k+1) c') rfl),Hm (by rw [HTS.out,List.map_append,List.flatten_append];exact owns_set (by simpa using HO11.out) (by show w.heap.size+1<_;omega) _)⟩
   case measure=>simp [intOf];omega
  ·have hkk:k=n:=by omega
   subst hkk
   have HPN:Hid (PS w g [] #[.int .u8 84, .int .u32 0, .int .u64 0, .int .u32 0, .int .u32 0, .int .u32 0, .string ⟨#[]⟩, .int .u8 0, .slice none 0 0, .int .u8 7, .int .u32 0, .int .u32 0, .int .u8 0, .slice none 0 0, .slice none 0 0, .slice a k cp, .int .u8 fl] wr):=Hm (by rw [←hDN.out];exact hP.out)
   have HON:Hid (wr.ownsRow (w.heap.size+2) 41 2 (.slice a k cp) k ((rs.map Rf.cells).flatten)):=Hm (by have h:=hO.out;rw [hTN.out] at h;exact h)
   go_upto_region 33 with (fail)
   clear r0 r0z x0 x0z hP hO
   as_aux_lemma=>
    go_wp2_with (first
     |(refine wpList_load_to rfl 49 (.tmp 7) rfl _ _ ?e1 (PS.load HPN.out) ?_;(case e1=>go_simp))
     |(refine wpList_store_to rfl 49 (.tmp 6) (.tmp 127) rfl _ _ ?e1 ?e2 (PS.store HPN.out) ?_;(case e1=>go_simp);(case e2=>go_simp)))
    as_aux_lemma=>
     have hn:=HNL.out
     subst hn
     have hin:Sl wr (.slice a rs.length cp) 2 (rs.map Rf.cells):=Sl.of_owns (base:=w.heap.size+2) (e:=41) (by rw [List.length_map];exact HON.out) (rf_len rs)
     refine bodyPost_ret (res_pbody (Blk.c17 HPN.out.z) rfl) rfl ?_
     exact PS.done rfl HPN.out (p:=⟨84,0,0,0,R0,⟨⟨7,0,0,0, [], [],rs,fl⟩,none,0,none,0,a,cp⟩⟩) rfl rfl ⟨RR.in_zero _,⟨⟨none,0,rfl, .inl rfl⟩,⟨none,0,rfl, .inl rfl⟩,hin⟩⟩ ⟨fun h0=>absurd rfl h0,fun h0=>absurd rfl h0,fun h0=>absurd rfl h0,fun _ b o' e=>by subst e;exact (HON.out.lt b rfl).1⟩
structure ImOk (q:RR) (cs:List K):Prop where
 len:cs.length=q.r.cols.length
 n:cs.length≤16
 r:∀i (h:i<cs.length) (h2:i<q.r.cols.length),cs[i].right q.r.cols[i].ty=0
 tw:∀c∈cs,c.tw
theorem ImOk.le {q:RR} {cs:List K} (h:ImOk q cs):(cellsW cs).length≤48160:=by
 have h1:=cellsW_len cs (fun c hc=>⟨(h.tw c hc).n.1,by have:=(h.tw c hc).n.2;omega⟩)
 have:=h.n
 omega
theorem PS.slk {w W:World} {a:Option Addr} {n c k:Nat} {xss:List (List Value)} (hs:Sl W (.slice a n c) k xss) (hn:∀b o,a=some ⟨b,o,none⟩→w.heap.size+2≤b) (i:Nat) (v:Value):Sl (W.setCell ⟨w.heap.size+1,i,none⟩ v) (.slice a n c) k xss:=
 hs.kp (Kp.set (S:=fun k=>k=w.heap.size+1) ⟨w.heap.size+1,i,none⟩ v rfl) (fun _ b o e h=>by have:=hn b o e;have h:b=w.heap.size+1:=h;omega)
theorem kp_slk {w W W' :World} {g:Nat} (hk:Kp (fun k=>k=g) W W') (hg:g<w.heap.size) {a:Option Addr} {n c k:Nat} {xss:List (List Value)} (hs:Sl W (.slice a n c) k xss) (hn:∀b o,a=some ⟨b,o,none⟩→w.heap.size+2≤b):Sl W' (.slice a n c) k xss:=
 hs.kp hk (fun _ b o e h=>by have:=hn b o e;have h:b=g:=h;omega)
theorem pbodyI_any (kd ao av:Int) (a:List K) (q:RR) (g:Nat) (cv:Value) (w:World) (hkd:wkind 73=kd) (h:Rd w g (strOfNums (refW ao av++([78]++(octs a.length 1++(cellsW a++ [])))))) (ho:B32 ao) (hv:B32 av) (hia:ImOk q a)
 (hget:∀W,Kp (fun k=>k=g) w W→Calls Tryz.prog 55 #[cv, .agg #[.int .u32 ao, .int .u32 av]] W fun e w' =>e= .returned (.tuple #[q.agg, .bool true])∧Ext W w') (hqin:∀W,Kp (fun k=>k=g) w W→q.in W):
 Calls Tryz.prog 25 #[.pointer (some ⟨g,0,none⟩),cv, .int .u8 73] w (BodyPost ⟨73,0,0,0,Rl0,⟨kd,ao,av,0, [],a, [],0⟩⟩ g w):=by
 have hg:=h.lt
 have HP1:=Hm (PS.startA h #[.int .u8 73, .int .u32 0, .int .u64 0, .int .u32 0, .int .u32 0, .int .u32 0, .string ⟨#[]⟩, .int .u8 0, .slice none 0 0, .int .u8 kd, .int .u32 0, .int .u32 0, .int .u8 0, .slice none 0 0, .slice none 0 0, .slice none 0 0, .int .u8 0])
 have HKI:=Hm (fun W=>show Calls Tryz.prog 54 #[.int .u8 73] W (fun e w' =>e= .returned (.int .u8 kd)∧W=w') from by have h:=rkind_any 73 W;rw [hkd] at h;exact h)
 have la:=hia.le
 have na:=hia.n
 have HRF:=Hm (fun W (h:Rd W g (strOfNums (refW ao av++([78]++(octs a.length 1++(cellsW a++ []))))))=>pref_any g ao av _ W h ho hv (by simp only [List.length_append,List.length_singleton,List.length_nil,octs_len];omega))
 have HT1:=Hm (fun W (h:Rd W g (strOfNums ([78]++(octs a.length 1++(cellsW a++ [])))))=>show Calls Tryz.prog 56 #[.pointer (some ⟨g,0,none⟩), .int .u64 1] W (fun e w' =>e= .returned (.string ⟨#[78]⟩)∧Rd w' g (strOfNums (octs a.length 1++(cellsW a++ [])))∧Kp (fun k=>k=g) W w') from ptake_any g [78] _ W h (by simp only [List.length_append,List.length_singleton,List.length_nil,octs_len];omega))
 have HI1:=Hm (fun W (h:Rd W g (strOfNums (octs a.length 1++(cellsW a++ [])))) (hi:q.in W)=>show Calls Tryz.prog 57 #[.pointer (some ⟨g,0,none⟩),q.agg] W _ from pimage_any g q a ([]) W h hi hia.len hia.n hia.r hia.tw (by simp only [List.length_nil];omega))
 have HGT:=Hm hget
 have HQI:=Hm hqin
 clear h hget hqin ho hv hkd hia la na
 obtain ⟨⟨qo,qv,qn,qi,qc⟩,qa,qcap⟩:=q
 unfold RR.agg at HGT HI1
 simp only at HGT HI1
 go_enter Tryz.func25,Tryz.ntmps25
 go_upto_region 35 with (go_at_call 54;refine (HKI.out _).mono ?_;rintro e w1 ⟨rfl,rfl⟩)
 obtain ⟨w1,hw1⟩:∃W,W=(w.alloc (.cells #[.int .u8 0, .int .u32 0, .int .u64 0, .int .u32 0, .int .u32 0, .int .u32 0, .string ⟨#[]⟩, .int .u8 0, .slice none 0 0, .int .u8 0, .int .u32 0, .int .u32 0, .int .u8 0, .slice none 0 0, .slice none 0 0, .slice none 0 0, .int .u8 0] 49)).alloc (.cells #[.int .u8 73, .int .u32 0, .int .u64 0, .int .u32 0, .int .u32 0, .int .u32 0, .string ⟨#[]⟩, .int .u8 0, .slice none 0 0, .int .u8 kd, .int .u32 0, .int .u32 0, .int .u8 0, .slice none 0 0, .slice none 0 0, .slice none 0 0, .int .u8 0] 49):=⟨_,rfl⟩
 rw [←hw1] at HP1⊢
 clear hw1 HKI
 go_upto_region 36 with (go_at_call 52;refine (HRF.out _ HP1.out.r).mono ?_;rintro e w2 ⟨rfl,hr2,hk2⟩;have HP2:=Hm (HP1.out.call hr2 hk2);have c2:=HP2.out.x.cell;have c2f:=HP2.out.x.frozen;have c2z:=HP2.out.x.lt;clear hr2 hk2 HRF HP1)
 have HP3:=Hm ((HP2.out.set 10 (.int .u32 ao) rfl).set 11 (.int .u32 av) (A' := #[.int .u8 73, .int .u32 0, .int .u64 0, .int .u32 0, .int .u32 0, .int .u32 0, .string ⟨#[]⟩, .int .u8 0, .slice none 0 0, .int .u8 kd, .int .u32 ao, .int .u32 av, .int .u8 0, .slice none 0 0, .slice none 0 0, .slice none 0 0, .int .u8 0]) rfl)
 obtain ⟨w3,hw3⟩:∃W,W=(w2.setCell ⟨w.heap.size+1,10,none⟩ (.int .u32 ao)).setCell ⟨w.heap.size+1,11,none⟩ (.int .u32 av):=⟨_,rfl⟩
 rw [←hw3] at HP3⊢
 clear hw3 HP2 c2 c2f c2z
 have c3:=HP3.out.x.cell
 have c3z:=HP3.out.x.lt
 go_upto_region 37 with (go_at_call 55;refine (HGT.out _ HP3.out.k).mono ?_;rintro e w4 ⟨rfl,hb4⟩;have HP4:=Hm (HP3.out.ext hb4);clear hb4 c3 c3z HGT HP3)
 have HP5:=Hm (HP4.out.ext ((Ext.refl w4).alloc (.cells #[.int .u32 qo, .int .u32 qv, .string qn, .int .u8 qi, .slice qa qc.length qcap] 44)))
 have HX5:=Hm (Blk.new w4 #[.int .u32 qo, .int .u32 qv, .string qn, .int .u8 qi, .slice qa qc.length qcap] 44)
 have HX2:=Hm (show w.heap.size+1<w4.heap.size from HP4.out.x.lt)
 obtain ⟨X,hX⟩:∃X,X=w4.heap.size:=⟨_,rfl⟩
 obtain ⟨w5,hw5⟩:∃W,W=w4.alloc (.cells #[.int .u32 qo, .int .u32 qv, .string qn, .int .u8 qi, .slice qa qc.length qcap] 44):=⟨_,rfl⟩
 rw [←hX] at HX2⊢
 rw [←hw5] at HP5⊢
 rw [←hX,←hw5] at HX5
 clear hX hw5 HP4
 have hXg:X≠g:=by have:=HX2.out;omega
 go_upto_region 40 with (go_at_call 56;refine (HT1.out _ HP5.out.r).mono ?_;rintro e w6 ⟨rfl,hr6,hk6⟩;have HP6:=Hm (HP5.out.call hr6 hk6);have HX6:=Hm (HX5.out.kp hk6 hXg);clear hr6 hk6 HT1 HP5 HX5)
 go_upto_region 52 with (fail)
 have x11:=HX6.out.cell
 have x11z:=HX6.out.lt
 go_upto_region 53 with (go_at_call 57;refine (HI1.out _ HP6.out.r (HQI.out _ HP6.out.k)).mono ?_;rintro e w12 ⟨aa,ca,rfl,hs12,hn12,hr12,hk12⟩;have HP12:=Hm (HP6.out.call hr12 hk12);have HA12:=Hm hs12;have HN12:Hid (∀b o,aa=some ⟨b,o,none⟩→w.heap.size+2≤b):=Hm (fun b o e=>by have:=hn12 b o e;have:=HP6.out.x.lt;omega);have c12:=HP12.out.x.cell;have c12f:=HP12.out.x.frozen;have c12z:=HP12.out.x.lt;clear hs12 hn12 hr12 hk12 HI1 HP6 HX6 x11 x11z)
 have HP13:=Hm (HP12.out.set 14 (.slice aa a.length ca) (A' := #[.int .u8 73, .int .u32 0, .int .u64 0, .int .u32 0, .int .u32 0, .int .u32 0, .string ⟨#[]⟩, .int .u8 0, .slice none 0 0, .int .u8 kd, .int .u32 ao, .int .u32 av, .int .u8 0, .slice none 0 0, .slice aa a.length ca, .slice none 0 0, .int .u8 0]) rfl)
 have HA13:=Hm (PS.slk (w:=w) HA12.out HN12.out 14 (.slice aa a.length ca))
 obtain ⟨w13,hw13⟩:∃W,W=w12.setCell ⟨w.heap.size+1,14,none⟩ (.slice aa a.length ca):=⟨_,rfl⟩
 rw [←hw13] at HP13 HA13⊢
 clear hw13 HP12 HA12 c12 c12f c12z
 as_aux_lemma=>
  go_wp2_with (first
   |(refine wpList_load_to rfl 49 (.tmp 7) rfl _ _ ?e1 (PS.load HP13.out) ?_;(case e1=>go_simp))
   |(refine wpList_store_to rfl 49 (.tmp 6) (.tmp 193) rfl _ _ ?e1 ?e2 (PS.store HP13.out) ?_;(case e1=>go_simp);(case e2=>go_simp)))
  as_aux_lemma=>
   refine bodyPost_ret (res_pbody (Blk.c17 HP13.out.z) rfl) rfl ?_
   exact PS.done rfl HP13.out (p:=⟨73,0,0,0,R0,⟨⟨kd,ao,av,0, [],a, [],0⟩,none,0,aa,ca,none,0⟩⟩) rfl rfl ⟨RR.in_zero _,⟨⟨none,0,rfl, .inl rfl⟩,HA13.out,⟨none,0,rfl, .inl rfl⟩⟩⟩ ⟨fun h0=>absurd rfl h0,fun h0=>absurd rfl h0,fun _ b o e=>HN12.out b o e,fun h0=>absurd rfl h0⟩
theorem pbodyU0_any (kd ao av:Int) (a:List K) (q:RR) (g:Nat) (cv:Value) (w:World) (hkd:wkind 85=kd) (h:Rd w g (strOfNums (refW ao av++([78]++(octs a.length 1++(cellsW a++ [])))))) (ho:B32 ao) (hv:B32 av) (hia:ImOk q a)
 (hget:∀W,Kp (fun k=>k=g) w W→Calls Tryz.prog 55 #[cv, .agg #[.int .u32 ao, .int .u32 av]] W fun e w' =>e= .returned (.tuple #[q.agg, .bool true])∧Ext W w') (hqin:∀W,Kp (fun k=>k=g) w W→q.in W):
 Calls Tryz.prog 25 #[.pointer (some ⟨g,0,none⟩),cv, .int .u8 85] w (BodyPost ⟨85,0,0,0,Rl0,⟨kd,ao,av,0, [],a, [],0⟩⟩ g w):=by
 have hg:=h.lt
 have HP1:=Hm (PS.startA h #[.int .u8 85, .int .u32 0, .int .u64 0, .int .u32 0, .int .u32 0, .int .u32 0, .string ⟨#[]⟩, .int .u8 0, .slice none 0 0, .int .u8 kd, .int .u32 0, .int .u32 0, .int .u8 0, .slice none 0 0, .slice none 0 0, .slice none 0 0, .int .u8 0])
 have HKI:=Hm (fun W=>show Calls Tryz.prog 54 #[.int .u8 85] W (fun e w' =>e= .returned (.int .u8 kd)∧W=w') from by have h:=rkind_any 85 W;rw [hkd] at h;exact h)
 have la:=hia.le
 have na:=hia.n
 have HRF:=Hm (fun W (h:Rd W g (strOfNums (refW ao av++([78]++(octs a.length 1++(cellsW a++ []))))))=>pref_any g ao av _ W h ho hv (by simp only [List.length_append,List.length_singleton,List.length_nil,octs_len];omega))
 have HT1:=Hm (fun W (h:Rd W g (strOfNums ([78]++(octs a.length 1++(cellsW a++ [])))))=>show Calls Tryz.prog 56 #[.pointer (some ⟨g,0,none⟩), .int .u64 1] W (fun e w' =>e= .returned (.string ⟨#[78]⟩)∧Rd w' g (strOfNums (octs a.length 1++(cellsW a++ [])))∧Kp (fun k=>k=g) W w') from ptake_any g [78] _ W h (by simp only [List.length_append,List.length_singleton,List.length_nil,octs_len];omega))
 have HI1:=Hm (fun W (h:Rd W g (strOfNums (octs a.length 1++(cellsW a++ [])))) (hi:q.in W)=>show Calls Tryz.prog 57 #[.pointer (some ⟨g,0,none⟩),q.agg] W _ from pimage_any g q a ([]) W h hi hia.len hia.n hia.r hia.tw (by simp only [List.length_nil];omega))
 have HGT:=Hm hget
 have HQI:=Hm hqin
 clear h hget hqin ho hv hkd hia la na
 obtain ⟨⟨qo,qv,qn,qi,qc⟩,qa,qcap⟩:=q
 unfold RR.agg at HGT HI1
 simp only at HGT HI1
 go_enter Tryz.func25,Tryz.ntmps25
 go_upto_region 35 with (go_at_call 54;refine (HKI.out _).mono ?_;rintro e w1 ⟨rfl,rfl⟩)
 obtain ⟨w1,hw1⟩:∃W,W=(w.alloc (.cells #[.int .u8 0, .int .u32 0, .int .u64 0, .int .u32 0, .int .u32 0, .int .u32 0, .string ⟨#[]⟩, .int .u8 0, .slice none 0 0, .int .u8 0, .int .u32 0, .int .u32 0, .int .u8 0, .slice none 0 0, .slice none 0 0, .slice none 0 0, .int .u8 0] 49)).alloc (.cells #[.int .u8 85, .int .u32 0, .int .u64 0, .int .u32 0, .int .u32 0, .int .u32 0, .string ⟨#[]⟩, .int .u8 0, .slice none 0 0, .int .u8 kd, .int .u32 0, .int .u32 0, .int .u8 0, .slice none 0 0, .slice none 0 0, .slice none 0 0, .int .u8 0] 49):=⟨_,rfl⟩
 rw [←hw1] at HP1⊢
 clear hw1 HKI
 go_upto_region 36 with (go_at_call 52;refine (HRF.out _ HP1.out.r).mono ?_;rintro e w2 ⟨rfl,hr2,hk2⟩;have HP2:=Hm (HP1.out.call hr2 hk2);have c2:=HP2.out.x.cell;have c2f:=HP2.out.x.frozen;have c2z:=HP2.out.x.lt;clear hr2 hk2 HRF HP1)
 have HP3:=Hm ((HP2.out.set 10 (.int .u32 ao) rfl).set 11 (.int .u32 av) (A' := #[.int .u8 85, .int .u32 0, .int .u64 0, .int .u32 0, .int .u32 0, .int .u32 0, .string ⟨#[]⟩, .int .u8 0, .slice none 0 0, .int .u8 kd, .int .u32 ao, .int .u32 av, .int .u8 0, .slice none 0 0, .slice none 0 0, .slice none 0 0, .int .u8 0]) rfl)
 obtain ⟨w3,hw3⟩:∃W,W=(w2.setCell ⟨w.heap.size+1,10,none⟩ (.int .u32 ao)).setCell ⟨w.heap.size+1,11,none⟩ (.int .u32 av):=⟨_,rfl⟩
 rw [←hw3] at HP3⊢
 clear hw3 HP2 c2 c2f c2z
 have c3:=HP3.out.x.cell
 have c3z:=HP3.out.x.lt
 go_upto_region 37 with (go_at_call 55;refine (HGT.out _ HP3.out.k).mono ?_;rintro e w4 ⟨rfl,hb4⟩;have HP4:=Hm (HP3.out.ext hb4);clear hb4 c3 c3z HGT HP3)
 have HP5:=Hm (HP4.out.ext ((Ext.refl w4).alloc (.cells #[.int .u32 qo, .int .u32 qv, .string qn, .int .u8 qi, .slice qa qc.length qcap] 44)))
 have HX5:=Hm (Blk.new w4 #[.int .u32 qo, .int .u32 qv, .string qn, .int .u8 qi, .slice qa qc.length qcap] 44)
 have HX2:=Hm (show w.heap.size+1<w4.heap.size from HP4.out.x.lt)
 obtain ⟨X,hX⟩:∃X,X=w4.heap.size:=⟨_,rfl⟩
 obtain ⟨w5,hw5⟩:∃W,W=w4.alloc (.cells #[.int .u32 qo, .int .u32 qv, .string qn, .int .u8 qi, .slice qa qc.length qcap] 44):=⟨_,rfl⟩
 rw [←hX] at HX2⊢
 rw [←hw5] at HP5⊢
 rw [←hX,←hw5] at HX5
 clear hX hw5 HP4
 have hXg:X≠g:=by have:=HX2.out;omega
 go_upto_region 40 with (go_at_call 56;refine (HT1.out _ HP5.out.r).mono ?_;rintro e w6 ⟨rfl,hr6,hk6⟩;have HP6:=Hm (HP5.out.call hr6 hk6);have HX6:=Hm (HX5.out.kp hk6 hXg);clear hr6 hk6 HT1 HP5 HX5)
 go_upto_region 52 with (fail)
 have x11:=HX6.out.cell
 have x11z:=HX6.out.lt
 go_upto_region 53 with (go_at_call 57;refine (HI1.out _ HP6.out.r (HQI.out _ HP6.out.k)).mono ?_;rintro e w12 ⟨aa,ca,rfl,hs12,hn12,hr12,hk12⟩;have HP12:=Hm (HP6.out.call hr12 hk12);have HA12:=Hm hs12;have HN12:Hid (∀b o,aa=some ⟨b,o,none⟩→w.heap.size+2≤b):=Hm (fun b o e=>by have:=hn12 b o e;have:=HP6.out.x.lt;omega);have c12:=HP12.out.x.cell;have c12f:=HP12.out.x.frozen;have c12z:=HP12.out.x.lt;clear hs12 hn12 hr12 hk12 HI1 HP6 HX6 x11 x11z)
 have HP13:=Hm (HP12.out.set 14 (.slice aa a.length ca) (A' := #[.int .u8 85, .int .u32 0, .int .u64 0, .int .u32 0, .int .u32 0, .int .u32 0, .string ⟨#[]⟩, .int .u8 0, .slice none 0 0, .int .u8 kd, .int .u32 ao, .int .u32 av, .int .u8 0, .slice none 0 0, .slice aa a.length ca, .slice none 0 0, .int .u8 0]) rfl)
 have HA13:=Hm (PS.slk (w:=w) HA12.out HN12.out 14 (.slice aa a.length ca))
 obtain ⟨w13,hw13⟩:∃W,W=w12.setCell ⟨w.heap.size+1,14,none⟩ (.slice aa a.length ca):=⟨_,rfl⟩
 rw [←hw13] at HP13 HA13⊢
 clear hw13 HP12 HA12 c12 c12f c12z
 as_aux_lemma=>
  go_wp2_with (first
   |(refine wpList_load_to rfl 49 (.tmp 7) rfl _ _ ?e1 (PS.load HP13.out) ?_;(case e1=>go_simp))
   |(refine wpList_store_to rfl 49 (.tmp 6) (.tmp 193) rfl _ _ ?e1 ?e2 (PS.store HP13.out) ?_;(case e1=>go_simp);(case e2=>go_simp)))
  as_aux_lemma=>
   refine bodyPost_ret (res_pbody (Blk.c17 HP13.out.z) rfl) rfl ?_
   exact PS.done rfl HP13.out (p:=⟨85,0,0,0,R0,⟨⟨kd,ao,av,0, [],a, [],0⟩,none,0,aa,ca,none,0⟩⟩) rfl rfl ⟨RR.in_zero _,⟨⟨none,0,rfl, .inl rfl⟩,HA13.out,⟨none,0,rfl, .inl rfl⟩⟩⟩ ⟨fun h0=>absurd rfl h0,fun h0=>absurd rfl h0,fun _ b o e=>HN12.out b o e,fun h0=>absurd rfl h0⟩
end Go.Proofs.YtgmphpccpfaapaaGreatDoor
