/-
What is wrong with a transaction: the program's answer.
-/
import Derived.Shelf.Strings.OnBuilder
import Derived.Shelf.LaysM
import Derived.Shelf.Strconv.Itoa3
import Derived.Test.YtgmphpccpfaapaaGreatDoorP30
import Derived.Test.YtgmphpccpfaapaaGreatDoorP18
import Derived.Test.YtgmphpccpfaapaaGreatDoorP21
import Derived.Test.YtgmphpccpfaapaaGreatDoorP1
import Derived.Test.YtgmphpccpfaapaaGreatDoorP22
set_option maxRecDepth 100000
set_option maxHeartbeats 16000000
namespace Go.Proofs.YtgmphpccpfaapaaGreatDoor
open Go.RowKit
noncomputable def evAt (es:List Ev) (l:List Rl) (i:Nat):Int:=if h:i<es.length then evE es[i] l else 0
noncomputable def rtE (t:Tx) (l:List Rl):Int:=if t.xid=0 then 4 else if 512<t.es.length then 8 else firstE (evAt t.es l) t.es.length
noncomputable def rtP (t:Tx) (l:List Rl):Int:=if t.xid=0 then -1 else if 512<t.es.length then -1 else if firstE (evAt t.es l) t.es.length=0 then -1 else (plE (evAt t.es l) t.es.length:Nat)
theorem evAt_map {es:List EL} {l:List Rl} {k:Nat} (h:k<es.length):evAt (es.map EL.e) l k=evE es[k].e l:=by
 unfold evAt
 rw [dif_pos (by simpa using h),List.getElem_map]
theorem rt_ok {t:Tx} {l:List Rl} (h0:t.xid≠0) (h1:t.es.length≤512) (hz:∀j,j<t.es.length→evAt t.es l j=0):rtE t l=0∧rtP t l= -1:=by
 have e:=firstE_zero hz
 unfold rtE rtP
 rw [if_neg h0,if_neg (by omega),if_neg h0,if_neg (by omega),e,if_pos rfl]
 exact ⟨rfl,rfl⟩
theorem rt_bad {t:Tx} {l:List Rl} {k:Nat} (h0:t.xid≠0) (h1:t.es.length≤512) (hk:k<t.es.length) (hz:∀j,j<k→evAt t.es l j=0) (hn:evAt t.es l k≠0):rtE t l=evAt t.es l k∧rtP t l=k:=by
 have e:=firstE_at hz hk hn
 have p:=plE_at hz hn hk
 unfold rtE rtP
 rw [if_neg h0,if_neg (by omega),if_neg h0,if_neg (by omega),e,if_neg hn,p]
 exact ⟨rfl,rfl⟩
theorem txright_any (t:TL) (N g:Nat) (c:Value) (ps:List RR) (w:World) (ht:t.at 5 K.pc w) (hn:t.es.length≤1000) (hs:∀e∈t.es,e.e.small) (hwk:∀e∈t.es,e.e.wk) (hc:Ca w N g c ps):
 Calls Tryz.prog 32 #[t.agg, .pointer (some ⟨g,0,none⟩)] w fun e w' =>e= .returned (.tuple #[.int .i64 (rtP t.t (ps.map RR.r)), .int .i64 (rtE t.t (ps.map RR.r))])∧Ext w w' :=by
 have HT:=Hm ht
 have HER:=Hm (fun x (hx:x∈t.es) W (h:Ext w W)=>eright_any x N g c ps W ((ht.sl x hx).ext h) (hs x hx) (hwk x hx) (hc.ext h))
 clear ht hs hwk hc
 obtain ⟨xid,st,es,ta,tc⟩:=t
 unfold TL.agg TL.t
 simp only at HER hn⊢
 have HT2:Hid (ES 5 K.pc w (.slice ta es.length tc) es):=HT
 clear HT
 by_cases h0:xid=0
 ·subst h0
  have HR:=Hm (show rtE ⟨0,st,es.map EL.e⟩ (ps.map RR.r)=4∧rtP ⟨0,st,es.map EL.e⟩ (ps.map RR.r)= -1 from ⟨if_pos rfl,if_pos rfl⟩)
  go_enter Tryz.func32,Tryz.ntmps32
  go_wp2
  go_ret2
  exact ⟨by rw [HR.out.1,HR.out.2];rfl,by exact eX⟩
 have h0' :(xid==0)=false:=by simpa using h0
 have H0:=Hm h0
 clear h0
 by_cases h5:512<es.length
 ·have HR:=Hm (show rtE (⟨xid,st,es.map EL.e⟩:Tx) (ps.map RR.r)=8∧rtP (⟨xid,st,es.map EL.e⟩:Tx) (ps.map RR.r)= -1 from ⟨by unfold rtE;rw [if_neg H0.out,if_pos (by simpa using h5)],by unfold rtP;rw [if_neg H0.out,if_pos (by simpa using h5)]⟩)
  go_enter Tryz.func32,Tryz.ntmps32
  go_wp2
  go_ret2
  exact ⟨by rw [HR.out.1,HR.out.2];rfl,by exact eX⟩
 have HL5:=Hm (show (⟨xid,st,es.map EL.e⟩:Tx).es.length≤512 by simp only [List.length_map];omega)
 go_enter Tryz.func32,Tryz.ntmps32
 go_wp2
 go_loopw [21] (fun i wr=>∃k:Nat,k≤es.length∧i= .int .i64 k∧Hid (∀j,j<k→evAt (es.map EL.e) (ps.map RR.r) j=0)∧Hid (Ext w wr)) (fun i _=>es.length - (intOf i).toNat)
 case atStart=>exact ⟨0,Nat.zero_le _,rfl,Hm (fun j h=>by omega),Hm (by exact eX)⟩
 case round=>
  obtain ⟨k,hk,rfl,hz,hE⟩:=hrel
  by_cases hlt:k<es.length
  ·obtain ⟨b,o,rfl,hb,hx⟩:=HT2.out.row.at_ (i:=k) (by simpa using hlt)
   obtain ⟨g0,g1,g2,g3,g4,g5,g6,g7⟩:=EL.at_ hlt hx hb hE.out
   have hbw:b<wr.heap.size:=Nat.lt_of_lt_of_le hb hE.out.size
   have HEK:=Hm (HER.out _ (List.getElem_mem hlt))
   have HAT:=Hm (evAt_map (l:=ps.map RR.r) hlt)
   obtain ⟨x,hxx⟩:∃x,x=es[k]:=⟨_,rfl⟩
   rw [←hxx] at g0 g1 g2 g3 g4 g5 g6 g7 HEK HAT
   have HLT:=Hm hlt
   clear hxx hx
   obtain ⟨⟨k1,ao1,av1,old1,b1,a1,r1,fl1⟩,ba1,bc1,aa1,ac1,ra1,rc1⟩:=x
   unfold EL.agg at HEK
   simp only at g0 g1 g2 g3 g4 g5 g6 g7 HEK HAT
   obtain ⟨E,hEE⟩:∃E,E=evE ⟨k1,ao1,av1,old1,b1,a1,r1,fl1⟩ (ps.map RR.r):=⟨_,rfl⟩
   rw [←hEE] at HEK HAT
   clear hEE
   by_cases hE0:E=0
   ·subst hE0
    go_wp2_with (go_at_call 67;refine (HEK.out _ (hE.out.trans (by exact eX))).mono ?_;rintro e w2 ⟨rfl,hb2⟩)
    go_roundw
    case rel=>exact ⟨k+1,by omega,by go_num,Hm (fun j hj=>by
     by_cases e:j=k
     ·subst e;exact HAT.out
     ·exact hz.out j (by omega)),Hm (hE.out.trans (by exact eX))⟩
    case measure=>simp [intOf];omega
   ·have hE1:(E !=0)=true:=by simpa using hE0
    have HR:=Hm (rt_bad (t:=(⟨xid,st,es.map EL.e⟩:Tx)) (l:=ps.map RR.r) H0.out HL5.out (by simpa using HLT.out) hz.out (by rw [show (⟨xid,st,es.map EL.e⟩:Tx).es=es.map EL.e from rfl,HAT.out];exact hE0))
    rw [show (⟨xid,st,es.map EL.e⟩:Tx).es=es.map EL.e from rfl,HAT.out] at HR
    clear hE0
    go_wp2_with (go_at_call 67;refine (HEK.out _ (hE.out.trans (by exact eX))).mono ?_;rintro e w2 ⟨rfl,hb2⟩)
    go_ret2
    exact ⟨by rw [HR.out.1,HR.out.2];rfl,hE.out.trans (by exact eX)⟩
  ·have HR:=Hm (rt_ok (t:=(⟨xid,st,es.map EL.e⟩:Tx)) (l:=ps.map RR.r) H0.out HL5.out (fun j hj=>hz.out j (by simp at hj;omega)))
   go_wp2
   go_ret2
   exact ⟨by rw [HR.out.1,HR.out.2];rfl,hE.out⟩
theorem digit_slice:∀r,r<10→(⟨#[48,49,50,51,52,53,54,55,56,57]⟩:ByteArray).extract r (r+1)=txt [UInt8.ofNat (48+r)]:=by
 intro r h
 match r,h with
 |0,_=>rfl
 |1,_=>rfl
 |2,_=>rfl
 |3,_=>rfl
 |4,_=>rfl
 |5,_=>rfl
 |6,_=>rfl
 |7,_=>rfl
 |8,_=>rfl
 |9,_=>rfl
theorem txt_size (l:List UInt8):(txt l).size=l.length:=by unfold txt;simp [ByteArray.size]
theorem rnum_any (n:Nat) (w:World) (hn:n<18446744073709551616):
 Calls Tryz.prog 178 #[.int .u64 n] w fun e w' =>e= .returned (.string (txt (Lib.decDigits n)))∧w=w' :=by
 have HN:Hid ((Lib.decDigits n).length≤21):=Hm (dec_len64 hn)
 go_enter Tryz.func178,Tryz.ntmps178
 go_wp2
 go_loop [0,3] (fun a s=>∃(m:Nat) (l:List UInt8),a= .int .u64 m∧s= .string (txt l)∧m<18446744073709551616∧Hid (Lib.decDigits n=Lib.decDigits m++l)) (fun a _=>(intOf a).toNat)
 case atStart=>exact ⟨n, [],rfl,rfl,hn,Hm (by rw [List.append_nil])⟩
 case round=>
  obtain ⟨m,l,rfl,rfl,hm,hd⟩:=hrel
  have hsz:(txt l).size≤21:=by
   have h:=HN.out
   rw [hd.out,List.length_append] at h
   rw [txt_size];omega
  by_cases h9:m≤9
  ·have HR:=Hm (show (⟨#[48,49,50,51,52,53,54,55,56,57]⟩:ByteArray).extract m (m+1)++txt l=txt (Lib.decDigits n) by rw [digit_slice m (by omega),txt_app,hd.out,dec_lt (by omega)])
   go_wp2
   go_ret
   exact ⟨by rw [←HR.out];rfl,rfl⟩
  ·have HR:=Hm (show (⟨#[48,49,50,51,52,53,54,55,56,57]⟩:ByteArray).extract (m%10) (m%10+1)++txt l=txt ([UInt8.ofNat (48+m%10)]++l) by rw [digit_slice (m%10) (by omega),txt_app])
   have HL:=Hm (dec_ge (n:=m) (by omega))
   go_wp2
   go_round
   case rel=>exact ⟨m / 10, [UInt8.ofNat (48+m%10)]++l,by rw [show ((m / 10:Nat):Int)=(m:Int) / 10 by omega],by rw [HR.out],by omega,Hm (by rw [hd.out,HL.out,List.append_assoc])⟩
   case measure=>simp [intOf];omega
theorem rsigned_any (v:Int) (w:World) (h0: -9223372036854775808≤v) (h1:v≤9223372036854775807):
 Calls Tryz.prog 164 #[.int .i64 v] w fun e w' =>e= .returned (.string (txt (Lib.itoa v)))∧w=w' :=by
 by_cases hv:v<0
 ·have HL:=Hm (show txt [45]++txt (Lib.decDigits v.natAbs)=txt (Lib.itoa v) by unfold Lib.itoa;rw [if_pos hv,txt_app];rfl)
  have HZ:Hid ((txt (Lib.decDigits v.natAbs)).size≤21):=Hm (by rw [txt_size];exact dec_len64 (by omega))
  have HC:=Hm (fun W=>rnum_any v.natAbs W (by omega))
  have HE:Hid ((v.natAbs:Int)= -(v+1)+1):=Hm (by omega)
  rw [HE.out] at HC
  obtain ⟨D,hD⟩:∃D,D=txt (Lib.decDigits v.natAbs):=⟨_,rfl⟩
  rw [←hD] at HL HC HZ
  clear hD
  have hz:=HZ.out
  go_enter Tryz.func164,Tryz.ntmps164
  go_wp2_with (go_at_call 178;refine (HC.out _).mono ?_;rintro e w1 ⟨rfl,rfl⟩)
  go_ret
  exact ⟨by rw [←HL.out];rfl,rfl⟩
 ·have HL:=Hm (show txt (Lib.decDigits v.toNat)=txt (Lib.itoa v) by unfold Lib.itoa;rw [if_neg hv])
  have HC:=Hm (fun W=>rnum_any v.toNat W (by omega))
  have HE:Hid ((v.toNat:Int)=v):=Hm (by omega)
  rw [HE.out] at HC
  go_enter Tryz.func164,Tryz.ntmps164
  go_wp2_with (go_at_call 178;refine (HC.out _).mono ?_;rintro e w1 ⟨rfl,rfl⟩)
  go_ret
  exact ⟨by rw [←HL.out];rfl,rfl⟩
open Go.Shelf
end Go.Proofs.YtgmphpccpfaapaaGreatDoor
namespace Go.Proofs.YtgmphpccpfaapaaGreatDoor
open Go.RowKit Go.Shelf Go.Sort
end Go.Proofs.YtgmphpccpfaapaaGreatDoor
namespace Go.Proofs.YtgmphpccpfaapaaGreatDoor
open Go.RowKit
def Non (w:World):Prop:=(w.cell? ⟨1,0,none⟩=some (.int .i64 (-1))∧w.cell? ⟨1,1,none⟩=some (.int .i64 (-1))∧w.cell? ⟨1,2,none⟩=some (.int .i64 0))∧1<w.heap.size
theorem Non.ext {w w' :World} (h:Non w) (he:Ext w w'):Non w' :=
 ⟨⟨(he.cells.1 _ _ h.2).trans h.1.1,(he.cells.1 _ _ h.2).trans h.1.2.1,(he.cells.1 _ _ h.2).trans h.1.2.2⟩,Nat.lt_of_lt_of_le h.2 he.size⟩
noncomputable def chE (xs:List Tx) (l:List Rl) (k:Nat):Int:=if h:k<xs.length then (if 0<k∧xs[k].xid≤(xs.map Tx.xid).getD (k - 1) 0 then 15 else rtE xs[k] l) else 0
noncomputable def chP (xs:List Tx) (l:List Rl) (k:Nat):Int:=if h:k<xs.length then (if 0<k∧xs[k].xid≤(xs.map Tx.xid).getD (k - 1) 0 then -1 else rtP xs[k] l) else -1
noncomputable def ckE (xs:List Tx) (l:List Rl):Int:=firstE (chE xs l) xs.length
noncomputable def ckT (xs:List Tx) (l:List Rl):Int:=if ckE xs l=0 then -1 else (plE (chE xs l) xs.length:Nat)
noncomputable def ckP (xs:List Tx) (l:List Rl):Int:=if ckE xs l=0 then -1 else chP xs l (plE (chE xs l) xs.length)
theorem ck_ok {xs:List Tx} {l:List Rl} (h:∀j,j<xs.length→chE xs l j=0):ckT xs l= -1∧ckP xs l= -1∧ckE xs l=0:=by
 have e:ckE xs l=0:=firstE_zero h
 unfold ckT ckP
 rw [if_pos e,if_pos e]
 exact ⟨rfl,rfl,e⟩
theorem ck_bad {xs:List Tx} {l:List Rl} {k:Nat} (hk:k<xs.length) (h:∀j,j<k→chE xs l j=0) (hn:chE xs l k≠0):ckT xs l=k∧ckP xs l=chP xs l k∧ckE xs l=chE xs l k:=by
 have e:ckE xs l=chE xs l k:=firstE_at h hk hn
 have p:=plE_at h hn hk
 unfold ckT ckP
 rw [if_neg (by rw [e];exact hn),if_neg (by rw [e];exact hn),p]
 exact ⟨rfl,rfl,e⟩
theorem ch_pre {ts:List TL} {l:List Rl} {k:Nat} (hk:k<ts.length) (h:0<k) (hp:ts[k].xid≤(ts.map TL.xid).getD (k - 1) 0):chE (ts.map TL.t) l k=15∧chP (ts.map TL.t) l k= -1:=by
 unfold chE chP
 have hk' :k<(ts.map TL.t).length:=by simpa using hk
 have e:((ts.map TL.t).map Tx.xid)=ts.map TL.xid:=by rw [List.map_map];rfl
 have hc:0<k∧(ts.map TL.t)[k].xid≤((ts.map TL.t).map Tx.xid).getD (k - 1) 0:=⟨h,by rw [e,List.getElem_map];exact hp⟩
 rw [dif_pos hk',dif_pos hk',if_pos hc,if_pos hc]
 exact ⟨rfl,rfl⟩
theorem ch_own {ts:List TL} {l:List Rl} {k:Nat} (hk:k<ts.length) (h: ¬ (0<k∧ts[k].xid≤(ts.map TL.xid).getD (k - 1) 0)):chE (ts.map TL.t) l k=rtE ts[k].t l∧chP (ts.map TL.t) l k=rtP ts[k].t l:=by
 unfold chE chP
 have hk' :k<(ts.map TL.t).length:=by simpa using hk
 have e:((ts.map TL.t).map Tx.xid)=ts.map TL.xid:=by rw [List.map_map];rfl
 have hc: ¬ (0<k∧(ts.map TL.t)[k].xid≤((ts.map TL.t).map Tx.xid).getD (k - 1) 0):=by rw [e,List.getElem_map];exact h
 rw [dif_pos hk',dif_pos hk',if_neg hc,if_neg hc,List.getElem_map]
 exact ⟨rfl,rfl⟩
theorem xid_at {ts:List TL} {k:Nat} (hk:k<ts.length):(ts.map TL.xid).getD k 0=ts[k].xid:=by
 rw [List.getD_eq_getElem?_getD,List.getElem?_map,List.getElem?_eq_getElem hk];rfl
theorem check_any (ts:List TL) (a:Option Addr) (cap:Nat) (N g:Nat) (c:Value) (ps:List RR) (w:World) (ht:TS 5 K.pc w (.slice a ts.length cap) ts) (hlen:ts.length≤1000) (hn:∀t∈ts,t.es.length≤1000) (hs:∀t∈ts,∀e∈t.es,e.e.small) (hwk:∀t∈ts,∀e∈t.es,e.e.wk) (hc:Ca w N g c ps) (hN:Non w):
 Calls Tryz.prog 18 #[.pointer (some ⟨g,0,none⟩), .slice a ts.length cap] w fun e w' =>e= .returned (.agg #[.int .i64 (ckT (ts.map TL.t) (ps.map RR.r)), .int .i64 (ckP (ts.map TL.t) (ps.map RR.r)), .int .i64 (ckE (ts.map TL.t) (ps.map RR.r))])∧Ext w w' :=by
 have HT:=Hm ht
 have HTR:=Hm (fun t (h1:t∈ts) W (h:Ext w W)=>txright_any t N g c ps W ((ht.sl t h1).ext h) (hn t h1) (hs t h1) (hwk t h1) (hc.ext h))
 have HN:=Hm hN
 obtain ⟨LC,hLC⟩:∃LC,LC=ps.map RR.r:=⟨_,rfl⟩
 rw [←hLC] at HTR⊢
 clear ht hn hs hwk hc hN hLC
 go_enter Tryz.func18,Tryz.ntmps18
 go_wp2
 go_loopg [5,12] ts.length (fun z l i wr=>∃(k:Nat) (p:Int),z+k=ts.length∧l= .int .u32 p∧i= .int .i64 k∧Hid (0<k→p=(ts.map TL.xid).getD (k - 1) 0)∧Hid (∀j,j<k→chE (ts.map TL.t) LC j=0)∧Hid (Blk wr w.heap.size #[.int .i64 0, .int .i64 0, .int .i64 0] 31)∧Hid (Ext w wr))
 case atStart=>exact ⟨0,0,by omega,rfl,rfl,Hm (fun h=>absurd h (by omega)),Hm (fun j h=>by omega),Hm (Blk.new _ _ _),Hm (by exact eX)⟩
 case round=>
  obtain ⟨k,p,hzk,rfl,rfl,hpv,hz,hX,hE⟩:=hrel
  by_cases hlt:k<ts.length
  ·obtain ⟨b,o,rfl,hb,hx⟩:=HT.out.row.at_ (i:=k) (by simpa using hlt)
   obtain ⟨f0,f1,f2⟩:=TL.at_ hlt hx hb hE.out
   have hbw:b<wr.heap.size:=Nat.lt_of_lt_of_le hb hE.out.size
   have HTK:=Hm (fun W (h:Ext wr W)=>HTR.out _ (List.getElem_mem hlt) W (hE.out.trans h))
   have HXA:=Hm (xid_at hlt)
   have HPR:=Hm (fun h h2=>ch_pre (l:=LC) hlt h h2)
   have HOW:=Hm (fun h=>ch_own (l:=LC) hlt h)
   have HBD:=Hm (fun h=>ck_bad (xs:=ts.map TL.t) (l:=LC) (by simpa using hlt) hz.out h)
   obtain ⟨x,hxx⟩:∃x,x=ts[k]:=⟨_,rfl⟩
   rw [←hxx] at f0 f1 f2 HTK HXA HPR HOW
   clear hxx hx hb
   have HLT:=Hm hlt
   obtain ⟨E,hEE⟩:∃E,E=rtE x.t LC:=⟨_,rfl⟩
   obtain ⟨P,hPP⟩:∃P,P=rtP x.t LC:=⟨_,rfl⟩
   rw [←hEE,←hPP] at HTK HOW
   clear hEE hPP
   obtain ⟨xid,st,es,ta,tc⟩:=x
   unfold TL.agg at HTK
   simp only at f0 f1 f2 HTK HXA HPR HOW
   by_cases hk0:k=0
   ·subst hk0
    simp only [Nat.zero_mul,Nat.add_zero] at f0 f1 f2
    obtain ⟨hce,hcp⟩:=HOW.out (fun h=>absurd h.1 (by omega))
    by_cases hE0:E=0
    ·subst hE0
     have HCE:=Hm hce
     clear hce hcp hpv
     go_wp2_with (go_at_call 32;refine (HTK.out _ (by exact eX)).mono ?_;rintro e w1 ⟨rfl,hb1⟩;have HE1:=Hm (show Ext wr w1 by exact eX);clear hb1)
     go_roundg (ts.length - 1)
     case measure=>have:=HLT.out;omega
     case rel=>
      exact ⟨1,_,Nat.sub_add_cancel HLT.out,rfl,by go_num,Hm (fun _=>HXA.out.symm),Hm (fun j hj=>by
       obtain rfl:j=0:=by omega
       exact HCE.out),Hm (hX.out.ext HE1.out),Hm (hE.out.trans HE1.out)⟩
    ·have hE1:(E !=0)=true:=by simpa using hE0
     have h:=HBD.out (by rw [hce];exact hE0)
     rw [hce,hcp] at h
     have HR:=Hm h
     clear h hce hcp hpv hE0
     go_wp2_with (go_at_call 32;refine (HTK.out _ (by exact eX)).mono ?_;rintro e w1 ⟨rfl,hb1⟩;have HE1:=Hm (show Ext wr w1 by exact eX);have gx:=(hX.out.ext HE1.out).cell;have gxf:=(hX.out.ext HE1.out).frozen;have zx:=(hX.out.ext HE1.out).lt;clear hb1)
     (have eT:=HR.out.1;have eP:=HR.out.2.1;have eE:=HR.out.2.2;simp [bodyPost,results,Tryz.results18,go_sem, *];have:=hE.out.trans HE1.out;exact eX)
   ·have hkp:0<k:=by omega
    have hd:decide ((0:Int)<(k:Int))=true:=decide_eq_true (by omega)
    obtain rfl:=hpv.out hkp
    obtain ⟨p,hp⟩:∃p,p=(ts.map TL.xid).getD (k - 1) 0:=⟨_,rfl⟩
    rw [←hp] at HPR HOW⊢
    clear hpv hp
    by_cases hle:xid≤p
    ·obtain ⟨hce,hcp⟩:=HPR.out hkp hle
     have h:=HBD.out (by rw [hce];decide)
     rw [hce,hcp] at h
     have HR:=Hm h
     have HE1:Hid (Ext wr wr):=Hm (Ext.refl _)
     have gx:=hX.out.cell
     have gxf:=hX.out.frozen
     have zx:=hX.out.lt
     clear h hce hcp
     go_wp2
     have eT:=HR.out.1
     have eP:=HR.out.2.1
     have eE:=HR.out.2.2
     simp [bodyPost,results,Tryz.results18,go_sem, *]
     have:=hE.out
     exact eX
    ·have hle2:decide (xid≤p)=false:=decide_eq_false hle
     obtain ⟨hce,hcp⟩:=HOW.out (fun h=>hle h.2)
     by_cases hE0:E=0
     ·subst hE0
      have HCE:=Hm hce
      clear hce hcp
      go_wp2_with (go_at_call 32;refine (HTK.out _ (by exact eX)).mono ?_;rintro e w1 ⟨rfl,hb1⟩;have HE1:=Hm (show Ext wr w1 by exact eX);clear hb1)
      go_roundg (ts.length - (k+1))
      case measure=>have:=HLT.out;omega
      case rel=>
       exact ⟨k+1,_,Nat.sub_add_cancel HLT.out,rfl,by go_num,Hm (fun _=>by rw [Nat.add_sub_cancel];exact HXA.out.symm),Hm (fun j hj=>if e:j=k then (by subst e;exact HCE.out) else hz.out j (by omega)),Hm (hX.out.ext HE1.out),Hm (hE.out.trans HE1.out)⟩
     ·have hE1:(E !=0)=true:=by simpa using hE0
      have h:=HBD.out (by rw [hce];exact hE0)
      rw [hce,hcp] at h
      have HR:=Hm h
      clear h hce hcp hE0
      go_wp2_with (go_at_call 32;refine (HTK.out _ (by exact eX)).mono ?_;rintro e w1 ⟨rfl,hb1⟩;have HE1:=Hm (show Ext wr w1 by exact eX);have gx:=(hX.out.ext HE1.out).cell;have gxf:=(hX.out.ext HE1.out).frozen;have zx:=(hX.out.ext HE1.out).lt;clear hb1)
      (have eT:=HR.out.1;have eP:=HR.out.2.1;have eE:=HR.out.2.2;simp [bodyPost,results,Tryz.results18,go_sem, *];have:=hE.out.trans HE1.out;exact eX)
  ·obtain rfl:k=ts.length:=by omega
   have HR:=Hm (ck_ok (xs:=ts.map TL.t) (l:=LC) (fun j hj=>hz.out j (by simpa using hj)))
   have gx:=hX.out.cell
   have gxf:=hX.out.frozen
   have zx:=hX.out.lt
   obtain ⟨n0,n1,n2⟩:=(HN.out.ext hE.out).1
   have nz:=(HN.out.ext hE.out).2
   go_wp2
   have eT:=HR.out.1
   have eP:=HR.out.2.1
   have eE:=HR.out.2.2
   simp [bodyPost,results,Tryz.results18,go_sem, *]
   have:=hE.out
   exact eX
end Go.Proofs.YtgmphpccpfaapaaGreatDoor
