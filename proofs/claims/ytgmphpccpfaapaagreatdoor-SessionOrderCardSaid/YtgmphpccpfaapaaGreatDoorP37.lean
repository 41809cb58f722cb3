/-
Events and transactions of the arguments, opened.
-/
import Derived.Test.YtgmphpccpfaapaaGreatDoorP24
import Derived.Test.YtgmphpccpfaapaaGreatDoorP36
import Derived.Test.YtgmphpccpfaapaaGreatDoorP19
import Derived.Test.YtgmphpccpfaapaaGreatDoorP23
import Derived.Test.YtgmphpccpfaapaaGreatDoorP22
import Derived.Test.YtgmphpccpfaapaaGreatDoorP33
import Derived.Test.YtgmphpccpfaapaaGreatDoorP3
set_option maxRecDepth 100000
set_option maxHeartbeats 16000000
namespace Go.Proofs.YtgmphpccpfaapaaGreatDoor
open Go.RowKit Go.ChangeShapes Go.WideShapes Go.ChangeAt
theorem Tryz.flatEv13:flat Tryz.prog 4 47=some [5,38,38,5,45,45,37,5]:=by kernel_rfl
theorem Tryz.cellsEv13:Tryz.prog.cellsOf 47=8:=by kernel_rfl
theorem Tryz.cellsTx13:Tryz.prog.cellsOf 57=3:=by kernel_rfl
theorem Tryz.cellsSEv13:Tryz.prog.cellsOf 55=1:=by kernel_rfl
theorem Tryz.cellsU32E:Tryz.prog.cellsOf 38=1:=by kernel_rfl
theorem Tryz.cellsU64E:Tryz.prog.cellsOf 39=1:=by kernel_rfl
theorem Tryz.bytesEv13:Tryz.prog.bytesOf 47=96:=by kernel_rfl
section
variable {H : Type} {enc : TypeId × Value → H} {w : World} {base : Nat} {spare : Nat → Bool} {held : Bool} {r : Reach} {base2 : Nat} {v : Value} {d : DataW H} {ps : List MemPlace}
end
end Go.Proofs.YtgmphpccpfaapaaGreatDoor
namespace Go.Proofs.YtgmphpccpfaapaaGreatDoor
open Go.RowKit Go.ChangeShapes Go.WideShapes Go.ChangeAt
section
variable {H : Type} {enc : TypeId × Value → H} {w : World} {base : Nat} {spare : Nat → Bool} {held : Bool} {r : Reach} {base2 : Nat} {v : Value} {d : DataW H} {ps : List MemPlace}
theorem Lf.rowEw {c:Value} (h:Lf enc Tryz.prog w base spare held 45 c):∃(l:List K) (a:Option Addr) (cap:Nat),c= .slice a l.length cap∧Sl w (.slice a l.length cap) 6 (l.map K.rc)∧l.length≤9223372036854775807∧∀c∈l,c.tw:=by
 obtain ⟨m,x,h4⟩:=h
 obtain ⟨v',xss,hcs,hsl,hlen,hx⟩:=trod_sl Tryz.underlying45 Tryz.cellsCellG (by decide) h4
 obtain rfl:c=v' :=by simpa using hcs
 obtain ⟨l,rfl,hl⟩:=exists_map (f:=K.rc) (p:=K.tw) xss (fun xs hxs=>by
  obtain ⟨_,n,x,h⟩:=hx xs hxs
  obtain ⟨k,ty,m,a,b,s,rfl,hk,ht,hm,hx,hy,hs⟩:=openC_list h
  exact ⟨⟨k,⟨ty,m,a,b,s⟩⟩,rfl,⟨⟨hk.1,hs⟩,hm,hx,hy⟩⟩)
 obtain ⟨a,cap,rfl,hshape⟩:=hsl.shape (n:=l.length) (by simp)
 exact ⟨l,a,cap,rfl,hsl,by simpa using hlen,hl⟩
theorem Lf.refsEw {c:Value} (h:Lf enc Tryz.prog w base spare held 37 c):∃(l:List Rf) (a:Option Addr) (cap:Nat),c= .slice a l.length cap∧Sl w (.slice a l.length cap) 2 (l.map Rf.cells)∧l.length≤9223372036854775807∧∀r∈l,r.u32:=by
 obtain ⟨m,x,h4⟩:=h
 obtain ⟨v',xss,hcs,hsl,hlen,hx⟩:=trod_sl Tryz.underlying37 Tryz.cellsRefG (by decide) h4
 obtain rfl:c=v' :=by simpa using hcs
 obtain ⟨l,rfl,hl⟩:=exists_map (f:=Rf.cells) (p:=Rf.u32) xss (fun xs hxs=>by
  obtain ⟨_,n,x,h⟩:=hx xs hxs
  have hl:=flat_open 4 _ _ n xs x Tryz.flatRefG h
  match xs,hl with
  | [c0,c1],⟨l0,l1,_⟩=>
   obtain ⟨c,rfl,g0⟩:=l0.int Tryz.underlying38
   obtain ⟨m,rfl,g1⟩:=l1.int Tryz.underlying38
   exact ⟨⟨c,m⟩,rfl,⟨wfG_u32 g0,wfG_u32 g1⟩⟩)
 obtain ⟨a,cap,rfl,hshape⟩:=hsl.shape (n:=l.length) (by simp)
 exact ⟨l,a,cap,rfl,hsl,by simpa using hlen,hl⟩
theorem openE_oneW {n:Nat} {cs:List Value} {x:DataW H×List MemPlace} (h:DataW.trod enc Tryz.prog w base spare held n 47 cs=some x):∃p:EL,cs=p.vals∧p.at 6 K.rc w∧p.e.sz∧p.e.tw:=by
 have hl:=flat_open 4 _ _ n cs x Tryz.flatEv13 h
 match cs,hl with
 | [c0,c1,c2,c3,c4,c5,c6,c7],⟨l0,l1,l2,l3,l4,l5,l6,l7,_⟩=>
  obtain ⟨kind,rfl,h0⟩:=l0.int Tryz.underlying5
  obtain ⟨ao,rfl,h1⟩:=l1.int Tryz.underlying38
  obtain ⟨av,rfl,h2⟩:=l2.int Tryz.underlying38
  obtain ⟨old,rfl,h3⟩:=l3.int Tryz.underlying5
  obtain ⟨lb,ab,cb,rfl,b1,b2,b3⟩:=l4.rowEw
  obtain ⟨la,aa,ca,rfl,a1,a2,a3⟩:=l5.rowEw
  obtain ⟨lr,ar,cr,rfl,r1,r2,r3⟩:=l6.refsEw
  obtain ⟨fl,rfl,h7⟩:=l7.int Tryz.underlying5
  exact ⟨⟨⟨kind,ao,av,old,lb,la,lr,fl⟩,ab,cb,aa,ca,ar,cr⟩,rfl,⟨b1,a1,r1⟩,⟨b2,a2,r2,fun c hc=>(b3 c hc).towk,fun c hc=>(a3 c hc).towk,wfG_u8 h0,wfG_u8 h3,wfG_u8 h7⟩,⟨b3,a3,r3,⟨wfG_u32 h1,wfG_u32 h2⟩⟩⟩
end
end Go.Proofs.YtgmphpccpfaapaaGreatDoor
namespace Go.Proofs.YtgmphpccpfaapaaGreatDoor
open Go.RowKit Go.ChangeShapes Go.WideShapes Go.ChangeAt
section
variable {H : Type} {enc : TypeId × Value → H} {w : World} {base : Nat} {spare : Nat → Bool} {held : Bool} {r : Reach} {base2 : Nat} {v : Value} {d : DataW H} {ps : List MemPlace}
theorem openR_b32 {n:Nat} {p:RR} {x:DataW H×List MemPlace} (h:DataW.trod enc Tryz.prog w base spare held n 44 p.cells=some x):B32 p.r.oid∧B32 p.r.ver:=by
 have hl:=flat_open 4 _ _ n _ x Tryz.flatRelG h
 obtain ⟨l0,l1,l2,l3,l4,_⟩:=hl
 obtain ⟨oid,e0,h0⟩:=l0.int Tryz.underlying38
 obtain ⟨ver,e1,h1⟩:=l1.int Tryz.underlying38
 cases e0
 cases e1
 exact ⟨wfG_u32 h0,wfG_u32 h1⟩
theorem openG_relsB (h:DataW.Trod enc Tryz.prog w base spare held 22 v d ps) (hv:Value.okWide Tryz.prog w r base2 22 v) (hwt:∀q∈d.weights Tryz.prog 22,q≤reachBytes):
 ∃(l:List RR) (a:Option Addr) (cap:Nat),v= .slice a l.length cap∧RL w (.slice a l.length cap) l∧l.length≤9223372036854775807∧(∀p∈l,p.r.wb)∧∀p∈l,B32 p.r.oid∧B32 p.r.ver:=by
 obtain ⟨a,len,cap,rfl⟩:=okWide_slice Tryz.underlying22 hv
 obtain ⟨n,hn⟩:=h
 obtain ⟨v',xss,hcs,hsl,hlen,_,hx⟩:=trod_slW Tryz.underlying22 Tryz.cellsRelG (by decide) hn
 have e:v' = .slice a len cap:=by simpa [Value.cells] using hcs.symm
 obtain ⟨l,rfl,hl⟩:=exists_map (f:=RR.cells) (p:=fun p=>(p.in w∧p.r.wb)∧B32 p.r.oid∧B32 p.r.ver) xss (fun xs hxs=>by
  obtain ⟨_,n,y,h,hq⟩:=hx xs hxs
  obtain ⟨p,h1,h2⟩:=openR_one h (fun q hm=>hwt q (hq q hm))
  subst h1
  exact ⟨p,rfl,h2,openR_b32 h⟩)
 rw [e] at hsl
 obtain ⟨a',cap',he,hshape⟩:=hsl.shape (n:=l.length) (by simp)
 simp only [Value.slice.injEq] at he
 obtain ⟨rfl,rfl,rfl⟩:=he
 exact ⟨l,a,cap,rfl,⟨hsl,fun p hp=>(hl p hp).1.1⟩,by simpa using hlen,fun p hp=>(hl p hp).1.2,fun p hp=>(hl p hp).2⟩
end
end Go.Proofs.YtgmphpccpfaapaaGreatDoor
namespace Go.Proofs.YtgmphpccpfaapaaGreatDoor
open Go.RowKit Go.ChangeShapes Go.WideShapes Go.ChangeAt
structure TL.tw (t:TL):Prop where
 xid:B32 t.xid
 st:0≤t.st∧t.st<18446744073709551616
 es:∀e∈t.es,e.e.tw
section
variable {H : Type} {enc : TypeId × Value → H} {w : World} {base : Nat} {spare : Nat → Bool} {held : Bool} {r : Reach} {base2 : Nat} {v : Value} {d : DataW H} {ps : List MemPlace}
theorem openT_oneW {n:Nat} {cs:List Value} {x:DataW H×List MemPlace} (h:DataW.trod enc Tryz.prog w base spare held n 57 cs=some x) (hwt:∀q∈x.1.weights Tryz.prog 57,q≤reachBytes):
 ∃p:TL,cs=p.vals∧p.at 6 K.rc w∧p.sz∧p.tw:=by
 obtain ⟨xs,m,_,rfl,hlen,hxl,hf⟩:=DataW.trod_struct Tryz.underlying57 h
 match cs,hlen with
 | [c0,c1,c2],_=>
  have h0:DataW.trod enc Tryz.prog w base spare held m 38 ((([c0,c1,c2]:List Value).drop 0).take (Tryz.prog.cellsOf 38))=xs[0]? :=(hf 0 _ rfl).trans rfl
  have h1:DataW.trod enc Tryz.prog w base spare held m 39 ((([c0,c1,c2]:List Value).drop 1).take (Tryz.prog.cellsOf 39))=xs[1]? :=(hf 1 _ rfl).trans rfl
  have h2:DataW.trod enc Tryz.prog w base spare held m 55 ((([c0,c1,c2]:List Value).drop 2).take (Tryz.prog.cellsOf 55))=xs[2]? :=(hf 2 _ rfl).trans rfl
  rw [Tryz.cellsU32E] at h0
  rw [Tryz.cellsU64E] at h1
  rw [Tryz.cellsSEv13] at h2
  simp only [List.drop_succ_cons,List.drop_zero,List.take_succ_cons,List.take_zero] at h0 h1 h2
  have l0:0<xs.length:=by rw [hxl];decide
  have l1:1<xs.length:=by rw [hxl];decide
  have l2:2<xs.length:=by rw [hxl];decide
  rw [List.getElem?_eq_getElem l0] at h0
  rw [List.getElem?_eq_getElem l1] at h1
  rw [List.getElem?_eq_getElem l2] at h2
  have f0:Lf enc Tryz.prog w base spare held 38 c0:=⟨m,_,h0⟩
  have f1:Lf enc Tryz.prog w base spare held 39 c1:=⟨m,_,h1⟩
  obtain ⟨xid,rfl,g0⟩:=f0.int Tryz.underlying38
  obtain ⟨st,rfl,g1⟩:=f1.int Tryz.underlying39
  have hwt2:∀q∈(xs[2]).1.weights Tryz.prog 55,q≤reachBytes:=fun q hq=>by
   refine hwt q ?_
   simp only [DataW.weights,Tryz.underlying57]
   refine DataW.weights_mem_each (j:=2) (t:=55) (d:=(xs[2]).1) rfl (by rw [List.getElem?_map,List.getElem?_eq_getElem l2];rfl) q hq
  obtain ⟨v',xss,hcs,hsl,hlen2,hw2,hx⟩:=trod_slW Tryz.underlying55 Tryz.cellsEv13 (by decide) h2
  obtain rfl:c2=v' :=by simpa using hcs
  obtain ⟨es,rfl,hes⟩:=exists_map (f:=EL.vals) (p:=fun p=>p.at 6 K.rc w∧p.e.sz∧p.e.tw) xss (fun xs hxs=>by
   obtain ⟨_,n,x,h,_⟩:=hx xs hxs
   obtain ⟨p,h1,h2,h3,h4⟩:=openE_oneW h
   exact ⟨p,h1,h2,h3,h4⟩)
  obtain ⟨a,cap,rfl,hshape⟩:=hsl.shape (n:=es.length) (by simp)
  refine ⟨⟨xid,st,es,a,cap⟩,rfl,⟨hsl,fun x hx=>(hes x hx).1⟩,⟨?_,fun x hx=>(hes x hx).2.1,(wfG_u32 g0).1⟩,⟨wfG_u32 g0,wfG_u64 g1,fun x hx=>(hes x hx).2.2⟩⟩
  rcases hw2 with h0|⟨q,hq,hle⟩
  ·have:es= []:=by simpa using h0
   simp [this]
  ·have h5:=hwt2 q hq
   rw [Tryz.bytesEv13,List.length_map] at hle
   have h6:reachBytes=140737488351232:=rfl
   show es.length≤1500000000000
   omega
theorem openG_txs13w (h:DataW.Trod enc Tryz.prog w base spare held 23 v d ps) (hv:Value.okWide Tryz.prog w r base2 23 v) (hwt:∀q∈d.weights Tryz.prog 23,q≤reachBytes):
 ∃(l:List TL) (a:Option Addr) (cap:Nat),v= .slice a l.length cap∧TS 6 K.rc w (.slice a l.length cap) l∧l.length≤9223372036854775807∧(∀p∈l,p.sz)∧∀p∈l,p.tw:=by
 obtain ⟨a,len,cap,rfl⟩:=okWide_slice Tryz.underlying23 hv
 obtain ⟨n,hn⟩:=h
 obtain ⟨v',xss,hcs,hsl,hlen,_,hx⟩:=trod_slW Tryz.underlying23 Tryz.cellsTx13 (by decide) hn
 have e:v' = .slice a len cap:=by simpa [Value.cells] using hcs.symm
 obtain ⟨l,rfl,hl⟩:=exists_map (f:=TL.vals) (p:=fun p=>p.at 6 K.rc w∧p.sz∧p.tw) xss (fun xs hxs=>by
  obtain ⟨_,n,y,h,hq⟩:=hx xs hxs
  exact openT_oneW h (fun q hm=>hwt q (hq q hm)))
 rw [e] at hsl
 obtain ⟨a',cap',he,hshape⟩:=hsl.shape (n:=l.length) (by simp)
 simp only [Value.slice.injEq] at he
 obtain ⟨rfl,rfl,rfl⟩:=he
 exact ⟨l,a,cap,rfl,⟨hsl,fun p hp=>(hl p hp).1⟩,by simpa using hlen,fun p hp=>(hl p hp).2.1,fun p hp=>(hl p hp).2.2⟩
end
end Go.Proofs.YtgmphpccpfaapaaGreatDoor
namespace Go.Proofs.YtgmphpccpfaapaaGreatDoor
open Go.RowKit
theorem Lit.n600 {ps:List RR} {ts:List TL} (h:Lit ps ts):∀t∈ts,t.es.length≤600:=fun t ht=>by
 obtain ⟨i,hi,rfl⟩:=List.getElem_of_mem ht
 have h1:=manyT_succ hi
 have h2:=manyT_le ts (i+1)
 have h3:=h.es
 omega
theorem Lit.okw {ps:List RR} {ts:List TL} (h:Lit ps ts) (hz:∀t∈ts,t.sz) (hw:∀t∈ts,t.tw):∀t∈ts,t.okw:=fun t ht=>
 ⟨(hw t ht).xid,(hw t ht).st,fun e he=>Ev.okw_of ((hz t ht).e e he) ((hw t ht).es e he) (h.e t ht e he),h.n600 t ht,fun e he=>(h.e t ht e he).r⟩
theorem TL.okw_t {q t:TL} (h:q.t=t.t) (ht:t.okw):q.okw:=by
 have h1:q.xid=t.xid:=congrArg Tx.xid h
 have h2:q.st=t.st:=congrArg Tx.st h
 have h3:q.es.map EL.e=t.es.map EL.e:=congrArg Tx.es h
 have h4:∀e∈q.es,∃e2∈t.es,e2.e=e.e:=fun e he=>by
  have h5:e.e∈t.es.map EL.e:=by rw [←h3];exact List.mem_map_of_mem he
  obtain ⟨e2,h6,h7⟩:=List.mem_map.1 h5
  exact ⟨e2,h6,h7⟩
 refine ⟨h1 ▸ ht.xid,h2 ▸ ht.st,fun e he=> ?_, ?_,fun e he=> ?_⟩
 ·obtain ⟨e2,h6,h7⟩:=h4 e he
  rw [←h7];exact ht.es e2 h6
 ·have h5:=congrArg List.length h3
  rw [List.length_map,List.length_map] at h5
  rw [h5];exact ht.n
 ·obtain ⟨e2,h6,h7⟩:=h4 e he
  rw [←h7];exact ht.r e2 h6
def numL (l:List Int):Int:=l.foldl (fun n b=>256*n+b) 0
theorem numL_snoc (l:List Int) (b:Int):numL (l++ [b])=256*numL l+b:=by unfold numL;rw [List.foldl_append];rfl
theorem numL_take {l:List Int} {k:Nat} (h:k<l.length):numL (l.take (k+1))=256*numL (l.take k)+l[k]:=by
 rw [List.take_succ_eq_append_getElem h,numL_snoc]
theorem byteAt_succ (x:Int) (k:Nat):byteAt x (k+1)=byteAt (x / 256) k:=by
 unfold byteAt
 rw [show 8*(k+1)=8+8*k by omega,Int.pow_add,←Int.ediv_ediv_of_nonneg (by decide)]
 rfl
theorem octs_snoc (n:Nat):∀x:Int,octs x (n+1)=octs (x / 256) n++ [x%256]:=by
 induction n with
 |zero=>intro x;show [byteAt x 0]= [x%256];unfold byteAt;simp
 |succ n ih=>
  intro x
  rw [octs_succ x (n+1),ih x,octs_succ (x / 256) n,byteAt_succ]
  rfl
theorem numL_octs (n:Nat):∀x:Int,0≤x→x<256 ^ n→numL (octs x n)=x:=by
 induction n with
 |zero=>
  intro x h0 h1;have:x=0:=by have h2:(256:Int) ^ 0=1:=rfl;omega
  subst this;rfl
 |succ n ih=>
  intro x h0 h1
  rw [octs_snoc,numL_snoc,ih (x / 256) (by omega) (Int.ediv_lt_of_lt_mul (by decide) (by rw [←Int.pow_succ];exact h1))]
  omega
theorem numL_bd:∀(n:Nat) (l:List Int) (_:∀b∈l,0≤b∧b<256) (_:l.length=n),0≤numL l∧numL l<256 ^ n:=by
 intro n
 induction n with
 |zero=>intro l h hl;obtain rfl:=List.length_eq_zero_iff.1 hl;exact ⟨Int.le_refl _,by decide⟩
 |succ n ih=>
  intro l h hl
  have h1:l=l.take n++ [l[n]'(by omega)]:=by rw [←List.take_succ_eq_append_getElem,←hl,List.take_length]
  have h2:=ih (l.take n) (fun b hb=>h b (List.mem_of_mem_take hb)) (by rw [List.length_take];omega)
  have h3:=h (l[n]'(by omega)) (List.getElem_mem _)
  rw [h1,numL_snoc,Int.pow_succ]
  omega
theorem numL_64 {l:List Int} (h:∀b∈l,0≤b∧b<256) (hl:l.length≤8):0≤numL l∧numL l<18446744073709551616:=by
 have h1:=numL_bd l.length l h rfl
 have h2:((256 ^ l.length:Nat):Int)≤((256 ^ 8:Nat):Int):=Int.ofNat_le.2 (Nat.pow_le_pow_right (by decide) hl)
 rw [Int.natCast_pow,Int.natCast_pow] at h2
 have h4:((256:Nat):Int)=256:=rfl
 rw [h4] at h2
 have h3:(256:Int) ^ 8=18446744073709551616:=by decide
 omega
def decL (l:List Int):Int:=l.foldl (fun n b=>10*n+(b - 48)) 0
theorem decL_snoc (l:List Int) (b:Int):decL (l++ [b])=10*decL l+(b - 48):=by unfold decL;rw [List.foldl_append];rfl
theorem decL_take {l:List Int} {k:Nat} (h:k<l.length):decL (l.take (k+1))=10*decL (l.take k)+(l[k] - 48):=by
 rw [List.take_succ_eq_append_getElem h,decL_snoc]
theorem decL_bd:∀(n:Nat) (l:List Int) (_:∀b∈l,48≤b∧b≤57) (_:l.length=n),0≤decL l∧decL l<10 ^ n:=by
 intro n
 induction n with
 |zero=>intro l h hl;obtain rfl:=List.length_eq_zero_iff.1 hl;exact ⟨Int.le_refl _,by decide⟩
 |succ n ih=>
  intro l h hl
  have h1:l=l.take n++ [l[n]'(by omega)]:=by rw [←List.take_succ_eq_append_getElem,←hl,List.take_length]
  have h2:=ih (l.take n) (fun b hb=>h b (List.mem_of_mem_take hb)) (by rw [List.length_take];omega)
  have h3:=h (l[n]'(by omega)) (List.getElem_mem _)
  rw [h1,decL_snoc,Int.pow_succ]
  omega
theorem decL_64 {l:List Int} (h:∀b∈l,48≤b∧b≤57) (hl:l.length≤19):0≤decL l∧decL l<18446744073709551616:=by
 have h1:=decL_bd l.length l h rfl
 have h2:((10 ^ l.length:Nat):Int)≤((10 ^ 19:Nat):Int):=Int.ofNat_le.2 (Nat.pow_le_pow_right (by decide) hl)
 rw [Int.natCast_pow,Int.natCast_pow] at h2
 have h4:((10:Nat):Int)=10:=rfl
 rw [h4] at h2
 have h3:(10:Int) ^ 19=10000000000000000000:=by decide
 omega
theorem litL_app (l m:List UInt8):litL (l++m)=litL l++litL m:=by unfold litL;exact List.map_append
theorem digit_nat {d:Nat} (h:d<10):((UInt8.ofNat (48+d)).toNat:Int)=48+d:=by
 rw [UInt8.toNat_ofNat_of_lt' (by show 48+d<256;omega)];omega
theorem decL_digits (u:Nat):decL (litL (Lib.decDigits u))=u:=by
 induction u using Nat.strongRecOn with
 |ind u ih=>
  rw [Lib.decDigits]
  by_cases h:u<10
  ·rw [dif_pos h]
   show decL [((UInt8.ofNat (48+u)).toNat:Int)]=u
   rw [digit_nat h]
   show 10*0+((48:Int)+u - 48)=u
   omega
  ·rw [dif_neg h,litL_app,show litL [UInt8.ofNat (48+u%10)]= [((UInt8.ofNat (48+u%10)).toNat:Int)] from rfl,decL_snoc,ih (u / 10) (by omega),digit_nat (by omega)]
   omega
theorem digits_bd (u:Nat):∀b∈litL (Lib.decDigits u),48≤b∧b≤57:=by
 induction u using Nat.strongRecOn with
 |ind u ih=>
  intro b hb
  rw [Lib.decDigits] at hb
  by_cases h:u<10
  ·rw [dif_pos h] at hb
   obtain rfl:b=((UInt8.ofNat (48+u)).toNat:Int):=by simpa [litL] using hb
   rw [digit_nat h]
   omega
  ·rw [dif_neg h,litL_app] at hb
   rcases List.mem_append.1 hb with hb|hb
   ·exact ih (u / 10) (by omega) b hb
   ·obtain rfl:b=((UInt8.ofNat (48+u%10)).toNat:Int):=by simpa [litL] using hb
    rw [digit_nat (by omega)]
    omega
theorem litL_len (l:List UInt8):(litL l).length=l.length:=List.length_map ..
theorem pow_nDigits (u:Nat) (h0:1≤u):10 ^ (Lib.nDigits u - 1)≤u:=by
 induction u using Nat.strongRecOn with
 |ind u ih=>
  by_cases h:u<10
  ·rw [Lib.nDigits_small h];exact h0
  ·have h1:=ih (u / 10) (by omega) (by omega)
   have h2:=Lib.nDigits_pos (u / 10)
   rw [Lib.nDigits_big h,show Lib.nDigits (u / 10)+1 - 1=(Lib.nDigits (u / 10) - 1)+1 by omega,Nat.pow_succ]
   omega
theorem digits_len {u:Nat} (h:u≤9223372036854775808):1≤(litL (Lib.decDigits u)).length∧(litL (Lib.decDigits u)).length≤19:=by
 rw [litL_len,Lib.decDigits_length]
 refine ⟨Lib.nDigits_pos u, ?_⟩
 by_cases h1:Lib.nDigits u≤19
 ·exact h1
 ·exfalso
  have h2:1≤u:=by
   rcases Nat.eq_zero_or_pos u with rfl|h2
   ·exact absurd (by rw [Lib.nDigits_small (by omega)];omega) h1
   ·exact h2
  have h3:10 ^ 19≤10 ^ (Lib.nDigits u - 1):=Nat.pow_le_pow_right (by decide) (by omega)
  have h4:(10:Nat) ^ 19=10000000000000000000:=by decide
  have h5:=pow_nDigits u h2
  omega
theorem strO_get {l:List Int} (h:∀b∈l,0≤b∧b<256) {k:Nat} (hk:k<l.length) (hk2:k<(strOfNums l).size):(((strOfNums l)[k]'hk2).toNat:Int)=l[k]:=by
 have h1:=h l[k] (List.getElem_mem hk)
 have h2:(strOfNums l)[k]'hk2=UInt8.ofNat (l[k]).toNat:=by
  show (strOfNums l).data[k]=_
  simp [strOfNums]
 rw [h2,UInt8.toNat_ofNat_of_lt' (by show _<256;omega)]
 omega
theorem arr_head {α:Type} (A B:Array α):(A++B).extract 0 A.size=A:=by simp
theorem arr_tail {α:Type} (A B:Array α):(A++B).extract A.size (A.size+B.size)=B:=by simp
theorem strO_head (a b:List Int):(strOfNums (a++b)).extract 0 a.length=strOfNums a:=by
 rw [←strO_app]
 have h2:(strOfNums a).data.size=a.length:=strO_size a
 apply ByteArray.ext
 rw [ByteArray.data_extract,ByteArray.data_append,←h2]
 exact arr_head _ _
theorem strO_tail (a b:List Int) {n:Nat} (hn:n=a.length+b.length):(strOfNums (a++b)).extract a.length n=strOfNums b:=by
 rw [←strO_app]
 have h2:(strOfNums a).data.size=a.length:=strO_size a
 have h4:(strOfNums b).data.size=b.length:=strO_size b
 apply ByteArray.ext
 rw [ByteArray.data_extract,ByteArray.data_append,hn,←h2,←h4]
 exact arr_tail _ _
theorem rnumber19_any (l:List Int) (w:World) (h:∀b∈l,0≤b∧b<256) (hl:l.length≤8):
 Calls Tryz.prog 50 #[.string (strOfNums l)] w fun e w' =>e= .returned (.int .u64 (numL l))∧w=w' :=by
 have HH:=Hm h
 have hz:=strO_size l
 clear h
 go_enter Tryz.func50,Tryz.ntmps50
 go_wp2
 go_loop [3,4] (fun v i=>∃k:Nat,k≤l.length∧i= .int .i64 k∧v= .int .u64 (numL (l.take k))) (fun _ i=>l.length - (intOf i).toNat)
 case atStart=>exact ⟨0,Nat.zero_le _,rfl,rfl⟩
 case round=>
  obtain ⟨k,hk,rfl,rfl⟩:=hrel
  by_cases hlt:k<l.length
  ·have h1:=numL_64 (l:=l.take k) (fun b hb=>HH.out b (List.mem_of_mem_take hb)) (by rw [List.length_take];omega)
   have h2:=numL_64 (l:=l.take (k+1)) (fun b hb=>HH.out b (List.mem_of_mem_take hb)) (by rw [List.length_take];omega)
   have h3:=numL_take hlt
   have h4:=HH.out _ (List.getElem_mem hlt)
   have hks:k<(strOfNums l).size:=by omega
   have h5:=strO_get HH.out hlt hks
   have HR:=Hm h3
   obtain ⟨x,hx⟩:∃x,x=numL (l.take k):=⟨_,rfl⟩
   obtain ⟨y,hy⟩:∃y,y=l[k]:=⟨_,rfl⟩
   rw [←hx] at h1
   rw [h3,←hx,←hy] at h2
   rw [←hy] at h4 h5
   rw [←hx,←hy] at HR
   rw [←hx]
   clear h3 hx hy
   have w1:=u64_small (n:=256*x) (by omega) (by omega)
   have w2:=u64_small (n:=256*x+y) (by omega) (by omega)
   have w3:=u64_small (n:=y) (by omega) (by omega)
   go_wp2
   go_round
   case rel=>exact ⟨k+1,by omega,by go_num,by rw [HR.out]⟩
   case measure=>simp [intOf];omega
  ·have hkk:k=l.length:=by omega
   subst hkk
   have HR:=Hm (show numL (l.take l.length)=numL l by rw [List.take_length])
   obtain ⟨x,hx⟩:∃x,x=numL (l.take l.length):=⟨_,rfl⟩
   rw [←hx] at HR⊢
   clear hx
   go_wp2
   go_ret
   exact ⟨by rw [←HR.out];rfl,rfl⟩
abbrev Rd (W:World) (g:Nat) (S:ByteArray):Prop:=Blk W g #[.string S, .int .i64 0] 93
theorem Rd.step {W:World} {g:Nat} {S:ByteArray} (h:Rd W g S) (S' :ByteArray):Rd (W.setCell ⟨g,0,none⟩ (.string S')) g S'∧Kp (fun k=>k=g) W (W.setCell ⟨g,0,none⟩ (.string S')):=
 ⟨by simpa using Blk.set h 0 (.string S'),Kp.set _ _ rfl⟩
theorem ptakeS_any (g n:Nat) (S:ByteArray) (w:World) (h:Rd w g S) (hn:n≤S.size) (hS:S.size≤1000000000):
 Calls Tryz.prog 56 #[.pointer (some ⟨g,0,none⟩), .int .u64 n] w fun e w' =>e= .returned (.string (S.extract 0 n))∧w' =w.setCell ⟨g,0,none⟩ (.string (S.extract n S.size)):=by
 have g0:=h.cell
 have gf:=h.frozen
 have gz:=h.lt
 have w1:=u64_small (n:=(S.size:Int)) (by omega) (by omega)
 clear h
 go_enter Tryz.func56,Tryz.ntmps56
 go_wp2
 go_ret
 exact ⟨rfl,rfl⟩
theorem ptake_any (g:Nat) (a b:List Int) (w:World) (h:Rd w g (strOfNums (a++b))) (hl:a.length+b.length≤1000000000):
 Calls Tryz.prog 56 #[.pointer (some ⟨g,0,none⟩), .int .u64 a.length] w fun e w' =>e= .returned (.string (strOfNums a))∧Rd w' g (strOfNums b)∧Kp (fun k=>k=g) w w' :=by
 have hz:=strO_size (a++b)
 rw [List.length_append] at hz
 refine (ptakeS_any g a.length _ w h (by omega) (by omega)).mono ?_
 rintro e w' ⟨rfl,rfl⟩
 rw [strO_head,strO_tail a b hz]
 exact ⟨rfl,h.step _⟩
theorem pnum_any (g:Nat) (a b:List Int) (w:World) (h:Rd w g (strOfNums (a++b))) (hl:a.length+b.length≤1000000000) (ha:∀x∈a,0≤x∧x<256) (ha8:a.length≤8):
 Calls Tryz.prog 51 #[.pointer (some ⟨g,0,none⟩), .int .u64 a.length] w fun e w' =>e= .returned (.int .u64 (numL a))∧Rd w' g (strOfNums b)∧Kp (fun k=>k=g) w w' :=by
 have HT:=Hm (ptake_any g a b w h hl)
 have HN:=Hm (fun W=>rnumber19_any a W ha ha8)
 clear h ha
 go_enter Tryz.func51,Tryz.ntmps51
 go_wp2_with (first
  |(go_at_call 56;refine HT.out.mono ?_;rintro e w1 ⟨rfl,hr1,hk1⟩)
  |(go_at_call 50;refine (HN.out _).mono ?_;rintro e w2 ⟨rfl,rfl⟩))
 go_ret
 exact ⟨rfl,hr1,hk1⟩
theorem pnumO_any (g:Nat) (x:Int) (n:Nat) (b:List Int) (w:World) (h:Rd w g (strOfNums (octs x n++b))) (hl:n+b.length≤1000000000) (h0:0≤x) (h1:x<256 ^ n) (hn:n≤8):
 Calls Tryz.prog 51 #[.pointer (some ⟨g,0,none⟩), .int .u64 n] w fun e w' =>e= .returned (.int .u64 x)∧Rd w' g (strOfNums b)∧Kp (fun k=>k=g) w w' :=by
 have h2:=pnum_any g (octs x n) b w h (by rw [octs_len];exact hl) (octs_isB x n) (by rw [octs_len];exact hn)
 rw [octs_len,numL_octs n x h0 h1] at h2
 exact h2
theorem pname_any (g:Nat) (s:ByteArray) (b:List Int) (w:World) (h:Rd w g (strOfNums (nameW s++b))) (hs:s.size<256) (hl:b.length≤100000000):
 Calls Tryz.prog 53 #[.pointer (some ⟨g,0,none⟩)] w fun e w' =>e= .returned (.string s)∧Rd w' g (strOfNums b)∧Kp (fun k=>k=g) w w' :=by
 have HN:=Hm (pnumO_any g s.size 1 (strL s++b) w (by rw [←List.append_assoc];exact h) (by rw [List.length_append,strL_len];omega) (by omega) (by omega) (by omega))
 have HT:=Hm (fun W (h:Rd W g (strOfNums (strL s++b)))=>show Calls Tryz.prog 56 #[.pointer (some ⟨g,0,none⟩), .int .u64 s.size] W (fun e w' =>e= .returned (.string s)∧Rd w' g (strOfNums b)∧Kp (fun k=>k=g) W w') from by
  have h2:=ptake_any g (strL s) b W h (by rw [strL_len];omega)
  rw [strL_len,strO_strL] at h2
  exact h2)
 clear h
 go_enter Tryz.func53,Tryz.ntmps53
 go_wp2_with (first
  |(go_at_call 51;refine HN.out.mono ?_;rintro e w1 ⟨rfl,hr1,hk1⟩)
  |(go_at_call 56;refine (HT.out _ hr1).mono ?_;rintro e w2 ⟨rfl,hr2,hk2⟩))
 go_ret
 exact ⟨rfl,hr2,hk1.trans hk2 (fun _ h _=>h)⟩
theorem itoa_neg {n:Int} (h:n<0):litL (Lib.itoa n)=45::litL (Lib.decDigits n.natAbs):=by unfold Lib.itoa;rw [if_pos h];rfl
theorem itoa_pos {n:Int} (h: ¬ n<0):litL (Lib.itoa n)=litL (Lib.decDigits n.toNat):=by unfold Lib.itoa;rw [if_neg h]
theorem strO_one (x:Int) (l:List Int) {n:Nat} (hn:n=l.length+1):(strOfNums (x::l)).extract 1 n=strOfNums l:=strO_tail [x] l (by rw [hn,List.length_singleton];omega)
theorem integerD_any (D:List Int) (u:Nat) (neg:Bool) (S:ByteArray) (w:World) (hD:∀b∈D,48≤b∧b≤57) (hl:1≤D.length∧D.length≤19) (hu:decL D=u) (hS:S=if neg=true then strOfNums (45::D) else strOfNums D)
 (hn:if neg=true then 0<u∧u≤9223372036854775808 else u≤9223372036854775807):
 Calls Tryz.prog 140 #[.string S] w fun e w' =>e= .returned (.tuple #[.int .i64 (if neg=true then -(u:Int) else u), .bool true])∧w=w' :=by
 have HD:=Hm hD
 have hB:∀b∈D,0≤b∧b<256:=fun b hb=>by have:=hD b hb;omega
 have hz:=strO_size D
 have HB:=Hm hB
 have HSTEP:Hid (∀k (_:k<D.length) (hks:k<(strOfNums D).size),∃x y:Int,decL (D.take k)=x∧(((strOfNums D)[k]'hks).toNat:Int)=y∧0≤x∧x<18446744073709551616∧48≤y∧y≤57∧10*x+(y - 48)<18446744073709551616∧0≤10*x+(y - 48)∧decL (D.take (k+1))=10*x+(y - 48)):=Hm (fun k hk hks=>by
  have h1:=decL_64 (l:=D.take k) (fun b hb=>HD.out b (List.mem_of_mem_take hb)) (by rw [List.length_take];omega)
  have h2:=decL_64 (l:=D.take (k+1)) (fun b hb=>HD.out b (List.mem_of_mem_take hb)) (by rw [List.length_take];omega)
  have h3:=decL_take hk
  have h4:=HD.out _ (List.getElem_mem hk)
  have h5:=strO_get HB.out hk hks
  exact ⟨_,_,rfl,h5,h1.1,h1.2,h4.1,h4.2,by omega,by omega,h3⟩)
 have HS0:Hid (∀h0:0<(strOfNums D).size,48≤(((strOfNums D)[0]'h0).toNat:Int)):=Hm (fun h0=>by
  have h1:=strO_get HB.out (k:=0) (by omega) h0
  have h2:=HD.out _ (List.getElem_mem (show 0<D.length by omega))
  omega)
 have HS45:Hid (S=strOfNums (45::D)→S.extract 1 (D.length+1)=strOfNums D∧S.size=D.length+1∧∀h0:0<S.size,((S[0]'h0).toNat:Int)=45):=Hm (fun hS=>by
  refine ⟨by rw [hS];exact strO_one 45 D rfl,by rw [hS];exact strO_size _,fun h0=> ?_⟩
  subst hS
  exact strO_get (l:=45::D) (fun b hb=>by rcases List.mem_cons.1 hb with rfl|hb;decide;exact HB.out b hb) (k:=0) (by simp) h0)
 have hu0:(u:Int)<18446744073709551616:=by
  cases neg
  ·rw [if_neg (by simp)] at hn;omega
  ·rw [if_pos rfl] at hn;omega
 have HE:Hid (decL (D.take D.length)=u):=Hm (by rw [List.take_length,hu])
 clear hD hB hu HB
 cases neg with
 |true=>
  rw [if_pos rfl] at hn hS
  rw [if_pos rfl]
  obtain ⟨hS1,hSz,hS0⟩:=HS45.out hS
  have h0:0<S.size:=by omega
  have hS0:=hS0 h0
  obtain ⟨SD,hSD⟩:∃B,B=strOfNums D:=⟨_,rfl⟩
  rw [←hSD] at hS1 HSTEP hz
  clear hSD HS0 HS45
  clear hS
  have w1:=u64_small (n:=(u:Int) - 1) (by omega) (by omega)
  have HN:=Hm hn
  obtain ⟨hl1,hl2⟩:=hl
  clear hn hu0
  go_enter Tryz.func140,Tryz.ntmps140
  go_wp2
  go_loop [5,6] (fun v i=>∃k:Nat,k≤D.length∧i= .int .i64 k∧v= .int .u64 (decL (D.take k))) (fun _ i=>D.length - (intOf i).toNat)
  case atStart=>exact ⟨0,Nat.zero_le _,rfl,rfl⟩
  case round=>
   obtain ⟨k,hk,rfl,rfl⟩:=hrel
   by_cases hlt:k<D.length
   ·obtain ⟨x,y,ex,ey,x0,x1,y0,y1,b1,b0,en⟩:=HSTEP.out k hlt (by omega)
    have EN:=Hm en
    rw [ex]
    clear ex en
    have w2:=u64_small (n:=10*x) (by omega) (by omega)
    have w3:=u64_small (n:=10*x+(y - 48)) (by omega) (by omega)
    have w4:=u64_small (n:=y - 48) (by omega) (by omega)
    have w5:IntKind.u8.wrap (y - 48)=y - 48:=by simp [IntKind.wrap,IntKind.signed,IntKind.bits];omega
    go_wp2
    go_round
    case rel=>exact ⟨k+1,by omega,by go_num,by rw [EN.out]⟩
    case measure=>simp [intOf];omega
   ·have hkk:k=D.length:=by omega
    subst hkk
    rw [HE.out]
    obtain ⟨hn1,hn2⟩:=HN.out
    have hn3:(0:Int)<(u:Int):=by omega
    have hn4:(u:Int)≤9223372036854775808:=by omega
    clear hn1 hn2
    go_wp2
    go_ret2
    simp
    omega
 |false=>
  rw [if_neg (by simp)] at hn hS
  rw [if_neg (by simp)]
  subst hS
  have h0:0<(strOfNums D).size:=by omega
  have hS0:=HS0.out h0
  obtain ⟨SD,hSD⟩:∃B,B=strOfNums D:=⟨_,rfl⟩
  clear HS45 HS0
  revert hS0 h0
  rw [←hSD] at HSTEP hz⊢
  intro h0 hS0
  clear hSD
  have HN:=Hm hn
  obtain ⟨hl1,hl2⟩:=hl
  clear hn hu0
  go_enter Tryz.func140,Tryz.ntmps140
  go_wp2
  go_loop [5,6] (fun v i=>∃k:Nat,k≤D.length∧i= .int .i64 k∧v= .int .u64 (decL (D.take k))) (fun _ i=>D.length - (intOf i).toNat)
  case atStart=>exact ⟨0,Nat.zero_le _,rfl,rfl⟩
  case round=>
   obtain ⟨k,hk,rfl,rfl⟩:=hrel
   by_cases hlt:k<D.length
   ·obtain ⟨x,y,ex,ey,x0,x1,y0,y1,b1,b0,en⟩:=HSTEP.out k hlt (by omega)
    have EN:=Hm en
    rw [ex]
    clear ex en
    have w2:=u64_small (n:=10*x) (by omega) (by omega)
    have w3:=u64_small (n:=10*x+(y - 48)) (by omega) (by omega)
    have w4:=u64_small (n:=y - 48) (by omega) (by omega)
    have w5:IntKind.u8.wrap (y - 48)=y - 48:=by simp [IntKind.wrap,IntKind.signed,IntKind.bits];omega
    go_wp2
    go_round
    case rel=>exact ⟨k+1,by omega,by go_num,by rw [EN.out]⟩
    case measure=>simp [intOf];omega
   ·have hkk:k=D.length:=by omega
    subst hkk
    rw [HE.out]
    have hn4:(u:Int)<9223372036854775808:=by have:=HN.out;omega
    go_wp2
    go_ret2
    simp
theorem rinteger_any (n:Int) (w:World) (hn: -9223372036854775808≤n∧n≤9223372036854775807):
 Calls Tryz.prog 140 #[.string (strOfNums (litL (Lib.itoa n)))] w fun e w' =>e= .returned (.tuple #[.int .i64 n, .bool true])∧w=w' :=by
 by_cases h:n<0
 ·have h1:=integerD_any (litL (Lib.decDigits n.natAbs)) n.natAbs true _ w (digits_bd _) (digits_len (by omega)) (decL_digits _) rfl (by rw [if_pos rfl];omega)
  rw [if_pos rfl,if_pos rfl,←itoa_neg h,show -((n.natAbs:Nat):Int)=n by omega] at h1
  exact h1
 ·have h1:=integerD_any (litL (Lib.decDigits n.toNat)) n.toNat false _ w (digits_bd _) (digits_len (by omega)) (decL_digits _) rfl (by rw [if_neg (by simp)];omega)
  rw [if_neg (by simp),if_neg (by simp),←itoa_pos h,show ((n.toNat:Nat):Int)=n by omega] at h1
  exact h1
end Go.Proofs.YtgmphpccpfaapaaGreatDoor
