/-
Transactions that lie somewhere; the laws' Great.
-/
import Derived.SizedLaws
import Derived.Test.YtodbhliidbclcaaGreatP29
set_option maxRecDepth 100000
set_option maxHeartbeats 16000000
namespace Go.Proofs.YtodbhliidbclcaaGreat
open Go.RowKit
structure TL where
 xid:Int
 st:Int
 es:List EL
 a:Option Addr
 c:Nat
def TL.vals (x:TL):List Value:= [.int .u32 x.xid, .int .u64 x.st, .slice x.a x.es.length x.c]
def TL.at (n:Nat) (f:K→List Value) (W:World) (x:TL):Prop:=ES n f W (.slice x.a x.es.length x.c) x.es
theorem TL.at_ {w wr:World} {b o:Nat} {l:List TL} {k:Nat} (hk:k<l.length) (hc:∀j,j<3→w.cell? ⟨b,o+k*3+j,none⟩=((l.map TL.vals).getD k [])[j]?) (hb:b<w.heap.size) (hE:Ext w wr):
 wr.cell? ⟨b,o+k*3,none⟩=some (.int .u32 l[k].xid)∧wr.cell? ⟨b,o+k*3+1,none⟩=some (.int .u64 l[k].st)∧wr.cell? ⟨b,o+k*3+2,none⟩=some (.slice l[k].a l[k].es.length l[k].c):=by
 rw [getD_map TL.vals l hk] at hc
 have c:=hE.cells.1 b
 exact ⟨(c _ hb).trans (hc 0 (by omega)),(c _ hb).trans (hc 1 (by omega)),(c _ hb).trans (hc 2 (by omega))⟩
structure TS (n:Nat) (f:K→List Value) (W:World) (v:Value) (xs:List TL):Prop where
 row:Sl W v 3 (xs.map TL.vals)
 sl:∀x∈xs,x.at n f W
structure Ev.sz (e:Ev):Prop where
 b:e.b.length≤9223372036854775807
 a:e.a.length≤9223372036854775807
 r:e.rs.length≤9223372036854775807
 sb:∀c∈e.b,c.wk
 sa:∀c∈e.a,c.wk
 kind:0≤e.kind∧e.kind<256
 old:0≤e.old∧e.old<256
 fl:0≤e.fl∧e.fl<256
structure TL.sz (x:TL):Prop where
 n:x.es.length≤1500000000000
 e:∀e∈x.es,e.e.sz
 xid:0≤x.xid
structure Ev.lit (e:Ev):Prop where
 b:e.b.length≤20
 a:e.a.length≤20
 r:e.rs.length≤30
 sb:∀c∈e.b,c.v.s.size≤3000
 sa:∀c∈e.a,c.v.s.size≤3000
def manyT (ts:List TL) (k:Nat):Nat:=((ts.take k).map fun t=>t.es.length).sum
structure Lit (ps:List RR) (ts:List TL):Prop where
 n:ps.length≤70
 t:ts.length≤60
 es:manyT ts ts.length≤600
 e:∀t∈ts,∀e∈t.es,e.e.lit
 r:∀p∈ps,p.r.cols.length≤20
def GreatT (ps:List RR) (ts:List TL) (w:World) (e:Ending) (w' :World):Prop:=∃g:Bool,e= .returned (.bool g)∧(g=false→Lit ps ts)∧Ext w w'
theorem manyT_succ {ts:List TL} {k:Nat} (hk:k<ts.length):manyT ts (k+1)=manyT ts k+ts[k].es.length:=by
 unfold manyT
 rw [List.take_succ_eq_append_getElem hk,List.map_append,List.sum_append];simp
theorem manyT_bd {ts:List TL} (h:∀t∈ts,t.sz) (k:Nat):manyT ts k≤k*1500000000000:=by
 induction k with
 |zero=>exact Nat.le_of_eq (by unfold manyT;rw [Nat.zero_mul];rfl)
 |succ k ih=>
  by_cases hk:k<ts.length
  ·rw [manyT_succ hk,Nat.succ_mul];exact Nat.add_le_add ih (h _ (List.getElem_mem hk)).n
  ·have e:manyT ts (k+1)=manyT ts k:=by unfold manyT;rw [List.take_of_length_le (by omega),List.take_of_length_le (by omega)]
   rw [e];exact Nat.le_trans ih (Nat.mul_le_mul_right _ (by omega))
structure GrI (ts:List TL) (m:Int) (k:Nat):Prop where
 mm:ts.length≤60→m=manyT ts k
 e:ts.length≤60→m≤600→∀j (h:j<ts.length),j<k→∀e∈ts[j].es,e.e.lit
theorem GrI.zero (ts:List TL):GrI ts 0 0:=⟨fun _=>rfl,fun _ _ j _ h=>by omega⟩
theorem GrI.succ {ts:List TL} {m:Int} {k:Nat} (h:GrI ts m k) (hs:∀t∈ts,t.sz) (hk:k<ts.length) (he:wrap64 (m+(ts[k].es.length:Nat))≤600→∀e∈ts[k].es,e.e.lit):GrI ts (wrap64 (m+(ts[k].es.length:Nat))) (k+1):=by
 have hw:ts.length≤60→wrap64 (m+(ts[k].es.length:Nat))=manyT ts (k+1):=fun h60=>by
  have h1:=h.mm h60
  have h2:=manyT_bd hs k
  have h3:=(hs _ (List.getElem_mem hk)).n
  have h4:k*1500000000000≤60*1500000000000:=Nat.mul_le_mul_right _ (by omega)
  rw [manyT_succ hk,h1]
  have e:((manyT ts k:Nat):Int)+((ts[k].es.length:Nat):Int)=((manyT ts k+ts[k].es.length:Nat):Int):=by omega
  rw [e]
  exact IntWalk.wrap64_in _ (by omega)
 refine ⟨hw,fun h60 hm j hj hjk=> ?_⟩
 by_cases e:j=k
 ·subst e;exact he hm
 ·refine h.e h60 ?_ j hj (by omega)
  rw [h.mm h60]
  rw [hw h60,manyT_succ hk] at hm
  omega
theorem greatT_any (ps:List RR) (ts:List TL) (a a2:Option Addr) (c c2:Nat) (w:World) (hp:RL w (.slice a ps.length c) ps) (ht:TS 6 K.rc w (.slice a2 ts.length c2) ts) (hn:ps.length≤9223372036854775807) (hm:ts.length≤9223372036854775807) (hw:∀p∈ps,p.r.wb) (hs:∀t∈ts,t.sz):
 Calls Tryz.prog 4 #[.slice a ps.length c, .slice a2 ts.length c2] w (GreatT ps ts w):=by
 have HP:=Hm hp
 have HT:=Hm ht
 have HW:=Hm hw
 have HS:=Hm hs
 have HGR:=Hm (fun W p (h:Ext w W) (hp' :p∈ps)=>(show Calls Tryz.prog 18 #[.slice none 0 0,p.agg] W (GreatK [] p.r.cols p.r.nm W) from greatK_any [] none 0 p.r.oid p.r.ver p.r.nm p.r.id p.r.cols p.a p.c W ⟨none,0,rfl, .inl rfl⟩ ((hp.sl p hp').ext h) (by simp) (by have:=(hw p hp').n;omega) (by intro c hc;cases hc) (hw p hp').cs (hw p hp').nm))
 have HGK:=Hm (fun W (l:List K) (ab:Option Addr) (cb:Nat) (h:Sl W (.slice ab l.length cb) 6 (l.map K.rc)) (h1:l.length≤9223372036854775807) (h2:∀c∈l,K.wk c)=>(show Calls Tryz.prog 18 #[.slice ab l.length cb, .agg #[.int .u32 0, .int .u32 0, .string ⟨#[]⟩, .int .u8 0, .slice none 0 0]] W (GreatK l [] ⟨#[]⟩ W) from greatK_any l ab cb 0 0 ⟨#[]⟩ 0 [] none 0 W h ⟨none,0,rfl, .inl rfl⟩ h1 (by simp) (fun c hc=>(h2 c hc).s) (by intro c hc;cases hc) (by show 0≤9223372036854775807;omega)))
 clear hp ht hw hs
 go_enter Tryz.func4,Tryz.ntmps4
 go_wp2
 go_loopg [5,6] ts.length (fun z mv i wr=>∃(m:Int) (k:Nat),z+k=ts.length∧i= .int .i64 k∧mv= .int .i64 m∧Hid (GrI ts m k)∧Hid (Ext w wr))
 case atStart=>exact ⟨0,0,by omega,rfl,rfl,Hm (GrI.zero ts),Hm (Ext.refl _)⟩
 case round=>
  obtain ⟨m,k,hzk,rfl,rfl,hG,hE⟩:=hrel
  by_cases hlt:k<ts.length
  ·obtain ⟨b,o,rfl,hb,hx⟩:=HT.out.row.at_ (i:=k) (by simpa using hlt)
   have HF:=Hm (fun W (h:Ext w W)=>TL.at_ hlt hx hb h)
   obtain ⟨f0,f1,f2⟩:=HF.out wr hE.out
   have hbw:b<wr.heap.size:=Nat.lt_of_lt_of_le hb hE.out.size
   have HES:=Hm (HT.out.sl _ (List.getElem_mem hlt))
   have HSZ:=Hm (HS.out _ (List.getElem_mem hlt))
   have HNX:=Hm (fun he=>GrI.succ hG.out HS.out hlt he)
   obtain ⟨t,ht⟩:∃t,t=ts[k]:=⟨_,rfl⟩
   rw [←ht] at HF f0 f1 f2 HES HSZ HNX
   clear ht hx
   obtain ⟨xid,st,es,ta,tc⟩:=t
   simp only at HF f0 f1 f2 HSZ HNX
   have HES2:Hid (ES 6 K.rc w (.slice ta es.length tc) es):=HES
   clear HES
   obtain ⟨X,hX⟩:∃X,X=wrap64 (m+(es.length:Nat)):=⟨_,rfl⟩
   rw [←hX] at HNX
   have HX:=Hm hX
   clear hX
   obtain ⟨wo,hwo⟩:∃x,x=wr:=⟨_,rfl⟩
   subst hwo
   have HEo:=Hm hE.out
   clear hE
   go_wp2
   rw [show wrap64 (m+(es.length:Int))=X from HX.out.symm]
   go_loopg [7] es.length (fun z2 i wr=>∃(n:Nat),z2+n=es.length∧i= .int .i64 n∧Hid (∀j (h:j<es.length),j<n→es[j].e.lit)∧Hid (Ext wo wr))
   case atStart=>exact ⟨0,by omega,rfl,Hm (fun j _ h=>by omega),Hm (Ext.refl _)⟩
   case round=>
    obtain ⟨n,hzn,rfl,hL,hE⟩:=hrel
    have HEr:=Hm (HEo.out.trans hE.out)
    clear f0 f1 f2
    obtain ⟨f0,f1,f2⟩:=HF.out wr HEr.out
    have hbw2:b<wr.heap.size:=Nat.lt_of_lt_of_le hbw hE.out.size
    by_cases hlt2:n<es.length
    ·by_cases hX6:X≤600
     ·obtain ⟨b2,o2,rfl,hb2,hx2⟩:=HES2.out.row.at_ (i:=n) (by simpa using hlt2)
      have hbw3:b2<wr.heap.size:=Nat.lt_of_lt_of_le hb2 HEr.out.size
      obtain ⟨g0,g1,g2,g3,g4,g5,g6,g7⟩:=EL.at_ hlt2 hx2 hb2 HEr.out
      have hxa:=HES2.out.sl _ (List.getElem_mem hlt2)
      have hxs:=HSZ.out.e _ (List.getElem_mem hlt2)
      obtain ⟨x,hxx⟩:∃x,x=es[n]:=⟨_,rfl⟩
      rw [←hxx] at g0 g1 g2 g3 g4 g5 g6 g7 hxa hxs
      have HXX:=Hm hxx
      have HKB:=Hm (fun W (h:Ext w W)=>HGK.out W x.e.b x.ba x.bc (hxa.b.ext h) hxs.b hxs.sb)
      have HKA:=Hm (fun W (h:Ext w W)=>HGK.out W x.e.a x.aa x.ac (hxa.a.ext h) hxs.a hxs.sa)
      have hxr:=hxs.r
      have hlen:=HSZ.out.n
      obtain ⟨⟨k1,ao1,av1,old1,b1,a1,r1,fl1⟩,ba1,bc1,aa1,ac1,ra1,rc1⟩:=x
      simp only at g0 g1 g2 g3 g4 g5 g6 g7 HKB HKA hxr
      clear hxa hxs hxx hx2
      go_wp2_with (first
       |(go_at_call_of 18 (Value.slice ba1 b1.length bc1);(with_reducible refine (HKB.out _ (by have:=HEr.out;exact eX)).mono ?_);rintro e w2 ⟨g,rfl,hg,hb2⟩;(have hE_w2:Ext (wr.alloc (.cells #[.int .u8 k1, .int .u32 ao1, .int .u32 av1, .int .u8 old1, .slice ba1 b1.length bc1, .slice aa1 a1.length ac1, .slice ra1 r1.length rc1, .int .u8 fl1] 50)) w2:=(by exact eX);obtain ⟨hc_w2,hf_w2⟩:=hE_w2.cells;have hz_w2:=hE_w2.size);have HGB:=Hm hg;clear hg;cases g)
       |(go_at_call_of 18 (Value.slice aa1 a1.length ac1);(with_reducible refine (HKA.out _ (by have:=HEr.out;exact eX)).mono ?_);rintro e w3 ⟨g,rfl,hg,hb3⟩;(have hE_w3:Ext (wr.alloc (.cells #[.int .u8 k1, .int .u32 ao1, .int .u32 av1, .int .u8 old1, .slice ba1 b1.length bc1, .slice aa1 a1.length ac1, .slice ra1 r1.length rc1, .int .u8 fl1] 50)) w3:=(by exact eX);obtain ⟨hc_w3,hf_w3⟩:=hE_w3.cells;have hz_w3:=hE_w3.size);have HGA:=Hm hg;clear hg;cases g))
      all_goals first
       |(go_ret;exact ⟨true,rfl,(fun h=>by cases h),HEr.out.trans (by exact eX)⟩)
       |skip
      have HXL:Hid (es[n].e.lit):=Hm (by
       rw [←HXX.out]
       have hb:=HGB.out (by first|exact rfl|exact trivial)
       have ha:=HGA.out (by first|exact rfl|exact trivial)
       exact ⟨hb.2.2.1,ha.2.2.1,by show r1.length≤30;omega,hb.1,ha.1⟩)
      go_roundg (es.length - (n+1))
      case measure=>omega
      case rel=>exact ⟨n+1,by omega,by go_num,Hm (fun j hj hjn=>by
       by_cases e:j=n
       ·subst e;exact HXL.out
       ·exact hL.out j hj (by omega)),Hm (hE.out.trans (by exact eX))⟩
     ·go_wp2
      go_roundg (ts.length - (k+1))
      case measure=>omega
      case rel=>exact ⟨X,k+1,by omega,by go_num,rfl,Hm (HNX.out (fun h=>by omega)),HEr⟩
    ·obtain rfl:n=es.length:=by omega
     have HNX2:=Hm (HNX.out (fun _ e he=>by
      obtain ⟨j,hj,rfl⟩:=List.getElem_of_mem he
      exact hL.out j hj hj))
     go_wp2
     go_roundg (ts.length - (k+1))
     case measure=>omega
     case rel=>exact ⟨X,k+1,by omega,by go_num,rfl,HNX2,HEr⟩
  ·obtain rfl:k=ts.length:=by omega
   obtain ⟨wo,hwo⟩:∃x,x=wr:=⟨_,rfl⟩
   subst hwo
   go_wp2
   go_loopg [9] ps.length (fun z i wr=>∃(n:Nat),z+n=ps.length∧i= .int .i64 n∧Hid (∀j (h:j<ps.length),j<n→ps[j].r.cols.length≤20)∧Hid (Ext wo wr))
   case atStart=>exact ⟨0,by omega,rfl,Hm (fun j _ h=>by omega),Hm (Ext.refl _)⟩
   case round=>
    obtain ⟨n,hzn,rfl,hL,hF⟩:=hrel
    by_cases hlt2:n<ps.length
    ·obtain ⟨b,o,rfl,hb,hx⟩:=HP.out.row.at_ (i:=n) (by simpa using hlt2)
     obtain ⟨f0,f1,f2,f3,f4⟩:=RR.at_ hlt2 hx hb (hE.out.trans hF.out)
     have hbw:b<wr.heap.size:=Nat.lt_of_lt_of_le hb (hE.out.trans hF.out).size
     have HPM:=Hm (List.getElem_mem hlt2)
     obtain ⟨p,hp⟩:∃p,p=ps[n]:=⟨_,rfl⟩
     rw [←hp] at f0 f1 f2 f3 f4 HPM
     have HPP:=Hm hp
     have HGP:=Hm (fun W (h:Ext w W)=>HGR.out W p h HPM.out)
     unfold RR.agg at HGP
     clear hp hx
     go_wp2_with (go_at_call 18;refine (HGP.out _ (hE.out.trans hF.out)).mono ?_;rintro e w2 ⟨g,rfl,hg,hb2⟩;have HGB:=Hm hg;clear hg;cases g)
     all_goals first
      |(go_ret;exact ⟨true,rfl,(fun h=>by cases h),(hE.out.trans hF.out).trans (by exact eX)⟩)
      |skip
     go_roundg (ps.length - (n+1))
     case measure=>omega
     case rel=>exact ⟨n+1,by omega,by go_num,Hm (fun j hj hjn=>by
      by_cases e:j=n
      ·subst e;rw [←HPP.out];exact (HGB.out (by first|exact rfl|exact trivial)).2.2.2.1
      ·exact hL.out j hj (by omega)),Hm (hF.out.trans (by exact eX))⟩
    ·obtain rfl:n=ps.length:=by omega
     by_cases h6:600<m
     ·go_wp2
      go_ret
      exact ⟨true,rfl,(fun h=>by cases h),hE.out.trans hF.out⟩
     by_cases h60:60<ts.length
     ·go_wp2
      go_ret
      exact ⟨true,ret_bool (by first|(simp;done)|(simp;omega)),(fun h=>by cases h),hE.out.trans hF.out⟩
     by_cases h70:70<ps.length
     ·go_wp2
      go_ret
      exact ⟨true,ret_bool (by first|(simp;done)|(simp;omega)),(fun h=>by cases h),hE.out.trans hF.out⟩
     have HLIT:Hid (Lit ps ts):=Hm (by
      have e1:=hG.out.mm (by omega)
      have e2:=hG.out.e (by omega) (by omega)
      refine ⟨by omega,by omega,by omega,fun t ht e he=> ?_,fun p hp=> ?_⟩
      ·obtain ⟨j,hj,rfl⟩:=List.getElem_of_mem ht
       exact e2 j hj hj e he
      ·obtain ⟨j,hj,rfl⟩:=List.getElem_of_mem hp
       exact hL.out j hj hj)
     go_wp2
     go_ret
     exact ⟨false,ret_bool (by first|(simp;done)|(simp;omega)),fun _=>HLIT.out,hE.out.trans hF.out⟩
open Go.RowKit Go.ChangeShapes Go.WideShapes Go.ChangeAt
section
variable {H : Type} {enc : TypeId × Value → H} {P : Program} {w : World} {base : Nat} {spare : Nat → Bool} {held : Bool}
theorem weightsAll_mem {e:TypeId} :∀ {l:List (DataW H)} {d:DataW H},d∈l→∀n∈d.weights P e,n∈DataW.weightsAll P e l
 |d' ::r,d,hd,n,hn=>by
  simp only [DataW.weightsAll,List.mem_append]
  rcases List.mem_cons.1 hd with rfl|h
  ·exact Or.inl hn
  ·exact Or.inr (weightsAll_mem h n hn)
theorem trod_slW {T E:TypeId} {k n:Nat} {cs:List Value} {x:DataW H×List MemPlace} (ht:P.underlying T=some (.slice E)) (hk:P.cellsOf E=k) (hk0:0<k) (h:DataW.trod enc P w base spare held n T cs=some x):
 ∃v xss,cs= [v]∧Sl w v k xss∧xss.length≤9223372036854775807∧(xss= []∨∃q∈x.1.weights P T,xss.length*P.bytesOf E≤q)∧∀xs∈xss,xs.length=k∧∃n y,DataW.trod enc P w base spare held n E xs=some y∧∀q∈y.1.weights P E,q∈x.1.weights P T:=by
 rcases Go.Deep.open_slice ht h with ⟨rfl,rfl⟩|⟨a,len,cap,m,q,D,Pl,rfl,hb,hl,hm,hmm,hxx,hx⟩
 ·exact ⟨_, [],rfl,⟨none,0,rfl, .inl rfl⟩,by simp, .inl rfl,by simp⟩
 ·have hlm:len≤m:=by rw [hmm];split<;>omega
  have hw:∀i,i<len→∀q∈(D i).weights P E,q∈x.1.weights P T:=fun i hi q hq=>by
   rw [hxx]
   simp only [DataW.weights,ht,List.mem_cons,List.mem_append]
   exact .inr (.inl (weightsAll_mem (List.mem_map.2 ⟨i,List.mem_range.2 hi,rfl⟩) q hq))
  have hall:∀i,i<len→∃cs',w.cells? base (a.add (i*k)) k=some cs'∧DataW.trod enc P w base spare held q E cs' =some (D i,Pl i):=fun i hi=>by
   have:=hx i (by omega);rwa [hk] at this
  obtain ⟨C,hC⟩:=Go.Deep.choose_lt hall
  have hcl:cap≤9223372036854775807:=hm
  refine ⟨_,(List.range len).map C,rfl, ?_,by simp;omega, .inr ⟨(len+(m - len))*P.bytesOf E, ?_, ?_⟩, ?_⟩
  ·refine ⟨some a,cap,by simp, ?_⟩
   by_cases h0:len=0
   ·subst h0;exact .inl rfl
   ·right
    have hc0:=(World.cells?_some (hC 0 (by omega)).1)
    have e0:(a.add (0*k)).add 0=a:=by unfold Addr.add;simp
    have hcell:(w.cell? a).isSome=true:=by
     have:=hc0.2.2 0 hk0
     rw [e0] at this
     rw [this,List.getElem?_eq_getElem (by omega)];rfl
    have hsp:a.spot=none:=by
     unfold World.cell? at hcell
     split at hcell
     ·split at hcell
      ·simp at hcell
      ·rename_i hs;simpa using hs
     ·simp at hcell
    have hlt:a.block<w.heap.size:=by
     unfold World.cell? at hcell
     rcases Nat.lt_or_ge a.block w.heap.size with h1|h1
     ·exact h1
     ·rw [Array.getElem?_eq_none h1] at hcell;simp at hcell
    refine ⟨a.block,a.off,by cases a;simp at hsp;subst hsp;rfl,hlt, ?_⟩
    intro i hi j hj
    simp only [List.length_map,List.length_range] at hi
    have h2:=(World.cells?_some (hC i hi).1).2.2 j hj
    rw [Go.Deep.add_add] at h2
    have e:a.add (i*k+j)=⟨a.block,a.off+i*k+j,none⟩:=by
     unfold Addr.add
     split
     ·rename_i hz
      have h3:i*k=0:=by omega
      have h4:j=0:=by omega
      cases a;simp at hsp;subst hsp;simp [h3,h4]
     ·cases a;simp at hsp;subst hsp;simp
    rw [e] at h2
    rw [h2]
    simp [hi]
  ·rw [hxx]
   simp only [DataW.weights,ht,List.mem_cons,List.length_map,List.length_range,true_or]
  ·rw [List.length_map,List.length_range]
   exact Nat.mul_le_mul_right _ (by omega)
  ·intro xs hxs
   simp only [List.mem_map,List.mem_range] at hxs
   obtain ⟨i,hi,rfl⟩:=hxs
   exact ⟨(World.cells?_some (hC i hi).1).2.1,_,_,(hC i hi).2,hw i hi⟩
end
theorem Tryz.cellsRelG:Tryz.prog.cellsOf 77=5:=by kernel_rfl
theorem Tryz.cellsColsG:Tryz.prog.cellsOf 75=1:=by kernel_rfl
theorem Tryz.bytesColG:Tryz.prog.bytesOf 128=24:=by kernel_rfl
section
variable {H : Type} {enc : TypeId × Value → H} {w : World} {base : Nat} {spare : Nat → Bool} {held : Bool} {r : Reach} {base2 : Nat} {v : Value} {d : DataW H} {ps : List MemPlace}
theorem openR_one {n:Nat} {cs:List Value} {x:DataW H×List MemPlace} (h:DataW.trod enc Tryz.prog w base spare held n 77 cs=some x) (hwt:∀q∈x.1.weights Tryz.prog 77,q≤reachBytes):
 ∃p:RR,cs=p.cells∧p.in w∧p.r.wb:=by
 have hl:=flat_open 4 _ _ n cs x Tryz.flatRelG h
 obtain ⟨xs,m,_,rfl,hlen,hxl,hf⟩:=DataW.trod_struct Tryz.underlying77 h
 match cs,hl with
 | [c0,c1,c2,c3,c4],⟨l0,l1,l2,l3,l4,_⟩=>
  obtain ⟨oid,rfl,h0⟩:=l0.int Tryz.underlying32
  obtain ⟨ver,rfl,h1⟩:=l1.int Tryz.underlying32
  obtain ⟨nm,rfl,h2⟩:=l2.string Tryz.underlying9
  obtain ⟨id,rfl,h3⟩:=l3.int Tryz.underlying5
  have h4:DataW.trod enc Tryz.prog w base spare held m 75 ((([Value.int .u32 oid, .int .u32 ver, .string nm, .int .u8 id,c4]:List Value).drop 4).take (Tryz.prog.cellsOf 75))=xs[3]? :=(hf 3 _ rfl).trans rfl
  rw [Tryz.cellsColsG] at h4
  simp only [List.drop_succ_cons,List.drop_zero,List.take_succ_cons,List.take_zero] at h4
  have h3l:3<xs.length:=by rw [hxl];decide
  rw [List.getElem?_eq_getElem h3l] at h4
  have hwt2:∀q∈(xs[3]).1.weights Tryz.prog 75,q≤reachBytes:=fun q hq=>by
   refine hwt q ?_
   simp only [DataW.weights,Tryz.underlying77]
   refine DataW.weights_mem_each (j:=3) (t:=75) (d:=(xs[3]).1) rfl (by rw [List.getElem?_map,List.getElem?_eq_getElem h3l];rfl) q hq
  obtain ⟨v',xss,hcs,hsl,hlen2,hw2,hx⟩:=trod_slW Tryz.underlying75 Tryz.cellsColG (by decide) h4
  obtain rfl:c4=v' :=by simpa using hcs
  obtain ⟨cols,rfl,hcl⟩:=exists_map (f:=Col.cells) (p:=fun c=>c.nm.size≤9223372036854775807) xss (fun xs hxs=>by
   obtain ⟨_,n,x,h,_⟩:=hx xs hxs
   have hl:=flat_open 4 _ _ n xs x Tryz.flatColG h
   match xs,hl with
   | [d0,d1,d2],⟨m0,m1,m2,_⟩=>
    obtain ⟨s,rfl,hs⟩:=m0.string Tryz.underlying9
    obtain ⟨ty,rfl,_⟩:=m1.int Tryz.underlying5
    obtain ⟨b,rfl⟩:=m2.bool Tryz.underlying4
    exact ⟨⟨s,ty,b⟩,rfl,hs⟩)
  obtain ⟨a,cap,rfl,hshape⟩:=hsl.shape (n:=cols.length) (by simp)
  refine ⟨⟨⟨oid,ver,nm,id,cols⟩,a,cap⟩,rfl,hsl,⟨h2,hcl, ?_,(wfG_u8 h3).1⟩⟩
  rcases hw2 with h0|⟨q,hq,hle⟩
  ·have:cols= []:=by simpa using h0
   simp [this]
  ·have h5:=hwt2 q hq
   rw [Tryz.bytesColG,List.length_map] at hle
   have h6:reachBytes=140737488351232:=rfl
   show cols.length≤5864062014634
   omega
theorem openG_rels (h:DataW.Trod enc Tryz.prog w base spare held 22 v d ps) (hv:Value.okWide Tryz.prog w r base2 22 v) (hwt:∀q∈d.weights Tryz.prog 22,q≤reachBytes):
 ∃(l:List RR) (a:Option Addr) (cap:Nat),v= .slice a l.length cap∧RL w (.slice a l.length cap) l∧l.length≤9223372036854775807∧∀p∈l,p.r.wb:=by
 obtain ⟨a,len,cap,rfl⟩:=okWide_slice Tryz.underlying22 hv
 obtain ⟨n,hn⟩:=h
 obtain ⟨v',xss,hcs,hsl,hlen,_,hx⟩:=trod_slW Tryz.underlying22 Tryz.cellsRelG (by decide) hn
 have e:v' = .slice a len cap:=by simpa [Value.cells] using hcs.symm
 obtain ⟨l,rfl,hl⟩:=exists_map (f:=RR.cells) (p:=fun p=>p.in w∧p.r.wb) xss (fun xs hxs=>by
  obtain ⟨_,n,y,h,hq⟩:=hx xs hxs
  exact openR_one h (fun q hm=>hwt q (hq q hm)))
 rw [e] at hsl
 obtain ⟨a',cap',he,hshape⟩:=hsl.shape (n:=l.length) (by simp)
 simp only [Value.slice.injEq] at he
 obtain ⟨rfl,rfl,rfl⟩:=he
 exact ⟨l,a,cap,rfl,⟨hsl,fun p hp=>(hl p hp).1⟩,by simpa using hlen,fun p hp=>(hl p hp).2⟩
end
end Go.Proofs.YtodbhliidbclcaaGreat
namespace Go.Proofs.YtodbhliidbclcaaGreat
open Go.RowKit Go.ChangeShapes Go.WideShapes Go.ChangeAt
section
variable {H : Type} {enc : TypeId × Value → H} {w : World} {base : Nat} {spare : Nat → Bool} {held : Bool} {r : Reach} {base2 : Nat} {v : Value} {d : DataW H} {ps : List MemPlace}
end
end Go.Proofs.YtodbhliidbclcaaGreat
namespace Go.Proofs.YtodbhliidbclcaaGreat
open Go.RowKit Go.ChangeShapes Go.WideShapes Go.ChangeAt
section
variable {H : Type} {enc : TypeId × Value → H} {w : World} {base : Nat} {spare : Nat → Bool} {held : Bool} {r : Reach} {base2 : Nat} {v : Value} {d : DataW H} {ps : List MemPlace}
end
end Go.Proofs.YtodbhliidbclcaaGreat
namespace Go.Proofs.YtodbhliidbclcaaGreat
open Go.RowKit Go.ChangeShapes Go.WideShapes Go.ChangeAt
section
variable {H : Type} {enc : TypeId × Value → H} {w : World} {base : Nat} {spare : Nat → Bool} {held : Bool} {r : Reach} {base2 : Nat} {v : Value} {d : DataW H} {ps : List MemPlace}
theorem Tryz.flatU8:flat Tryz.prog 4 5=some [5]:=by kernel_rfl
theorem Tryz.cellsU8:Tryz.prog.cellsOf 5=1:=by kernel_rfl
end
end Go.Proofs.YtodbhliidbclcaaGreat
namespace Go.Proofs.YtodbhliidbclcaaGreat
open Go.RowKit Go.ChangeShapes Go.WideShapes Go.ChangeAt
theorem Tryz.flatStrG:flat Tryz.prog 4 9=some [9]:=by kernel_rfl
theorem Tryz.cellsStrG:Tryz.prog.cellsOf 9=1:=by kernel_rfl
section
variable {H : Type} {enc : TypeId × Value → H} {w : World} {base : Nat} {spare : Nat → Bool} {held : Bool} {r : Reach} {base2 : Nat} {v : Value} {d : DataW H} {ps : List MemPlace}
end
end Go.Proofs.YtodbhliidbclcaaGreat
namespace Go.Proofs.YtodbhliidbclcaaGreat
open Go.RowKit Go.ChangeShapes Go.WideShapes Go.ChangeAt
section
variable {H : Type} {enc : TypeId × Value → H} {w : World} {base : Nat} {spare : Nat → Bool} {held : Bool} {r : Reach} {base2 : Nat} {v : Value} {d : DataW H} {ps : List MemPlace}
theorem Lf.bytes {c:Value} (h:Lf enc Tryz.prog w base spare held 23 c):∃(l:List Int) (a:Option Addr) (cap:Nat),c= .slice a l.length cap∧Sl w (.slice a l.length cap) 1 (l.map bcell)∧l.length≤9223372036854775807∧isB l:=by
 obtain ⟨m,x,h4⟩:=h
 obtain ⟨v',xss,hcs,hsl,hlen,hx⟩:=trod_sl Tryz.underlying23 Tryz.cellsU8 (by decide) h4
 obtain rfl:c=v' :=by simpa using hcs
 obtain ⟨l,rfl,hl⟩:=exists_map (f:=bcell) (p:=fun x=>0≤x∧x<256) xss (fun xs hxs=>by
  obtain ⟨_,n,x,h⟩:=hx xs hxs
  have hl:=flat_open 4 _ _ n xs x Tryz.flatU8 h
  match xs,hl with
  | [c0],⟨l0,_⟩=>
   obtain ⟨ty,rfl,h0⟩:=l0.int Tryz.underlying5
   exact ⟨ty,rfl,wfG_u8 h0⟩)
 obtain ⟨a,cap,rfl,hshape⟩:=hsl.shape (n:=l.length) (by simp)
 exact ⟨l,a,cap,rfl,hsl,by simpa using hlen,hl⟩
end
end Go.Proofs.YtodbhliidbclcaaGreat
namespace Go.Proofs.YtodbhliidbclcaaGreat
open Go.RowKit
theorem cl_laid:laidOutB Tryz.prog=true:=by kernel_rfl
theorem cl_rowed:mapsRowed Tryz.prog=true:=by kernel_rfl
theorem cl_plain:Tryz.prog.plainKeys=true:=by kernel_rfl
theorem cl_heard:Tryz.prog.stopsHeard=true:=by kernel_rfl
end Go.Proofs.YtodbhliidbclcaaGreat
