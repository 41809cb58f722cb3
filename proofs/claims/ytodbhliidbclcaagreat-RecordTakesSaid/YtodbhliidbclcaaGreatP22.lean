/-
Texts joined of pieces, the sizes of a part's texts: the reference's answers.
-/
import Derived.Test.YtodbhliidbclcaaGreatP21
set_option maxRecDepth 100000
set_option maxHeartbeats 16000000
namespace Go.Proofs.YtodbhliidbclcaaGreat
open Go.RowKit
def lnI (l:List Nat):List Int:=l.map (fun (n:Nat)=>(n:Int))
theorem lnI_len (l:List Nat):(lnI l).length=l.length:=by simp [lnI]
theorem lnI_app (l m:List Nat):lnI (l++m)=lnI l++lnI m:=by simp [lnI]
theorem lens1_cut (l:Nat) (hl:l≤256):∀(j n:Nat),n=256*j+l→(0<l∨j=0)→lens1 n=List.replicate j 256++(if 0<l then [l] else [])
 |0,n,h,_=>by
  obtain rfl:n=l:=by omega
  by_cases h0:0<n
  ·rw [if_pos h0,lens1_one (by omega) (by omega)];rfl
  ·obtain rfl:n=0:=by omega
   rfl
 |j+1,n,h,h0=>by
  have hp:0<l:=by omega
  rw [lens1_big (by omega),lens1_cut l hl j (n - 256) (by omega) (.inl hp),List.replicate_succ]
  rfl
theorem lensL_snoc (l:List Nat) (n:Nat):lensL (l++ [n])=lensL l++lens1 n:=by simp [lensL]
theorem lensL_take {ns:List Nat} {k:Nat} (hk:k<ns.length):lensL (ns.take (k+1))=lensL (ns.take k)++lens1 ns[k]:=by rw [List.take_succ_eq_append_getElem hk,lensL_snoc]
theorem lensL_le {ns:List Nat} (h:∀n∈ns,n≤2048):(lensL ns).length≤ns.length*8:=by
 induction ns with
 |nil=>exact Nat.le_refl _
 |cons n ns ih=>
  have h1:=ih (fun m hm=>h m (List.mem_cons_of_mem _ hm))
  have h2:=h n (by simp)
  rw [lensL_cons,List.length_append,lens1_len,List.length_cons]
  unfold nOf
  omega
theorem lens1_sum (n:Nat):(lens1 n).sum=n:=by
 have h:=lenAt_sum n (nOf n) (Nat.le_refl _)
 unfold lens1
 rw [h]
 unfold nOf
 omega
theorem lensL_sum:∀ns:List Nat,(lensL ns).sum=ns.sum
 | []=>rfl
 |n::ns=>by rw [lensL_cons,List.sum_append,lens1_sum,lensL_sum ns,List.sum_cons]
def restT:ByteArray→List Nat→Nat→ByteArray
 |s,_,0=>s
 |s,ns,k+1=>(restT s ns k).extract (ns.getD k 0) (restT s ns k).size
theorem restT_cons (s:ByteArray) (n:Nat) (ns:List Nat):∀k,restT s (n::ns) (k+1)=restT (s.extract n s.size) ns k
 |0=>rfl
 |k+1=>by
  have ih:=restT_cons s n ns k
  rw [restT,ih]
  conv=>rhs;rw [restT]
  simp [List.getD_eq_getElem?_getD]
theorem cutT_take:∀(ns:List Nat) (s:ByteArray) (k:Nat) (hk:k<ns.length),(cutT s ns).take (k+1)=(cutT s ns).take k++ [(restT s ns k).extract 0 ns[k]]
 |n::ns,s,0,_=>by simp [cutT,restT]
 |n::ns,s,k+1,hk=>by
  have ih:=cutT_take ns (s.extract n s.size) k (by simpa using hk)
  rw [restT_cons]
  simp only [cutT,List.take_succ_cons,List.cons_append,List.cons.injEq,true_and,List.getElem_cons_succ]
  exact ih
theorem cutT_len:∀(ns:List Nat) (s:ByteArray),(cutT s ns).length=ns.length
 | [],_=>rfl
 |_::ns,s=>by simp [cutT,cutT_len ns]
theorem restT_size (s:ByteArray) (ns:List Nat):∀k,k≤ns.length→(ns.take k).sum≤s.size→(restT s ns k).size=s.size - (ns.take k).sum
 |0,_,_=>by simp [restT]
 |k+1,hk,h=>by
  have e:ns.take (k+1)=ns.take k++ [ns[k]]:=List.take_succ_eq_append_getElem (by omega)
  rw [e,List.sum_append] at h⊢
  simp only [List.sum_cons,List.sum_nil,Nat.add_zero] at h⊢
  have ih:=restT_size s ns k (by omega) (by omega)
  rw [restT,ByteArray.size_extract,ih]
  have:ns.getD k 0=ns[k]:=by rw [List.getD_eq_getElem?_getD,List.getElem?_eq_getElem (by omega)];rfl
  rw [this]
  omega
theorem take_sum_le (ns:List Nat) (k:Nat):(ns.take k).sum≤ns.sum:=by
 conv=>rhs;rw [←List.take_append_drop k ns,List.sum_append]
 omega
theorem Tryz.infoIntL:(Tryz.prog.info? 3).map (fun i=>(i.zero,i.size,i.bytes))=some (some (.int .i64 0),1,8):=by kernel_rfl
def LensQ (ns:List Nat) (w:World) (e:Ending) (w' :World):Prop:=
 ∃a' c',e= .returned (.slice a' (lensL ns).length c')∧Sl w' (.slice a' (lensL ns).length c') 1 ((lnI (lensL ns)).map icell)∧Ext w w'
theorem own_more {W:World} {B:Nat} {v:Value} {P:List Nat} {x:Nat} (h:W.ownsRow B 3 1 v (P.length+1) (((lnI P).map icell).flatten++ [.int .i64 (x:Int)])):W.ownsRow B 3 1 v (P++ [x]).length ((lnI (P++ [x])).map icell).flatten:=by
 rw [List.length_append,lnI_app,List.map_append,List.flatten_append]
 simpa [lnI,icell] using h
theorem int_new (W:World) (x:Int):Sl (W.alloc (.cells #[.int .i64 x] 3)) (.slice (some ⟨W.heap.size,0,none⟩) 1 1) 1 ([x].map icell):=Sl.new W #[.int .i64 x] 3 1 1 1 ([x].map icell) rfl icell_len rfl
theorem rlens_any (ns:List Int) (a:Option Addr) (cap:Nat) (w:World) (hl:Sl w (.slice a ns.length cap) 1 (ns.map icell)) (hn:ns.length≤1000) (hb:∀x∈ns,0≤x∧x≤2048):
 Calls Tryz.prog 15 #[.slice a ns.length cap] w (LensQ (ns.map Int.toNat) w):=by
 obtain ⟨i0,hi,hz0,hz1,hz2⟩:=info_parts Tryz.infoIntL
 have HL:=Hm hl
 have HN:=Hm hn
 have HB:=Hm hb
 clear hl hn hb
 obtain ⟨NS,hNS⟩:∃N,N=ns.map Int.toNat:=⟨_,rfl⟩
 rw [←hNS]
 have HNL:Hid (NS.length=ns.length):=Hm (by rw [hNS];simp)
 have HLE:Hid (∀k,(lensL (NS.take k)).length≤8000):=Hm (fun k=>by
  have h1:=lensL_le (ns:=NS.take k) (fun n hn=>by
   have h2:=List.mem_of_mem_take hn
   rw [hNS] at h2
   obtain ⟨x,hx,rfl⟩:=List.mem_map.1 h2
   have:=HB.out x hx
   omega)
  have h2:=HN.out
  have h3:=HNL.out
  rw [List.length_take] at h1
  omega)
 have HAT:Hid (∀k (h:k<ns.length),∃n:Nat,ns[k]=(n:Int)∧n≤2048∧lensL (NS.take (k+1))=lensL (NS.take k)++lens1 n):=Hm (fun k h=>by
  have h1:=HB.out _ (List.getElem_mem h)
  refine ⟨ns[k].toNat,by omega,by omega, ?_⟩
  rw [lensL_take (by have:=HNL.out;omega)]
  simp [hNS])
 clear hNS HB
 go_enter Tryz.func15,Tryz.ntmps15
 go_wp2
 go_loopg [3,4,5] ns.length (fun z v i q wr=>∃k:Nat,z+k=ns.length∧i= .int .i64 k∧Hid (wr.ownsRow w.heap.size 3 1 v (lensL (NS.take k)).length ((lnI (lensL (NS.take k))).map icell).flatten)∧Hid (Ext w wr))
 case atStart=>exact ⟨0,by omega,rfl,Hm (by rw [List.take_zero];exact World.ownsRow_nil _ _ _ _),Hm (Ext.refl _)⟩
 case round=>
  obtain ⟨k,hzk,rfl,hO,hE⟩:=hrel
  by_cases hlt:k<ns.length
  ·obtain ⟨b1,o1,rfl,hb1,hx1⟩:=HL.out.at_ (i:=k) (by simpa using hlt)
   have f0:=int_at hlt hx1 hb1 hE.out
   have hbw:b1<wr.heap.size:=Nat.lt_of_lt_of_le hb1 hE.out.size
   obtain ⟨n,hn,hn8,hTK⟩:=HAT.out k hlt
   rw [hn] at f0
   have HLK:=Hm (HLE.out k)
   obtain ⟨P,hP⟩:∃P,P=lensL (NS.take k):=⟨_,rfl⟩
   rw [←hP] at hO hTK HLK
   have HTK:=Hm hTK
   have HN8:=Hm hn8
   have HLT:=Hm hlt
   have hk63:(k:Int)≤1000:=by have:=HN.out;omega
   have hkl:(k:Int)<(ns.length:Int):=by omega
   clear hx1 hb1 hP hn hTK hn8
   go_wp2
   go_loopg [3,5] n (fun z v q wi=>∃j r:Nat,z=r∧q= .int .i64 r∧Hid (n=256*j+r∧(0<r∨j=0))∧Hid (wi.ownsRow w.heap.size 3 1 v (P++List.replicate j 256).length ((lnI (P++List.replicate j 256)).map icell).flatten)∧Hid (Ext w wi))
   case atStart=>exact ⟨0,n,rfl,rfl,Hm ⟨by omega, .inr rfl⟩,Hm (by simpa using hO.out),hE⟩
   case round=>
    obtain ⟨j,r,hzr,rfl,hS,hO,hE⟩:=hrel
    obtain ⟨P2,hP2⟩:∃Q,Q=P++List.replicate j 256:=⟨_,rfl⟩
    rw [←hP2] at hO
    have HP2:=Hm hP2
    have HL2:Hid (P2.length≤8100):=Hm (by have h1:=HLK.out;have h2:=hS.out;have h3:=HN8.out;rw [hP2,List.length_append,List.length_replicate];omega)
    have hr8:(r:Int)≤2048:=by have h2:=hS.out;have h3:=HN8.out;omega
    clear hP2
    by_cases hb:256<r
    ·have hbi:256<(r:Int):=by omega
     have hw:IntKind.i64.wrap ((r:Int) - 256)=((r - 256:Nat):Int):=by rw [IntKind.wrap_i64];omega
     have HIN:=Hm (int_new wr 256)
     have HB2:=Hm hb
     clear hb
     go_wp2_with (at_builtin;refine wpList_append_sl rfl _ _ 64 rfl w.heap.size 3 i0 _ 1 8 Tryz.underlying64 hi hz0 hz1 hz2 rfl (by decide) _ P2.length _ rfl (owns_ext hO.out ((Ext.refl wr).alloc _)) _ ([256].map icell) rfl HIN.out icell_len ?c0 ?c1 ?c2 ?c3 ?_)
     case c0=>intro y hy;simp [icell] at hy;subst hy;rfl
     case c1=>have:=HL2.out;unfold maxLen;simp;omega
     case c2=>have:=HL2.out;simp;omega
     case c3=>have:=hE.out.size;(try simp only [World.size_alloc]);omega
     intro v7 w7 ho7 hg7 _
     have HO8:Hid (w7.ownsRow w.heap.size 3 1 v7 (P++List.replicate (j+1) 256).length ((lnI (P++List.replicate (j+1) 256)).map icell).flatten):=Hm (by
      rw [List.replicate_succ',←List.append_assoc,←HP2.out]
      exact own_more (by simpa [icell] using ho7))
     have HE8:Hid (Ext w w7):=Hm (Ext.grown (hE.out.trans ((Ext.refl wr).alloc _)) (owns_ext hO.out ((Ext.refl wr).alloc _)) hg7)
     clear ho7 hg7
     go_wp2
     go_roundg (r - 256)
     case measure=>have:=HB2.out;omega
     case rel=>exact ⟨j+1,r - 256,rfl,by (try rw [hw]);first|rfl|(congr 1;omega),Hm (by have h1:=hS.out;have h2:=HB2.out;exact ⟨by omega, .inl (by omega)⟩),HO8,HE8⟩
    ·have hbi: ¬ 256<(r:Int):=by omega
     have HC1:=Hm (lens1_cut r (by omega) j n hS.out.1 hS.out.2)
     by_cases h0:0<r
     ·have h0i:0<(r:Int):=by omega
      have HR:Hid (lensL (NS.take (k+1))=P2++ [r]):=Hm (by rw [HTK.out,HC1.out,if_pos h0,←List.append_assoc,←HP2.out])
      have HIN:=Hm (int_new wr r)
      clear h0 hb
      go_wp2_with (at_builtin;refine wpList_append_sl rfl _ _ 64 rfl w.heap.size 3 i0 _ 1 8 Tryz.underlying64 hi hz0 hz1 hz2 rfl (by decide) _ P2.length _ rfl (owns_ext hO.out ((Ext.refl wr).alloc _)) _ ([(r:Int)].map icell) rfl HIN.out icell_len ?c0 ?c1 ?c2 ?c3 ?_)
      case c0=>intro y hy;simp [icell] at hy;subst hy;rfl
      case c1=>have:=HL2.out;unfold maxLen;simp;omega
      case c2=>have:=HL2.out;(try simp);omega
      case c3=>have:=hE.out.size;(try simp only [World.size_alloc]);omega
      intro v7 w7 ho7 hg7 _
      have HO8:Hid (w7.ownsRow w.heap.size 3 1 v7 (lensL (NS.take (k+1))).length ((lnI (lensL (NS.take (k+1)))).map icell).flatten):=Hm (by
       rw [HR.out]
       exact own_more (by simpa [icell] using ho7))
      have HE8:Hid (Ext w w7):=Hm (Ext.grown (hE.out.trans ((Ext.refl wr).alloc _)) (owns_ext hO.out ((Ext.refl wr).alloc _)) hg7)
      clear ho7 hg7
      go_wp2
      go_roundg (ns.length - (k+1))
      case measure=>have:=HLT.out;omega
      case rel=>exact ⟨k+1,Nat.sub_add_cancel HLT.out,by go_num,HO8,HE8⟩
     ·have h0i: ¬ 0<(r:Int):=by omega
      have HR:Hid (lensL (NS.take (k+1))=P2):=Hm (by rw [HTK.out,HC1.out,if_neg h0,List.append_nil,←HP2.out])
      have HO8:Hid (wr.ownsRow w.heap.size 3 1 u3 (lensL (NS.take (k+1))).length ((lnI (lensL (NS.take (k+1)))).map icell).flatten):=Hm (by
       rw [HR.out]
       exact hO.out)
      clear h0 hb
      go_wp2
      go_roundg (ns.length - (k+1))
      case measure=>have:=HLT.out;omega
      case rel=>exact ⟨k+1,Nat.sub_add_cancel HLT.out,by go_num,HO8,hE⟩
  ·have hk:k=ns.length:=by omega
   have HTA:Hid (NS.take k=NS):=Hm (by rw [hk,←HNL.out];exact List.take_length)
   rw [HTA.out] at hO
   obtain ⟨a9,c9,rfl⟩:=owns_shape hO.out
   have hkl: ¬ (k:Int)<(ns.length:Int):=by omega
   clear hk
   go_wp2
   go_ret
   exact ⟨a9,c9,rfl,Sl.of_owns (base:=w.heap.size) (e:=3) (by rw [List.length_map,lnI_len];exact hO.out) icell_len,hE.out⟩
def PartHasR (p:Pt) (W:World) (ba aa ra ha ga:Option Addr) (bc ac rc hc gc:Nat):Prop:=
 Sl W (.slice ba p.e.b.length bc) 6 (p.e.b.map K.rc)∧Sl W (.slice aa p.e.a.length ac) 6 (p.e.a.map K.rc)∧Sl W (.slice ra p.e.rs.length rc) 2 (p.e.rs.map Rf.cells)∧Sl W (.slice ha p.hb.length hc) 2 (p.hb.map Ho.cells)∧Sl W (.slice ga p.ha.length gc) 2 (p.ha.map Ho.cells)
theorem PartHasR.ext {p:Pt} {W W' :World} {ba aa ra ha ga:Option Addr} {bc ac rc hc gc:Nat} (h:PartHasR p W ba aa ra ha ga bc ac rc hc gc) (he:Ext W W'):PartHasR p W' ba aa ra ha ga bc ac rc hc gc:=⟨h.1.ext he,h.2.1.ext he,h.2.2.1.ext he,h.2.2.2.1.ext he,h.2.2.2.2.ext he⟩
theorem PartHasR.zero (W:World):PartHasR Pt.zero W none none none none none 0 0 0 0 0:=⟨Sl.nil0 _ _,Sl.nil0 _ _,Sl.nil0 _ _,Sl.nil0 _ _,Sl.nil0 _ _⟩
theorem szL_more {W:World} {B:Nat} {v:Value} {P:List Int} {x:Int} (h:W.ownsRow B 3 1 v (P.length+1) ((P.map icell).flatten++ [.int .i64 x])):W.ownsRow B 3 1 v (P++ [x]).length ((P++ [x]).map icell).flatten:=by
 rw [List.length_append,List.map_append,List.flatten_append]
 simpa [icell] using h
theorem rsizes_any (p:Pt) (ba aa ra ha ga:Option Addr) (bc ac rc hc gc:Nat) (w:World) (h:PartHasR p w ba aa ra ha ga bc ac rc hc gc) (hn:p.hb.length+p.ha.length≤1000):
 Calls Tryz.prog 16 #[.agg #[.int .u8 p.e.kind, .int .u32 p.e.ao, .int .u32 p.e.av, .int .u8 p.e.old, .slice ba p.e.b.length bc, .slice aa p.e.a.length ac, .slice ra p.e.rs.length rc, .int .u8 p.e.fl, .slice ha p.hb.length hc, .slice ga p.ha.length gc]] w fun e w' =>∃a' c',e= .returned (.slice a' (sizesP p).length c')∧Sl w' (.slice a' (sizesP p).length c') 1 ((sizesP p).map icell)∧Ext w w' :=by
 obtain ⟨i0,hi,hz0,hz1,hz2⟩:=info_parts Tryz.infoIntL
 obtain ⟨⟨kind,ao,av,old,b,a,rs,fl⟩,hb,hg⟩:=p
 have hh1:=h.2.2.2.1
 have hh2:=h.2.2.2.2
 clear h
 simp only at hh1 hh2 hn⊢
 have H1:=Hm hh1
 have H2:=Hm hh2
 have HN:=Hm hn
 have HSP:Hid (sizesP ⟨⟨kind,ao,av,old,b,a,rs,fl⟩,hb,hg⟩=szL hb++szL hg):=Hm rfl
 rw [HSP.out]
 clear hh1 hh2 hn
 go_enter Tryz.func16,Tryz.ntmps16
 go_wp2
 have HB0:=Hm (Blk.new w #[.int .u8 kind, .int .u32 ao, .int .u32 av, .int .u8 old, .slice ba b.length bc, .slice aa a.length ac, .slice ra rs.length rc, .int .u8 fl, .slice ha hb.length hc, .slice ga hg.length gc] 53)
 have HE0:Hid (Ext w (w.alloc (.cells #[.int .u8 kind, .int .u32 ao, .int .u32 av, .int .u8 old, .slice ba b.length bc, .slice aa a.length ac, .slice ra rs.length rc, .int .u8 fl, .slice ha hb.length hc, .slice ga hg.length gc] 53))):=Hm ((Ext.refl w).alloc _)
 obtain ⟨W1,hW1⟩:∃W,W=w.alloc (.cells #[.int .u8 kind, .int .u32 ao, .int .u32 av, .int .u8 old, .slice ba b.length bc, .slice aa a.length ac, .slice ra rs.length rc, .int .u8 fl, .slice ha hb.length hc, .slice ga hg.length gc] 53):=⟨_,rfl⟩
 rw [←hW1] at HB0 HE0⊢
 clear hW1
 go_loopg [3,4] hb.length (fun z v i wr=>∃k:Nat,z+k=hb.length∧i= .int .i64 k∧Hid (wr.ownsRow W1.heap.size 3 1 v (szL (hb.take k)).length ((szL (hb.take k)).map icell).flatten)∧Hid (Ext W1 wr))
 case atStart=>exact ⟨0,by omega,rfl,Hm (by rw [List.take_zero];exact World.ownsRow_nil _ _ _ _),Hm (Ext.refl _)⟩
 case round=>
  obtain ⟨k,hzk,rfl,hO,hE⟩:=hrel
  have gB:=(HB0.out.ext hE.out).cell
  have zB:=(HB0.out.ext hE.out).lt
  by_cases hlt:k<hb.length
  ·obtain ⟨b1,o1,rfl,hb1,hx1⟩:=H1.out.at_ (i:=k) (by simpa using hlt)
   have hEw:Ext w wr:=HE0.out.trans hE.out
   obtain ⟨f0,f1⟩:=Ho.at_ hlt hx1 hb1 hEw
   have hbw:b1<wr.heap.size:=Nat.lt_of_lt_of_le hb1 hEw.size
   have HTK:=Hm (szL_snoc hb k hlt)
   obtain ⟨r,hre⟩:∃r,r=hb[k]:=⟨_,rfl⟩
   rw [←hre] at f0 f1 HTK
   have HLT:=Hm hlt
   have HLK:Hid ((szL (hb.take k)).length≤1000):=Hm (by unfold szL;rw [List.length_map,List.length_take];have:=HN.out;omega)
   have hkl:(k:Int)<(hb.length:Int):=by omega
   have hk63:(k:Int)≤1000:=by have:=HN.out;omega
   have HIN:=Hm (int_new wr r.n)
   clear hre hx1 hb1 hEw hlt
   go_wp2_with (at_builtin;refine wpList_append_sl rfl _ _ 64 rfl W1.heap.size 3 i0 _ 1 8 Tryz.underlying64 hi hz0 hz1 hz2 rfl (by decide) _ (szL (hb.take k)).length _ rfl (owns_ext hO.out ((Ext.refl wr).alloc _)) _ ([r.n].map icell) rfl HIN.out icell_len ?c0 ?c1 ?c2 ?c3 ?_)
   case c0=>intro y hy;simp [icell] at hy;subst hy;rfl
   case c1=>have:=HLK.out;unfold maxLen;simp;omega
   case c2=>have:=HLK.out;simp;omega
   case c3=>have:=hE.out.size;(try simp only [World.size_alloc]);omega
   intro v7 w7 ho7 hg7 _
   have HO8:Hid (w7.ownsRow W1.heap.size 3 1 v7 (szL (hb.take (k+1))).length ((szL (hb.take (k+1))).map icell).flatten):=Hm (by
    rw [HTK.out]
    exact szL_more (by simpa [icell] using ho7))
   have HE8:Hid (Ext W1 w7):=Hm (Ext.grown (hE.out.trans ((Ext.refl wr).alloc _)) (owns_ext hO.out ((Ext.refl wr).alloc _)) hg7)
   clear ho7 hg7 gB zB
   go_wp2
   go_roundg (hb.length - (k+1))
   case measure=>have:=HLT.out;omega
   case rel=>exact ⟨k+1,Nat.sub_add_cancel HLT.out,by go_num,HO8,HE8⟩
  ·obtain rfl:k=hb.length:=by omega
   rw [List.take_length] at hO
   go_wp2
   clear gB zB
   go_loopg [3,5] hg.length (fun z v i wr=>∃k:Nat,z+k=hg.length∧i= .int .i64 k∧Hid (wr.ownsRow W1.heap.size 3 1 v (szL hb++szL (hg.take k)).length ((szL hb++szL (hg.take k)).map icell).flatten)∧Hid (Ext W1 wr))
   case atStart=>exact ⟨0,by omega,rfl,Hm (by simpa [szL] using hO.out),hE⟩
   case round=>
    obtain ⟨k,hzk,rfl,hO,hE⟩:=hrel
    have gB:=(HB0.out.ext hE.out).cell
    have zB:=(HB0.out.ext hE.out).lt
    by_cases hlt:k<hg.length
    ·obtain ⟨b1,o1,rfl,hb1,hx1⟩:=H2.out.at_ (i:=k) (by simpa using hlt)
     have hEw:Ext w wr:=HE0.out.trans hE.out
     obtain ⟨f0,f1⟩:=Ho.at_ hlt hx1 hb1 hEw
     have hbw:b1<wr.heap.size:=Nat.lt_of_lt_of_le hb1 hEw.size
     have HTK:Hid (szL hb++szL (hg.take (k+1))=(szL hb++szL (hg.take k))++ [hg[k].n]):=Hm (by rw [szL_snoc hg k hlt,List.append_assoc])
     obtain ⟨r,hre⟩:∃r,r=hg[k]:=⟨_,rfl⟩
     rw [←hre] at f0 f1 HTK
     have HLT:=Hm hlt
     have HLK:Hid ((szL hb++szL (hg.take k)).length≤1000):=Hm (by unfold szL;rw [List.length_append,List.length_map,List.length_map,List.length_take];have:=HN.out;omega)
     have hkl:(k:Int)<(hg.length:Int):=by omega
     have hk63:(k:Int)≤1000:=by have:=HN.out;omega
     have HIN:=Hm (int_new wr r.n)
     obtain ⟨P,hP⟩:∃P,P=szL hb++szL (hg.take k):=⟨_,rfl⟩
     rw [←hP] at hO HTK HLK
     clear hre hx1 hb1 hEw hlt hP
     go_wp2_with (at_builtin;refine wpList_append_sl rfl _ _ 64 rfl W1.heap.size 3 i0 _ 1 8 Tryz.underlying64 hi hz0 hz1 hz2 rfl (by decide) _ P.length _ rfl (owns_ext hO.out ((Ext.refl wr).alloc _)) _ ([r.n].map icell) rfl HIN.out icell_len ?c0 ?c1 ?c2 ?c3 ?_)
     case c0=>intro y hy;simp [icell] at hy;subst hy;rfl
     case c1=>have:=HLK.out;unfold maxLen;simp;omega
     case c2=>have:=HLK.out;simp;omega
     case c3=>have:=hE.out.size;(try simp only [World.size_alloc]);omega
     intro v7 w7 ho7 hg7 _
     have HO8:Hid (w7.ownsRow W1.heap.size 3 1 v7 (szL hb++szL (hg.take (k+1))).length ((szL hb++szL (hg.take (k+1))).map icell).flatten):=Hm (by
      rw [HTK.out]
      exact szL_more (by simpa [icell] using ho7))
     have HE8:Hid (Ext W1 w7):=Hm (Ext.grown (hE.out.trans ((Ext.refl wr).alloc _)) (owns_ext hO.out ((Ext.refl wr).alloc _)) hg7)
     clear ho7 hg7 gB zB
     go_wp2
     go_roundg (hg.length - (k+1))
     case measure=>have:=HLT.out;omega
     case rel=>exact ⟨k+1,Nat.sub_add_cancel HLT.out,by go_num,HO8,HE8⟩
    ·obtain rfl:k=hg.length:=by omega
     rw [List.take_length] at hO
     obtain ⟨P,hP⟩:∃P,P=szL hb++szL hg:=⟨_,rfl⟩
     rw [←hP] at hO
     have HPP:=Hm hP
     obtain ⟨a9,c9,rfl⟩:=owns_shape hO.out
     clear hP
     go_wp2
     go_ret
     rw [←HPP.out]
     exact ⟨a9,c9,rfl,Sl.of_owns (base:=W1.heap.size) (e:=3) (by rw [List.length_map];exact hO.out) icell_len,HE0.out.trans hE.out⟩
theorem rjoin_any (ps:List ByteArray) (ns:List Int) (a b:Option Addr) (ca cb:Nat) (w:World) (hps:Sl w (.slice a ps.length ca) 1 (ps.map strC)) (hns:Sl w (.slice b ns.length cb) 1 (ns.map icell)) (hn:ns.length≤1000) (hpl:ps.length≤1000000) (hs:∀s∈ps,s.size≤1000000):
 Calls Tryz.prog 39 #[.slice a ps.length ca, .slice b ns.length cb] w (JoinQ ps ns w):=by
 obtain ⟨i0,hi,hz0,hz1,hz2⟩:=info_parts Tryz.infoStrS
 have HL:=Hm hns
 have HP:=Hm hps
 have HN:=Hm hn
 have HPL:=Hm hpl
 have HSS:=Hm hs
 have HLN:=Hm (fun W (h:Ext w W) (hb:∀x∈ns,0≤x∧x≤2048)=>rlens_any ns b cb W (hns.ext h) hn hb)
 clear hps hns hn hpl hs
 go_enter Tryz.func39,Tryz.ntmps39
 go_wp2
 go_loopg [6] ns.length (fun z i wr=>∃k:Nat,z+k=ns.length∧i= .int .i64 k∧Hid (∀j (hj:j<ns.length),j<k→0≤ns[j]∧ns[j]≤2048)∧Hid (Ext w wr))
 case atStart=>exact ⟨0,by omega,rfl,Hm (fun j _ h=>by omega),Hm (Ext.refl _)⟩
 case round=>
  obtain ⟨k,hzk,rfl,hF,hE⟩:=hrel
  by_cases hlt:k<ns.length
  ·obtain ⟨b1,o1,rfl,hb1,hx1⟩:=HL.out.at_ (i:=k) (by simpa using hlt)
   have f0:=int_at hlt hx1 hb1 hE.out
   have hbw:b1<wr.heap.size:=Nat.lt_of_lt_of_le hb1 hE.out.size
   have HBAD:Hid (ns[k]<0∨2048<ns[k]→joinE ps ns=4):=Hm (fun h=>joinE_bad hlt h)
   have HNX:Hid (0≤ns[k]∧ns[k]≤2048→∀j (hj:j<ns.length),j<k+1→0≤ns[j]∧ns[j]≤2048):=Hm (fun h j hj hjk=>by
    by_cases e:j=k
    ·subst e;exact h
    ·exact hF.out j hj (by omega))
   obtain ⟨x,hx⟩:∃x,x=ns[k]:=⟨_,rfl⟩
   rw [←hx] at f0 HBAD HNX
   have HLT:=Hm hlt
   have hk63:(k:Int)≤1000:=by have:=HN.out;omega
   have hkl:(k:Int)<(ns.length:Int):=by omega
   clear hx hx1 hb1
   by_cases h0:x<0
   ·have HE:=Hm (HBAD.out (.inl h0))
    go_wp2
    go_ret2
    exact JoinQ.bad HE.out (by decide) hE.out
   by_cases h1:2048<x
   ·have HE:=Hm (HBAD.out (.inr h1))
    go_wp2
    go_ret2
    exact JoinQ.bad HE.out (by decide) hE.out
   have HO:=Hm (HNX.out (by omega))
   go_wp2
   go_roundg (ns.length - (k+1))
   case measure=>have:=HLT.out;omega
   case rel=>exact ⟨k+1,Nat.sub_add_cancel HLT.out,by go_num,HO,hE⟩
  ·have hk:k=ns.length:=by omega
   have HFT:=Hm (joinE_fit (ps:=ps) (ns:=ns) (fun j hj=>hF.out j hj (by omega)))
   have HFA:=Hm (fun j (hj:j<ns.length)=>hF.out j hj (by omega))
   have HLQ:=Hm (HLN.out wr hE.out (fun x hx=>by obtain ⟨j,hj,rfl⟩:=List.getElem_of_mem hx;exact HFA.out j hj))
   unfold LensQ at HLQ
   clear hF HLN
   subst hk
   obtain ⟨NS,hNS⟩:∃N,N=ns.map Int.toNat:=⟨_,rfl⟩
   have HNL:Hid (NS.length=ns.length):=Hm (by rw [hNS];simp)
   have HNA:Hid (∀j (h1:j<ns.length) (h2:j<NS.length),ns[j]=(NS[j]:Int)∧NS[j]≤2048):=Hm (fun j h1 h2=>by
    have h3:=HFA.out j h1
    subst hNS
    rw [List.getElem_map]
    omega)
   have HNS:=Hm hNS
   obtain ⟨LL,hLL⟩:∃L,L=lensL NS:=⟨_,rfl⟩
   rw [←hNS,←hLL] at HLQ
   rw [←hNS,←hLL] at HFT
   have HLL:=Hm hLL
   have HLB:Hid (LL.length≤8000):=Hm (by
    rw [hLL]
    have h1:=lensL_le (ns:=NS) (fun n hn=>by
     obtain ⟨j,hj,rfl⟩:=List.getElem_of_mem hn
     exact (HNA.out j (by have:=HNL.out;omega) hj).2)
    have h2:=HN.out
    have h3:=HNL.out
    omega)
   clear hNS hLL HFA
   have HCJ:Hid (ps.map ByteArray.size=LL→cutT (catL ps) NS=joinT ps NS):=Hm (fun h=>cut_join NS ps (by rw [h,HLL.out]))
   have HSUM:Hid (ps.map ByteArray.size=LL→(catL ps).size=NS.sum):=Hm (fun h=>by rw [catL_size,h,HLL.out,lensL_sum])
   by_cases hpq:ps.length=LL.length
   case neg=>
    have hne:((LL.length:Int) !=(ps.length:Int))=true:=by simp;omega
    have HE:Hid (joinE ps ns=16):=Hm (by
     rw [HFT.out,if_neg]
     intro e
     have h1:=congrArg List.length e
     rw [List.length_map] at h1
     exact hpq h1)
    clear hpq HCJ HSUM
    go_wp2_with (go_at_call 15;refine HLQ.out.mono ?_;rintro e w2 ⟨a2,c2,rfl,hs2,hb2⟩;have HE2:=Hm (hE.out.trans hb2);clear hs2 hb2)
    go_ret2
    exact JoinQ.bad HE.out (by decide) HE2.out
   have hne:((LL.length:Int) !=(ps.length:Int))=false:=by simp;omega
   have HPQ:=Hm hpq
   clear hpq
   go_wp2_with (go_at_call 15;refine HLQ.out.mono ?_;rintro e w2 ⟨a2,c2,rfl,hs2,hb2⟩;have HS2:=Hm hs2;have HE2:=Hm (hE.out.trans hb2);clear hs2 hb2)
   clear HLQ hne
   go_loopg [8,9] ps.length (fun z s i wr=>∃k:Nat,z+k=ps.length∧i= .int .i64 k∧s= .string (catL (ps.take k))∧Hid (Mat ps LL k)∧Hid (Ext w2 wr))
   case atStart=>exact ⟨0,by omega,rfl,by rw [List.take_zero];rfl,Hm (Mat.zero _ _),Hm (Ext.refl _)⟩
   case round=>
    obtain ⟨k,hzk,rfl,rfl,hM,hE2⟩:=hrel
    have hEw:Ext w wr:=HE2.out.trans hE2.out
    by_cases hlt:k<ps.length
    ·have hlt2:k<LL.length:=by have:=HPQ.out;omega
     obtain ⟨b2,o2,rfl,hb2,hx2⟩:=HP.out.at_ (i:=k) (by simpa using hlt)
     have p0:=str_at hlt hx2 hb2 hEw
     have hlt3:k<(lnI LL).length:=by rw [lnI_len];exact hlt2
     obtain ⟨b3,o3,rfl,hb3,hx3⟩:=HS2.out.at_ (i:=k) (by simpa using hlt3)
     have p1:=int_at hlt3 hx3 hb3 hE2.out
     have e1:(lnI LL)[k]=((LL[k]:Nat):Int):=by simp [lnI]
     rw [e1] at p1
     have hbw:b2<wr.heap.size:=Nat.lt_of_lt_of_le hb2 hEw.size
     have hbw3:b3<wr.heap.size:=Nat.lt_of_lt_of_le hb3 hE2.out.size
     have HAT:Hid (LL[k]? =some LL[k]):=Hm (List.getElem?_eq_getElem hlt2)
     have hz1:=HSS.out ps[k] (List.getElem_mem hlt)
     have HCS:Hid (catL (ps.take (k+1))=catL (ps.take k)++ps[k]):=Hm (by rw [List.take_succ_eq_append_getElem hlt,catL_snoc])
     have HCZ:Hid ((catL (ps.take k)).size≤k*1000000):=Hm (by
      rw [catL_size]
      have h1:∀(l:List ByteArray),(∀s∈l,s.size≤1000000)→(l.map ByteArray.size).sum≤l.length*1000000:=by
       intro l
       induction l with
       |nil=>intro _;simp
       |cons s l ih=>
        intro h
        have h1:=ih (fun t ht=>h t (List.mem_cons_of_mem _ ht))
        have h2:=h s (by simp)
        simp only [List.map_cons,List.sum_cons,List.length_cons]
        omega
      have h2:=h1 (ps.take k) (fun s hs=>HSS.out s (List.mem_of_mem_take hs))
      rw [List.length_take] at h2
      exact Nat.le_trans h2 (Nat.mul_le_mul_right _ (Nat.min_le_left _ _)))
     have HMS:Hid (ps[k].size=LL[k]→Mat ps LL (k+1)):=Hm (fun h=>hM.out.succ hlt (by rw [HAT.out,h]))
     have HMI:Hid (ps[k].size≠LL[k]→joinE ps ns=16):=Hm (fun h=>by rw [HFT.out,if_neg (mism HAT.out (fun _=>h))])
     obtain ⟨S,hS⟩:∃S,S=catL (ps.take k):=⟨_,rfl⟩
     obtain ⟨t,ht⟩:∃t,t=ps[k]:=⟨_,rfl⟩
     obtain ⟨m,hm⟩:∃m,m=LL[k]:=⟨_,rfl⟩
     rw [←hS] at HCS HCZ⊢
     rw [←ht] at p0 hz1 HCS HMS HMI
     rw [←hm] at p1 HMS HMI
     have hst:S.size+t.size≤9223372036854775807:=by have h1:=HCZ.out;have h2:=HPL.out;omega
     have HLT:=Hm hlt
     have hk63:(k:Int)≤1000000:=by have:=HPL.out;omega
     have hkl:(k:Int)<(LL.length:Int):=by omega
     have hkp:(k:Int)<(ps.length:Int):=by omega
     clear hS ht hm e1 hx2 hx3 hb2 hb3 hlt2 hlt3 HAT hlt
     by_cases htz:t.size=m
     ·have hq:((t.size:Int) !=(m:Int))=false:=by rw [htz];simp
      have HM2:=Hm (HMS.out htz)
      clear htz
      go_wp2
      go_region_held3 (fun w' =>Ext (wr) w'∧(∀b o,b<(wr).heap.size→w'.cell? ⟨b,o,none⟩=(wr).cell? ⟨b,o,none⟩)∧(∀b o,b<(wr).heap.size→w'.frozen? ⟨b,o,none⟩=(wr).frozen? ⟨b,o,none⟩)) ((exact held_of (by exact eX))) (fail)
      go_wp2
      go_roundg (ps.length - (k+1))
      case measure=>have:=HLT.out;omega
      case rel=>exact ⟨k+1,Nat.sub_add_cancel HLT.out,by go_num,by rw [HCS.out],HM2,Hm (hE2.out.trans (by exact eX))⟩
     ·have hq:((t.size:Int) !=(m:Int))=true:=by simp;omega
      have HE:=Hm (HMI.out htz)
      clear htz
      go_wp2
      go_region_held3 (fun w' =>Ext (wr) w'∧(∀b o,b<(wr).heap.size→w'.cell? ⟨b,o,none⟩=(wr).cell? ⟨b,o,none⟩)∧(∀b o,b<(wr).heap.size→w'.frozen? ⟨b,o,none⟩=(wr).frozen? ⟨b,o,none⟩)) ((exact held_of (by exact eX))) (fail)
      go_wp2
      go_ret2
      exact JoinQ.bad HE.out (by decide) (hEw.trans (by exact eX))
    ·have hk:k=ps.length:=by omega
     have HALL:=Hm (Mat.all (l:=LL) (by rw [←HPQ.out,←hk];exact hM.out) HPQ.out)
     have HE:Hid (joinE ps ns=0):=Hm (by rw [HFT.out,if_pos HALL.out])
     have HW:Hid (joinW ps ns=cutT (catL ps) NS):=Hm (by unfold joinW;rw [if_pos HE.out,←HNS.out,HCJ.out HALL.out])
     have HSU:=Hm (HSUM.out HALL.out)
     have HEW:=Hm hEw
     have hkl: ¬ (k:Int)<(LL.length:Int):=by have:=HPQ.out;omega
     have htk:ps.take k=ps:=by rw [hk];exact List.take_length
     rw [htk]
     obtain ⟨C,hC⟩:∃C,C=catL ps:=⟨_,rfl⟩
     rw [←hC] at HW HSU⊢
     clear hC htk HCJ HSUM HALL hEw hM hk
     go_wp2
     go_loopg [8,10,11] ns.length (fun z s v i wr=>∃k:Nat,z+k=ns.length∧i= .int .i64 k∧s= .string (restT C NS k)∧Hid (wr.ownsRow w.heap.size 9 1 v ((cutT C NS).take k).length (((cutT C NS).take k).map strC).flatten)∧Hid (Ext w wr))
     case atStart=>exact ⟨0,by omega,rfl,rfl,Hm (by rw [List.take_zero];exact World.ownsRow_nil _ _ _ _),HEW⟩
     case round=>
      obtain ⟨k,hzk,rfl,rfl,hO,hE⟩:=hrel
      by_cases hlt:k<ns.length
      ·obtain ⟨b1,o1,rfl,hb1,hx1⟩:=HL.out.at_ (i:=k) (by simpa using hlt)
       have f0:=int_at hlt hx1 hb1 hE.out
       have hbw:b1<wr.heap.size:=Nat.lt_of_lt_of_le hb1 hE.out.size
       have hlt2:k<NS.length:=by have:=HNL.out;omega
       have hna:=(HNA.out k hlt hlt2).1
       rw [hna] at f0
       have HCT:=Hm (cutT_take NS C k hlt2)
       have HRZ:Hid (NS[k]≤(restT C NS k).size∧(restT C NS k).size≤C.size):=Hm (by
        have h1:=take_sum_le NS (k+1)
        rw [List.take_succ_eq_append_getElem hlt2,List.sum_append,List.sum_cons,List.sum_nil] at h1
        have h2:=restT_size C NS k (by omega) (by have:=HSU.out;omega)
        have:=HSU.out
        omega)
       have HRS:Hid (restT C NS (k+1)=(restT C NS k).extract NS[k] (restT C NS k).size):=Hm (by
        rw [restT,List.getD_eq_getElem?_getD,List.getElem?_eq_getElem hlt2];rfl)
       have HTL:Hid (((cutT C NS).take k).length≤1000):=Hm (by rw [List.length_take,cutT_len];have:=HNL.out;have:=HN.out;omega)
       obtain ⟨R,hR⟩:∃R,R=restT C NS k:=⟨_,rfl⟩
       obtain ⟨n,hn⟩:∃n,n=NS[k]:=⟨_,rfl⟩
       obtain ⟨P,hP⟩:∃P,P=(cutT C NS).take k:=⟨_,rfl⟩
       rw [←hR] at HCT HRZ HRS⊢
       rw [←hn] at f0 HCT HRZ HRS
       rw [←hP] at hO HCT HTL
       have HLT:=Hm hlt
       have hk63:(k:Int)≤1000:=by have:=HN.out;omega
       have hkl:(k:Int)<(ns.length:Int):=by omega
       have hnr:(n:Int)≤(R.size:Int):=by have:=HRZ.out;omega
       have HF0:Hid (∀W,Ext w W→W.cell? ⟨b1,o1+k,none⟩=some (.int .i64 (n:Int))∧b1<W.heap.size):=Hm (fun W h=>by
        have h1:=int_at hlt hx1 hb1 h
        rw [hna,←hn] at h1
        exact ⟨h1,Nat.lt_of_lt_of_le hb1 h.size⟩)
       have HSN:=Hm (fun (W:World) (s:ByteArray)=>(Sl.new W #[.string s] 9 1 1 1 [[.string s]] rfl (by intro xs hxs;simp at hxs;subst hxs;rfl) rfl))
       clear hR hn hP hx1 hb1 hna hlt hlt2
       go_wp2_with (at_builtin;refine wpList_append_sl rfl _ _ 24 rfl w.heap.size 9 i0 _ 1 16 Tryz.underlying24 hi hz0 hz1 hz2 rfl (by decide) _ P.length _ rfl (owns_ext hO.out ((Ext.refl wr).alloc _)) _ [[.string (R.extract 0 n)]] rfl (HSN.out wr _) ?c0 ?c1 ?c2 ?c3 ?c4 ?_)
       case c0=>intro ys hys;simp at hys;subst hys;rfl
       case c1=>intro y hy;simp at hy;subst hy;rfl
       case c2=>have:=HTL.out;unfold maxLen;simp only [List.length_cons,List.length_nil];omega
       case c3=>have:=HTL.out;simp only [List.length_cons,List.length_nil];omega
       case c4=>have h1:=hE.out.size;(try simp only [World.size_alloc]);omega
       intro v7 w7 ho7 hg7 _
       have HO8:Hid (w7.ownsRow w.heap.size 9 1 v7 ((cutT C NS).take (k+1)).length (((cutT C NS).take (k+1)).map strC).flatten):=Hm (by
        rw [HCT.out,List.map_append,List.flatten_append,List.length_append]
        simpa [strC] using ho7)
       have HE8:Hid (Ext w w7):=Hm (Ext.grown (hE.out.trans ((Ext.refl wr).alloc _)) (owns_ext hO.out ((Ext.refl wr).alloc _)) hg7)
       clear ho7 hg7 f0 hbw
       have f7:=(HF0.out _ HE8.out).1
       have z7:=(HF0.out _ HE8.out).2
       go_wp2
       go_roundg (ns.length - (k+1))
       case measure=>have:=HLT.out;omega
       case rel=>exact ⟨k+1,Nat.sub_add_cancel HLT.out,by go_num,by rw [HRS.out],HO8,HE8⟩
      ·have hk:k=ns.length:=by omega
       have hta:(cutT C NS).take k=cutT C NS:=by rw [hk,←HNL.out,←cutT_len NS C];exact List.take_length
       rw [hta] at hO
       have hkl: ¬ (k:Int)<(ns.length:Int):=by omega
       obtain ⟨J,hJ⟩:∃J,J=cutT C NS:=⟨_,rfl⟩
       rw [←hJ] at hO HW
       obtain ⟨a9,c9,rfl⟩:=owns_shape hO.out
       clear hk hta hJ
       go_wp2
       go_ret2
       unfold JoinQ
       rw [HE.out,HW.out]
       exact ⟨a9,c9,rfl,Sl.of_owns (base:=w.heap.size) (e:=9) (by rw [List.length_map];exact hO.out) strC_one,owns_caps hO.out,hE.out⟩
def AB (w:World) (v:Value) (l:List Int):Prop:=SB w w.heap.size 0 v l
theorem AB.of_sl {w:World} {v:Value} {l:List Int} (h:Sl w v 1 (l.map bcell)) (hn:∀a len cap,v= .slice a len cap→len≤cap∧(a=none→cap=0)):AB w v l:=by
 have h0:=h
 obtain ⟨a,cap,rfl,hs⟩:=h
 have h1:=hn _ _ _ rfl
 rw [List.length_map] at h1
 refine ⟨a,cap,by rw [List.length_map],h1.1,h1.2, ?_⟩
 rcases hs with hs|⟨b,o,ha,hb,hc⟩
 ·exact .inl (by simpa using hs)
 ·refine .inr ⟨b,o,ha,hb,⟨Nat.zero_le _,hb⟩,fun i hi=> ?_⟩
  have h2:=hc i (by simpa using hi) 0 (by decide)
  rw [getD_map bcell l hi] at h2
  simp only [Nat.mul_one,Nat.add_zero] at h2
  rw [h2]
  simp [bcell,hi]
theorem AB.ext {w w' :World} {v:Value} {l:List Int} (h:AB w v l) (he:Ext w w'):AB w' v l:=by
 obtain ⟨a,cap,rfl,h1,h2,hs⟩:=SB.ext h he
 refine ⟨a,cap,rfl,h1,h2,hs.imp id ?_⟩
 rintro ⟨b,o,ha,hb,hd,hc⟩
 exact ⟨b,o,ha,hb,⟨hd.1,hb⟩,hc⟩
theorem RF.arg {w:World} {v:Value} {l:List Int} (h:AB w v l) (hb:isB l) (hl:l.length≤1000000):RF (w.alloc (.cells #[v, .int .i64 0, .int .i64 0] 91)) w.heap.size 0 ⟨l,0⟩:=
 ⟨v,l,0,Blk.new _ _ _,SB.ext h ((Ext.refl w).alloc _),Nat.zero_le _,by simp,hb,hl⟩
theorem fend_any (g d:Nat) (st:RS) (w:World) (h:RF w g d st):
 Calls Tryz.prog 32 #[.pointer (some ⟨g,0,none⟩)] w fun e w' =>e= .returned (.int .i64 (endE st))∧Ext w w' :=by
 have HL:=Hm (fleft_any g d st w h)
 have HK:=Hm h.ok
 obtain ⟨v,L,a,hb, -⟩:=h
 have HC:=Hm hb
 have hc:=hb.cell
 have hz:=hb.lt
 clear hb
 by_cases he:st.e=0
 ·rw [he] at hc HC
  by_cases hl:st.l= []
  ·have HR:=Hm (show endE st=0 from by unfold endE;rw [if_neg (fun h=>h.2 hl),he])
   rw [hl] at HL
   simp only [List.length_nil] at HL
   clear he hl HK
   go_enter Tryz.func32,Tryz.ntmps32
   go_wp2_with (go_at_call 56;refine HL.out.mono ?_;rintro e w1 ⟨rfl,m,rfl⟩)
   go_ret
   exact ⟨ret_int HR.out.symm,(Ext.refl w).drewN m⟩
  ·have HR:=Hm (show endE st=2 from by unfold endE;rw [if_pos ⟨he,hl⟩])
   have hln:0<st.l.length:=List.length_pos_iff.2 hl
   obtain ⟨n,hn⟩:∃n,n=st.l.length:=⟨_,rfl⟩
   rw [←hn] at HL hln
   clear he hl HK hn
   go_enter Tryz.func32,Tryz.ntmps32
   go_wp2_with (go_at_call 56;refine HL.out.mono ?_;rintro e w1 ⟨rfl,m,rfl⟩)
   go_ret
   exact ⟨ret_int HR.out.symm,(Ext.refl w).drewN m⟩
 ·have HR:=Hm (show endE st=st.e from by unfold endE;rw [if_neg (fun h=>he h.1)])
  obtain ⟨E,hE⟩:∃E,E=st.e:=⟨_,rfl⟩
  rw [←hE] at hc HR he
  have he1:(E==0)=false:=by simpa using he
  clear hE he HL HC
  go_enter Tryz.func32,Tryz.ntmps32
  go_wp2
  go_ret
  exact ⟨ret_int HR.out.symm,by exact eX⟩
end Go.Proofs.YtodbhliidbclcaaGreat
