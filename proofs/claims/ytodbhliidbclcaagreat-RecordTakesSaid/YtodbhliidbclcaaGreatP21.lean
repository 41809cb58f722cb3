/-
The holes of a part: their sizes, how many pieces.
-/
import Derived.Lib.AppendZerosOnto
import Derived.Laws.AppendOwn
import Derived.Shelf.Strings.OnBuilder
import Derived.Test.YtodbhliidbclcaaGreatP20
set_option maxRecDepth 100000
set_option maxHeartbeats 16000000
namespace Go.Proofs.YtodbhliidbclcaaGreat
open Go.RowKit Go.Lib
theorem Tryz.infoHoleS:(Tryz.prog.info? 103).map (fun i=>(i.zero,i.size,i.bytes))=some (some (.agg #[.int .i64 0, .int .i64 0]),2,16):=by kernel_rfl
theorem Tryz.infoIntS:(Tryz.prog.info? 3).map (fun i=>(i.zero,i.size,i.bytes))=some (some (.int .i64 0),1,8):=by kernel_rfl
theorem wpList_append_run {P:Program} {w:World} {ops:Array Oper} {rest:List Oper} {o:Oper} {a:Act} {Q:Exit→Act→World→Prop} (hgd:o.guard=none) (s x:Operand) (t tx:TypeId)
 (ho:o.op= .call { callee:= .builtin .append,args:= #[s,x],argTypes:= #[t,tx] }) (v u v' :Value) (w' :World) (hs:a.eval s=v) (hx:a.eval x=u) (hrun:(Builtin.append_ #[t,tx] o.type #[v,u]).run P w= .ok v' w')
 (h:wpList P ops Q rest (a.put o.dst v') w'):wpList P ops Q (o::rest) a w:=by
 refine wpList_plain hgd fun K hK=> ?_
 unfold Oper.wp execOp
 simp only [ho,resolve,invoke,builtin,Sem.run_bind,Sem.run_pure,Result.andThen_ok,List.map_toArray,List.map_cons,List.map_nil,hs,hx,hrun]
 exact hK _ _ h
theorem grow0_any (n:Nat) (w:World) (hn:n≤1000):
 Calls Tryz.prog 90 #[.slice none 0 0, .int .i64 n] w fun e w' =>∃v',e= .returned v'∧w'.ownsRow w.heap.size 103 2 v' 0 []∧Ext w w' :=by
 obtain ⟨i0,hi,hz0,hz1,hz2⟩:=info_parts Tryz.infoHoleS
 by_cases h0:n=0
 ·subst h0
  go_enter Tryz.func90,Tryz.ntmps90
  go_wp2
  go_ret
  exact ⟨_,rfl,World.ownsRow_nil _ _ _ _,Ext.refl _⟩
 ·have h1: ¬ ((n:Int)<0):=by omega
  have h4:0<(n:Int):=by omega
  have hold:(Builtin.firstCells i0.size 0 (.slice none 0 0)).run Tryz.prog w.drew= .ok ([]:List Value).toArray w.drew:=run_firstCells_none w.drew i0.size 0 0 0
  have hrz:=fun ty=>Lib.run_append_grow_zeros (P:=Tryz.prog) w 40 3 ty 103 i0 _ .i64 .i64 Tryz.underlying40 Tryz.underlying3 hi hz0 none 0 0 [] hold n (by omega) (by rw [hz1];decide) (by omega) (by omega) (by rw [hz2];omega) (growslice_fits (by omega) (by rw [hz2];omega))
  obtain ⟨G,hG⟩:∃G,G=grownCap w (0+n) 0 103:=⟨_,rfl⟩
  have hG1:n≤G:=by rw [hG,Nat.zero_add];exact grownCap_ge w _ _ _
  have hG2:G≤maxLen:=by rw [hG];exact grownCap_le_maxLen w _ _ _ (by unfold maxLen;omega)
  rw [←hG] at hrz
  simp only [Nat.zero_add] at hrz
  have HRZ:=Hm hrz
  clear hrz hold hG
  go_enter Tryz.func90,Tryz.ntmps90
  go_wp2_with (at_builtin;refine wpList_append_run rfl _ _ 40 3 rfl (.slice none 0 0) (.int .i64 n) _ _ rfl rfl (HRZ.out _) ?_)
  go_ret
  refine ⟨_,rfl,⟨by simp, .inr ⟨w.heap.size,G,_,rfl,Nat.le_refl _,Blk.new w.drew _ 103,Nat.zero_le _,hG2, ?_,by simp⟩⟩,by exact eX⟩
  simp [size_zeroCells]
  omega
def nsK (n1 n2:Nat) (k:Nat):Nat:=if k=0 then 0 else if k=1 then n1 else n1+n2
def twoK {α:Type} (l1 l2:List α) (k:Nat):List α:=if k=0 then [] else if k=1 then l1 else l1++l2
theorem ho_len2 {l:List Ho} :∀xs∈l.map Ho.cells,xs.length=2:=by intro xs hxs;simp at hxs;obtain ⟨a,_,rfl⟩:=hxs;rfl
theorem ho_one {l:List Ho} :∀y∈(l.map Ho.cells).flatten,y.oneCell' =true:=by
 intro y hy
 simp only [List.mem_flatten,List.mem_map] at hy
 obtain ⟨m,⟨s, -,rfl⟩,hy⟩:=hy
 simp [Ho.cells] at hy
 rcases hy with rfl|rfl<;>rfl
theorem concat_any (B:Nat) (a1 a2:Option Addr) (c1 c2:Nat) (l1 l2:List Ho) (w:World) (hB:Blk w B #[.slice a1 l1.length c1, .slice a2 l2.length c2] 40) (h1:Sl w (.slice a1 l1.length c1) 2 (l1.map Ho.cells)) (h2:Sl w (.slice a2 l2.length c2) 2 (l2.map Ho.cells)) (hn:l1.length+l2.length≤1000):
 Calls Tryz.prog 65 #[.slice (some ⟨B,0,none⟩) 2 2] w fun e w' =>∃a' c',e= .returned (.slice a' (l1++l2).length c')∧Sl w' (.slice a' (l1++l2).length c') 2 ((l1++l2).map Ho.cells)∧Ext w w' :=by
 obtain ⟨i0,hi,hz0,hz1,hz2⟩:=info_parts Tryz.infoHoleS
 have HB:=Hm hB
 have H1:=Hm h1
 have H2:=Hm h2
 have HN:=Hm hn
 have HG:=Hm (fun n W hn=>grow0_any n W hn)
 clear hB h1 h2 hn
 obtain ⟨n1,hn1⟩:∃n,n=l1.length:=⟨_,rfl⟩
 obtain ⟨n2,hn2⟩:∃n,n=l2.length:=⟨_,rfl⟩
 rw [←hn1] at HB H1 HN
 rw [←hn2] at HB H2 HN
 have HL:=Hm (And.intro hn1 hn2)
 clear hn1 hn2
 have gB:=HB.out.cell
 have zB:=HB.out.lt
 go_enter Tryz.func65,Tryz.ntmps65
 go_wp2
 go_loopg [3,11,5] 2 (fun z s i u wr=>∃k:Nat,z+k=2∧i= .int .i64 k∧s= .int .i64 (nsK n1 n2 k)∧Hid (Ext w wr))
 case atStart=>exact ⟨0,rfl,rfl,rfl,Hm (Ext.refl _)⟩
 case round=>
  obtain ⟨k,hzk,rfl,hs,hE⟩:=hrel
  have gw:∀o,wr.cell? ⟨B,o,none⟩=(#[.slice a1 n1 c1, .slice a2 n2 c2]:Array Value)[o]? :=(HB.out.ext hE.out).cell
  have zw:=(HB.out.ext hE.out).lt
  have hn1:(n1:Int)≤1000:=by have:=HN.out;omega
  have hn2:(n2:Int)≤1000:=by have:=HN.out;omega
  have hk:k=0∨k=1∨k=2:=by omega
  rcases hk with rfl|rfl|rfl
  ·rw [show nsK n1 n2 0=0 from rfl] at hs;subst hs
   have hp1:0≤(n1:Int):=by omega
   go_wp2
   go_roundg 1
   case measure=>omega
   case rel=>exact ⟨1,rfl,by go_num,by rw [show nsK n1 n2 1=n1 from rfl],hE⟩
  ·rw [show nsK n1 n2 1=n1 from rfl] at hs;subst hs
   have hp1:0≤(n1:Int)+(n2:Int):=by omega
   go_wp2
   go_roundg 0
   case measure=>omega
   case rel=>exact ⟨2,rfl,by go_num,by rw [show nsK n1 n2 2=n1+n2 from rfl,Int.natCast_add],hE⟩
  ·rw [show nsK n1 n2 2=n1+n2 from rfl,Int.natCast_add] at hs;subst hs
   have HGX:=Hm (fun W=>(show Calls Tryz.prog 90 #[.slice none 0 0, .int .i64 ((n1:Int)+(n2:Int))] W fun e w' =>∃v',e= .returned v'∧w'.ownsRow W.heap.size 103 2 v' 0 []∧Ext W w' from by
    have h:=HG.out (n1+n2) W HN.out
    rw [Int.natCast_add] at h
    exact h))
   clear gw zw
   go_upto_region 11 with (go_at_call 90;refine (HGX.out _).mono ?_;rintro e w6 ⟨v6,rfl,ho6,hb6⟩;have HO6:=Hm ho6;have HE6:=Hm (hE.out.trans hb6);have HZ6:=Hm (And.intro hE.out.size hb6.size);clear ho6 hb6)
   clear hE HGX HG
   have HO7:Hid (w6.ownsRow w.heap.size 103 2 v6 (nsK n1 n2 0) ((twoK l1 l2 0).map Ho.cells).flatten):=Hm (owns_base HO6.out HZ6.out.1)
   clear HO6 HZ6
   go_loopg [6,27,8] 2 (fun z v i u wr=>∃k:Nat,z+k=2∧i= .int .i64 k∧Hid (wr.ownsRow w.heap.size 103 2 v (nsK n1 n2 k) ((twoK l1 l2 k).map Ho.cells).flatten)∧Hid (Ext w wr))
   case atStart=>exact ⟨0,rfl,rfl,HO7,HE6⟩
   case round=>
    obtain ⟨k,hzk,rfl,hO,hE⟩:=hrel
    have gw:∀o,wr.cell? ⟨B,o,none⟩=(#[.slice a1 n1 c1, .slice a2 n2 c2]:Array Value)[o]? :=(HB.out.ext hE.out).cell
    have zw:=(HB.out.ext hE.out).lt
    have hk:k=0∨k=1∨k=2:=by omega
    rcases hk with rfl|rfl|rfl
    ·go_wp2_with (at_builtin;refine wpList_append_sl rfl _ _ 40 rfl w.heap.size 103 i0 _ 2 16 Tryz.underlying40 hi hz0 hz1 hz2 rfl (by decide) _ (nsK n1 n2 0) _ rfl hO.out (.slice a1 n1 c1) (l1.map Ho.cells) rfl (H1.out.ext hE.out) ho_len2 ho_one ?c1 ?c2 ?c3 ?_)
     case c1=>have:=HN.out;have:=HL.out;rw [List.length_map];unfold nsK maxLen;simp;omega
     case c2=>have:=HN.out;have:=HL.out;rw [List.length_map];unfold nsK;simp;omega
     case c3=>exact hE.out.size
     intro v7 w7 ho7 hg7 _
     have HO8:Hid (w7.ownsRow w.heap.size 103 2 v7 (nsK n1 n2 1) ((twoK l1 l2 1).map Ho.cells).flatten):=Hm (by
      have h:=ho7
      rw [show nsK n1 n2 0=0 from rfl,show twoK l1 l2 0= [] from rfl] at h
      rw [show nsK n1 n2 1=n1 from rfl,show twoK l1 l2 1=l1 from rfl,HL.out.1]
      simpa using h)
     have HE8:Hid (Ext w w7):=Hm (Ext.grown hE.out hO.out hg7)
     clear ho7 hg7 gw zw
     go_wp2
     go_roundg 1
     case measure=>omega
     case rel=>exact ⟨1,rfl,by go_num,HO8,HE8⟩
    ·go_wp2_with (at_builtin;refine wpList_append_sl rfl _ _ 40 rfl w.heap.size 103 i0 _ 2 16 Tryz.underlying40 hi hz0 hz1 hz2 rfl (by decide) _ (nsK n1 n2 1) _ rfl hO.out (.slice a2 n2 c2) (l2.map Ho.cells) rfl (H2.out.ext hE.out) ho_len2 ho_one ?c1 ?c2 ?c3 ?_)
     case c1=>have:=HN.out;have:=HL.out;rw [List.length_map];unfold nsK maxLen;simp;omega
     case c2=>have:=HN.out;have:=HL.out;rw [List.length_map];unfold nsK;simp;omega
     case c3=>exact hE.out.size
     intro v7 w7 ho7 hg7 _
     have HO8:Hid (w7.ownsRow w.heap.size 103 2 v7 (nsK n1 n2 2) ((twoK l1 l2 2).map Ho.cells).flatten):=Hm (by
      have h:=ho7
      rw [show nsK n1 n2 1=n1 from rfl,show twoK l1 l2 1=l1 from rfl] at h
      rw [show nsK n1 n2 2=n1+n2 from rfl,show twoK l1 l2 2=l1++l2 from rfl,List.map_append,List.flatten_append]
      first|exact h|(rw [HL.out.2];simpa using h))
     have HE8:Hid (Ext w w7):=Hm (Ext.grown hE.out hO.out hg7)
     clear ho7 hg7 gw zw
     go_wp2
     go_roundg 0
     case measure=>omega
     case rel=>exact ⟨2,rfl,by go_num,HO8,HE8⟩
    ·have HO9:Hid (wr.ownsRow w.heap.size 103 2 u6 (l1++l2).length ((l1++l2).map Ho.cells).flatten):=Hm (by
      have h:=hO.out
      rw [show nsK n1 n2 2=n1+n2 from rfl,show twoK l1 l2 2=l1++l2 from rfl] at h
      rw [List.length_append,←HL.out.1,←HL.out.2]
      exact h)
     clear hO gw zw
     obtain ⟨L,hL⟩:∃L,L=l1++l2:=⟨_,rfl⟩
     rw [←hL] at HO9
     have HLL:=Hm hL
     clear hL
     obtain ⟨a9,c9,rfl⟩:=owns_shape HO9.out
     go_wp2
     go_ret
     have hh:=HLL.out
     subst hh
     exact ⟨a9,c9,rfl,Sl.of_owns (base:=w.heap.size) (e:=103) (by rw [List.length_map];exact HO9.out) ho_len2,hE.out⟩
def szL (l:List Ho):List Int:=l.map Ho.n
def icell (x:Int):List Value:= [.int .i64 x]
theorem icell_len {l:List Int} :∀xs∈l.map icell,xs.length=1:=by intro xs hxs;simp at hxs;obtain ⟨a,_,rfl⟩:=hxs;rfl
theorem szL_snoc (l:List Ho) (k:Nat) (hk:k<l.length):szL (l.take (k+1))=szL (l.take k)++ [l[k].n]:=by unfold szL;rw [List.take_succ_eq_append_getElem hk,List.map_append];rfl
theorem sizes_any (p:Pt) (ba aa ra ha ga:Option Addr) (bc ac rc hc gc:Nat) (w:World) (h:PartHas p w ba aa ra ha ga bc ac rc hc gc) (hn:p.hb.length+p.ha.length≤1000):
 Calls Tryz.prog 36 #[.agg #[.int .u8 p.e.kind, .int .u32 p.e.ao, .int .u32 p.e.av, .int .u8 p.e.old, .slice ba p.e.b.length bc, .slice aa p.e.a.length ac, .slice ra p.e.rs.length rc, .int .u8 p.e.fl, .slice ha p.hb.length hc, .slice ga p.ha.length gc]] w fun e w' =>∃a' c',e= .returned (.slice a' (sizesP p).length c')∧Sl w' (.slice a' (sizesP p).length c') 1 ((sizesP p).map icell)∧Ext w w' :=by
 obtain ⟨i0,hi,hz0,hz1,hz2⟩:=info_parts Tryz.infoIntS
 obtain ⟨⟨kind,ao,av,old,b,a,rs,fl⟩,hb,hg⟩:=p
 have hh1:=h.2.2.2.1
 have hh2:=h.2.2.2.2
 clear h
 simp only at hh1 hh2 hn⊢
 have H1:=Hm hh1
 have H2:=Hm hh2
 have HN:=Hm hn
 have HSP:Hid (sizesP ⟨⟨kind,ao,av,old,b,a,rs,fl⟩,hb,hg⟩=szL (hb++hg)):=Hm (by unfold sizesP szL;rw [List.map_append])
 rw [HSP.out]
 have HCC:=Hm (concat_any (w.heap.size+1) ha ga hc gc hb hg ((w.alloc (.cells #[.int .u8 kind, .int .u32 ao, .int .u32 av, .int .u8 old, .slice ba b.length bc, .slice aa a.length ac, .slice ra rs.length rc, .int .u8 fl, .slice ha hb.length hc, .slice ga hg.length gc] 42)).alloc (.cells #[.slice ha hb.length hc, .slice ga hg.length gc] 40)) (Blk.new' (w:=w.alloc (.cells #[.int .u8 kind, .int .u32 ao, .int .u32 av, .int .u8 old, .slice ba b.length bc, .slice aa a.length ac, .slice ra rs.length rc, .int .u8 fl, .slice ha hb.length hc, .slice ga hg.length gc] 42)) _ _ (by simp)) (hh1.ext (((Ext.refl w).alloc _).alloc _)) (hh2.ext (((Ext.refl w).alloc _).alloc _)) hn)
 obtain ⟨L,hL⟩:∃L,L=hb++hg:=⟨_,rfl⟩
 rw [←hL] at HCC⊢
 have HLL:Hid (L.length≤1000):=Hm (by rw [hL,List.length_append];exact hn)
 clear hh1 hh2 hn hL HSP
 go_enter Tryz.func36,Tryz.ntmps36
 go_upto_region 3 with (go_at_call 65;refine HCC.out.mono ?_;rintro e w2 ⟨a2,c2,rfl,hs2,hb2⟩;have HS2:=Hm hs2;have HE2:=Hm (show Ext w w2 from by exact eX);clear hs2 hb2)
 clear HCC H1 H2 HN
 go_loopg [3,13,5] L.length (fun z v i q wr=>∃k:Nat,z+k=L.length∧i= .int .i64 k∧Hid (wr.ownsRow w2.heap.size 3 1 v (szL (L.take k)).length ((szL (L.take k)).map icell).flatten)∧Hid (Ext w2 wr))
 case atStart=>exact ⟨0,by omega,rfl,Hm (World.ownsRow_nil _ _ _ _),Hm (Ext.refl _)⟩
 case round=>
  obtain ⟨k,hzk,rfl,hO,hE⟩:=hrel
  by_cases hlt:k<L.length
  ·obtain ⟨b1,o1,rfl,hb1,hx1⟩:=HS2.out.at_ (i:=k) (by simpa using hlt)
   obtain ⟨f0,f1⟩:=Ho.at_ hlt hx1 hb1 hE.out
   have hbw:b1<wr.heap.size:=Nat.lt_of_lt_of_le hb1 hE.out.size
   have HTK:=Hm (szL_snoc L k hlt)
   obtain ⟨r,hre⟩:∃r,r=L[k]:=⟨_,rfl⟩
   rw [←hre] at f0 f1 HTK
   have HLT:=Hm hlt
   have HLK:Hid ((szL (L.take k)).length≤1000):=Hm (by unfold szL;rw [List.length_map,List.length_take];have:=HLL.out;omega)
   have hd1:decide (L.length≤k)=false:=decide_eq_false (by omega)
   have hd2:decide ((L.length:Int)≤(k:Int))=false:=decide_eq_false (by omega)
   clear hre hx1 hb1
   obtain ⟨wz,hwz⟩:∃W,W=(wr.alloc (.cells #[.int .i64 r.c, .int .i64 r.n] 103)).alloc (.cells #[.int .i64 r.n] 3):=⟨_,rfl⟩
   have HSN:Hid (Sl ((wr.alloc (.cells #[.int .i64 r.c, .int .i64 r.n] 103)).alloc (.cells #[.int .i64 r.n] 3)) (.slice (some ⟨wr.heap.size+1,0,none⟩) 1 1) 1 ([r.n].map icell)):=Hm (by
    have h:=Sl.new (wr.alloc (.cells #[.int .i64 r.c, .int .i64 r.n] 103)) #[.int .i64 r.n] 3 1 1 1 ([r.n].map icell) rfl icell_len rfl
    simpa using h)
   clear hwz wz
   go_wp2_with (at_builtin;refine wpList_append_sl rfl _ _ 64 rfl w2.heap.size 3 i0 _ 1 8 Tryz.underlying64 hi hz0 hz1 hz2 rfl (by decide) _ (szL (L.take k)).length _ rfl (owns_ext hO.out (((Ext.refl wr).alloc _).alloc _)) _ ([r.n].map icell) rfl HSN.out icell_len ?c0 ?c1 ?c2 ?c3 ?_)
   case c0=>intro y hy;simp [icell] at hy;subst hy;rfl
   case c1=>have:=HLK.out;unfold maxLen;simp;omega
   case c2=>have:=HLK.out;simp;omega
   case c3=>have:=hE.out.size;simp only [World.size_alloc];omega
   intro v7 w7 ho7 hg7 _
   have HO8:Hid (w7.ownsRow w2.heap.size 3 1 v7 (szL (L.take (k+1))).length ((szL (L.take (k+1))).map icell).flatten):=Hm (by
    rw [HTK.out,List.map_append,List.flatten_append,List.length_append]
    simpa using ho7)
   have HE8:Hid (Ext w2 w7):=Hm (Ext.grown (hE.out.trans (((Ext.refl wr).alloc _).alloc _)) (owns_ext hO.out (((Ext.refl wr).alloc _).alloc _)) hg7)
   clear ho7 hg7
   go_wp2
   go_roundg (L.length - (k+1))
   case measure=>have:=HLT.out;omega
   case rel=>exact ⟨k+1,Nat.sub_add_cancel HLT.out,by (have h1:L.length≤1000:=HLL.out;have h2:k<L.length:=HLT.out;have h3:wrap64 ((k:Int)+1)=((k+1:Nat):Int):=(by unfold wrap64;omega);rw [h3]),HO8,HE8⟩
  ·obtain rfl:k=L.length:=by omega
   rw [List.take_length] at hO
   obtain ⟨a9,c9,rfl⟩:=owns_shape hO.out
   go_wp2
   go_ret
   exact ⟨a9,c9,rfl,Sl.of_owns (base:=w2.heap.size) (e:=3) (by rw [List.length_map];exact hO.out) icell_len,HE2.out.trans hE.out⟩
end Go.Proofs.YtodbhliidbclcaaGreat
namespace Go.Proofs.YtodbhliidbclcaaGreat
open Go.RowKit
def pcN (x:Int):Nat:=if 0<x then (x.toNat - 1) / 256+1 else 0
def cntL (l:List Int):Nat:=(l.map pcN).sum
theorem cntL_snoc (l:List Int) (x:Int):cntL (l++ [x])=cntL l+pcN x:=by unfold cntL;simp
theorem cntL_take (l:List Int) (k:Nat) (hk:k<l.length):cntL (l.take (k+1))=cntL (l.take k)+pcN l[k]:=by rw [List.take_succ_eq_append_getElem hk,cntL_snoc]
theorem cntL_le {l:List Int} (h:∀x∈l,x≤1000000):cntL l≤l.length*1000000:=by
 induction l with
 |nil=>exact Nat.le_refl _
 |cons x l ih=>
  have h1:=ih (fun y hy=>h y (List.mem_cons_of_mem _ hy))
  have h2:=h x (by simp)
  have e:cntL (x::l)=pcN x+cntL l:=by unfold cntL;simp
  have h3:pcN x≤1000000:=by unfold pcN;split<;>omega
  rw [e,List.length_cons];omega
theorem int_at {w wr:World} {b o:Nat} {l:List Int} {k:Nat} (hk:k<l.length) (hc:∀j,j<1→w.cell? ⟨b,o+k*1+j,none⟩=((l.map icell).getD k [])[j]?) (hb:b<w.heap.size) (hE:Ext w wr):
 wr.cell? ⟨b,o+k,none⟩=some (.int .i64 l[k]):=by
 rw [getD_map icell l hk] at hc
 have h:=hc 0 (by omega)
 rw [Nat.mul_one,Nat.add_zero] at h
 exact (hE.cells.1 b _ hb).trans h
theorem wrap64_id {x:Int} (h: -9223372036854775808≤x∧x<9223372036854775808):wrap64 x=x:=by unfold wrap64;omega
theorem cnt_step (C m:Nat) (hC:C≤1000000000) (hm:m≤1000000):wrap64 ((C:Int)+wrap64 (wrap64 ((wrap64 (m:Int)).tdiv 256)+1))=((C+(m / 256+1):Nat):Int):=by
 rw [wrap64_id (x:=(m:Int)) (by omega),show Int.tdiv (m:Int) 256=((m / 256:Nat):Int) from by rw [show (256:Int)=((256:Nat):Int) from rfl,Int.ofNat_tdiv]]
 have h1:m / 256≤1000000:=by omega
 rw [wrap64_id (x:=((m / 256:Nat):Int)) (by omega),wrap64_id (x:=((m / 256:Nat):Int)+1) (by omega),wrap64_id (by omega)]
 omega
theorem count_any (l:List Int) (a:Option Addr) (cap:Nat) (w:World) (hl:Sl w (.slice a l.length cap) 1 (l.map icell)) (hn:l.length≤1000) (hb:∀x∈l, -1000000≤x∧x≤1000000):
 Calls Tryz.prog 41 #[.slice a l.length cap] w fun e w' =>e= .returned (.int .i64 (cntL l))∧Ext w w' :=by
 have HL:=Hm hl
 have HN:=Hm hn
 have HB:=Hm hb
 have HC:=Hm (fun k=>cntL_le (l:=l.take k) (fun x hx=>(hb x (List.mem_of_mem_take hx)).2))
 clear hl hn hb
 go_enter Tryz.func41,Tryz.ntmps41
 go_wp2
 go_loopg [3,8,5] l.length (fun z s i q wr=>∃k:Nat,z+k=l.length∧i= .int .i64 k∧s= .int .i64 (cntL (l.take k))∧Hid (Ext w wr))
 case atStart=>exact ⟨0,by omega,rfl,rfl,Hm (Ext.refl _)⟩
 case round=>
  obtain ⟨k,hzk,rfl,rfl,hE⟩:=hrel
  by_cases hlt:k<l.length
  ·obtain ⟨b1,o1,rfl,hb1,hx1⟩:=HL.out.at_ (i:=k) (by simpa using hlt)
   have f0:=int_at hlt hx1 hb1 hE.out
   have hbw:b1<wr.heap.size:=Nat.lt_of_lt_of_le hb1 hE.out.size
   have HTK:=Hm (cntL_take l k hlt)
   have HBX:=Hm (HB.out _ (List.getElem_mem hlt))
   obtain ⟨x,hx⟩:∃x,x=l[k]:=⟨_,rfl⟩
   rw [←hx] at f0 HTK HBX
   obtain ⟨C,hC⟩:∃C,C=cntL (l.take k):=⟨_,rfl⟩
   have HCB:Hid (C≤1000000000):=Hm (by rw [hC];have h1:=HC.out k;have h2:=HN.out;rw [List.length_take] at h1;omega)
   rw [←hC] at HTK⊢
   have HLT:=Hm hlt
   have hk63:(k:Int)≤1000:=by have:=HN.out;omega
   have hkl:(k:Int)<(l.length:Int):=by omega
   have hC63:(C:Int)≤1000000000:=by have:=HCB.out;omega
   clear hx hx1 hb1 hC
   by_cases h0:0<x
   ·obtain ⟨m,hm⟩:∃m:Nat,x=(m:Int)+1:=⟨(x - 1).toNat,by omega⟩
    have HM:Hid (pcN x=m / 256+1∧m≤1000000):=Hm (by
     have:=HBX.out
     refine ⟨?_,by omega⟩
     unfold pcN;rw [if_pos h0,hm]
     congr 2)
    subst hm
    go_wp2
    go_roundg (l.length - (k+1))
    case measure=>have:=HLT.out;omega
    case rel=>exact ⟨k+1,Nat.sub_add_cancel HLT.out,by go_num,by rw [HTK.out,HM.out.1,cnt_step C m HCB.out HM.out.2],hE⟩
   ·go_wp2
    go_roundg (l.length - (k+1))
    case measure=>have:=HLT.out;omega
    case rel=>exact ⟨k+1,Nat.sub_add_cancel HLT.out,by go_num,by rw [HTK.out];unfold pcN;rw [if_neg (by omega),Nat.add_zero],hE⟩
  ·obtain rfl:k=l.length:=by omega
   go_wp2
   go_ret
   rw [List.take_length]
   exact ⟨rfl,hE.out⟩
theorem pcount_any (p:Pt) (ba aa ra ha ga:Option Addr) (bc ac rc hc gc:Nat) (w:World) (h:PartHas p w ba aa ra ha ga bc ac rc hc gc) (hn:p.hb.length+p.ha.length≤1000) (hb:∀x∈sizesP p, -1000000≤x∧x≤1000000):
 Calls Tryz.prog 14 #[.agg #[.int .u8 p.e.kind, .int .u32 p.e.ao, .int .u32 p.e.av, .int .u8 p.e.old, .slice ba p.e.b.length bc, .slice aa p.e.a.length ac, .slice ra p.e.rs.length rc, .int .u8 p.e.fl, .slice ha p.hb.length hc, .slice ga p.ha.length gc]] w fun e w' =>e= .returned (.int .i64 (cntL (sizesP p)))∧Ext w w' :=by
 have HSZ:=Hm (fun W (h2:Ext w W)=>sizes_any p ba aa ra ha ga bc ac rc hc gc W (h.ext h2) hn)
 have HCO:=Hm (fun a c W (hs:Sl W (.slice a (sizesP p).length c) 1 ((sizesP p).map icell))=>count_any (sizesP p) a c W hs (by unfold sizesP;rw [List.length_append,List.length_map,List.length_map];exact hn) hb)
 obtain ⟨⟨kind,ao,av,old,b,a,rs,fl⟩,hb',hg⟩:=p
 obtain ⟨L,hL⟩:∃L,L=sizesP ⟨⟨kind,ao,av,old,b,a,rs,fl⟩,hb',hg⟩:=⟨_,rfl⟩
 rw [←hL] at HSZ HCO⊢
 simp only at HSZ HCO⊢
 clear h hn hb hL
 go_enter Tryz.func14,Tryz.ntmps14
 go_wp2_with (first
  |(go_at_call 36;refine (HSZ.out _ (by exact eX)).mono ?_;rintro e w1 ⟨a1,c1,rfl,hs1,hb1⟩;have HS1:=Hm hs1;have HE1:=Hm (((Ext.refl w).alloc _).trans hb1);clear hs1 hb1)
  |(go_at_call 41;refine (HCO.out _ _ _ HS1.out).mono ?_;rintro e w2 ⟨rfl,hb2⟩;have HE2:=Hm (HE1.out.trans hb2);clear hb2))
 go_ret
 exact ⟨rfl,HE2.out⟩
open Go.Shelf
def Tryz.lays169_ren:Go.Shelf.Ren:=⟨fun|169=>64|n=>n,fun|70=>158|9=>9|0=>0|72=>160|37=>23|127=>191|3=>3|5=>5|n=>n,fun|n=>n⟩
theorem Tryz.lays169:Go.Proofs.Lays.n169 Tryz.prog Tryz.lays169_ren:= {
 mixed:=by kernel_rfl
 f169:=Tryz.func64.trans (congrArg some (by kernel_rfl))
 t0:=Tryz.underlying0
 a0:=Tryz.isAgg0
 z0:=Tryz.sizeOf0
 v0:=Tryz.zeroValue0
 t3:=Tryz.underlying3
 a3:=Tryz.isAgg3
 z3:=Tryz.sizeOf3
 v3:=Tryz.zeroValue3
 t9:=Tryz.underlying9
 a9:=Tryz.isAgg9
 z9:=Tryz.sizeOf9
 v9:=Tryz.zeroValue9
 t37:=Tryz.underlying23
 a37:=Tryz.isAgg23
 z37:=Tryz.sizeOf23
 v37:=Tryz.zeroValue23
 t70:=Tryz.underlying158
 a70:=Tryz.isAgg158
 z70:=Tryz.sizeOf158
 v70:=Tryz.zeroValue158
 t72:=Tryz.underlying160
 a72:=Tryz.isAgg160
 z72:=Tryz.sizeOf160
 v72:=Tryz.zeroValue160
 t127:=Tryz.underlying191
 a127:=Tryz.isAgg191
 z127:=Tryz.sizeOf191
 v127:=Tryz.zeroValue191 }
def Tryz.lays170_ren:Go.Shelf.Ren:=⟨fun|170=>62|n=>n,fun|70=>158|3=>3|0=>0|72=>160|37=>23|5=>5|n=>n,fun|n=>n⟩
theorem Tryz.lays170:Go.Proofs.Lays.n170 Tryz.prog Tryz.lays170_ren:= {
 mixed:=by kernel_rfl
 f170:=Tryz.func62.trans (congrArg some (by kernel_rfl))
 t0:=Tryz.underlying0
 a0:=Tryz.isAgg0
 z0:=Tryz.sizeOf0
 v0:=Tryz.zeroValue0
 t3:=Tryz.underlying3
 a3:=Tryz.isAgg3
 z3:=Tryz.sizeOf3
 v3:=Tryz.zeroValue3
 t37:=Tryz.underlying23
 a37:=Tryz.isAgg23
 z37:=Tryz.sizeOf23
 v37:=Tryz.zeroValue23
 t70:=Tryz.underlying158
 a70:=Tryz.isAgg158
 z70:=Tryz.sizeOf158
 v70:=Tryz.zeroValue158
 t72:=Tryz.underlying160
 a72:=Tryz.isAgg160
 z72:=Tryz.sizeOf160
 v72:=Tryz.zeroValue160 }
end Go.Proofs.YtodbhliidbclcaaGreat
namespace Go.Proofs.YtodbhliidbclcaaGreat
open Go.RowKit Go.Shelf
theorem Tryz.beX169:Builder.Extra Tryz.prog Tryz.lays169_ren:= {
 sizeBuilder:=by kernel_rfl
 liesBuilder:=by kernel_rfl
 t5:=Tryz.underlying5
 a5:=Tryz.isAgg5
 z5:=Tryz.sizeOf5
 v5:=Tryz.zeroValue5
 infoByte:=by kernel_rfl
 cellsByte:=by kernel_rfl
 sizeByte:=by kernel_rfl
 neB5:=by decide }
def Bld (w:World) (B:Nat) (s:ByteArray):Prop:=Lib.IsBuilder 160 5 B B (Lib.byteCells s.data.toList) w
theorem Bld.drew {w:World} {B:Nat} {s:ByteArray} (h:Bld w B s):Bld w.drew B s:=h
theorem Bld.new (w:World):Bld (w.alloc (.cells #[.pointer none, .slice none 0 0] 160)) w.heap.size ByteArray.empty:=Lib.fresh_isBuilder 160 5 w
theorem bcheck_any (B:Nat) (s:ByteArray) (w:World) (h:Bld w B s):
 Calls Tryz.prog 89 #[.pointer (some ⟨B,0,none⟩)] w fun e w' =>e= .returned (.tuple #[])∧Lib.BuilderAt 160 5 B B (.pointer (some ⟨B,0,none⟩)) (Lib.byteCells s.data.toList) w'∧Below B w w' :=by
 obtain ⟨j,hj,hjs⟩:=Option.map_eq_some_iff.1 Tryz.beX169.sizeBuilder
 rcases h with h|h
 ·have h0:=h.cell0
  have hsh:=h.shape
  have hfz:=h.frozen0
  have HH:=Hm h
  clear h
  go_enter Tryz.func89,Tryz.ntmps89
  go_wp2
  rw [Lib.run_to_unsafe w ⟨B,0,none⟩ Tryz.underlying158 Tryz.underlying223 hj (by rw [hjs];decide) hsh (Nat.zero_lt_succ 1)]
  simp only [Result.andThen]
  rw [Oper.upon_value]
  go_wp2
  rw [run_callFunc_extern Tryz.func123 (by kernel_rfl) (by kernel_rfl) (by kernel_rfl) (e:=Extern.AbiNoEscape.same) (by kernel_rfl)]
  rw [Lib.run_noEscape]
  simp only [Result.andThen]
  rw [Oper.upon_value]
  go_wp2
  rw [Lib.run_from_unsafe w ⟨B,0,none⟩ Tryz.underlying223 Tryz.underlying158 hj hsh Tryz.beX169.liesBuilder]
  simp only [Result.andThen]
  rw [Oper.upon_value]
  go_wp2
  go_end0
  exact ⟨rfl,HH.out.used _,(Below.refl B w).setCell (p:=⟨B,0,none⟩) (Nat.le_refl _) _⟩
 ·have h0:=h.cell0
  have HH:=Hm h
  clear h
  go_enter Tryz.func89,Tryz.ntmps89
  go_wp2
  rw [Lib.run_neq_ptr_same w _ Tryz.underlying158 hj]
  go_wp2
  go_end0
  exact ⟨rfl,HH.out,Below.refl _ _⟩
theorem bwrite_any (B:Nat) (s t:ByteArray) (w:World) (h:Bld w B s) (hlen:s.size+t.size≤140737488355328) (hB:B≤w.heap.size):
 Calls Tryz.prog 63 #[.pointer (some ⟨B,0,none⟩), .string t] w fun e w' =>e= .returned (.tuple #[.int .i64 t.size, .nilIface])∧Bld w' B (s++t)∧Below B w w' :=by
 obtain ⟨i0,hi,hz0,hz1,hz2⟩:=info_parts Tryz.infoU8
 have HC:=Hm (bcheck_any B s w h)
 have hl:=Lib.byteCells_length s.data.toList
 have hls:s.data.toList.length=s.size:=by rw [Array.length_toList];rfl
 have e1:Hid (Lib.byteCells (s++t).data.toList=Lib.byteCells s.data.toList++Lib.strCells t):=Hm (by
  rw [show (s++t).data.toList=s.data.toList++t.data.toList from by rw [ByteArray.data_append,Array.toList_append],Lib.byteCells_append]
  rfl)
 have HL:=Hm (And.intro hl hls)
 generalize Lib.byteCells s.data.toList=bs at HC e1 HL
 clear h hl hls
 go_enter Tryz.func63,Tryz.ntmps63
 go_wp2_with (go_at_call 89;refine HC.out.mono ?_)
 rintro e w1 ⟨rfl,h1,hb1⟩
 have H1:=Hm h1
 have HB1:=Hm hb1
 clear h1 hb1
 obtain ⟨-,v,hbk,hown,hne⟩:=H1.out
 have c0:w1.cell? ⟨B,0,none⟩=some (.pointer (some ⟨B,0,none⟩)):=by rw [Lib.cell_of_heap hbk];rfl
 have c1:w1.cell? ⟨B,1,none⟩=some v:=by rw [Lib.cell_of_heap hbk];rfl
 have hlt:B<w1.heap.size:=by
  rcases Nat.lt_or_ge B w1.heap.size with h' |h'
  ·exact h'
  ·simp [Array.getElem?_eq_none h'] at hbk
 have HBK:=Hm hbk
 have HOW:=Hm hown
 have HNE:=Hm hne
 clear hbk hown hne
 go_wp2_with (at_builtin;refine Lib.wpList_append_own_string _ rfl _ _ 23 9 rfl B 5 i0 Tryz.underlying23 Tryz.underlying9 hi hz0 hz1 hz2 _ _ _ rfl HOW.out t rfl ?c3 ?c4 ?c5 ?_)
 case c3=>have:=HL.out;unfold maxLen;omega
 case c4=>have:=HL.out;omega
 case c5=>have:=HB1.out.size;omega
 intro v' w2 hown' hgrow _
 have hb2:w2.heap[B]? =some (.cells #[.pointer (some ⟨B,0,none⟩),v] 160 (0,0)):=by
  rw [hgrow.block B hlt (fun e=>HNE.out e.symm)]
  exact HBK.out
 have HB2:=Hm hb2
 have HOW2:=Hm hown'
 have HG:=Hm hgrow
 have d0:w2.cell? ⟨B,0,none⟩=some (.pointer (some ⟨B,0,none⟩)):=by rw [Lib.cell_of_heap hb2];rfl
 have d1:w2.cell? ⟨B,1,none⟩=some v:=by rw [Lib.cell_of_heap hb2];rfl
 have f1:w2.frozen? ⟨B,1,none⟩=false:=Lib.frozen_of_heap hb2 1
 have zl:B<w2.heap.size:=Nat.lt_of_lt_of_le hlt hgrow.size
 obtain ⟨ao,n',cap,rfl⟩:∃ao n' cap,v' = .slice ao n' cap:=by
  rcases hown'.2 with ⟨hv,_⟩|⟨g,cap,cur,hv,_⟩
  ·exact ⟨_,_,_,hv⟩
  ·exact ⟨_,_,_,hv⟩
 clear hb2 hown' hgrow c0 c1 hlt
 go_wp2
 go_ret2
 refine ⟨rfl, .inr ?_, ?_⟩
 ·rw [e1.out]
  exact Lib.BuilderAt.put (T:=160) (e:=5) (Nat.le_refl _) HB2.out (bs' :=bs++Lib.strCells t) (by simpa [Lib.strCells_length] using HOW2.out) (by decide)
 ·exact (HB1.out.grown HG.out (by have:=HB1.out.size;omega) (fun k hk=>(HOW.out.lt k hk).1)).setCell (p:=⟨B,1,none⟩) (Nat.le_refl _) _
theorem blen_any (B:Nat) (s:ByteArray) (w:World) (h:Bld w B s):
 Calls Tryz.prog 62 #[.pointer (some ⟨B,0,none⟩)] w fun e w' =>e= .returned (.int .i64 s.size)∧w' =w:=by
 have h1:=Any.Builder_Len Tryz.lays170 B B (Lib.byteCells s.data.toList) w h
 change Calls Tryz.prog 62 _ _ _ at h1
 refine h1.mono ?_
 rintro e w' ⟨he,h2⟩
 rw [Lib.byteCells_length] at he
 exact ⟨he,h2⟩
theorem bstring_any (B:Nat) (s:ByteArray) (w:World) (h:Bld w B s) (hB:B≤w.heap.size):
 Calls Tryz.prog 64 #[.pointer (some ⟨B,0,none⟩)] w fun e w' =>e= .returned (.string s)∧Below B w w' :=by
 have h1:=Any.Builder_String_any Tryz.lays169 Tryz.beX169 B B s.data.toList w h hB
 change Calls Tryz.prog 64 _ _ _ at h1
 refine h1.mono ?_
 rintro e w' ⟨he,h2⟩
 exact ⟨he,h2⟩
end Go.Proofs.YtodbhliidbclcaaGreat
namespace Go.Proofs.YtodbhliidbclcaaGreat
open Go.RowKit
section
variable {P : Program} {ops : Array Oper} {Q : Exit → Act → World → Prop} {md : Region.Mode} {S S' : World → Prop}
theorem wpHd_str {n:Nat} (hS:∀w,S' w→S w):∀(f:Nat) (listed:Array Bool) (a:Act) (w:World),wpHd P md ops Q S' n f listed a w→wpHd P md ops Q S n f listed a w
 |0,_,_,_,h=>h
 |f+1,_,_,_,⟨h0,h⟩=>⟨h0,fun i hi=>⟨(h i hi).1,wpOp_mono (fun _ _ h' =>⟨hS _ h'.1,wpHd_str hS f _ _ _ h'.2⟩) (h i hi).2⟩⟩
theorem wpHd_oneG {n i:Nat} {o:Oper} {f:Nat} {listed:Array Bool} {a:Act} {w:World} (hi:ops[i]? =some o) (hg:Region.wanted o (yielded ops a.tmps)=true)
 (hr:(decide (Region.ready md ops listed= [i])&&decide (i<n))=true)
 (h:∀K:Act→World→Prop,Hid (∀a' w',S w'→(S w'→wpHd P md ops Q S n f (listed.setIfInBounds i true) a' w')→K a' w')→o.wp P a w K Q):wpHd P md ops Q S n (f+1) listed a w:=by
 simp only [Bool.and_eq_true,decide_eq_true_eq] at hr
 refine ⟨by rw [hr.1];simp,fun j hj=> ?_⟩
 rw [hr.1] at hj
 have hji:j=i:=by simpa using hj
 subst hji
 refine ⟨hr.2, ?_⟩
 unfold wpOp
 simp only [hi]
 rw [if_pos hg]
 exact .inl (h _ (fun a' w' hs hk=>⟨hs,hk hs⟩))
theorem wpHd_two {n i j:Nat} {o o2:Oper} {f:Nat} {listed:Array Bool} {a:Act} {w:World} (hi:ops[i]? =some o) (hg:o.guard=none) (hj:ops[j]? =some o2) (hg2:o2.guard=none)
 (hr:(decide (Region.ready md ops listed= [i,j])&&(decide (i<n)&&decide (j<n)))=true)
 (h:∀K:Act→World→Prop,Hid (∀a' w',S w'→(S w'→wpHd P md ops Q S n f (listed.setIfInBounds i true) a' w')→K a' w')→o.wp P a w K Q)
 (h2:∀K:Act→World→Prop,Hid (∀a' w',S w'→(S w'→wpHd P md ops Q S n f (listed.setIfInBounds j true) a' w')→K a' w')→o2.wp P a w K Q):wpHd P md ops Q S n (f+1) listed a w:=by
 simp only [Bool.and_eq_true,decide_eq_true_eq] at hr
 refine ⟨by rw [hr.1];simp,fun k hk=> ?_⟩
 rw [hr.1] at hk
 simp only [List.mem_cons,List.not_mem_nil,or_false] at hk
 rcases hk with rfl|rfl
 ·refine ⟨hr.2.1, ?_⟩
  unfold wpOp
  simp only [hi]
  rw [if_pos (by simp [Region.wanted,hg])]
  exact .inl (h _ (fun a' w' hs hk=>⟨hs,hk hs⟩))
 ·refine ⟨hr.2.2, ?_⟩
  unfold wpOp
  simp only [hj]
  rw [if_pos (by simp [Region.wanted,hg2])]
  exact .inl (h2 _ (fun a' w' hs hk=>⟨hs,hk hs⟩))
end
theorem HG.wpHd_takeD {P:Program} {ops:Array Oper} {Q:Exit→Act→World→Prop} {md:Region.Mode} {S:World→Prop} {n i:Nat} {oi:Oper} {d:Option Tmp} {v:Value} {f:Nat} {listed:Array Bool} {a:Act} {w:World} (hi:ops[i]? =some oi) (hd:oi.dst=d)
 (hB:headB md ops n listed=true) (hf:Region.free md ops listed i=true) (hr:((Region.ready md ops listed).contains i&&decide (i<n))=true)
 (hQ:∀c a w,Q (.panic c) (a.put d v) w→Q (.panic c) a w) (hy:YieldsIf P ops S oi v a) (hS:S w)
 (h:wpHd P md ops Q S n f (listed.setIfInBounds i true) (a.put d v) w):wpHd P md ops Q S n (f+1) listed a w:=by
 subst hd
 exact wpHd_take hi hB hf hr hQ hy hS h
open Go.RowKit HG
theorem joinE_bad {ps:List ByteArray} {ns:List Int} {k:Nat} (hk:k<ns.length) (h:ns[k]<0∨2048<ns[k]):joinE ps ns=4:=by
 unfold joinE
 rw [if_pos]
 rw [List.any_eq_true]
 exact ⟨ns[k],List.getElem_mem hk,decide_eq_true h⟩
theorem joinE_fit {ps:List ByteArray} {ns:List Int} (h:∀k (hk:k<ns.length),0≤ns[k]∧ns[k]≤2048):joinE ps ns=if ps.map ByteArray.size=lensL (ns.map Int.toNat) then 0 else 16:=by
 unfold joinE
 rw [if_neg]
 rw [List.any_eq_true]
 rintro ⟨x,hx,h2⟩
 obtain ⟨k,hk,rfl⟩:=List.getElem_of_mem hx
 have:=h k hk
 have h3:=of_decide_eq_true h2
 omega
def JoinQ (ps:List ByteArray) (ns:List Int) (w:World) (e:Ending) (w' :World):Prop:=
 ∃a' c',e= .returned (.tuple #[.slice a' (joinW ps ns).length c', .int .i64 (joinE ps ns)])∧Sl w' (.slice a' (joinW ps ns).length c') 1 ((joinW ps ns).map strC)∧((joinW ps ns).length≤c'∧c'≤maxLen)∧Ext w w'
theorem JoinQ.bad {ps:List ByteArray} {ns:List Int} {w w' :World} {E:Int} (h:joinE ps ns=E) (h0:E≠0) (hE:Ext w w'):JoinQ ps ns w (.returned (.tuple #[.slice none 0 0, .int .i64 E])) w' :=by
 have hw:joinW ps ns= []:=by unfold joinW;rw [h,if_neg h0]
 unfold JoinQ
 rw [hw,h]
 exact ⟨none,0,rfl,⟨none,0,rfl, .inl rfl⟩,⟨Nat.le_refl _,Nat.zero_le _⟩,hE⟩
structure Pcs (W:World) (ps:List ByteArray) (p:Nat) (u:Option Addr) (c:Nat):Prop where
 sl:Sl W (.slice u (ps.length - p) c) 1 ((ps.drop p).map strC)
 cap:ps.length - p≤c
 le:p≤ps.length
 mx:c≤maxLen
theorem Pcs.first {W:World} {ps:List ByteArray} {p:Nat} {u:Option Addr} {c:Nat} (h:Pcs W ps p u c) (hp:p<ps.length):∃b o,u=some ⟨b,o,none⟩∧b<W.heap.size∧W.cell? ⟨b,o,none⟩=some (.string ps[p])∧Pcs W ps (p+1) (some ⟨b,o+1,none⟩) (c - 1):=by
 obtain ⟨a,cap,he,hs⟩:=h.sl
 simp only [Value.slice.injEq] at he
 obtain ⟨rfl, -,rfl⟩:=he
 rcases hs with hs|⟨b,o,rfl,hb,hc⟩
 ·simp at hs;omega
 have hl:((ps.drop p).map strC).length=ps.length - p:=by simp
 refine ⟨b,o,rfl,hb, ?_,⟨⟨some ⟨b,o+1,none⟩,c - 1,(by simp), .inr ⟨b,o+1,rfl,hb,fun i hi j hj=> ?_⟩⟩,by have:=h.cap;omega,hp,by have:=h.mx;omega⟩⟩
 ·have:=hc 0 (by rw [hl];omega) 0 (by omega)
  simp only [Nat.zero_mul,Nat.add_zero] at this
  rw [this]
  simp [List.getD_eq_getElem?_getD,strC,hp]
 ·have h2:=hc (i+1) (by rw [hl];simp at hi;omega) j hj
  rw [show o+1+i*1+j=o+(i+1)*1+j by omega,h2]
  simp [List.getD_eq_getElem?_getD,Nat.add_assoc,Nat.add_comm 1 i]
theorem Pcs.last {W:World} {ps:List ByteArray} {p:Nat} (h:p+1=ps.length) (u:Option Addr):Pcs W ps (p+1) u 0:=⟨⟨u,0,by simp, .inl (by simp;omega)⟩,by omega,by omega,Nat.zero_le _⟩
theorem mism {ps:List ByteArray} {L:List Nat} {q m:Nat} (hl:L[q]? =some m) (h:∀hq:q<ps.length,ps[q].size≠m):ps.map ByteArray.size≠L:=by
 intro e
 rw [←e,List.getElem?_map] at hl
 by_cases hq:q<ps.length
 ·rw [List.getElem?_eq_getElem hq] at hl
  exact h hq (by simpa using hl)
 ·rw [List.getElem?_eq_none (by omega)] at hl
  cases hl
theorem join_any (ps:List ByteArray) (ns:List Int) (a b:Option Addr) (ca cb:Nat) (w:World) (hps:Sl w (.slice a ps.length ca) 1 (ps.map strC)) (hcap:ps.length≤ca) (hca:ca≤maxLen) (hns:Sl w (.slice b ns.length cb) 1 (ns.map icell)) (hn:ns.length≤1000) (hpl:ps.length≤1000000) (hs:∀s∈ps,s.size≤9223372036854775807):
 Calls Tryz.prog 35 #[.slice a ps.length ca, .slice b ns.length cb] w (JoinQ ps ns w):=by
 obtain ⟨i0,hi,hz0,hz1,hz2⟩:=info_parts Tryz.infoStrS
 have HL:=Hm hns
 have HP:=Hm hps
 have HN:=Hm hn
 have HPL:=Hm hpl
 have HSS:=Hm hs
 have HCA:=Hm (And.intro hcap hca)
 clear hps hns hn hpl hs hcap hca
 go_enter Tryz.func35,Tryz.ntmps35
 go_wp2
 go_loopg [14,7] ns.length (fun z i q wr=>∃k:Nat,z+k=ns.length∧i= .int .i64 k∧Hid (∀j (hj:j<ns.length),j<k→0≤ns[j]∧ns[j]≤2048)∧Hid (Ext w wr))
 case atStart=>exact ⟨0,by omega,rfl,Hm (fun j _ h=>by omega),Hm (Ext.refl _)⟩
 case round=>
  obtain ⟨k,hzk,rfl,hF,hE⟩:=hrel
  by_cases hlt:k<ns.length
  ·obtain ⟨b1,o1,rfl,hb1,hx1⟩:=HL.out.at_ (i:=k) (by simpa using hlt)
   have f0:=int_at hlt hx1 hb1 hE.out
   have hbw:b1<wr.heap.size:=Nat.lt_of_lt_of_le hb1 hE.out.size
   have HBAD:Hid (ns[k]<0∨2048<ns[k]→joinE ps ns=4):=Hm (fun h=>joinE_bad hlt h)
   have HNX:Hid (0≤ns[k]∧ns[k]≤2048→∀j (hj:j<ns.length),j<k+1→0≤ns[j]∧ns[j]≤2048):=Hm (fun h j hj hjk=>by
    by_cases e:j=k
    ·subst e;exact h
    ·exact hF.out j hj (by omega))
   obtain ⟨x,hx⟩:∃x,x=ns[k]:=⟨_,rfl⟩
   rw [←hx] at f0 HBAD HNX
   have HLT:=Hm hlt
   have hk63:(k:Int)≤1000:=by have:=HN.out;omega
   have hkl:(k:Int)<(ns.length:Int):=by omega
   clear hx hx1 hb1
   by_cases h0:x<0
   ·have HE:=Hm (HBAD.out (.inl h0))
    go_wp2
    go_ret2
    exact JoinQ.bad HE.out (by decide) hE.out
   by_cases h1:2048<x
   ·have HE:=Hm (HBAD.out (.inr h1))
    go_wp2
    go_ret2
    exact JoinQ.bad HE.out (by decide) hE.out
   have HO:=Hm (HNX.out (by omega))
   go_wp2
   go_roundg (ns.length - (k+1))
   case measure=>have:=HLT.out;omega
   case rel=>exact ⟨k+1,Nat.sub_add_cancel HLT.out,by go_num,HO,hE⟩
  ·have hk:k=ns.length:=by omega
   have HFT:=Hm (joinE_fit (ps:=ps) (ns:=ns) (fun j hj=>hF.out j hj (by omega)))
   have HFA:=Hm (fun j (hj:j<ns.length)=>hF.out j hj (by omega))
   clear hF
   subst hk
   go_wp2
   obtain ⟨NS,hNS⟩:∃N,N=ns.map Int.toNat:=⟨_,rfl⟩
   have hNL:NS.length=ns.length:=by rw [hNS];simp
   have HNA:Hid (∀j (h1:j<ns.length) (h2:j<NS.length),ns[j]=(NS[j]:Int)∧NS[j]≤2048):=Hm (fun j h1 h2=>by
    have h3:=HFA.out j h1
    subst hNS
    rw [List.getElem_map]
    omega)
   have HNS:=Hm hNS
   rw [←hNS] at HFT
   have HNL:=Hm hNL
   clear hNS hNL HFA
   have HP0:Hid (Pcs w ps (sumN (NS.take 0)) a ca):=Hm ⟨by rw [show sumN (NS.take 0)=0 from rfl,Nat.sub_zero,List.drop_zero];exact HP.out,by have:=HCA.out.1;omega,Nat.zero_le _,HCA.out.2⟩
   have hp0:ps.length=ps.length - sumN (NS.take 0):=by rw [show sumN (NS.take 0)=0 from rfl,Nat.sub_zero]
   obtain ⟨wo0,hwo⟩:∃x,x=wr:=⟨_,rfl⟩
   subst hwo
   go_loopg [0,8,27,10,11] ns.length (fun z t v i x y wr=>∃(k:Nat) (u:Option Addr) (c:Nat),z+k=ns.length∧i= .int .i64 k∧t= .slice u (ps.length - sumN (NS.take k)) c∧Hid (Pcs w ps (sumN (NS.take k)) u c)∧Hid (Mat ps (lensL NS) (sumN (NS.take k)))∧Hid (wr.ownsRow w.heap.size 9 1 v (joinT ps (NS.take k)).length ((joinT ps (NS.take k)).map strC).flatten)∧Hid (Ext w wr))
   case atStart=>exact ⟨0,a,ca,by omega,rfl,by rw [←hp0],HP0,Hm (Mat.zero _ _),Hm (World.ownsRow_nil _ _ _ _),hE⟩
   case round=>
    obtain ⟨k,u,c,hzk,rfl,rfl,hPC,hMT,hO,hE⟩:=hrel
    by_cases hlt:k<ns.length
    ·obtain ⟨b1,o1,rfl,hb1,hx1⟩:=HL.out.at_ (i:=k) (by simpa using hlt)
     have f0:=int_at hlt hx1 hb1 hE.out
     have hbw:b1<wr.heap.size:=Nat.lt_of_lt_of_le hb1 hE.out.size
     have hltN:k<NS.length:=by have:=HNL.out;omega
     have hNK:=HNA.out k hlt hltN
     have HJT:=Hm (joinT_take (ns:=NS) hltN ps)
     have HST:=Hm (sumN_take (ns:=NS) hltN)
     have HLA:=Hm (fun i (h:i<nOf NS[k])=>lensL_at (ns:=NS) hltN h)
     obtain ⟨n,hnn⟩:∃n,n=NS[k]:=⟨_,rfl⟩
     rw [←hnn] at hNK HJT HST HLA
     rw [hNK.1] at f0
     have HN2:=Hm hNK.2
     obtain ⟨p,hpp⟩:∃p,p=sumN (NS.take k):=⟨_,rfl⟩
     rw [←hpp] at HJT HST HLA hPC hMT⊢
     obtain ⟨TK,hTK⟩:∃t,t=joinT ps (NS.take k):=⟨_,rfl⟩
     rw [←hTK] at HJT hO
     have HLT:=Hm hlt
     have hk63:(k:Int)≤1000:=by have:=HN.out;omega
     have hkl:(k:Int)<(ns.length:Int):=by omega
     have HTL:Hid (TK.length≤1000):=Hm (by rw [hTK,joinT_len,List.length_take];have:=HN.out;omega)
     have hn63:(n:Int)≤2048:=by have:=HN2.out;omega
     clear hx1 hb1 hNK hnn hpp hTK hltN
     obtain ⟨wo,hwo2⟩:∃x,x=wr:=⟨_,rfl⟩
     subst hwo2
     have HBN:=Hm (Bld.new wo)
     go_wp2
     go_loopg [0] n (fun z t wr=>∃(i:Nat) (s:ByteArray) (u:Option Addr) (c:Nat),z+s.size=n∧t= .slice u (ps.length - (p+i)) c∧Hid (Pcs w ps (p+i) u c)∧Hid (Mat ps (lensL NS) (p+i))∧Hid (s=catL ((ps.drop p).take i)∧s.size=min (256*i) n∧i≤nOf n)∧Hid (Bld wr wo.heap.size s)∧Hid (Ext wo wr))
     case atStart=>exact ⟨0,ByteArray.empty,u,c,rfl,rfl,hPC,hMT,Hm ⟨rfl,by simp,Nat.zero_le _⟩,HBN,Hm ((Ext.refl wo).alloc _)⟩
     case round=>
      obtain ⟨i,s,u,c,hzs,rfl,hPI,hMI,hS,hB,hEI⟩:=hrel
      have HBL:=Hm (fun W (h:Bld W wo.heap.size s)=>blen_any wo.heap.size s W h)
      obtain ⟨D,hD⟩:∃D,D=ps.length - (p+i):=⟨_,rfl⟩
      rw [←hD]
      have HD:=Hm hD
      clear hD
      have hz63:(s.size:Int)≤2048:=by have:=HN2.out;omega
      by_cases hsn:s.size<n
      ·have hsi:(s.size:Int)<(n:Int):=by omega
       have hin:i<nOf n:=by have:=hS.out.2.1;unfold nOf;omega
       have HQA:=Hm (HLA.out i hin)
       have HLN:Hid (lenAt n i=min 256 (n - s.size)):=Hm (by have:=hS.out.2.1;unfold lenAt;omega)
       have HZS:=Hm hzs
       clear hzs
       go_upto_region 13 with (go_at_call 62;refine (HBL.out _ hB.out).mono ?_;rintro e w3 ⟨rfl,rfl⟩)
       by_cases hpi:p+i<ps.length
       ·obtain ⟨b2,o2,rfl,hb2w,f1w,hPN⟩:=hPI.out.first hpi
        have HEW:=Hm (hE.out.trans hEI.out)
        have f1:w3.cell? ⟨b2,o2,none⟩=some (.string ps[p+i]):=(HEW.out.cells.1 b2 o2 hb2w).trans f1w
        have hb2:b2<w3.heap.size:=Nat.lt_of_lt_of_le hb2w HEW.out.size
        clear f1w hb2w
        obtain ⟨t,ht⟩:∃t,t=ps[p+i]:=⟨_,rfl⟩
        rw [←ht] at f1
        have HTT:=Hm ht
        have HPN:=Hm hPN
        have hD0:0<D:=by have:=HD.out;omega
        have hDz:((D:Int)==0)=false:=by simp;omega
        have hDi:0<(D:Int):=by omega
        clear ht hPN
        refine wp_region_head 13 (fun w' =>Ext (w3) w'∧(∀b o,b<(w3).heap.size→w'.cell? ⟨b,o,none⟩=(w3).cell? ⟨b,o,none⟩)∧(∀b o,b<(w3).heap.size→w'.frozen? ⟨b,o,none⟩=(w3).frozen? ⟨b,o,none⟩)) (by kernel_rfl) (by decide) ?_
        have hA0:Hid ((fun w' =>Ext (w3) w'∧(∀b o,b<(w3).heap.size→w'.cell? ⟨b,o,none⟩=(w3).cell? ⟨b,o,none⟩)∧(∀b o,b<(w3).heap.size→w'.frozen? ⟨b,o,none⟩=(w3).frozen? ⟨b,o,none⟩)) w3.drew):=Hm (held_of (Ext.refl w3).drew)
        refine HG.on 0 34 hA0.out ?_
        try simp only [Act.put,List.setIfInBounds_toArray,List.set_cons_zero,List.set_cons_succ]
        refine HG.on 1 35 hA0.out ?_
        try simp only [Act.put,List.setIfInBounds_toArray,List.set_cons_zero,List.set_cons_succ]
        refine HG.on 2 36 hA0.out ?_
        try simp only [Act.put,List.setIfInBounds_toArray,List.set_cons_zero,List.set_cons_succ]
        refine HG.on 3 37 hA0.out ?_
        try simp only [Act.put,List.setIfInBounds_toArray,List.set_cons_zero,List.set_cons_succ]
        refine HG.on 4 38 hA0.out ?_
        try simp only [Act.put,List.setIfInBounds_toArray,List.set_cons_zero,List.set_cons_succ]
        refine HG.on 5 39 hA0.out ?_
        try simp only [Act.put,List.setIfInBounds_toArray,List.set_cons_zero,List.set_cons_succ]
        refine HG.on 6 40 hA0.out ?_
        try simp only [Act.put,List.setIfInBounds_toArray,List.set_cons_zero,List.set_cons_succ]
        refine HG.on 7 41 hA0.out ?_
        try simp only [Act.put,List.setIfInBounds_toArray,List.set_cons_zero,List.set_cons_succ]
        refine HG.on 8 42 hA0.out ?_
        try simp only [Act.put,List.setIfInBounds_toArray,List.set_cons_zero,List.set_cons_succ]
        refine wpHd_oneG (i:=9) rfl (by rfl) (by kernel_rfl) (fun KK hK=> ?_)
        go_simp
        refine (HBL.out _ hB.out.drew).mono ?_
        rintro e w4 ⟨rfl,rfl⟩
        refine hK.out _ _ hA0.out (fun hA=> ?_)
        clear hK KK hA
        refine HG.on 10 44 hA0.out ?_
        try simp only [Act.put,List.setIfInBounds_toArray,List.set_cons_zero,List.set_cons_succ]
        refine HG.on 11 45 hA0.out ?_
        try simp only [Act.put,List.setIfInBounds_toArray,List.set_cons_zero,List.set_cons_succ]
        refine HG.on 12 46 hA0.out ?_
        try simp only [Act.put,List.setIfInBounds_toArray,List.set_cons_zero,List.set_cons_succ]
        refine wpHd_tail (by kernel_rfl) ?_
        simp only [List.drop_succ_cons,List.drop_zero]
        have hw:IntKind.i64.wrap ((n:Int) - (s.size:Int))=((n - s.size:Nat):Int):=by rw [IntKind.wrap_i64];omega
        have hmin:min 256 (IntKind.i64.wrap ((n:Int) - (s.size:Int)))=((lenAt n i:Nat):Int):=by rw [hw,HLN.out];omega
        by_cases htz:t.size=lenAt n i
        ·have hq:((t.size:Int) !=min 256 (IntKind.i64.wrap ((n:Int) - (s.size:Int))))=false:=by rw [hmin,htz];simp
         have HTZ:=Hm htz
         have HDC:Hid (D≤c):=Hm (by have:=hPI.out.cap;have:=HD.out;omega)
         have HCM:Hid (c≤maxLen):=Hm hPI.out.mx
         have HWS:=Hm (bwrite_any wo.heap.size s t w3.drew hB.out.drew (by have:=HN2.out;have:=HLN.out;omega) hEI.out.size)
         have hd1:(1:Int)≤(D:Int):=by omega
         have hdc:(D:Int)≤(c:Int):=by have:=HDC.out;omega
         have hcm:(c:Int)≤9223372036854775807:=by have:=HCM.out;unfold maxLen at this;omega
         have hlp:=lenAt_pos hin
         have HTP:Hid (1≤t.size∧s.size+t.size≤n):=Hm (by have h1:=HLN.out;have h2:=HN2.out;omega)
         have HNX:Hid (s++t=catL ((ps.drop p).take (i+1))∧(s++t).size=min (256*(i+1)) n∧i+1≤nOf n):=Hm (by
          have h1:=hS.out
          have h2:=HLN.out
          refine ⟨?_,by rw [ByteArray.size_append];omega,hin⟩
          have hdl:i<(ps.drop p).length:=by rw [List.length_drop];omega
          rw [List.take_succ_eq_append_getElem hdl,catL_snoc,←h1.1,List.getElem_drop,←HTT.out])
         have HMN:Hid (Mat ps (lensL NS) (p+(i+1))):=Hm (by
          have h:=hMI.out.succ hpi (by rw [HQA.out,←HTT.out,htz])
          exact h)
         clear hw hmin htz hlp
         go_wp2_with (go_at_call 63;refine HWS.out.mono ?_;rintro e w5 ⟨rfl,hb5,hk5⟩;have HB5:=Hm hb5;have HK5:=Hm hk5;clear hb5 hk5)
         have hee:Ext wo w5:=Below.trans hEI.out.drew HK5.out
         have HE5:=Hm hee
         have HD5:Hid (D - 1=ps.length - (p+(i+1))):=Hm (by have:=HD.out;omega)
         clear hee
         ·have hc1:c=1:=by assumption
          subst hc1
          go_roundg (n - (s.size+t.size))
          case measure=>have:=HTP.out;have:=HZS.out;omega
          case rel=>exact ⟨i+1,s++t,some ⟨b2,o2,none⟩,0,by rw [ByteArray.size_append];have:=HTP.out;omega,by rw [HD5.out],Hm (Pcs.last (p:=p+i) (by have:=HDC.out;have:=HD.out;omega) _),HMN,HNX,HB5,HE5⟩
         ·have hee:Ext wo w5:=Below.trans hEI.out.drew HK5.out
          have HE5:=Hm hee
          have HD5:Hid (D - 1=ps.length - (p+(i+1))):=Hm (by have:=HD.out;omega)
          clear hee
          go_roundg (n - (s.size+t.size))
          case measure=>have:=HTP.out;have:=HZS.out;omega
          case rel=>exact ⟨i+1,s++t,some ⟨b2,o2+1,none⟩,c - 1,by rw [ByteArray.size_append];have:=HTP.out;omega,by rw [HD5.out],HPN,HMN,HNX,HB5,HE5⟩
        ·have hq:((t.size:Int) !=min 256 (IntKind.i64.wrap ((n:Int) - (s.size:Int))))=true:=by rw [hmin];simp;omega
         have HE:Hid (joinE ps ns=16):=Hm (by rw [HFT.out,if_neg (mism HQA.out (fun hq=>by rw [←HTT.out];exact htz))])
         have HEE:=Hm (hE.out.trans hEI.out.drew)
         clear hw hmin htz
         go_wp2
         go_ret2
         exact JoinQ.bad HE.out (by decide) HEE.out
       ·have hDz:((D:Int)==0)=true:=by have:=HD.out;simp;omega
        have HE:Hid (joinE ps ns=16):=Hm (by rw [HFT.out,if_neg (mism HQA.out (fun hq=>absurd hq hpi))])
        have HEE:=Hm (hE.out.trans hEI.out)
        refine wp_region_head 13 (fun w' =>Ext (w3) w'∧(∀b o,b<(w3).heap.size→w'.cell? ⟨b,o,none⟩=(w3).cell? ⟨b,o,none⟩)∧(∀b o,b<(w3).heap.size→w'.frozen? ⟨b,o,none⟩=(w3).frozen? ⟨b,o,none⟩)) (by kernel_rfl) (by decide) ?_
        have hA0:Hid ((fun w' =>Ext (w3) w'∧(∀b o,b<(w3).heap.size→w'.cell? ⟨b,o,none⟩=(w3).cell? ⟨b,o,none⟩)∧(∀b o,b<(w3).heap.size→w'.frozen? ⟨b,o,none⟩=(w3).frozen? ⟨b,o,none⟩)) w3.drew):=Hm (held_of (Ext.refl w3).drew)
        refine HG.on 0 34 hA0.out ?_
        try simp only [Act.put,List.setIfInBounds_toArray,List.set_cons_zero,List.set_cons_succ]
        refine HG.on 1 35 hA0.out ?_
        try simp only [Act.put,List.setIfInBounds_toArray,List.set_cons_zero,List.set_cons_succ]
        refine HG.on 2 36 hA0.out ?_
        try simp only [Act.put,List.setIfInBounds_toArray,List.set_cons_zero,List.set_cons_succ]
        refine HG.on 3 37 hA0.out ?_
        try simp only [Act.put,List.setIfInBounds_toArray,List.set_cons_zero,List.set_cons_succ]
        refine wpHd_takeD (i:=4) (d:=some 38) (v:=undef) rfl rfl (by kernel_rfl) (by kernel_rfl) (by kernel_rfl) (fun _ _ _ h=>h) (Or.inr ⟨by rfl,rfl⟩) hA0.out ?_
        try simp only [Act.put,List.setIfInBounds_toArray,List.set_cons_zero,List.set_cons_succ]
        refine wpHd_takeD (i:=5) (d:=some 39) (v:=undef) rfl rfl (by kernel_rfl) (by kernel_rfl) (by kernel_rfl) (fun _ _ _ h=>h) (Or.inr ⟨by rfl,rfl⟩) hA0.out ?_
        try simp only [Act.put,List.setIfInBounds_toArray,List.set_cons_zero,List.set_cons_succ]
        refine wpHd_takeD (i:=6) (d:=some 40) (v:=undef) rfl rfl (by kernel_rfl) (by kernel_rfl) (by kernel_rfl) (fun _ _ _ h=>h) (Or.inr ⟨by rfl,rfl⟩) hA0.out ?_
        try simp only [Act.put,List.setIfInBounds_toArray,List.set_cons_zero,List.set_cons_succ]
        refine wpHd_takeD (i:=7) (d:=some 41) (v:=undef) rfl rfl (by kernel_rfl) (by kernel_rfl) (by kernel_rfl) (fun _ _ _ h=>h) (Or.inr ⟨by rfl,rfl⟩) hA0.out ?_
        try simp only [Act.put,List.setIfInBounds_toArray,List.set_cons_zero,List.set_cons_succ]
        refine wpHd_takeD (i:=8) (d:=some 42) (v:=undef) rfl rfl (by kernel_rfl) (by kernel_rfl) (by kernel_rfl) (fun _ _ _ h=>h) (Or.inr ⟨by rfl,rfl⟩) hA0.out ?_
        try simp only [Act.put,List.setIfInBounds_toArray,List.set_cons_zero,List.set_cons_succ]
        refine wpHd_takeD (i:=9) (d:=some 43) (v:=undef) rfl rfl (by kernel_rfl) (by kernel_rfl) (by kernel_rfl) (fun _ _ _ h=>h) (Or.inr ⟨by rfl,rfl⟩) hA0.out ?_
        try simp only [Act.put,List.setIfInBounds_toArray,List.set_cons_zero,List.set_cons_succ]
        refine wpHd_takeD (i:=10) (d:=some 44) (v:=undef) rfl rfl (by kernel_rfl) (by kernel_rfl) (by kernel_rfl) (fun _ _ _ h=>h) (Or.inr ⟨by rfl,rfl⟩) hA0.out ?_
        try simp only [Act.put,List.setIfInBounds_toArray,List.set_cons_zero,List.set_cons_succ]
        refine wpHd_takeD (i:=11) (d:=some 45) (v:=undef) rfl rfl (by kernel_rfl) (by kernel_rfl) (by kernel_rfl) (fun _ _ _ h=>h) (Or.inr ⟨by rfl,rfl⟩) hA0.out ?_
        try simp only [Act.put,List.setIfInBounds_toArray,List.set_cons_zero,List.set_cons_succ]
        refine wpHd_takeD (i:=12) (d:=some 46) (v:=undef) rfl rfl (by kernel_rfl) (by kernel_rfl) (by kernel_rfl) (fun _ _ _ h=>h) (Or.inr ⟨by rfl,rfl⟩) hA0.out ?_
        try simp only [Act.put,List.setIfInBounds_toArray,List.set_cons_zero,List.set_cons_succ]
        refine wpHd_tail (by kernel_rfl) ?_
        simp only [List.drop_succ_cons,List.drop_zero]
        go_wp2
        go_ret2
        exact JoinQ.bad HE.out (by decide) (HEE.out.trans (by exact eX))
      ·have hin:i=nOf n:=by have:=hS.out;unfold nOf at*;omega
       subst hin
       have HSG:=Hm (fun W (h:Bld W wo.heap.size s) (h2:wo.heap.size≤W.heap.size)=>bstring_any wo.heap.size s W h h2)
       have HSN:=Hm (fun (W:World)=>(Sl.new W #[.string s] 9 1 1 1 [[.string s]] rfl (by intro xs hxs;simp at hxs;subst hxs;rfl) rfl))
       have hsz:(s.size:Int)=(n:Int):=by omega
       have hnl: ¬ (s.size:Int)<(n:Int):=by omega
       clear hsn hzs
       go_wp2_with (first
        |(go_at_call 62;refine (HBL.out _ hB.out).mono ?_;rintro e w3 ⟨rfl,rfl⟩)
        |(go_at_call 64;refine (HSG.out _ hB.out hEI.out.size).mono ?_;rintro e w5 ⟨rfl,hk5⟩;have HE5:=Hm (show Ext wo w5 from Below.trans hEI.out hk5);clear hk5)
        |(at_builtin;refine wpList_append_sl rfl _ _ 24 rfl w.heap.size 9 i0 _ 1 16 Tryz.underlying24 hi hz0 hz1 hz2 rfl (by decide) _ TK.length _ rfl (owns_ext hO.out (HE5.out.alloc _)) _ [[.string s]] rfl (HSN.out w5) ?c0 ?c1 ?c2 ?c3 ?c4 ?_))
       case c0=>intro ys hys;simp at hys;subst hys;rfl
       case c1=>intro y hy;simp at hy;subst hy;rfl
       case c2=>have:=HTL.out;unfold maxLen;simp only [List.length_cons,List.length_nil];omega
       case c3=>have:=HTL.out;simp only [List.length_cons,List.length_nil];omega
       case c4=>have h1:=hE.out.size;have h2:=HE5.out.size;simp only [World.size_alloc];omega
       intro v7 w7 ho7 hg7 _
       have HO8:Hid (w7.ownsRow w.heap.size 9 1 v7 (joinT ps (NS.take (k+1))).length ((joinT ps (NS.take (k+1))).map strC).flatten):=Hm (by
        rw [HJT.out,←hS.out.1,List.map_append,List.flatten_append,List.length_append]
        simpa [strC] using ho7)
       have HE8:Hid (Ext w w7):=Hm (Ext.grown (hE.out.trans (HE5.out.alloc _)) (owns_ext hO.out (HE5.out.alloc _)) hg7)
       clear ho7 hg7
       go_wp2
       go_roundg (ns.length - (k+1))
       case measure=>have:=HLT.out;omega
       case rel=>exact ⟨k+1,u,c,Nat.sub_add_cancel HLT.out,by go_num,by rw [HST.out,HD.out],Hm (by rw [HST.out];exact hPI.out),Hm (by rw [HST.out];exact hMI.out),HO8,HE8⟩
    ·have hk:k=ns.length:=by omega
     have HTA:Hid (NS.take k=NS):=Hm (by rw [hk,←HNL.out];exact List.take_length)
     rw [HTA.out] at hPC hMT hO⊢
     by_cases hfull:sumN NS<ps.length
     ·have HE:Hid (joinE ps ns=16):=Hm (by
       rw [HFT.out,if_neg]
       intro e
       have h1:=congrArg List.length e
       rw [List.length_map,lensL_len] at h1
       omega)
      obtain ⟨D,hD⟩:∃D,D=ps.length - sumN NS:=⟨_,rfl⟩
      rw [←hD]
      have h19:0<(D:Int):=by omega
      subst hk
      clear hD hfull
      go_wp2
      go_ret2
      exact JoinQ.bad HE.out (by decide) hE.out
     ·have hle:=hPC.out.le
      have hz0:ps.length - sumN NS=0:=by omega
      have HE:Hid (joinE ps ns=0):=Hm (by
       rw [HFT.out,if_pos]
       refine Mat.all (by rw [lensL_len];exact hMT.out) (by rw [lensL_len];omega))
      have HW:Hid (joinW ps ns=joinT ps NS):=Hm (by unfold joinW;rw [if_pos HE.out,←HNS.out])
      rw [hz0]
      obtain ⟨J,hJ⟩:∃J,J=joinT ps NS:=⟨_,rfl⟩
      rw [←hJ] at hO HW
      obtain ⟨a9,c9,rfl⟩:=owns_shape hO.out
      subst hk
      clear hfull hle hz0 hJ
      go_wp2
      go_ret2
      unfold JoinQ
      rw [HE.out,HW.out]
      exact ⟨a9,c9,rfl,Sl.of_owns (base:=w.heap.size) (e:=9) (by rw [List.length_map];exact hO.out) strC_one,owns_caps hO.out,hE.out⟩
end Go.Proofs.YtodbhliidbclcaaGreat
namespace Go.Proofs.YtodbhliidbclcaaGreat
open Go.RowKit
theorem pcN_nOf (x:Int):pcN x=nOf x.toNat:=by unfold pcN nOf;split<;>omega
theorem cntL_sum:∀l:List Int,cntL l=(lensL (l.map Int.toNat)).length
 | []=>rfl
 |x::l=>by
  have h:=cntL_sum l
  have e:cntL (x::l)=pcN x+cntL l:=by unfold cntL;simp
  rw [e,List.map_cons,lensL_cons,List.length_append,lens1_len,h,pcN_nOf]
theorem firstC_le {kind:Int} {st:RS} :(firstC kind st).1.2≤2048:=by
 unfold firstC textK
 simp only
 repeat' split
 all_goals first|exact Nat.zero_le _|exact largeR_le
theorem secondC_le {kind:Int} {st:RS} :(secondC kind st).1.2≤2048:=by
 unfold secondC textK
 simp only
 repeat' split
 all_goals first|exact Nat.zero_le _|exact largeR_le
theorem takeC_le {kind ver:Int} {st:RS} :(takeC kind ver st).1.2≤2048:=by
 unfold takeC finC preC
 simp only
 repeat' split
 all_goals first|exact Nat.zero_le _|exact firstC_le|exact secondC_le
theorem tkUp_small {nulls:List Bool} {cols:List Col} {ver:Int} {st:RS} :∀k,(tkUp nulls cols ver st k).1.1.length≤k∧(tkUp nulls cols ver st k).1.1.length≤cols.length∧(tkUp nulls cols ver st k).1.2.length≤cols.length∧(tkUp nulls cols ver st k).1.2.length≤k∧∀o∈(tkUp nulls cols ver st k).1.2,0≤o.n∧o.n≤2048
 |0=>⟨Nat.le_refl _,Nat.zero_le _,Nat.zero_le _,Nat.le_refl _,fun o ho=>by cases ho⟩
 |k+1=>by
  obtain ⟨h1,h2,h3,h4,h5⟩:=tkUp_small (nulls:=nulls) (cols:=cols) (ver:=ver) (st:=st) k
  unfold tkUp
  split
  ·rename_i hlt
   split
   ·simp only [List.length_append,List.length_cons,List.length_nil]
    exact ⟨by omega,by omega,by omega,by omega,h5⟩
   ·simp only [List.length_append,List.length_cons,List.length_nil]
    split
    ·simp only [List.length_append,List.length_cons,List.length_nil]
     refine ⟨by omega,by omega,by omega,by omega,fun o ho=> ?_⟩
     rcases List.mem_append.1 ho with ho|ho
     ·exact h5 o ho
     ·obtain rfl:o=_:=by simpa using ho
      have:=takeC_le (kind:=(cols[k]'hlt.2).ty) (ver:=ver) (st:=(tkUp nulls cols ver st k).2)
      simp only
      omega
    ·exact ⟨by omega,by omega,by omega,by omega,h5⟩
  ·exact ⟨by omega,h2,h3,by omega,h5⟩
theorem failS_bad {st:RS} {E:Int} (h:E≠0):(failS st E).e≠0:=by
 unfold failS
 rw [if_pos h]
 exact giveS_e h
theorem takeT_small {r:Rl} {ver:Int} {st:RS} :(takeT r ver st).1.1.length≤16∧(takeT r ver st).1.2.length≤16∧∀o∈(takeT r ver st).1.2,0≤o.n∧o.n≤2048:=by
 unfold takeT
 split
 ·exact ⟨Nat.zero_le _,Nat.zero_le _,fun o ho=>by cases ho⟩
 rename_i h1
 split
 ·exact ⟨Nat.zero_le _,Nat.zero_le _,fun o ho=>by cases ho⟩
 have hr:r.right=0:=Classical.byContradiction fun q=>by
  apply h1
  unfold begR
  split
  ·exact failS_bad q
  ·exact giveS_e (by decide)
 have hc:r.cols.length≤16:=by
  unfold Rl.right at hr
  repeat' split at hr
  all_goals first|omega|cases hr|skip
 unfold finT
 split
 ·exact ⟨Nat.zero_le _,Nat.zero_le _,fun o ho=>by cases ho⟩
 ·obtain ⟨-,h2,h3, -,h5⟩:=tkUp_small (nulls:=(unmapL (bytesR (mapSize r.cols.length) (begR r ver st)).1 r.cols.length).1) (cols:=r.cols) (ver:=ver) (st:=failS (bytesR (mapSize r.cols.length) (begR r ver st)).2 (unmapL (bytesR (mapSize r.cols.length) (begR r ver st)).1 r.cols.length).2) (unmapL (bytesR (mapSize r.cols.length) (begR r ver st)).1 r.cols.length).1.length
  exact ⟨by omega,by omega,h5⟩
structure Pt.small (p:Pt):Prop where
 e:p.e.b.length≤16∧p.e.a.length≤16∧p.e.rs.length≤8
 n:p.hb.length≤16∧p.ha.length≤16
 hb:∀o∈p.hb,0≤o.n∧o.n≤2048
 ha:∀o∈p.ha,0≤o.n∧o.n≤2048
theorem Pt.small.zero:Pt.zero.small:=⟨⟨Nat.zero_le _,Nat.zero_le _,Nat.zero_le _⟩,⟨Nat.zero_le _,Nat.zero_le _⟩,fun o ho=>(by cases ho),fun o ho=>(by cases ho)⟩
theorem Pt.small.ev {p:Pt} (h:p.small):p.e.small:=⟨by have:=h.e;omega,by have:=h.e;omega,by have:=h.e;omega⟩
theorem Pt.small.sz {p:Pt} (h:p.small):∀x∈sizesP p,0≤x∧x≤2048:=by
 intro x hx
 unfold sizesP at hx
 rcases List.mem_append.1 hx with hx|hx
 ·obtain ⟨o,ho,rfl⟩:=List.mem_map.1 hx;exact h.hb o ho
 ·obtain ⟨o,ho,rfl⟩:=List.mem_map.1 hx;exact h.ha o ho
theorem befR_small {r:Rl} {ver old:Int} {st:RS} :(befR r ver old st).1.1.length≤16∧(befR r ver old st).1.2.length≤16∧∀o∈(befR r ver old st).1.2,0≤o.n∧o.n≤2048:=by
 unfold befR
 split
 ·exact ⟨Nat.zero_le _,Nat.zero_le _,fun o ho=>by cases ho⟩
 ·exact takeT_small
theorem aftR_small {r:Rl} {ver kind:Int} {st:RS} :(aftR r ver kind st).1.1.length≤16∧(aftR r ver kind st).1.2.length≤16∧∀o∈(aftR r ver kind st).1.2,0≤o.n∧o.n≤2048:=by
 unfold aftR
 split
 ·exact ⟨Nat.zero_le _,Nat.zero_le _,fun o ho=>by cases ho⟩
 ·exact takeT_small
theorem body_small (kind:Int) (l:List Rl) (ver:Int) (st:RS):(bodyE kind l ver st).1.small:=by
 unfold bodyE
 split
 ·unfold truncR
  simp only
  exact ⟨⟨Nat.zero_le _,Nat.zero_le _,by rw [refsR_len];exact uintR_le 8⟩,⟨Nat.zero_le _,Nat.zero_le _⟩,fun o ho=>(by cases ho),fun o ho=>(by cases ho)⟩
 ·unfold rowsR
  split
  ·first|exact ⟨⟨Nat.zero_le _,Nat.zero_le _,Nat.zero_le _⟩,⟨Nat.zero_le _,Nat.zero_le _⟩,fun o ho=>(by cases ho),fun o ho=>(by cases ho)⟩|exact ⟨⟨by simp,by simp,by simp⟩,⟨by simp,by simp⟩,fun o ho=>(by simp at ho),fun o ho=>(by simp at ho)⟩
  ·unfold rowR
   simp only
   exact ⟨⟨befR_small.1,aftR_small.1,Nat.zero_le _⟩,⟨befR_small.2.1,aftR_small.2.1⟩,befR_small.2.2,aftR_small.2.2⟩
theorem takeEP_small (l:List Rl) (kind:Int) (b:List Int) (ver:Int):(takeEP l kind b ver).small:=by
 unfold takeEP
 split
 ·exact body_small _ _ _ _
 ·exact Pt.small.zero
end Go.Proofs.YtodbhliidbclcaaGreat
