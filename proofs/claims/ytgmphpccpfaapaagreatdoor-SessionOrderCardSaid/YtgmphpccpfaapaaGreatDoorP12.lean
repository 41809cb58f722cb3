/-
One relation more in a catalog: the program's own, Add.
-/
import Derived.RangeFuncBox
import Derived.Test.YtgmphpccpfaapaaGreatDoorP9
import Derived.Test.YtgmphpccpfaapaaGreatDoorP10
import Derived.Test.YtgmphpccpfaapaaGreatDoorP8
import Derived.Test.YtgmphpccpfaapaaGreatDoorP11
import Derived.Test.YtgmphpccpfaapaaGreatDoorP7
import Derived.Test.YtgmphpccpfaapaaGreatDoorP4
set_option maxRecDepth 100000
set_option maxHeartbeats 16000000
namespace Go.Proofs.YtgmphpccpfaapaaGreatDoor
open Go.RowKit
def RR.owned (N:Nat) (W:World) (q:RR):Prop:=W.ownsRow N 153 3 (.slice q.a q.r.cols.length q.c) q.r.cols.length (q.r.cols.map Col.cells).flatten
theorem RR.owned.in {N:Nat} {W:World} {q:RR} (h:q.owned N W):q.in W:=Sl.of_owns (base:=N) (e:=153) (by rw [List.length_map];exact h) (by intro xs hxs;simp at hxs;obtain ⟨_,_,rfl⟩:=hxs;rfl)
theorem RR.owned.at_ {N:Nat} {W:World} {q:RR} (h:q.owned N W) {b o:Nat} (e:q.a=some ⟨b,o,none⟩):N≤b∧b<W.heap.size:=h.lt b (by rw [e];rfl)
theorem RR.owned.ext {N:Nat} {W W' :World} {q:RR} (h:q.owned N W) (he:Ext W W'):q.owned N W' :=owns_ext h he
theorem RR.owned.mono {N M:Nat} {W:World} {q:RR} (h:q.owned N W) (hm:M≤N):q.owned M W:=owns_base h hm
theorem pown_any (p:RR) (w:World) (hp:p.in w) (hlen:p.r.cols.length≤1000):
 Calls Tryz.prog 66 #[p.agg] w fun e w' =>∃q:RR,e= .returned q.agg∧q.r=p.r∧q.owned w.heap.size w'∧Ext w w' :=by
 obtain ⟨⟨oid,ver,nm,id,cols⟩,a2,c2⟩:=p
 unfold RR.agg
 unfold RR.in at hp
 simp only at hp hlen⊢
 have HC:=Hm (fun W (h:Ext w W)=>clonec_any cols a2 c2 W (hp.ext h) hlen)
 clear hp
 go_enter Tryz.func66,Tryz.ntmps66
 go_wp2_with (go_at_call 95;refine (HC.out _ (by exact eX)).mono ?_;rintro e w1 ⟨a',c',rfl,ho,hb1⟩;have HO:=Hm ho;have HB:=Hm hb1;have g0:=(((Blk.new w #[.int .u32 oid, .int .u32 ver, .string nm, .int .u8 id, .slice a2 cols.length c2] 72).alloc (.cells #[.int .u32 0, .int .u32 0, .string ⟨#[]⟩, .int .u8 0, .slice none 0 0] 72)).ext hb1);have g1:=((Blk.new' (w:=w.alloc (.cells #[.int .u32 oid, .int .u32 ver, .string nm, .int .u8 id, .slice a2 cols.length c2] 72)) (b:=w.heap.size+1) #[.int .u32 0, .int .u32 0, .string ⟨#[]⟩, .int .u8 0, .slice none 0 0] 72 (by simp)).ext hb1);have g0c:=g0.cell;have g0f:=g0.frozen;have g0z:=g0.lt;have g1c:=g1.cell;have g1f:=g1.frozen;have g1z:=g1.lt;clear ho hb1 g0 g1)
 simp [bodyPost,results,Tryz.results66,go_sem, *]
 have hEw:Ext w w1:=(((Ext.refl w).alloc _).alloc _).trans HB.out
 have ho:=HO.out
 simp only [World.size_alloc] at ho
 refine ⟨⟨⟨oid,ver,nm,id,cols⟩,a',c'⟩,⟨rfl,rfl,rfl,rfl,rfl,rfl,rfl⟩,rfl, ?_,by exact eX⟩
 refine owns_base (base:=w.heap.size+1+1) ?_ (by omega)
 dsimp only
 exact owns_set (owns_set (owns_set (owns_set (owns_set (owns_set ho (by dsimp only;omega) _) (by dsimp only;omega) _) (by dsimp only;omega) _) (by dsimp only;omega) _) (by dsimp only;omega) _) (by dsimp only;omega) _
theorem Ca.ins {w5 w6:World} {N g:Nat} {c v' :Value} {ps:List RR} {q:RR} (hc:Ca w5 N g c ps) (hq:q.in w5) (hqn:q.r.cols≠ []→∀b o,q.a=some ⟨b,o,none⟩→b≠g∧c.ownBlock≠some b∧N≤b∧b<w5.heap.size) (hadd:addE (ps.map RR.r) q.r=0) (hwb:q.r.wb)
 (ho:w6.ownsRow N 72 5 v' (ps.length+1) ((insP ps q).map RR.cells).flatten) (hg:w5.grownBy w6 c.ownBlock) (hat:v'.ownBlock=c.ownBlock∨∃b,v'.ownBlock=some b∧w5.heap.size≤b):
 Ca (w6.setCell ⟨g,0,none⟩ v') N g v' (insP ps q)∧Kp (Ca.S g c) w5 (w6.setCell ⟨g,0,none⟩ v'):=by
 have hgz:=hc.ptr.lt
 have hk1:Kp (fun k=>c.ownBlock=some k) w5 w6:=Kp.of_grown hg
 have hk2:Kp (fun k=>k=g) w6 (w6.setCell ⟨g,0,none⟩ v'):=Kp.set _ _ rfl
 have hv:v'.ownBlock≠some g:=by
  rcases hat with h|⟨b,h,hb⟩
  ·rw [h];exact hc.gv
  ·rw [h];intro e;injection e with e;omega
 have hp6:Blk w6 g #[c] 128:=hc.ptr.kp hk1 hc.gv
 have hne:∀p∈insP ps q,p.r.cols≠ []→∀b o,p.a=some ⟨b,o,none⟩→b≠g∧c.ownBlock≠some b∧N≤b∧b<w5.heap.size:=fun p hp=>by
  rcases insP_mem hp with rfl|h
  ·exact hqn
  ·exact hc.ne p h
 have hin:∀p∈insP ps q,p.in w5:=fun p hp=>by
  rcases insP_mem hp with rfl|h
  ·exact hq
  ·exact hc.sl p h
 refine ⟨⟨?_, ?_,hc.gN,hv,fun p hp=> ?_,fun p hp h0 b o e=> ?_, ?_,fun p hp=> ?_⟩, ?_⟩
 ·have:=hp6.set 0 v'
  simpa using this
 ·rw [insP_len]
  exact owns_kp ho hk2 (fun b hb e=>hv (by rw [hb,e]))
 ·have h0:=hne p hp
  have h1:p.in w6:=Sl.kp (hin p hp) hk1 (fun hx b o e=>(h0 (fun h=>hx (by rw [h];rfl)) b o e).2.1)
  exact Sl.kp h1 hk2 (fun hx b o e=>(h0 (fun h=>hx (by rw [h];rfl)) b o e).1)
 ·obtain ⟨q1,q2,q3,q4⟩:=hne p hp h0 b o e
  refine ⟨q1, ?_,q3,by have:=hg.size;simp [World.setCell];omega⟩
  rcases hat with h|⟨b',h,hb⟩
  ·rw [h];exact q2
  ·rw [h];intro e2;injection e2 with e2;omega
 ·rw [insP_r]
  have:=hc.ok.add q.r
  unfold addL at this
  rwa [if_pos hadd] at this
 ·rcases insP_mem hp with rfl|h
  ·exact hwb
  ·exact hc.wb p h
 ·refine (hk1.mono (T:=Ca.S g c) (fun x hx _=> .inr hx)).trans hk2 (fun x hx _=> .inl hx)
def CAddPost (N g:Nat) (c:Value) (ps:List RR) (q:RR) (w:World) (e:Ending) (w' :World):Prop:=
 ∃c' q',e= .returned (.int .i64 (addE (ps.map RR.r) q.r))∧q'.r=q.r∧Ca w' N g c' (addP ps q')∧Kp (Ca.S g c) w w'∧∀b,c'.ownBlock=some b→c.ownBlock=some b∨w.heap.size≤b
theorem CAddPost.keep {N g:Nat} {c:Value} {ps:List RR} {q:RR} {w w' :World} {E:Int} (h:addE (ps.map RR.r) q.r=E) (h0:E≠0) (hc:Ca w N g c ps) (he:Ext w w'):CAddPost N g c ps q w (.returned (.int .i64 E)) w' :=by
 have e:addP ps q=ps:=by unfold addP;rw [h,if_neg h0]
 exact ⟨c,q,by rw [h],rfl,by rw [e];exact hc.ext he,Kp.of_ext he,fun b hb=> .inl hb⟩
theorem cadd_any (N g:Nat) (c:Value) (ps:List RR) (q:RR) (w:World) (hc:Ca w N g c ps) (hq:q.in w) (hcap:q.r.cols.length≤q.c) (hb:q.r.wb):
 Calls Tryz.prog 30 #[.pointer (some ⟨g,0,none⟩),q.agg] w (CAddPost N g c ps q w):=by
 obtain ⟨a,cap,rfl⟩:=hc.shape
 obtain ⟨⟨oid,ver,nm,id,cols⟩,a2,c2⟩:=q
 unfold RR.agg
 simp only at hcap⊢
 have HR8:=Hm (fun W (h:Ext w W)=>right8_big oid ver nm id cols a2 c2 W (Sl.ext hq h) hcap (by have:=hb.n;simp only at this;omega) hb.nm hb.cs)
 have HFD:=Hm (fun W (h:Ext w W)=>find_any N g _ ps oid ver W (hc.ext h))
 have HOW:=Hm (fun W (h:Ext w W) hn=>pown_any (⟨⟨oid,ver,nm,id,cols⟩,a2,c2⟩:RR) W (hq.ext h) hn)
 have HC:=Hm hc
 have HWB:=Hm hb
 have HAE:Hid (addE (ps.map RR.r) (⟨oid,ver,nm,id,cols⟩:Rl)=if (⟨oid,ver,nm,id,cols⟩:Rl).right≠0 then (⟨oid,ver,nm,id,cols⟩:Rl).right else if hasR oid ver (ps.map RR.r)=true then 9 else if 64≤(ps.map RR.r).length then 8 else 0):=Hm rfl
 have hgc:=hc.ptr.cell
 have hgz:=hc.ptr.lt
 have hn64:=hc.n64
 unfold RR.agg at HOW
 simp only at HOW
 clear hc hq hb hcap
 obtain ⟨E,hE⟩:∃E,E=Rl.right (⟨oid,ver,nm,id,cols⟩:Rl):=⟨_,rfl⟩
 rw [←hE] at HR8 HAE
 by_cases h0:E=0
 case neg=>
  have h0' :(E !=0)=true:=by simpa using h0
  have HA:=Hm (HAE.out.trans (if_pos h0))
  have H0:=Hm h0
  clear h0 hE HAE
  go_enter Tryz.func30,Tryz.ntmps30
  go_wp2_with (go_at_call 63;refine (HR8.out _ (by exact eX)).mono ?_;rintro e w1 ⟨rfl,hb1⟩;have hE1:Ext w w1:=(by exact eX))
  go_ret
  exact CAddPost.keep HA.out H0.out HC.out hE1
 subst h0
 have hn16:cols.length≤16:=Rl.cols_le hE.symm
 have HAE2:=Hm (HAE.out.trans (if_neg (by simp)))
 clear HAE hE
 obtain ⟨P,hP⟩:∃P,P=posR oid ver (ps.map RR.r):=⟨_,rfl⟩
 have hPn:P≤ps.length:=by have:=posR_le oid ver (ps.map RR.r);rw [List.length_map] at this;omega
 rw [←hP] at HFD
 have HPP:=Hm hP
 clear hP
 cases hh:hasR oid ver (ps.map RR.r) with
 |true=>
  rw [hh] at HFD HAE2
  have HA:=Hm (HAE2.out.trans (if_pos rfl))
  clear hh HAE2
  go_enter Tryz.func30,Tryz.ntmps30
  go_wp2_with (first
   |(go_at_call 63;refine (HR8.out _ (by exact eX)).mono ?_;rintro e w1 ⟨rfl,hb1⟩;have hE1:Ext w w1:=(by exact eX);have g0:=((Blk.new w #[.int .u32 oid, .int .u32 ver, .string nm, .int .u8 id, .slice a2 cols.length c2] 72).ext hb1).cell)
   |(go_at_call 64;refine (HFD.out _ (by exact eX)).mono ?_;rintro e w2 ⟨rfl,hb2⟩;have hE2:Ext w w2:=(by exact eX)))
  go_ret
  exact CAddPost.keep HA.out (by decide) HC.out hE2
 |false=>
  rw [hh] at HFD HAE2
  have HAE3:=Hm (HAE2.out.trans (if_neg (by simp)))
  rw [List.length_map] at HAE3
  clear hh HAE2
  by_cases h64:64≤ps.length
  ·have HA:=Hm (HAE3.out.trans (if_pos h64))
   clear HAE3
   go_enter Tryz.func30,Tryz.ntmps30
   go_wp2_with (first
    |(go_at_call 63;refine (HR8.out _ (by exact eX)).mono ?_;rintro e w1 ⟨rfl,hb1⟩;have hE1:Ext w w1:=(by exact eX);have g0:=((Blk.new w #[.int .u32 oid, .int .u32 ver, .string nm, .int .u8 id, .slice a2 cols.length c2] 72).ext hb1).cell)
    |(go_at_call 64;refine (HFD.out _ (by exact eX)).mono ?_;rintro e w2 ⟨rfl,hb2⟩;have hE2:Ext w w2:=(by exact eX);have hgc2:=(HC.out.ptr.ext hE2).cell))
   go_ret
   exact CAddPost.keep HA.out (by decide) HC.out hE2
  ·have HA:=Hm (HAE3.out.trans (if_neg h64))
   have h64' :ps.length<64:=by omega
   clear HAE3 h64
   go_enter Tryz.func30,Tryz.ntmps30
   go_upto_region 9 with (first
    |(go_at_call 63;refine (HR8.out _ (by exact eX)).mono ?_;rintro e w1 ⟨rfl,hb1⟩;have hE1:Ext w w1:=(by exact eX);have g0:=((Blk.new w #[.int .u32 oid, .int .u32 ver, .string nm, .int .u8 id, .slice a2 cols.length c2] 72).ext hb1).cell;have HB0:=Hm ((Blk.new w #[.int .u32 oid, .int .u32 ver, .string nm, .int .u8 id, .slice a2 cols.length c2] 72).ext hb1))
    |(go_at_call 64;refine (HFD.out _ (by exact eX)).mono ?_;rintro e w2 ⟨rfl,hb2⟩;have hE2:Ext w w2:=(by exact eX);have hgc2:=(HC.out.ptr.ext hE2).cell;have HB2:=Hm (HB0.out.ext hb2)))
   have HE2:=Hm hE2
   have HK2:Hid (∀W,Ext w2 W→Ext w W):=Hm (fun W h=>HE2.out.trans h)
   have hA0:Hid ((fun W:World=>(∀o,W.cell? ⟨g,o,none⟩=(#[Value.slice a ps.length cap]:Array Value)[o]?)∧(∀o,W.cell? ⟨w.heap.size,o,none⟩=(#[.int .u32 oid, .int .u32 ver, .string nm, .int .u8 id, .slice a2 cols.length c2]:Array Value)[o]?)) w2.drew):=Hm ⟨hgc2,HB2.out.cell⟩
   clear hE1 hE2 hb1 hb2 g0 hgc
   refine wp_region_head 10 (fun W:World=>(∀o,W.cell? ⟨g,o,none⟩=(#[Value.slice a ps.length cap]:Array Value)[o]?)∧(∀o,W.cell? ⟨w.heap.size,o,none⟩=(#[.int .u32 oid, .int .u32 ver, .string nm, .int .u8 id, .slice a2 cols.length c2]:Array Value)[o]?)) (by kernel_rfl) (by decide) ?_
   (refine wpHd_take (i:=0) (v:= ?_) rfl (by kernel_rfl) (by kernel_rfl) (by kernel_rfl) (fun _ _ _ h=>h) (Or.inl ⟨by rfl, ?_⟩) hA0.out ?_;rotate_left 1; · (intro w' hS';(try dsimp only at hS');go_split_ands;go_simp;try with_reducible rfl))
   (refine wpHd_take (i:=1) (v:= ?_) rfl (by kernel_rfl) (by kernel_rfl) (by kernel_rfl) (fun _ _ _ h=>h) (Or.inl ⟨by rfl, ?_⟩) hA0.out ?_;rotate_left 1; · (intro w' hS';(try dsimp only at hS');go_split_ands;go_simp;try with_reducible rfl))
   (refine wpHd_take (i:=2) (v:= ?_) rfl (by kernel_rfl) (by kernel_rfl) (by kernel_rfl) (fun _ _ _ h=>h) (Or.inl ⟨by rfl, ?_⟩) hA0.out ?_;rotate_left 1; · (intro w' hS';(try dsimp only at hS');go_split_ands;go_simp;try with_reducible rfl))
   (refine wpHd_take (i:=3) (v:= ?_) rfl (by kernel_rfl) (by kernel_rfl) (by kernel_rfl) (fun _ _ _ h=>h) (Or.inl ⟨by rfl, ?_⟩) hA0.out ?_;rotate_left 1; · (intro w' hS';(try dsimp only at hS');go_split_ands;go_simp;try with_reducible rfl))
   (refine wpHd_take (i:=4) (v:= ?_) rfl (by kernel_rfl) (by kernel_rfl) (by kernel_rfl) (fun _ _ _ h=>h) (Or.inl ⟨by rfl, ?_⟩) hA0.out ?_;rotate_left 1; · (intro w' hS';(try dsimp only at hS');go_split_ands;go_simp;try with_reducible rfl))
   (refine wpHd_take (i:=5) (v:= ?_) rfl (by kernel_rfl) (by kernel_rfl) (by kernel_rfl) (fun _ _ _ h=>h) (Or.inl ⟨by rfl, ?_⟩) hA0.out ?_;rotate_left 1; · (intro w' hS';(try dsimp only at hS');go_split_ands;go_simp;try with_reducible rfl))
   (refine wpHd_take (i:=6) (v:= ?_) rfl (by kernel_rfl) (by kernel_rfl) (by kernel_rfl) (fun _ _ _ h=>h) (Or.inl ⟨by rfl, ?_⟩) hA0.out ?_;rotate_left 1; · (intro w' hS';(try dsimp only at hS');go_split_ands;go_simp;try with_reducible rfl))
   refine wpHd_one (i:=7) rfl rfl (by kernel_rfl) (fun K hK=> ?_)
   go_simp
   refine (HOW.out _ (HK2.out _ (Ext.refl w2).drew) (by omega)).mono ?_
   rintro e w4 ⟨⟨r',a',k'⟩,rfl,hqr,hqo,hb4⟩
   simp only at hqr
   subst hqr
   have HX4:Hid (Ext w2 w4):=Hm ((Ext.refl w2).drew.trans hb4)
   have HQO:=Hm hqo
   simp only
   refine hK.out _ _ ⟨((HC.out.ptr.ext HE2.out).ext HX4.out).cell,(HB2.out.ext HX4.out).cell⟩ (fun hA=> ?_)
   clear hK K hA hA0 hb4 hqo hgc2
   refine wpHd_one (i:=8) rfl rfl (by kernel_rfl) (fun K hK=> ?_)
   go_simp
   have HX5:Hid (Ext w2 (w4.alloc (.cells #[.int .u32 oid, .int .u32 ver, .string nm, .int .u8 id, .slice a' cols.length k'] 72))):=Hm (HX4.out.alloc _)
   refine hK.out _ _ ⟨((HC.out.ptr.ext HE2.out).ext HX5.out).cell,(HB2.out.ext HX5.out).cell⟩ (fun hA=> ?_)
   clear hK K hA
   obtain ⟨w5,hw5⟩:∃w5,w5=w4.alloc (.cells #[.int .u32 oid, .int .u32 ver, .string nm, .int .u8 id, .slice a' cols.length k'] 72):=⟨_,rfl⟩
   have HV5:Hid (Blk w5 w4.heap.size #[.int .u32 oid, .int .u32 ver, .string nm, .int .u8 id, .slice a' cols.length k'] 72):=Hm (by rw [hw5];exact Blk.new _ _ _)
   have HQ5:Hid (RR.owned w2.heap.size w5 (⟨⟨oid,ver,nm,id,cols⟩,a',k'⟩:RR)):=Hm (by rw [hw5];exact RR.owned.ext HQO.out ((Ext.refl w4).alloc _))
   have hz5:w4.heap.size<w5.heap.size:=HV5.out.lt
   have hz4:w2.heap.size≤w4.heap.size:=HX4.out.size
   have hz2:w.heap.size≤w2.heap.size:=HE2.out.size
   rw [←hw5] at HX5⊢
   clear hw5
   have HC5:Hid (Ca w5 N g (.slice a ps.length cap) ps):=Hm ((HC.out.ext HE2.out).ext HX5.out)
   have hown5:=HC5.out.own
   have HOL:Hid (∀b,(Value.slice a ps.length cap).ownBlock=some b→b<w.heap.size):=Hm (fun b hb=>(HC.out.own.lt b hb).2)
   have hins:=ins_any N ps.length P cap w4.heap.size a ((ps.map RR.cells).flatten) (RR.cells (⟨⟨oid,ver,nm,id,cols⟩,a',k'⟩:RR)) w5 hown5 rfl HV5.out (by intro u hu;simp [RR.cells] at hu;rcases hu with rfl|rfl|rfl|rfl|rfl<;>rfl) (RR.one ps) (by omega) hPn (fun e=>by have:=HOL.out _ e;omega) (by have:=HC.out.gN;omega)
   have HINS:=Hm hins
   clear hins hown5
   refine wpHd_one (i:=9) rfl rfl (by kernel_rfl) (fun K hK=> ?_)
   go_simp
   refine HINS.out.mono ?_
   rintro e w6 ⟨v',rfl,ho6,hg6,hat6⟩
   have hbk:∀k,k<w5.heap.size→(Value.slice a ps.length cap).ownBlock≠some k→w6.heap[k]? =w5.heap[k]? :=fun k hk hn=>hg6.block k hk (fun e=>hn e.symm)
   have hgl:=HC5.out.ptr.lt
   refine hK.out _ _ ⟨Blk.cell ((hbk g hgl HC5.out.gv).trans HC5.out.ptr),Blk.cell ((hbk w.heap.size (by omega) (fun e=>by have:=HOL.out _ e;omega)).trans (HB2.out.ext HX5.out))⟩ (fun hA=> ?_)
   clear hK K hA
   have hfl:=insP_flat ps (⟨⟨oid,ver,nm,id,cols⟩,a',k'⟩:RR)
   simp only [←HPP.out] at hfl
   rw [←hfl] at ho6
   obtain ⟨a6,c6,rfl⟩:=owns_shape ho6
   have HFIN:=Hm (Ca.ins HC5.out HQ5.out.in (fun h0 b o e=>by
    obtain ⟨h1,h2⟩:=HQ5.out.at_ e
    have:=HC.out.gN
    exact ⟨by omega,fun e2=>by have:=HOL.out _ e2;omega,by omega,h2⟩) HA.out ⟨HWB.out.nm,HWB.out.cs,HWB.out.n,HWB.out.idn⟩ ho6 hg6 hat6)
   have HG6:Hid (Blk w6 g #[.slice a ps.length cap] 128):=Hm ((hbk g hgl HC5.out.gv).trans HC5.out.ptr)
   have HAT:Hid (∀b,(Value.slice a6 (ps.length+1) c6).ownBlock=some b→(Value.slice a ps.length cap).ownBlock=some b∨w.heap.size≤b):=Hm (fun b hb=>by
    rcases hat6 with h|⟨b',h,h2⟩
    ·left;rw [←h];exact hb
    ·right;rw [h] at hb;injection hb with hb;omega)
   have hg6c:=HG6.out.cell
   have hg6f:=HG6.out.frozen
   have hg6z:=HG6.out.lt
   have HX5w:Hid (Ext w w5):=Hm (HE2.out.trans HX5.out)
   clear ho6 hg6 hat6 hbk hfl
   refine wpHd_tail (by kernel_rfl) ?_
   simp only [List.drop_succ_cons,List.drop_zero]
   go_wp2
   go_ret
   have hadd:addP ps (⟨⟨oid,ver,nm,id,cols⟩,a',k'⟩:RR)=insP ps (⟨⟨oid,ver,nm,id,cols⟩,a',k'⟩:RR):=by unfold addP;rw [if_pos HA.out]
   exact ⟨_,⟨⟨oid,ver,nm,id,cols⟩,a',k'⟩,by rw [HA.out];rfl,rfl,by rw [hadd];exact HFIN.out.1,(Kp.of_ext HX5w.out).trans HFIN.out.2 (fun x hx _=>hx),HAT.out⟩
theorem Ca.new (w:World):Ca (w.alloc (.cells #[.slice none 0 0] 128)) w.heap.size w.heap.size (.slice none 0 0) []:=
 ⟨Blk.new _ _ _,World.ownsRow_nil _ _ _ _,Nat.le_refl _,(by intro h;cases h),(fun p h=>by cases h),(fun p h=>by cases h),CatOk.nil,(fun p h=>by cases h)⟩
theorem new_any (w:World):Calls Tryz.prog 22 #[] w fun e w' =>e= .returned (.pointer (some ⟨w.heap.size,0,none⟩))∧w' =w.alloc (.cells #[.slice none 0 0] 128):=by
 go_enter Tryz.func22,Tryz.ntmps22
 go_wp2
 go_ret
 exact ⟨rfl,rfl⟩
theorem ref9_any (o v:Int) (w:World):Calls Tryz.prog 43 #[.agg #[.int .u32 o, .int .u32 v]] w fun e w' =>e= .returned (.agg #[.int .u32 o, .int .u32 v])∧Ext w w' :=by
 go_enter Tryz.func43,Tryz.ntmps43
 go_wp2
 simp [bodyPost,results,Tryz.results43,go_sem, *]
 exact eX
theorem own9_one (p:RR) (w:World) (hp:p.in w) (hn:p.r.cols.length≤5864062014634):
 Calls Tryz.prog 31 #[p.agg] w fun e w' =>∃q:RR,e= .returned q.agg∧q.r=p.r∧q.r.cols.length≤q.c∧q.owned w.heap.size w'∧Ext w w' :=by
 obtain ⟨⟨oid,ver,nm,id,cols⟩,a,cap⟩:=p
 refine (own8_big oid ver nm id cols a cap w hp hn).mono fun e w' h=> ?_
 obtain ⟨a',c',h1,h2,h3,h4⟩:=h
 exact ⟨⟨⟨oid,ver,nm,id,cols⟩,a',c'⟩,h1,rfl,h2,h3,h4⟩
structure OwnR (W:World) (N:Nat) (ps:List RR) (k:Nat) (v:Value) (qs:List RR):Prop where
 own:W.ownsRow N 72 5 v k (qs.map RR.cells).flatten
 len:qs.length=k
 r:∀i (h:i<qs.length) (h2:i<ps.length),qs[i].r=ps[i].r
 cap:∀q∈qs,q.r.cols.length≤q.c
 sl:∀q∈qs,q.owned N W
 ne:∀q∈qs,∀b o,q.a=some ⟨b,o,none⟩→v.ownBlock≠some b
theorem OwnR.nil (W:World) (N:Nat) (ps:List RR):OwnR W N ps 0 (.slice none 0 0) []:=
 ⟨World.ownsRow_nil _ _ _ _,rfl,(fun i h=>absurd h (Nat.not_lt_zero _)),(fun q h=>by cases h),(fun q h=>by cases h),(fun q h=>by cases h)⟩
theorem OwnR.ext {W W' :World} {N k:Nat} {ps qs:List RR} {v:Value} (h:OwnR W N ps k v qs) (he:Ext W W'):OwnR W' N ps k v qs:=
 ⟨owns_ext h.own he,h.len,h.r,h.cap,fun q hq=>(h.sl q hq).ext he,h.ne⟩
theorem OwnR.push {W W' :World} {N k:Nat} {ps qs:List RR} {v v' :Value} {q:RR} (h:OwnR W N ps k v qs) (hk:k<ps.length) (hr:q.r=ps[k].r) (hc:q.r.cols.length≤q.c) (hs:q.owned N W) (hn:∀b o,q.a=some ⟨b,o,none⟩→v.ownBlock≠some b)
 (hg:W.grownBy W' v.ownBlock) (hat:v'.ownBlock=v.ownBlock∨v'.ownBlock=some W.heap.size) (ho:W'.ownsRow N 72 5 v' (k+1) ((qs.map RR.cells).flatten++q.cells)):OwnR W' N ps (k+1) v' (qs++ [q]):=by
 have hall:∀x∈qs++ [q],x.r.cols.length≤x.c∧x.owned N W∧∀b o,x.a=some ⟨b,o,none⟩→v.ownBlock≠some b:=fun x hx=>by
  rcases List.mem_append.1 hx with hx|hx
  ·exact ⟨h.cap x hx,h.sl x hx,h.ne x hx⟩
  ·obtain rfl:x=q:=by simpa using hx
   exact ⟨hc,hs,hn⟩
 have hk1:Kp (fun k=>v.ownBlock=some k) W W' :=Kp.of_grown hg
 refine ⟨by simpa using ho,by rw [List.length_append,h.len];rfl,fun i h1 h2=> ?_,fun x hx=>(hall x hx).1,fun x hx=> ?_,fun x hx b o e=> ?_⟩
 ·by_cases hi:i<qs.length
  ·rw [List.getElem_append_left hi];exact h.r i hi h2
  ·have hql:=h.len
   rw [List.length_append,List.length_singleton] at h1
   obtain rfl:i=k:=by omega
   rw [List.getElem_append_right (by omega)]
   simpa using hr
 ·obtain ⟨-,h2,h3⟩:=hall x hx
  refine owns_kp h2 hk1 (fun b hb=> ?_)
  obtain ⟨xr,xa,xc⟩:=x
  cases xa with
  |none=>cases hb
  |some ad=>
   obtain ⟨b',o',sp⟩:=ad
   have hb' :b' =b:=by simpa [Value.ownBlock] using hb
   subst hb'
   rcases h2.2 with ⟨hv, -⟩|⟨g,cap,cur,hv, -⟩
   ·cases hv
   ·simp only [Value.slice.injEq,Option.some.injEq,Addr.mk.injEq] at hv
    obtain ⟨⟨rfl,rfl,rfl⟩, -⟩:=hv
    exact h3 _ _ rfl
 ·obtain ⟨-,h2,h3⟩:=hall x hx
  rcases hat with h4|h4
  ·rw [h4];exact h3 b o e
  ·rw [h4];intro h5;injection h5 with h5
   have:=(h2.at_ e).2;omega
theorem OwnR.rl {W:World} {N:Nat} {ps qs:List RR} {v:Value} (h:OwnR W N ps ps.length v qs):RL W v qs:=⟨Sl.of_owns (base:=N) (e:=72) (by rw [List.length_map,h.len];exact h.own) (RR.len qs),fun q hq=>(h.sl q hq).in⟩
theorem OwnR.rs {W:World} {N:Nat} {ps qs:List RR} {v:Value} (h:OwnR W N ps ps.length v qs):qs.map RR.r=ps.map RR.r:=by
 apply List.ext_getElem
 ·rw [List.length_map,List.length_map,h.len]
 ·intro i h1 h2
  rw [List.getElem_map,List.getElem_map]
  rw [List.length_map] at h1 h2
  exact h.r i h1 h2
theorem OwnR.wb {W:World} {N:Nat} {ps qs:List RR} {v:Value} (h:OwnR W N ps ps.length v qs) (hw:∀p∈ps,p.r.wb):∀q∈qs,q.r.wb:=fun q hq=>by
 obtain ⟨i,hi,rfl⟩:=List.getElem_of_mem hq
 rw [h.r i hi (by rw [←h.len];exact hi)]
 exact hw _ (List.getElem_mem _)
theorem own9_any (ps:List RR) (a:Option Addr) (cap:Nat) (w:World) (hl:RL w (.slice a ps.length cap) ps) (hlen:ps.length≤1000) (hb:∀p∈ps,p.r.wb):
 Calls Tryz.prog 17 #[.slice a ps.length cap] w fun e w' =>∃a' c' qs,e= .returned (.slice a' ps.length c')∧OwnR w' w.heap.size ps ps.length (.slice a' ps.length c') qs∧Ext w w' :=by
 obtain ⟨i0,hi,hz0,hz1,hz2⟩:=info_parts Tryz.infoRel
 have HL:=Hm hl
 have HB:=Hm hb
 clear hl hb
 go_enter Tryz.func17,Tryz.ntmps17
 go_wp2
 go_loopw [3,4] (fun v i wr=>∃(k:Nat) (qs:List RR),k≤ps.length∧i= .int .i64 k∧Hid (OwnR wr w.heap.size ps k v qs)∧Hid (Ext w wr)) (fun _ i _=>ps.length - (intOf i).toNat)
 case atStart=>exact ⟨0, [],Nat.zero_le _,rfl,Hm (OwnR.nil _ _ _),Hm (Ext.refl _)⟩
 case round=>
  obtain ⟨k,qs,hk,rfl,hown,hE⟩:=hrel
  by_cases hlt:k<ps.length
  ·obtain ⟨b,o,rfl,hb,hx⟩:=HL.out.row.at_ (i:=k) (by simpa using hlt)
   obtain ⟨f0,f1,f2,f3,f4⟩:=RR.at_ hlt hx hb hE.out
   have hbw:b<wr.heap.size:=Nat.lt_of_lt_of_le hb hE.out.size
   have HO:=Hm (fun W (h:Ext wr W)=>own9_one ps[k] W ((HL.out.sl _ (List.getElem_mem hlt)).ext (hE.out.trans h)) (HB.out _ (List.getElem_mem hlt)).n)
   obtain ⟨p,hp⟩:∃p,p=ps[k]:=⟨_,rfl⟩
   rw [←hp] at f0 f1 f2 f3 f4 HO
   unfold RR.agg at HO
   have HP:=Hm hp
   have hwz:=hE.out.size
   clear hx hp
   go_wp2_with (first
    |(go_at_call 31;refine (HO.out _ (Ext.refl _)).mono ?_;rintro e w1 ⟨⟨r',a',c'⟩,rfl,hr,hcp,ho,hb1⟩;simp only at hr;subst hr;have HQ:=Hm ho;have HCP:=Hm hcp;have HB1:=Hm hb1;have hz1' :=hb1.size;clear ho hcp hb1;try simp only)
    |(at_builtin;refine wpList_append_own_at _ rfl _ _ 63 rfl w.heap.size 72 i0 _ 5 56 Tryz.underlying63 hi hz0 hz1 hz2 rfl (by decide) _ _ _ rfl (owns_ext hown.out.own (HB1.out.alloc _)) ⟨_,0,none⟩ 1 1 (RR.cells ⟨p.r,a',c'⟩) rfl rfl (cells_new _ #[.int .u32 p.r.oid, .int .u32 p.r.ver, .string p.r.nm, .int .u8 p.r.id, .slice a' p.r.cols.length c'] _) (by intro u hu;simp [RR.cells] at hu;rcases hu with rfl|rfl|rfl|rfl|rfl<;>rfl) (by unfold maxLen;omega) (by omega) (by simp;omega) ?_))
   intro v' w2 hown' hgrow _ hat
   have HE2:=Hm ((hE.out.trans HB1.out).alloc (.cells #[.int .u32 p.r.oid, .int .u32 p.r.ver, .string p.r.nm, .int .u8 p.r.id, .slice a' p.r.cols.length c'] 72)|>.grown (owns_ext hown.out.own (HB1.out.alloc _)) hgrow)
   have HN:=Hm ((hown.out.ext (HB1.out.alloc (.cells #[.int .u32 p.r.oid, .int .u32 p.r.ver, .string p.r.nm, .int .u8 p.r.id, .slice a' p.r.cols.length c'] 72))).push (q:=⟨p.r,a',c'⟩) hlt (by rw [←HP.out]) HCP.out ((RR.owned.ext HQ.out ((Ext.refl w1).alloc _)).mono hwz) (fun b o e h4=>by
    have h5:=owns_lt3 hown.out.own h4
    have h6:=(RR.owned.at_ HQ.out e).1
    omega) hgrow (by first|exact hat|(rw [World.size_alloc];exact hat)) hown')
   clear hown' hgrow hat hown hE
   go_wp2
   go_roundw
   case rel=>exact ⟨k+1,_,by omega,by go_num,HN,HE2⟩
   case measure=>simp [intOf];omega
  ·obtain rfl:k=ps.length:=by omega
   obtain ⟨a',c',rfl⟩:=owns_shape hown.out.own
   go_wp2
   go_ret
   exact ⟨a',c',qs,rfl,hown.out,hE.out⟩
theorem Ca.S_ge {W:World} {N g:Nat} {c:Value} {ps:List RR} (h:Ca W N g c ps):∀x,Ca.S g c x→N≤x:=fun x hx=>by
 rcases hx with rfl|hx
 ·exact h.gN
 ·exact (h.own.lt x hx).1
def COfPost (l:List Rl) (w:World) (e:Ending) (w' :World):Prop:=
 ∃pv,e= .returned (.tuple #[.pointer pv, .int .i64 (ofPl l:Nat), .int .i64 (ofE l)])∧(ofE l=0→pv=some ⟨w.heap.size,0,none⟩∧∃c qs,Ca w' w.heap.size w.heap.size c qs∧qs.map RR.r=ofUp l l.length)∧(ofE l≠0→pv=none)∧Ext w w'
theorem cof_any (ps:List RR) (a:Option Addr) (cap:Nat) (w:World) (hl:RL w (.slice a ps.length cap) ps) (hcap:∀p∈ps,p.r.cols.length≤p.c) (hb:∀p∈ps,p.r.wb) (hlen:ps.length≤1000):
 Calls Tryz.prog 16 #[.slice a ps.length cap] w (COfPost (ps.map RR.r) w):=by
 have HL:=Hm hl
 have HB:=Hm hb
 have HCP:=Hm hcap
 clear hl hb hcap
 go_enter Tryz.func16,Tryz.ntmps16
 go_wp2_with (go_at_call 22;refine (new_any _).mono ?_;rintro e w1 ⟨rfl,rfl⟩)
 go_loopw [12] (fun i wr=>∃(k:Nat) (c:Value) (qs:List RR),k≤ps.length∧i= .int .i64 k∧Hid (∀j,j<k→ofAt (ps.map RR.r) j=0)∧Hid (Ca wr w.heap.size w.heap.size c qs)∧Hid (qs.map RR.r=ofUp (ps.map RR.r) k)∧Hid (Ext w wr)) (fun i _=>ps.length - (intOf i).toNat)
 case atStart=>exact ⟨0,_, [],Nat.zero_le _,rfl,Hm (fun j h=>by omega),Hm (Ca.new w),Hm rfl,Hm (by exact eX)⟩
 case round=>
  obtain ⟨k,c,qs,hk,rfl,hz,hca,hqs,hE⟩:=hrel
  by_cases hlt:k<ps.length
  ·obtain ⟨b,o,rfl,hb,hx⟩:=HL.out.row.at_ (i:=k) (by simpa using hlt)
   obtain ⟨f0,f1,f2,f3,f4⟩:=RR.at_ hlt hx hb hE.out
   have hbw:b<wr.heap.size:=Nat.lt_of_lt_of_le hb hE.out.size
   have hin:=HL.out.sl _ (List.getElem_mem hlt)
   have hwb:=HB.out _ (List.getElem_mem hlt)
   have hcp:=HCP.out _ (List.getElem_mem hlt)
   have hlt2:k<(ps.map RR.r).length:=by simpa using hlt
   have HS:Hid (ofUp (ps.map RR.r) (k+1)=addL (qs.map RR.r) ps[k].r):=Hm (by rw [ofUp_succ hlt2,List.getElem_map,hqs.out])
   have HAT:Hid (ofAt (ps.map RR.r) k=addE (qs.map RR.r) ps[k].r):=Hm (by unfold ofAt;rw [dif_pos hlt2,List.getElem_map,hqs.out])
   obtain ⟨p,hp⟩:∃p,p=ps[k]:=⟨_,rfl⟩
   rw [←hp] at f0 f1 f2 f3 f4 hin hwb hcp HS HAT
   have HAD:=Hm (fun W (h:Ext wr W)=>cadd_any w.heap.size w.heap.size c qs p W (hca.out.ext h) (hin.ext (hE.out.trans h)) hcp hwb)
   unfold CAddPost RR.agg at HAD
   rw [←HAT.out] at HAD
   clear hx hp hin hwb hcp
   obtain ⟨E,hEE⟩:∃E,E=ofAt (ps.map RR.r) k:=⟨_,rfl⟩
   rw [←hEE] at HAD
   have HSG:=Hm hca.out.S_ge
   by_cases h0:E=0
   ·have H0:=Hm (hEE.symm.trans h0)
    subst h0
    clear hEE
    go_wp2_with (go_at_call 30;refine (HAD.out _ (by exact eX)).mono ?_;rintro e w1 ⟨c',q',rfl,hqr,hc',hkp, -⟩;have HC' :=Hm hc';have HQR:=Hm hqr;have HE1:=Hm (Kp.ext (show Ext w _ from hE.out.trans (by exact eX)) (fun x hx _=>HSG.out x hx) hkp);clear hc' hqr hkp)
    go_roundw
    case rel=>exact ⟨k+1,c',_,by omega,by go_num,Hm (fun j hj=>by
     by_cases e:j=k
     ·subst e;exact H0.out
     ·exact hz.out j (by omega)),HC',Hm (by rw [addP_r,HS.out,HQR.out]),HE1⟩
    case measure=>simp [intOf];omega
   ·have h0' :(E !=0)=true:=by simpa using h0
    have HF:=Hm (show ofE (ps.map RR.r)=E by unfold ofE;rw [firstE_at hz.out hlt2 (by rw [←hEE];exact h0),hEE])
    have HPL:=Hm (show ofPl (ps.map RR.r)=k from plE_at hz.out (by rw [←hEE];exact h0) hlt2)
    have H0:=Hm h0
    clear h0 hEE
    go_wp2_with (go_at_call 30;refine (HAD.out _ (by exact eX)).mono ?_;rintro e w1 ⟨c',q',rfl,hqr,hc',hkp, -⟩;have HE1:=Hm (Kp.ext (show Ext w _ from hE.out.trans (by exact eX)) (fun x hx _=>HSG.out x hx) hkp);clear hc' hqr hkp)
    go_ret3
    exact ⟨none,by rw [HF.out,HPL.out];rfl,fun h=>absurd (HF.out.symm.trans h) H0.out,fun _=>rfl,HE1.out⟩
  ·obtain rfl:k=ps.length:=by omega
   have HF:=Hm (show ofE (ps.map RR.r)=0 by unfold ofE;exact firstE_zero (by rw [List.length_map];exact hz.out))
   have HPL:=Hm (show ofPl (ps.map RR.r)=ps.length by unfold ofPl;rw [plE_zero (by rw [List.length_map];exact hz.out),List.length_map])
   go_wp2
   go_ret3
   exact ⟨_,by rw [HF.out,HPL.out];rfl,fun _=>⟨rfl,c,qs,hca.out,by rw [List.length_map];exact hqs.out⟩,fun h=>absurd HF.out h,hE.out⟩
theorem cget_any (N g:Nat) (c:Value) (ps:List RR) (o v:Int) (w:World) (hc:Ca w N g c ps):
 Calls Tryz.prog 36 #[.pointer (some ⟨g,0,none⟩), .agg #[.int .u32 o, .int .u32 v]] w fun e w' =>∃q:RR,e= .returned (.tuple #[q.agg, .bool (hasR o v (ps.map RR.r))])∧q.r=((getP o v ps).getD RR.zero).r∧q.owned w.heap.size w'∧Ext w w' :=by
 obtain ⟨a,cap,rfl⟩:=hc.shape
 have HFD:=Hm (fun W (h:Ext w W)=>find_any N g _ ps o v W (hc.ext h))
 have HC:=Hm hc
 have hhas:=hc.ok.srt.has o v
 have g0:=hc.ptr.cell
 have z0:=hc.ptr.lt
 clear hc
 obtain ⟨P,hP⟩:∃P,P=posR o v (ps.map RR.r):=⟨_,rfl⟩
 rw [←hP] at HFD
 cases hh:hasR o v (ps.map RR.r) with
 |false=>
  rw [hh] at HFD
  have HN:Hid (getP o v ps=none):=Hm (by
   have:=getP_is o v ps
   rw [hh] at this
   exact Option.not_isSome_iff_eq_none.1 (by rw [this];simp))
  clear hh hhas hP
  go_enter Tryz.func36,Tryz.ntmps36
  go_wp2_with (go_at_call 64;refine (HFD.out _ (by exact eX)).mono ?_;rintro e w1 ⟨rfl,hb1⟩;have HB1:=Hm ((Blk.new' (w:=w.alloc (.cells #[.int .u32 o, .int .u32 v] 69)) (b:=w.heap.size+1) #[.int .u32 0, .int .u32 0, .string ⟨#[]⟩, .int .u8 0, .slice none 0 0] 72 (by simp)).ext hb1);have g1:=HB1.out.cell;have g1f:=HB1.out.frozen;have z1:=HB1.out.lt)
  simp [bodyPost,results,Tryz.results36,go_sem, *]
  refine ⟨RR.zero,⟨rfl,by rw [HN.out];rfl,World.ownsRow_nil _ _ _ _,by exact eX⟩⟩
 |true=>
  rw [hh] at HFD hhas
  have hex:=of_decide_eq_true hhas.symm
  obtain ⟨hi,hq⟩:=hex
  simp only [←hP,List.getElem_map] at hi hq
  have hlt:P<ps.length:=by simpa using hi
  have HG:Hid (getP o v ps=some ps[P]):=Hm (getP_at hlt hq (fun j hj hjp hq2=>by
   have:=HC.out.ok.srt.at_ (i:=j) (j:=P) (by simpa using hj) (by simpa using hlt) hjp
   unfold Rl.lt at this
   simp only [List.getElem_map] at this
   rw [hq.1,hq.2,hq2.1,hq2.2] at this
   exact ahead_irr this))
  have HOW:=Hm (fun W (h:Ext w W)=>pown_any ps[P] W ((HC.out.sl _ (List.getElem_mem hlt)).ext h) (by have:=HC.out.n16 (List.getElem_mem hlt);omega))
  obtain ⟨b,q,rfl,hb,hx⟩:=HC.out.rl.row.at_ (i:=P) (by simpa using hlt)
  have HF:=Hm (fun W (h:Ext w W)=>RR.at_ hlt hx hb h)
  obtain ⟨p,hp⟩:∃p,p=ps[P]:=⟨_,rfl⟩
  rw [←hp] at HG HOW HF
  unfold RR.agg at HOW
  clear hh hhas hP hi hq hx hp
  go_enter Tryz.func36,Tryz.ntmps36
  go_wp2_with (first
   |(go_at_call 64;refine (HFD.out _ (by exact eX)).mono ?_;rintro e w1 ⟨rfl,hb1⟩;have HE1:=Hm (show Ext ((w.alloc (.cells #[.int .u32 o, .int .u32 v] 69)).alloc (.cells #[.int .u32 0, .int .u32 0, .string ⟨#[]⟩, .int .u8 0, .slice none 0 0] 72)) w1 from hb1);have hEw:Ext w w1:=(((Ext.refl w).alloc _).alloc _).trans hb1;obtain ⟨f0,f1,f2,f3,f4⟩:=HF.out _ hEw;have g2:=(HC.out.ptr.ext hEw).cell;have z2:=(HC.out.ptr.ext hEw).lt;have hbw:b<w1.heap.size:=Nat.lt_of_lt_of_le hb hEw.size;have HEw:=Hm hEw;clear hEw hb1)
   |(go_at_call 66;refine (HOW.out _ HEw.out).mono ?_;rintro e w3 ⟨⟨r',a',c'⟩,rfl,hqr,hqo,hb3⟩;simp only at hqr;subst hqr;have HQO:=Hm hqo;have HE3:=Hm (HE1.out.trans hb3);have HB1:=Hm ((Blk.new' (w:=w.alloc (.cells #[.int .u32 o, .int .u32 v] 69)) (b:=w.heap.size+1) #[.int .u32 0, .int .u32 0, .string ⟨#[]⟩, .int .u8 0, .slice none 0 0] 72 (by simp)).ext HE3.out);have g1:=HB1.out.cell;have g1f:=HB1.out.frozen;have z1:=HB1.out.lt;have hzz:=HE1.out.size;clear hqo hb3;try simp only))
  simp [bodyPost,results,Tryz.results36,go_sem, *]
  have hEw:Ext w w3:=(((Ext.refl w).alloc _).alloc _).trans HE3.out
  simp only [World.size_alloc] at hzz
  refine ⟨⟨p.r,a',c'⟩,rfl,by rw [HG.out];rfl, ?_,by exact eX⟩
  exact owns_base (base:=w1.heap.size) (owns_set (owns_set (owns_set (owns_set (owns_set HQO.out (by dsimp only;omega) _) (by dsimp only;omega) _) (by dsimp only;omega) _) (by dsimp only;omega) _) (by dsimp only;omega) _) (by omega)
def RowAt (W:World) (g:Nat) (ks:List K):Prop:=∃cs:Array Value,Blk W g cs 164∧ks.length*5≤cs.size∧∀i (hi:i<ks.length),∀j,j<5→cs[i*5+j]? =(ks[i].pc)[j]?
section
variable {W W' : World} {g : Nat} {ks : List K}
theorem RowAt.lt (h:RowAt W g ks):g<W.heap.size:=by obtain ⟨cs,hb,_⟩:=h;exact hb.lt
theorem RowAt.ext (h:RowAt W g ks) (he:Ext W W'):RowAt W' g ks:=by obtain ⟨cs,hb,hr⟩:=h;exact ⟨cs,hb.ext he,hr⟩
theorem RowAt.drew (h:RowAt W g ks):RowAt W.drew g ks:=h
theorem RowAt.alloc (h:RowAt W g ks) (o:Obj):RowAt (W.alloc o) g ks:=h.ext ((Ext.refl W).alloc o)
theorem RowAt.other (h:RowAt W g ks) (a:Addr) (v:Value) (hne:g≠a.block):RowAt (W.setCell a v) g ks:=by obtain ⟨cs,hb,hr⟩:=h;exact ⟨cs,hb.other a v hne,hr⟩
theorem RowAt.kept (h:RowAt W g ks) {row:Option Nat} (hg:W.grownBy W' row) (hr:∀r,row=some r→∃o:Obj,W.heap[r]? =some o∧o.isCells=false):RowAt W' g ks:=by
 obtain ⟨cs,hb,hx⟩:=h
 refine ⟨cs,(hg.block g hb.lt (fun e=> ?_)).trans hb,hx⟩
 obtain ⟨o,ho,hc⟩:=hr g e.symm
 rw [show W.heap[g]? =_ from hb] at ho
 cases ho;cases hc
theorem RowAt.frozen (h:RowAt W g ks) (o:Nat):W.frozen? ⟨g,o,none⟩=false:=by obtain ⟨cs,hb,_⟩:=h;exact hb.frozen o
theorem RowAt.cells (h:RowAt W g ks) {i:Nat} (hi:i<ks.length):W.cell? ⟨g,i*5,none⟩=some (.int .u8 ks[i].k)∧W.cell? ⟨g,i*5+1,none⟩=some (.int .u8 ks[i].v.ty)∧W.cell? ⟨g,i*5+2,none⟩=some (.int .i64 ks[i].v.n)∧
 W.cell? ⟨g,i*5+3,none⟩=some (.complex .f64 ks[i].v.x ks[i].v.y)∧W.cell? ⟨g,i*5+4,none⟩=some (.string ks[i].v.s):=by
 obtain ⟨cs,hb,_,hx⟩:=h
 have hx:=hx i hi
 exact ⟨(hb.cell _).trans (hx 0 (by omega)),(hb.cell _).trans (hx 1 (by omega)),(hb.cell _).trans (hx 2 (by omega)),(hb.cell _).trans (hx 3 (by omega)),(hb.cell _).trans (hx 4 (by omega))⟩
theorem RowAt.sl (h:RowAt W g ks) (cap:Nat):Sl W (.slice (some ⟨g,0,none⟩) ks.length cap) 5 (ks.map K.pc):=by
 obtain ⟨cs,hb,_,hx⟩:=h
 refine ⟨_,cap,by rw [List.length_map], .inr ⟨g,0,rfl,hb.lt,fun i hi j hj=> ?_⟩⟩
 rw [List.length_map] at hi
 rw [getD_map K.pc ks hi,←hx i hi j hj,Nat.zero_add]
 exact hb.cell _
theorem RowAt.set (h:RowAt W g ks) {i:Nat} (hi:i<ks.length) (c:K):
 RowAt (((((W.setCell ⟨g,i*5,none⟩ (.int .u8 c.k)).setCell ⟨g,i*5+1,none⟩ (.int .u8 c.v.ty)).setCell ⟨g,i*5+2,none⟩ (.int .i64 c.v.n)).setCell ⟨g,i*5+3,none⟩ (.complex .f64 c.v.x c.v.y)).setCell ⟨g,i*5+4,none⟩ (.string c.v.s)) g (ks.set i c):=by
 obtain ⟨cs,hb,hs,hx⟩:=h
 refine ⟨_,((((hb.set _ _).set _ _).set _ _).set _ _).set _ _,by simpa using hs,fun q hq j hj=> ?_⟩
 rw [List.length_set] at hq
 simp only [Array.getElem?_setIfInBounds,Array.size_setIfInBounds]
 by_cases e:q=i
 ·subst e
  rw [List.getElem_set_self]
  have:j=0∨j=1∨j=2∨j=3∨j=4:=by omega
  rcases this with rfl|rfl|rfl|rfl|rfl
  all_goals
   simp [K.pc]
   (try omega)
 ·rw [List.getElem_set_ne (Ne.symm e),←hx q hq j hj]
  rw [if_neg (by omega),if_neg (by omega),if_neg (by omega),if_neg (by omega),if_neg (by omega)]
theorem RowAt.mono (h:RowAt W g ks) {ls:List K} (e:ks=ls):RowAt W g ls:=e ▸ h
theorem RowAt.of_owns {base n cap:Nat} (h:W.ownsRow base 164 5 (.slice (some ⟨g,0,none⟩) n cap) n (ks.map K.pc).flatten) (hn:ks.length=n):RowAt W g ks:=by
 obtain ⟨h1,h2⟩:=h
 rcases h2 with ⟨h3,_⟩|⟨g',cap',cur,hv,hg,hh,hnc,hcap,hsz,htake⟩
 ·cases h3
 ·simp only [Value.slice.injEq,Option.some.injEq,Addr.mk.injEq] at hv
  obtain ⟨⟨rfl, -, -⟩, -,rfl⟩:=hv
  have hfl:(ks.map K.pc).flatten.length=ks.length*5:=by
   have:=flat_length 5 (ks.map K.pc) (fun xs hxs=>by simp at hxs;obtain ⟨c,_,rfl⟩:=hxs;rfl)
   rwa [List.length_map] at this
  have hct:ks.length*5≤cur.size:=by
   have:=congrArg List.length htake
   rw [List.length_take,hfl] at this
   simp at this
   omega
  refine ⟨cur,hh,hct,fun i hi j hj=> ?_⟩
  have:=flat_get 5 (ks.map K.pc) (fun xs hxs=>by simp at hxs;obtain ⟨c,_,rfl⟩:=hxs;rfl) i (by simpa using hi) j hj
  rw [getD_map K.pc ks hi] at this
  rw [←this,←htake,List.getElem?_take,if_pos (by rw [←hn];omega)]
  simp
end
theorem run_makeK (n:Nat) (hn:n≤1000) (w:World):
 ∃cs:Array Value,(Instr.makeSlice 74 (.int .i64 (n:Int)) (.int .i64 (n:Int))).run Tryz.prog w= .ok (.slice (some ⟨w.heap.size,0,none⟩) n n) (w.alloc (.cells cs 164))∧n*5≤cs.size∧∀i,i<n→∀j,j<5→cs[i*5+j]? =(K.zero.pc)[j]? :=by
 obtain ⟨i0,hi,hz0,hz1,hz2⟩:=info_parts Tryz.infoCellP
 have hr:=run_make (P:=Tryz.prog) w 74 164 i0 _ Tryz.underlying74 hi hz0 .i64 .i64 (n:Int) (n:Int) (by omega) (by omega) (by rw [hz2];omega) (by omega)
 simp only [Int.toNat_natCast,hz1] at hr
 refine ⟨_,hr,by rw [size_madeCells];exact Nat.le_refl _,fun i hi j hj=> ?_⟩
 have hlt:i*5+j<n*5:=by omega
 have hm:(i*5+j)%5=j:=by omega
 have:j=0∨j=1∨j=2∨j=3∨j=4:=by omega
 simp only [madeCells,Array.getElem?_map,Array.getElem?_range,hlt]
 rcases this with rfl|rfl|rfl|rfl|rfl<;>simp [Value.cells,K.pc,K.zero,V.zero,hm]
end Go.Proofs.YtgmphpccpfaapaaGreatDoor
