/-
The laws' awake of sessions.
-/
import Derived.Maps.AppendAt
import Derived.Test.YtgmphpccpfaapaaGreatDoorP32
import Derived.Test.YtgmphpccpfaapaaGreatDoorP25
import Derived.Test.YtgmphpccpfaapaaGreatDoorP8
import Derived.Test.YtgmphpccpfaapaaGreatDoorP3
import Derived.Test.YtgmphpccpfaapaaGreatDoorP19
import Derived.Test.YtgmphpccpfaapaaGreatDoorP9
import Derived.Test.YtgmphpccpfaapaaGreatDoorP28
import Derived.Test.YtgmphpccpfaapaaGreatDoorP20
import Derived.Test.YtgmphpccpfaapaaGreatDoorP17
set_option maxRecDepth 100000
set_option maxHeartbeats 16000000
namespace Go.Proofs.YtgmphpccpfaapaaGreatDoor
open Go.RowKit
def tx5:TL:=⟨5,0, [],none,0⟩
theorem tx5_ck:ckT [tx5.t] []= -1∧ckP [tx5.t] []= -1∧ckE [tx5.t] []=0:=ck_ok (fun j hj=>by
 obtain rfl:j=0:=by simpa using hj
 unfold chE
 rw [dif_pos (by simp),if_neg (by omega)]
 exact (rt_ok (t:=tx5.t) (by decide) (by decide) (fun j hj=>absurd hj (Nat.not_lt_zero j))).1)
theorem tx5_msgs:storyM [] [tx5.t]= [(mlB 5 0).m,(mlC 5 0).m]:=rfl
theorem tx5_send:sendW [] [tx5.t]=msgBC:=by
 unfold sendW saidW
 rw [tx5_msgs]
 simp only [List.map_cons,List.map_nil,List.flatten_cons,List.flatten_nil,List.append_nil]
 unfold msgW
 rw [msgE_B,msgE_C,if_neg (by simp),if_neg (by simp)]
 decide+kernel
theorem tx5_ok:tx5.okw:=⟨⟨by decide,by decide⟩,⟨by decide,by decide⟩,(fun e he=>by cases he),by decide,(fun e he=>by cases he)⟩
theorem own30 {W:World} {N:Nat} {v:Value} (h:OB W N v msgBC):∃bb cp,v= .slice (some ⟨bb,0,none⟩) 30 cp∧30≤cp:=by
 rcases h.2 with ⟨_,h0⟩|⟨g,cap,cur,rfl,_,_,hn,_⟩
 ·exact absurd h0 (by decide)
 ·exact ⟨g,cap,rfl,hn⟩
theorem own1 {W:World} {N:Nat} {v:Value} (h:W.ownsRow N 84 3 v 1 [.int .u32 5, .int .u64 0, .slice none 0 0]):∃g cp,v= .slice (some ⟨g,0,none⟩) 1 cp∧(W.cell? ⟨g,0,none⟩=some (.int .u32 5)∧g<W.heap.size):=by
 rcases h.2 with ⟨_,h0⟩|⟨g,cap,cur,rfl,_⟩
 ·exact absurd h0 (by decide)
 ·have h1:=World.ownsRow.cells h rfl 0 _ rfl
  exact ⟨g,cap,rfl,by simpa [Addr.add] using h1,(h.lt g rfl).2⟩
theorem awake21_any (w:World) (hk:Kin w) (hT:Tab w) (hN:Non w) (hS:NonS w):Calls Tryz.prog 9 #[] w fun e w' =>e= .returned (.bool true)∧Ext w w' :=by
 have HCN:=Hm (cnew21_any w)
 have HSE:=Hm (fun W g b (h:Ext w W) (hc:Ca W g g (.slice none 0 0) []) (hb:Blk W b #[.int .u32 5, .int .u64 0, .slice none 0 0] 84)=>send_any [tx5] (some ⟨b,0,none⟩) 1 g g (.slice none 0 0) [] W ⟨⟨_,_,rfl, .inr ⟨b,0,rfl,hb.lt,fun i hi j hj=>by
  obtain rfl:i=0:=by simpa using hi
  have h2:=hb.cell (0+0*3+j)
  rw [h2]
  match j,hj with
  |0,_=>rfl
  |1,_=>rfl
  |2,_=>rfl⟩⟩,fun x hx=>by
   obtain rfl:x=tx5:=by simpa using hx
   exact ⟨⟨none,0,rfl, .inl rfl⟩,fun q hq=>by cases hq⟩⟩ (fun t ht=>by
   obtain rfl:t=tx5:=by simpa using ht
   exact tx5_ok) (by decide) hc (fun r hr=>by cases hr) (hk.ext h) (hT.ext h) (hN.ext h) (hS.ext h))
 unfold SendPost at HSE
 have HRC:=Hm (fun bb o cp W (hs:Sl W (.slice (some ⟨bb,o,none⟩) 30 cp) 1 (msgBC.map bcell)) (hc:30≤cp) (h:Ext w W)=>receive_any bb o cp W hs hc (hk.ext h))
 have e1: [tx5].map TL.t= [tx5.t]:=rfl
 have e2:([]:List RR).map RR.r= []:=rfl
 rw [e1,e2,tx5_ck.1,tx5_ck.2.1,tx5_ck.2.2,if_pos rfl,tx5_send] at HSE
 clear hk hT hN hS e1 e2
 go_enter Tryz.func9,Tryz.ntmps9
 go_wp2_with (first
  |(go_at_call 22;refine HCN.out.mono ?_;rintro e w1 ⟨rfl,rfl⟩)
  |(go_at_call 7;refine (HSE.out _ w.heap.size _ (by exact eX) ((Ca.new w).ext ((Ext.refl _).alloc _)) (Blk.new' _ _ (by simp))).mono ?_;rintro e w2 ⟨v,rfl,ho2,hb2⟩;obtain ⟨bb,cp,rfl,hcp⟩:=own30 ho2;have HO2:=Hm (OB.sl ho2);have HE2:=Hm (show Ext w w2 by exact eX);clear ho2 hb2;have HF2:=Hm (Blk.new w2 #[.int .i64 (-1), .int .i64 (-1), .int .i64 0] 31);have f2:=HF2.out.cell;have f2z:=HF2.out.lt)
  |(go_at_call 23;refine (HRC.out bb 0 cp _ (HO2.out.ext ((Ext.refl _).alloc _)) hcp (HE2.out.alloc _)).mono ?_;rintro e w3 ⟨v3,gc,rfl,ho3,hb3⟩;have HE3:=Hm ((HE2.out.alloc (.cells #[.int .i64 (-1), .int .i64 (-1), .int .i64 0] 31)).trans hb3);obtain ⟨g3,cp3,rfl,hb4⟩:=own1 ho3;have f3:=(HF2.out.ext hb3).cell;have f3z:=(HF2.out.ext hb3).lt;have t3:=hb4.1;have t3z:=hb4.2;clear ho3 hb3 hb4 f2 f2z))
 go_ret
 exact ⟨rfl,HE3.out⟩
theorem Tryz.infoRRfS:(Tryz.prog.info? 41).map (fun i=>(i.zero,i.size,i.bytes))=some (some (.agg #[.int .u32 0, .int .u32 0]),2,8):=by kernel_rfl
def ML.cells (p:ML):List Value:= [.int .u8 p.k, .int .u32 p.x, .int .u64 p.st, .int .u32 p.n, .int .u32 p.r.r.oid, .int .u32 p.r.r.ver, .string p.r.r.nm, .int .u8 p.r.r.id, .slice p.r.a p.r.r.cols.length p.r.c, .int .u8 p.e.e.kind, .int .u32 p.e.e.ao, .int .u32 p.e.e.av, .int .u8 p.e.e.old, .slice p.e.ba p.e.e.b.length p.e.bc, .slice p.e.aa p.e.e.a.length p.e.ac, .slice p.e.ra p.e.e.rs.length p.e.rc, .int .u8 p.e.e.fl]
theorem ML.one (p:ML):∀u∈p.cells,u.oneCell' =true:=by
 intro u hu
 simp [ML.cells] at hu
 rcases hu with rfl|rfl|rfl|rfl|rfl|rfl|rfl|rfl|rfl|rfl|rfl|rfl|rfl|rfl|rfl|rfl|rfl<;>rfl
theorem Rf.one (p:Rf):∀u∈p.cells,u.oneCell' =true:=by
 intro u hu
 simp [Rf.cells] at hu
 rcases hu with rfl|rfl<;>rfl
theorem owns_apartS {W:World} {N N' T T' k k' n n' :Nat} {v v' :Value} {xs xs' :List Value} (h:W.ownsRow N T k v n xs) (h' :W.ownsRow N' T' k' v' n' xs') (ht:T≠T'):∀b,v.ownBlock=some b→v'.ownBlock=some b→False:=fun b h1 h2=>by
 rcases h.2 with ⟨rfl,_⟩|⟨g,cap,cur,rfl,_,hh,_⟩
 ·simp [Value.ownBlock] at h1
 ·obtain rfl:g=b:=by simpa [Value.ownBlock] using h1
  rcases h'.2 with ⟨rfl,_⟩|⟨g2,cap2,cur2,rfl,_,hh2,_⟩
  ·simp [Value.ownBlock] at h2
  ·obtain rfl:g2=g:=by simpa [Value.ownBlock] using h2
   have h3:=hh.symm.trans hh2
   cases h3
   exact ht rfl
structure ML.rok (w:World) (q:ML):Prop where
 at_:q.at 6 K.rc w
 ok:q.okr
 tb:∀c∈q.e.e.b,c.tw
 ta:∀c∈q.e.e.a,c.tw
structure RmI (w:World) (s:Said) (v u:Value) (qs:List ML) (W:World):Prop where
 ms:qs.map ML.m=s.1
 own:W.ownsRow w.heap.size 49 17 v qs.length (qs.map ML.cells).flatten
 told:W.ownsRow w.heap.size 41 2 u s.2.length (s.2.map Rf.cells).flatten
 ok:∀q∈qs,q.rok w
 ext:Ext w W
section
variable {w W W' : World} {s : Said} {v v' u u' : Value} {qs : List ML} {x : ML} {r : Rf}
theorem RmI.nil (w:World):RmI w ([], []) (.slice none 0 0) (.slice none 0 0) [] w:=⟨rfl,World.ownsRow_nil _ _ _ _,World.ownsRow_nil _ _ _ _,(fun q h=>by cases h),Ext.refl _⟩
theorem RmI.go (h:RmI w s v u qs W) (he:Ext W W'):RmI w s v u qs W' :=⟨h.ms,owns_ext h.own he,owns_ext h.told he,h.ok,h.ext.trans he⟩
theorem RmI.len (h:RmI w s v u qs W):qs.length=s.1.length:=by rw [←h.ms,List.length_map]
theorem RmI.said (h:RmI w s v u qs W) (hx:x.rok w) (hg:W.grownBy W' v.ownBlock) (ho:W'.ownsRow w.heap.size 49 17 v' (qs.length+1) ((qs.map ML.cells).flatten++x.cells)):RmI w (s.1++ [x.m],s.2) v' u (qs++ [x]) W' :=
 ⟨by rw [List.map_append,h.ms];rfl,by simpa using ho,owns_kp h.told (Kp.of_grown hg) (fun b h1 h2=>owns_apartS h.told h.own (by decide) b h1 h2),fun q hq=>by
  rcases List.mem_append.1 hq with hq|hq
  ·exact h.ok q hq
  ·obtain rfl:q=x:=by simpa using hq
   exact hx,Below.grown h.ext hg h.ext.size (fun g e=>(h.own.lt g e).1)⟩
theorem RmI.apart (h:RmI w s v u qs W) {a3:Option Addr} {U:List Rf} (hb:∀b o,a3=some ⟨b,o,none⟩→U≠ []→W.heap.size≤b∨b<w.heap.size):U≠ []→∀b,(u.ownBlock=some b∨v.ownBlock=some b)→∀o,a3≠some ⟨b,o,none⟩:=fun h0 b hu o e=>by
 have h1:w.heap.size≤b∧b<W.heap.size:=hu.elim (fun q=>h.told.lt b q) (fun q=>h.own.lt b q)
 rcases hb b o e h0 with h2|h2<;>omega
end
theorem reuses_at (x:EL) (w:World) (hx:x.at 6 K.rc w):
 Calls Tryz.prog 12 #[x.agg] w fun e w' =>∃(a' :Option Addr) (n c' :Nat),e= .returned (.slice a' n c')∧n=(usesE x.e).length∧Sl w' (.slice a' n c') 2 ((usesE x.e).map Rf.cells)∧(∀b o,a' =some ⟨b,o,none⟩→w.heap.size≤b∨(a' =x.ra∧n=x.e.rs.length))∧Ext w w' :=by
 obtain ⟨⟨k1,ao1,av1,old1,b1,a1,r1,fl1⟩,ba1,bc1,aa1,ac1,ra1,rc1⟩:=x
 have HL:=Hm hx.r
 unfold EL.agg
 simp only at HL⊢
 clear hx
 by_cases h4:4≤k1
 ·by_cases h6:k1≤6
  ·have HU:=Hm (show usesE ⟨k1,ao1,av1,old1,b1,a1,r1,fl1⟩= [⟨ao1,av1⟩] from if_pos (decide_eq_true ⟨h4,h6⟩))
   go_enter Tryz.func12,Tryz.ntmps12
   go_wp2
   go_ret
   refine ⟨_,_,_,rfl,by rw [HU.out];rfl, ?_,(fun b o e=> .inl (by simp only [Option.some.injEq,Addr.mk.injEq] at e;obtain ⟨rfl, -⟩:=e;simp)),by exact eX⟩
   rw [HU.out]
   exact Sl.of_owns (base:=0) (e:=41) (by have h:=one_owns2 (W:=w.alloc (.cells #[.int .u8 k1, .int .u32 ao1, .int .u32 av1, .int .u8 old1, .slice ba1 b1.length bc1, .slice aa1 a1.length ac1, .slice ra1 r1.length rc1, .int .u8 fl1] 47)) (T:=41) ao1 av1 (Nat.zero_le _);rw [World.size_alloc] at h;exact h) (by intro xs hxs;simp at hxs;subst hxs;rfl)
  ·have hr:rowedB k1=false:=decide_eq_false (fun h=>h6 h.2)
   by_cases h7:k1=7
   ·have HU:=Hm (show usesE ⟨k1,ao1,av1,old1,b1,a1,r1,fl1⟩=r1 from (if_neg (by rw [hr];simp)).trans (if_pos h7))
    have h7' :(k1==7)=true:=by simpa using h7
    clear hr h7
    go_enter Tryz.func12,Tryz.ntmps12
    go_wp2
    go_ret
    refine ⟨_,_,_,rfl,by rw [HU.out], ?_,(fun b o e=> .inr ⟨rfl,rfl⟩),by exact eX⟩
    rw [HU.out]
    exact HL.out.ext (by exact eX)
   ·have HU:=Hm (show usesE ⟨k1,ao1,av1,old1,b1,a1,r1,fl1⟩= [] from (if_neg (by rw [hr];simp)).trans (if_neg h7))
    have h7' :(k1==7)=false:=by simpa using h7
    clear hr h7
    go_enter Tryz.func12,Tryz.ntmps12
    go_wp2
    go_ret
    refine ⟨_,_,_,rfl,by rw [HU.out];rfl, ?_,(fun b o e=>by cases e),by exact eX⟩
    rw [HU.out]
    exact nilRef _
 ·have HU:=Hm (show usesE ⟨k1,ao1,av1,old1,b1,a1,r1,fl1⟩= [] from (if_neg (by rw [show rowedB k1=false from decide_eq_false (fun h=>h4 h.1)];simp)).trans (if_neg (by simp only;omega)))
  have h7' :(k1==7)=false:=by simp;omega
  go_enter Tryz.func12,Tryz.ntmps12
  go_wp2
  go_ret
  refine ⟨_,_,_,rfl,by rw [HU.out];rfl, ?_,(fun b o e=>by cases e),by exact eX⟩
  rw [HU.out]
  exact nilRef _
end Go.Proofs.YtgmphpccpfaapaaGreatDoor
