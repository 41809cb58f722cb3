/-
The bytes of a story's messages: the program's Send.
-/
import Derived.RangeFuncNested
import Derived.RangeFuncBound
import Derived.RangeFuncCalls
import Derived.RangeFuncLeaves
import Derived.RangeFuncBox
import Derived.RangeFuncOne
import Derived.LoopN
import Derived.Test.YtgmphpccpfaapaaGreatDoorP29
import Derived.Test.YtgmphpccpfaapaaGreatDoorP1
import Derived.Test.YtgmphpccpfaapaaGreatDoorP30
import Derived.Test.YtgmphpccpfaapaaGreatDoorP31
import Derived.Test.YtgmphpccpfaapaaGreatDoorP27
import Derived.Test.YtgmphpccpfaapaaGreatDoorP17
import Derived.Test.YtgmphpccpfaapaaGreatDoorP12
set_option maxRecDepth 100000
set_option maxHeartbeats 16000000
namespace Go.Proofs.YtgmphpccpfaapaaGreatDoor
open Go.RowKit
attribute [local go_sem] Oper.semAt_some
def NonS (w:World):Prop:=(w.cell? ⟨0,0,none⟩=some (.int .i64 (-1))∧w.cell? ⟨0,1,none⟩=some (.int .i64 (-1))∧w.cell? ⟨0,2,none⟩=some (.int .i64 0))∧0<w.heap.size
theorem NonS.ext {w w' :World} (h:NonS w) (he:Ext w w'):NonS w' :=
 ⟨⟨(he.cells.1 _ _ h.2).trans h.1.1,(he.cells.1 _ _ h.2).trans h.1.2.1,(he.cells.1 _ _ h.2).trans h.1.2.2⟩,Nat.lt_of_lt_of_le h.2 he.size⟩
def SendPost (LC:List Rl) (TT:List Tx) (w:World) (e:Ending) (w' :World):Prop:=
 ∃v,e= .returned (.tuple #[v, .agg #[.int .i64 (ckT TT LC), .int .i64 (ckP TT LC), .int .i64 (ckE TT LC)]])∧OB w' w.heap.size v (if ckE TT LC=0 then sendW LC TT else [])∧Ext w w'
theorem okw_small {ts:List TL} (h:∀t∈ts,t.okw):(∀t∈ts,t.es.length≤1000)∧(∀t∈ts,∀e∈t.es,e.e.small)∧∀t∈ts,∀e∈t.es,e.e.wk:=
 ⟨fun t ht=>by have:=(h t ht).n;omega,fun t ht e he=>((h t ht).es e he).sm,fun t ht e he=>((h t ht).es e he).wk⟩
theorem send_bad (ts:List TL) (a:Option Addr) (cap:Nat) (N g:Nat) (c:Value) (ps:List RR) (w:World) (ht:TS 5 K.pc w (.slice a ts.length cap) ts) (hok:∀t∈ts,t.okw) (hlen:ts.length≤60) (hc:Ca w N g c ps) (hN:Non w) (hS:NonS w) (hE:ckE (ts.map TL.t) (ps.map RR.r)≠0):
 Calls Tryz.prog 7 #[.pointer (some ⟨g,0,none⟩), .slice a ts.length cap] w (SendPost (ps.map RR.r) (ts.map TL.t) w):=by
 have HCK:=Hm (fun W (h:Ext w W)=>check_any ts a cap N g c ps W (ht.ext h) (by omega) (okw_small hok).1 (okw_small hok).2.1 (okw_small hok).2.2 (hc.ext h) (hN.ext h))
 have HS:=Hm hS
 unfold SendPost
 rw [if_neg hE]
 obtain ⟨T,hT⟩:∃T,T=ckT (ts.map TL.t) (ps.map RR.r):=⟨_,rfl⟩
 obtain ⟨P,hP⟩:∃T,T=ckP (ts.map TL.t) (ps.map RR.r):=⟨_,rfl⟩
 obtain ⟨E,hEE⟩:∃T,T=ckE (ts.map TL.t) (ps.map RR.r):=⟨_,rfl⟩
 rw [←hT,←hP,←hEE] at HCK⊢
 rw [←hEE] at hE
 have hE' :(E==0)=false:=by simpa using hE
 clear ht hok hc hN hS hT hP hEE hE
 go_enter Tryz.func7,Tryz.ntmps7
 go_wp2_with (go_at_call 18;refine (HCK.out _ (by exact eX)).mono ?_;rintro e w1 ⟨rfl,hb1⟩;have HX1:=Hm (show Ext w w1 by exact eX);have HZ1:=Hm ((Blk.new' (w:=w.alloc (.cells #[.pointer (some ⟨g,0,none⟩)] 26)) (b:=w.heap.size+1) #[.int .i64 0, .int .i64 0, .int .i64 0] 31 (by simp)).ext hb1);have hs2:=(HS.out.ext (show Ext w (w1.alloc (.cells #[.int .i64 T, .int .i64 P, .int .i64 E] 31)) by exact eX));have n0:=hs2.1.1;have n1:=hs2.1.2.1;have n2:=hs2.1.2.2;have n3:=hs2.2;clear hb1 hs2)
 have HZ2:=Hm (HZ1.out.alloc (.cells #[.int .i64 T, .int .i64 P, .int .i64 E] 31))
 have HV2:=Hm (Blk.new w1 #[.int .i64 T, .int .i64 P, .int .i64 E] 31)
 have hE2:Hid (Ext w (w1.alloc (.cells #[.int .i64 T, .int .i64 P, .int .i64 E] 31))):=Hm (HX1.out.alloc _)
 have hne:w.heap.size+1≠w1.heap.size:=by have:=HZ1.out.lt;omega
 obtain ⟨X,hX⟩:∃X,X=w1.heap.size:=⟨_,rfl⟩
 rw [←hX] at HV2 hne⊢
 obtain ⟨w2,hw2⟩:∃W,W=w1.alloc (.cells #[.int .i64 T, .int .i64 P, .int .i64 E] 31):=⟨_,rfl⟩
 rw [←hw2] at HZ2 HV2 hE2 n0 n1 n2 n3⊢
 have z0:=HZ2.out.cell
 have z0f:=HZ2.out.frozen
 have z0z:=HZ2.out.lt
 have v0:=HV2.out.cell
 have v0z:=HV2.out.lt
 clear n0 n1 n2 n3 hX hw2 HX1 HZ1 HS HCK
 go_region
 all_goals
  go_wp2
  have hb3:Blk ((((w2.setCell ⟨w.heap.size+1,0,none⟩ (.int .i64 T)).setCell ⟨w.heap.size+1,1,none⟩ (.int .i64 P)).setCell ⟨w.heap.size+1,2,none⟩ (.int .i64 E))).drew (w.heap.size+1) #[.int .i64 T, .int .i64 P, .int .i64 E] 31:=(by
   have h:Blk (((w2.setCell ⟨w.heap.size+1,0,none⟩ (.int .i64 T)).setCell ⟨w.heap.size+1,1,none⟩ (.int .i64 P)).setCell ⟨w.heap.size+1,2,none⟩ (.int .i64 E)) (w.heap.size+1) #[.int .i64 T, .int .i64 P, .int .i64 E] 31:=by simpa using ((HZ2.out.set 0 (.int .i64 T)).set 1 (.int .i64 P)).set 2 (.int .i64 E)
   exact h)
  have he3:Ext w ((((w2.setCell ⟨w.heap.size+1,0,none⟩ (.int .i64 T)).setCell ⟨w.heap.size+1,1,none⟩ (.int .i64 P)).setCell ⟨w.heap.size+1,2,none⟩ (.int .i64 E))).drew:=(by have h:=hE2.out;exact eX)
  obtain ⟨w3,hw3⟩:∃W,W=((((w2.setCell ⟨w.heap.size+1,0,none⟩ (.int .i64 T)).setCell ⟨w.heap.size+1,1,none⟩ (.int .i64 P)).setCell ⟨w.heap.size+1,2,none⟩ (.int .i64 E))).drew:=⟨_,rfl⟩
  rw [←hw3] at hb3 he3⊢
  have c0:=hb3.cell 0
  have c1:=hb3.cell 1
  have c2:=hb3.cell 2
  simp at c0 c1 c2
  clear z0 z0f z0z v0 v0z hw3
  simp [bodyPost,results,Tryz.results7,go_sem,c0,c1,c2]
  exact ⟨OB.nil _ _,he3⟩
theorem msgs_told (F:Fence) (n:Nat) (hFe:F=Fence.wide) (hF:F.fn 33) (hF2:F.fn 34) (hGF:F.fn 36) (hUF:F.fn 35) (hOF:F.fn 37) (hro:F.round=none) (hn:2≤n) (bl bc M:Nat) (w0 w:World) (N g:Nat) (c:Value) (ps:List RR) (hc:Ca w0 N g c ps) (hB:∀r∈ps.map RR.r,r.okw)
 (ts:List TL) (a:Option Addr) (cap:Nat) (ht:TS 5 K.pc w0 (.slice a ts.length cap) ts) (hok:∀t∈ts,t.okw) (hlen:ts.length≤60) (hki:Kin w0) (hE:Ext w0 w) (hMz:M≤w.heap.size) (hMc:M≤bc) (hbl:Blk w bl #[.slice a ts.length cap] 34) (hbc:Blk w bc #[.pointer (some ⟨g,0,none⟩)] 26):
 SeqToldK F n Tryz.prog 33 #[.pointer (some ⟨bl,0,none⟩), .pointer (some ⟨bc,0,none⟩)] (fun p:ML=> #[p.agg]) (fun p W=>p.at 5 K.pc W∧p.ok) (fun ys=>ys.map ML.m=storyM (ps.map RR.r) (ts.map TL.t)) 1200001 (KpY 5 w0.heap.size M) w:=fun l J W hW hJ hY h0=>
 msgs1_in F n hFe hF hF2 hGF hUF hOF hro hn l bl bc M w0 N g c ps hc hB ts a cap ht hok hlen hki J W hJ hY (hE.trans hW) (Nat.le_trans hMz hW.size) hMc ((hW.cell (p:=⟨bl,0,none⟩) hbl.lt).trans (hbl.cell 0)) (hbc.ext hW) h0
theorem fold_oneS (t:Array Value) (p:Nat) (u:Value):Array.foldl (fun t x=>t.setIfInBounds x.1 x.2) t (#[p].zip #[u])=t.setIfInBounds p u:=by
 simp [List.zip_toArray]
theorem owns_keptS {A B:World} {row:Option Nat} {base n size:Nat} {e:TypeId} {v:Value} {xs:List Value} (h:A.ownsRow base e size v n xs) (hg:A.grownBy B row) (hr:∀r,row=some r→∃o:Obj,A.heap[r]? =some o∧o.isCells=false):B.ownsRow base e size v n xs:=by
 refine owns_kp h (Kp.of_grown hg) (fun b hb e=> ?_)
 obtain ⟨o,ho,hn⟩:=hr b e
 rcases h.2 with ⟨rfl,_⟩|⟨g,cap,cur,rfl,hbg,hh,_⟩
 ·simp [Value.ownBlock] at hb
 ·obtain rfl:g=b:=by simpa [Value.ownBlock] using hb
  rw [hh] at ho;cases ho;simp [Obj.isCells] at hn
theorem Blk.keptS {A B:World} {row:Option Nat} {b:Nat} {cs:Array Value} {t:TypeId} (h:Blk A b cs t) (hg:A.grownBy B row) (hr:∀r,row=some r→∃o:Obj,A.heap[r]? =some o∧o.isCells=false):Blk B b cs t:=
 h.kp (Kp.of_grown hg) (fun e=>by
  obtain ⟨ob,ho,hn⟩:=hr b e
  rw [show A.heap[b]? =_ from h] at ho;cases ho;simp [Obj.isCells] at hn)
theorem Sl.keptS {A B:World} {row:Option Nat} {k:Nat} {v:Value} {xss:List (List Value)} (hk:0<k) (hx:∀xs∈xss,0<xs.length) (h:Sl A v k xss) (hg:A.grownBy B row) (hr:∀r,row=some r→∃o:Obj,A.heap[r]? =some o∧o.isCells=false):Sl B v k xss:=by
 obtain ⟨a,c,rfl,hs⟩:=h
 refine Sl.kp (h:=⟨a,c,rfl,hs⟩) (Kp.of_grown hg) (fun h0 b o e e2=> ?_)
 rcases hs with hs|⟨b',o',rfl,hb,hc⟩
 ·exact h0 hs
 ·cases e
  obtain ⟨ob,ho,hn⟩:=hr b e2
  have h5:=hc 0 (List.length_pos_iff.2 h0) 0 hk
  unfold World.cell? at h5
  simp only [ho] at h5
  have h6:0<(xss.getD 0 []).length:=by
   cases xss with
   |nil=>exact absurd rfl h0
   |cons x r=>exact hx x (List.mem_cons_self ..)
  rw [List.getElem?_eq_getElem h6] at h5
  cases ob<;>simp [Obj.isCells] at hn h5
theorem ML.at.keptS {A B:World} {row:Option Nat} {p:ML} (h:p.at 5 K.pc A) (hg:A.grownBy B row) (hr:∀r,row=some r→∃o:Obj,A.heap[r]? =some o∧o.isCells=false):p.at 5 K.pc B:=
 ⟨Sl.keptS (by omega) (fun xs hx=>by obtain ⟨q, -,rfl⟩:=List.mem_map.1 hx;exact Nat.succ_pos 2) h.1 hg hr,
  ⟨Sl.keptS (by omega) (fun xs hx=>by obtain ⟨q, -,rfl⟩:=List.mem_map.1 hx;exact Nat.succ_pos 4) h.2.b hg hr,Sl.keptS (by omega) (fun xs hx=>by obtain ⟨q, -,rfl⟩:=List.mem_map.1 hx;exact Nat.succ_pos 4) h.2.a hg hr,Sl.keptS (by omega) (fun xs hx=>by obtain ⟨q, -,rfl⟩:=List.mem_map.1 hx;exact Nat.succ_pos 1) h.2.r hg hr⟩⟩
theorem send_ok_in (F:Fence) (n:Nat) (hFe:F=Fence.wide) (hFS:F.fn 7) (hFC:F.fn 18) (hFP:F.fn 20) (hF0:F.fn 19) (hF:F.fn 33) (hF2:F.fn 34) (hGF:F.fn 36) (hUF:F.fn 35) (hOF:F.fn 37) (hro:F.round=none) (hn:4≤n)
 (ts:List TL) (a:Option Addr) (cap:Nat) (N g:Nat) (c:Value) (ps:List RR) (w:World) (ht:TS 5 K.pc w (.slice a ts.length cap) ts) (hok:∀t∈ts,t.okw) (hlen:ts.length≤60) (hc:Ca w N g c ps) (hB:∀r∈ps.map RR.r,r.okw) (hki:Kin w) (hT:Tab w) (hN:Non w) (hS:NonS w) (hE:ckE (ts.map TL.t) (ps.map RR.r)=0):
 CallsIn F n Tryz.prog 7 #[.pointer (some ⟨g,0,none⟩), .slice a ts.length cap] w fun e w' =>∃v,e= .returned (.tuple #[v, .agg #[.int .i64 (-1), .int .i64 (-1), .int .i64 0]])∧OB w' w.heap.size v (sendW (ps.map RR.r) (ts.map TL.t))∧Ext w w' :=by
 have h1:1≤n:=by omega
 have HT0:Hid (ckT (ts.map TL.t) (ps.map RR.r)= -1∧ckP (ts.map TL.t) (ps.map RR.r)= -1):=Hm (by unfold ckT ckP;rw [if_pos hE,if_pos hE];exact ⟨rfl,rfl⟩)
 have HCK:=Hm (fun m W (h:Ext w W)=>(show CallsIn F m Tryz.prog 18 #[.pointer (some ⟨g,0,none⟩), .slice a ts.length cap] W (fun e w' =>e= .returned (.agg #[.int .i64 (-1), .int .i64 (-1), .int .i64 0])∧Ext W w') from by
  rw [hFe]
  refine callsIn_wide.2 ?_
  have h2:=check_any ts a cap N g c ps W (ht.ext h) (by omega) (okw_small hok).1 (okw_small hok).2.1 (okw_small hok).2.2 (hc.ext h) (hN.ext h)
  rw [HT0.out.1,HT0.out.2,hE] at h2
  exact h2))
 have HPU:=Hm (fun m (p:ML) W (h:Ext w W) (hp:p.at 5 K.pc W) (ho:p.ok)=>(show CallsIn F m Tryz.prog 20 #[.pointer (some ⟨g,0,none⟩),p.agg] W _ from by rw [hFe];exact callsIn_wide.2 (put_any p N g c ps W hp ho (hki.ext h) (hc.ext h) (hT.ext h))))
 have HSQ:=Hm (fun (bl bc M:Nat) (W:World) (h1:Ext w W) (h2:M≤W.heap.size) (h3:M≤bc) (h4:Blk W bl #[.slice a ts.length cap] 34) (h5:Blk W bc #[.pointer (some ⟨g,0,none⟩)] 26)=>msgs_told F (n - 1) hFe hF hF2 hGF hUF hOF hro (by omega) bl bc M w W N g c ps hc hB ts a cap ht hok hlen hki h1 h2 h3 h4 h5)
 have HS:=Hm hS
 obtain ⟨LC,hLC⟩:∃LC,LC=ps.map RR.r:=⟨_,rfl⟩
 obtain ⟨TT,hTT⟩:∃LC,LC=ts.map TL.t:=⟨_,rfl⟩
 rw [←hLC] at HPU HSQ⊢
 rw [←hTT] at HSQ⊢
 have mixed:Tryz.prog.follows .mixedOrders=true:=by kernel_rfl
 have hmf:∀(fn:Fn) (first cap:Array Value) (w:World),(Instr.makeFunc fn first cap).run Tryz.prog w= .ok (.func fn first cap) w:=fun _ _ _ _=>rfl
 clear ht hok hc hB hki hT hN hS hE HT0 hLC hTT hFe
 refine callsIn_of_wp_marks Tryz.func7 rfl hFS ?_ hro
 simp only [Tryz.ntmps7,List.size_toArray,List.length_cons,List.length_nil,Nat.reduceAdd,Nat.reduceSub,Array.replicate_succ,Array.replicate_zero,List.push_toArray,List.append_toArray,List.nil_append,List.cons_append]
 gi_wp2_with (first
  |(gi_at_call 18;refine (HCK.out _ _ (by exact eX)).mono ?_;rintro e w1 ⟨rfl,hb1⟩;have HX1:=Hm (show Ext w w1 by exact eX);have HC1:=Hm (((Blk.new w #[.pointer (some ⟨g,0,none⟩)] 26).alloc (.cells #[.int .i64 0, .int .i64 0, .int .i64 0] 31)).ext hb1);have HZ1:=Hm ((Blk.new' (w:=w.alloc (.cells #[.pointer (some ⟨g,0,none⟩)] 26)) (b:=w.heap.size+1) #[.int .i64 0, .int .i64 0, .int .i64 0] 31 (by simp)).ext hb1);have hs2:=(HS.out.ext (show Ext w (w1.alloc (.cells #[.int .i64 (-1), .int .i64 (-1), .int .i64 0] 31)) by exact eX));have n0:=hs2.1.1;have n1:=hs2.1.2.1;have n2:=hs2.1.2.2;have n3:=hs2.2;have gc:=((HC1.out.alloc (.cells #[.int .i64 (-1), .int .i64 (-1), .int .i64 0] 31)).alloc (.cells #[.slice none 0 0] 28)).cell;have gz:=((HC1.out.alloc (.cells #[.int .i64 (-1), .int .i64 (-1), .int .i64 0] 31)).alloc (.cells #[.slice none 0 0] 28)).lt;clear hb1 hs2)
  |(gi_at_call 19;refine (messages_in F _ hF0 hro _ _ _ _ _).mono ?_;rintro e w' ⟨rfl,rfl⟩))
 have hE4:Ext w ((((w1.alloc (.cells #[.int .i64 (-1), .int .i64 (-1), .int .i64 0] 31)).alloc (.cells #[.slice none 0 0] 28)).alloc (.cells #[.pointer (some ⟨g,0,none⟩)] 26)).alloc (.cells #[.slice a ts.length cap] 34)):=by have h:=HX1.out;exact eX
 have hb4:Blk ((((w1.alloc (.cells #[.int .i64 (-1), .int .i64 (-1), .int .i64 0] 31)).alloc (.cells #[.slice none 0 0] 28)).alloc (.cells #[.pointer (some ⟨g,0,none⟩)] 26)).alloc (.cells #[.slice a ts.length cap] 34)) (w1.heap.size+1+1+1) #[.slice a ts.length cap] 34:=Blk.new' _ _ (by simp)
 have hc4:Blk ((((w1.alloc (.cells #[.int .i64 (-1), .int .i64 (-1), .int .i64 0] 31)).alloc (.cells #[.slice none 0 0] 28)).alloc (.cells #[.pointer (some ⟨g,0,none⟩)] 26)).alloc (.cells #[.slice a ts.length cap] 34)) (w1.heap.size+1+1) #[.pointer (some ⟨g,0,none⟩)] 26:=(Blk.new' _ _ (by simp)).alloc _
 have ho4:Blk ((((w1.alloc (.cells #[.int .i64 (-1), .int .i64 (-1), .int .i64 0] 31)).alloc (.cells #[.slice none 0 0] 28)).alloc (.cells #[.pointer (some ⟨g,0,none⟩)] 26)).alloc (.cells #[.slice a ts.length cap] 34)) (w1.heap.size+1) #[.slice none 0 0] 28:=((Blk.new' _ _ (by simp)).alloc _).alloc _
 have hg4:Blk ((((w1.alloc (.cells #[.int .i64 (-1), .int .i64 (-1), .int .i64 0] 31)).alloc (.cells #[.slice none 0 0] 28)).alloc (.cells #[.pointer (some ⟨g,0,none⟩)] 26)).alloc (.cells #[.slice a ts.length cap] 34)) w.heap.size #[.pointer (some ⟨g,0,none⟩)] 26:=(((HC1.out.alloc _).alloc _).alloc _).alloc _
 have hz4:Blk ((((w1.alloc (.cells #[.int .i64 (-1), .int .i64 (-1), .int .i64 0] 31)).alloc (.cells #[.slice none 0 0] 28)).alloc (.cells #[.pointer (some ⟨g,0,none⟩)] 26)).alloc (.cells #[.slice a ts.length cap] 34)) (w.heap.size+1) #[.int .i64 0, .int .i64 0, .int .i64 0] 31:=(((HZ1.out.alloc _).alloc _).alloc _).alloc _
 have hs4:((((w1.alloc (.cells #[.int .i64 (-1), .int .i64 (-1), .int .i64 0] 31)).alloc (.cells #[.slice none 0 0] 28)).alloc (.cells #[.pointer (some ⟨g,0,none⟩)] 26)).alloc (.cells #[.slice a ts.length cap] 34)).heap.size=w1.heap.size+1+1+1+1:=by simp
 have hX1z:w.heap.size+1<w1.heap.size:=HZ1.out.lt
 obtain ⟨X1,hX1⟩:∃X,X=w1.heap.size:=⟨_,rfl⟩
 rw [←hX1] at hb4 hc4 ho4 hs4 hX1z⊢
 obtain ⟨W4,hW4⟩:∃W4,W4=((((w1.alloc (.cells #[.int .i64 (-1), .int .i64 (-1), .int .i64 0] 31)).alloc (.cells #[.slice none 0 0] 28)).alloc (.cells #[.pointer (some ⟨g,0,none⟩)] 26)).alloc (.cells #[.slice a ts.length cap] 34)):=⟨_,rfl⟩
 rw [←hW4] at hE4 hb4 hc4 ho4 hg4 hz4 hs4⊢
 have HE4:=Hm hE4
 have HSQ2:=Hm (HSQ.out (X1+1+1+1) (X1+1+1) (X1+1+1) W4 hE4 (by omega) (Nat.le_refl _) hb4 hc4)
 clear gc gz n0 n1 n2 n3 HSQ HCK hb4 hc4 hX1 hW4 hE4 HX1 HC1 HZ1 hmf
 refine wpIn_range_toldK hro h1 (gf:=33) (lb:= #[.pointer (some ⟨X1+1+1+1,0,none⟩), .pointer (some ⟨X1+1+1,0,none⟩)]) rfl hF (enters_of Tryz.func33 (by kernel_rfl) rfl) HSQ2.out (Below.refl _ _) (fun _=>rfl)
  (fun h k=>h.trans k) (fun W l r o' hl h=>KpY.loop o' (by omega) h)
  (fun pre W=>(∃v,Blk W (X1+1) #[v] 28∧Hid (OB W (X1+1+1) v (saidW LC (pre.map ML.m))))∧Hid (∀p∈pre,p.okr)∧Blk W w.heap.size #[.pointer (some ⟨g,0,none⟩)] 26∧Blk W (w.heap.size+1) #[.int .i64 0, .int .i64 0, .int .i64 0] 31∧Hid (Ext w W∧W4.heap.size≤W.heap.size)) ?hI
  ⟨⟨_,ho4,Hm (OB.nil _ _)⟩,Hm (fun p hp=>by cases hp),hg4,hz4,Hm ⟨HE4.out,Nat.le_refl _⟩⟩
  (fun p a' W=>∃X,a' = { tmps:= #[.pointer (some ⟨g,0,none⟩), .slice a ts.length cap, .pointer (some ⟨w.heap.size,0,none⟩),undef, .slice none 0 0, .pointer (some ⟨w.heap.size+1,0,none⟩), .pointer (some ⟨X1,0,none⟩), .pointer (some ⟨X1+1,0,none⟩), .pointer (some ⟨X,0,none⟩),undef,undef, .pointer (some ⟨g,0,none⟩), .slice a ts.length cap, .agg #[.int .i64 (-1), .int .i64 (-1), .int .i64 0], .agg #[.int .i64 (-1), .int .i64 (-1), .int .i64 0], .agg #[.int .i64 (-1), .int .i64 (-1), .int .i64 0], .bool false,undef, .pointer (some ⟨g,0,none⟩), .slice a ts.length cap, .func (.func 33) #[] #[.pointer (some ⟨X1+1+1+1,0,none⟩), .pointer (some ⟨X1+1+1,0,none⟩)],p.agg,undef,undef,undef,undef,undef,undef,undef,undef,undef,undef,undef],defers:= [] } ∧W4.heap.size≤X∧Blk W X p.arr 79∧p.at 5 K.pc W∧p.ok)
  ?hAx ?assign ?body ?done
 case hI=>
  rintro s A B row ⟨⟨v,q1,q2⟩,q0,q3,q4,q5⟩ hg hr
  have hr2:∀r,row=some r→∃o:Obj,A.heap[r]? =some o∧o.isCells=false:=fun r e=>(hr r e).2
  exact ⟨⟨v,q1.keptS hg hr2,Hm (owns_keptS q2.out hg hr2)⟩,q0,q3.keptS hg hr2,q4.keptS hg hr2,Hm ⟨Below.grown q5.out.1 hg q5.out.1.size (fun k e=>by have:=(hr k e).1;have:=HE4.out.size;omega),Nat.le_trans q5.out.2 hg.size⟩⟩
 case hAx=>
  rintro x a' W l o' ⟨X,q1,q2,q3,q4,q5⟩ hl hob
  have hg:=grownBy_putObj' W l o'
  have hr2:∀r,some l=some r→∃o:Obj,W.heap[r]? =some o∧o.isCells=false:=fun r e=>by cases e;exact hob
  exact ⟨X,q1,q2,q3.keptS hg hr2,q4.keptS hg hr2,q5⟩
 case assign=>
  rintro l pre x W KK ⟨⟨v,q1,q2⟩,q0,q3,q4,q5⟩ ⟨hx1,hx2⟩ hK
  have HX:=Hm (And.intro hx1 hx2)
  clear hx1 hx2
  rw [fold_oneS]
  have hEW:Ext W (W.alloc (.cells x.arr 79)):=(Ext.refl W).alloc _
  have hKK:=hK _ _ ((KeepsOthers.alloc W (.cells x.arr 79)).from _) (KpY.ext hEW (q5.out.1.size)) ⟨⟨v,q1.ext hEW,Hm (q2.out.ext hEW)⟩,q0,q3.ext hEW,q4.ext hEW,Hm ⟨q5.out.1.trans hEW,Nat.le_trans q5.out.2 hEW.size⟩⟩ ⟨W.heap.size,rfl,q5.out.2,Blk.new _ _ _,HX.out.1.ext hEW,HX.out.2⟩
  clear hK q0 q1 q2 q3 q4 q5 HX hEW
  obtain ⟨k,xx,st,nn,⟨⟨oid,ver,nm,id,cols⟩,ca,cc⟩,⟨⟨kd,ao,av,old,lb,la,rs,fl⟩,ba,bc,aa,ac,ra,rc⟩⟩:=x
  unfold ML.agg ML.arr at hKK
  unfold ML.agg ML.arr
  dsimp only at hKK⊢
  gi_wp2
  exact hKK
 case body=>
  rintro l pre x a' W ⟨⟨v,q1,q2⟩,q0,q3,q4,q5⟩ hlen ⟨X,rfl,hX,hbX,hxa,hxo⟩
  have h11:1≤n - 1 - 1:=by omega
  have HP:=Hm (fun m W' (h:Ext W W')=>HPU.out m x W' (q5.out.1.trans h) (hxa.ext h) hxo)
  have HXO:=Hm hxo
  have hl1:(saidW LC (pre.map ML.m)).length≤10000005*pre.length:=saidW_le LC pre q0.out
  have hl2:(msgW x.m LC).length≤10000005:=msgW_le hxo.sm hxo.wb hxo.wa
  have HSN:Hid (saidW LC ((pre++ [x]).map ML.m)=saidW LC (pre.map ML.m)++msgW x.m LC):=Hm (by rw [List.map_append];exact saidW_snoc _ _ _)
  have HOK:Hid (∀p∈pre++ [x],p.okr):=Hm (fun p hp=>by
   rcases List.mem_append.1 hp with hp|hp
   ·exact q0.out p hp
   ·obtain rfl:p=x:=by simpa using hp
    exact hxo.tookr)
  obtain ⟨MW,hMW⟩:∃M,M=msgW x.m LC:=⟨_,rfl⟩
  obtain ⟨ME,hME⟩:∃M,M=msgE x.m LC:=⟨_,rfl⟩
  obtain ⟨SW,hSW⟩:∃M,M=saidW LC (pre.map ML.m):=⟨_,rfl⟩
  rw [←hMW] at HP hl2 HSN
  rw [←hME] at HP
  rw [←hSW] at q2 hl1 HSN
  have hl3:SW.length≤13000000000000:=by omega
  clear hl1
  have HQ1:=Hm q1
  have HQ3:=Hm q3
  have HQ4:=Hm q4
  have hfin:∀(w5 w6:World) (v6:Value),Ext W w5→OB w6 (X1+1+1) v6 (SW++MW)→w5.grownBy w6 v.ownBlock→
   KeepsFrom W4.heap.size W (w6.setCell ⟨X1+1,0,none⟩ v6)∧KpY 5 w.heap.size (X1+1+1) W (w6.setCell ⟨X1+1,0,none⟩ v6)∧
   (∃v,Blk (w6.setCell ⟨X1+1,0,none⟩ v6) (X1+1) #[v] 28∧Hid (OB (w6.setCell ⟨X1+1,0,none⟩ v6) (X1+1+1) v (saidW LC ((pre++ [x]).map ML.m))))∧Hid (∀p∈pre++ [x],p.okr)∧Blk (w6.setCell ⟨X1+1,0,none⟩ v6) w.heap.size #[.pointer (some ⟨g,0,none⟩)] 26∧Blk (w6.setCell ⟨X1+1,0,none⟩ v6) (w.heap.size+1) #[.int .i64 0, .int .i64 0, .int .i64 0] 31∧Hid (Ext w (w6.setCell ⟨X1+1,0,none⟩ v6)∧W4.heap.size≤(w6.setCell ⟨X1+1,0,none⟩ v6).heap.size):=fun w5 w6 v6 h5 ho6 hg6=>by
   have hNB:∀b,v.ownBlock=some b→X1+1+1≤b∧b<W.heap.size:=fun b hb=>q2.out.lt b hb
   have hU8:∀b ob,v.ownBlock=some b→W.heap[b]? =some ob→Obj.stays 5 ob=false∧ob.isCells=true:=fun b ob hb ho=>by
    rcases q2.out.2 with ⟨rfl, -⟩|⟨gg,cap,cur,rfl, -,hh, -⟩
    ·simp [Value.ownBlock] at hb
    ·obtain rfl:gg=b:=by simpa [Value.ownBlock] using hb
     rw [hh] at ho;cases ho;exact ⟨by simp [Obj.stays],rfl⟩
   have hk1:Kp (fun k=>v.ownBlock=some k) W w6:=(Kp.of_ext h5).trans (Kp.of_grown hg6) (fun x hx _=>hx)
   have hk2:Kp (fun k=>v.ownBlock=some k∨k=X1+1) W (w6.setCell ⟨X1+1,0,none⟩ v6):=
    (hk1.mono (T:=fun k=>v.ownBlock=some k∨k=X1+1) (fun x hx _=> .inl hx)).trans (Kp.set (S:=fun k=>k=X1+1) _ _ rfl) (fun x hx _=> .inr hx)
   have hz5:=q5.out.2
   refine ⟨⟨hk2.size,fun k ob hk hob hnc=>(hk2.block k (Array.getElem?_eq_some_iff.1 hob).1 (fun hs=> ?_)).trans hob⟩,⟨⟨hk2.os,hk2.tape,hk2.output,hk2.size,fun k hk=>hk2.block k (by have:=q5.out.1.size;omega) (fun hs=> ?_)⟩,fun k ob hk hob hst=>(hk2.block k (Array.getElem?_eq_some_iff.1 hob).1 (fun hs=> ?_)).trans hob⟩,⟨v6, ?_,Hm ?_⟩,HOK, ?_, ?_,Hm ⟨?_,Nat.le_trans hz5 hk2.size⟩⟩
   ·rcases hs with hs|hs
    ·have:=(hU8 k ob hs hob).2;rw [hnc] at this;cases this
    ·omega
   ·rcases hs with hs|hs
    ·have:=(hNB k hs).1;omega
    ·omega
   ·rcases hs with hs|hs
    ·have:=(hU8 k ob hs hob).1;rw [hst] at this;cases this
    ·omega
   ·have hb6:Blk w6 (X1+1) #[v] 28:=HQ1.out.kp hk1 (fun hs=>by have:=(hNB _ hs).1;omega)
    have:=hb6.set 0 v6
    simpa using this
   ·rw [HSN.out]
    exact owns_set ho6 (p:=⟨X1+1,0,none⟩) (by show X1+1<_;omega) v6
   ·exact HQ3.out.kp hk2 (fun hs=>by
     rcases hs with hs|hs; · (have:=(hNB _ hs).1;omega)
     ·omega)
   ·exact HQ4.out.kp hk2 (fun hs=>by
     rcases hs with hs|hs; · (have:=(hNB _ hs).1;omega)
     ·omega)
   ·exact Kp.ext q5.out.1 (fun x hs hx=>by
     rcases hs with hs|hs; · (have:=(hNB _ hs).1;omega)
     ·omega) hk2
  have HFIN:=Hm hfin
  have HB6F:=Hm (show∀w5 w6,Ext W w5→w5.grownBy w6 v.ownBlock→Blk w6 (X1+1) #[v] 28 from fun w5 w6 h5 hg6=>HQ1.out.kp ((Kp.of_ext (S:=fun k=>v.ownBlock=some k) h5).trans (Kp.of_grown hg6) (fun x hx _=>hx)) (fun hs=>by have:=(q2.out.lt _ hs).1;omega))
  have hWz:X1+1+1≤W.heap.size:=by have:=q5.out.2;omega
  obtain ⟨k,xx,st,nn,⟨⟨oid,ver,nm,id,cols⟩,ca,cc⟩,⟨⟨kd,ao,av,old,lb,la,rs,fl⟩,ba,bc,aa,ac,ra,rc⟩⟩:=x
  unfold ML.agg at HP
  unfold ML.agg
  unfold ML.arr at HP hbX
  unfold ML.arr
  dsimp only at HP hbX⊢
  have gX:=hbX.cell
  have gXz:=hbX.lt
  have gg:=q3.cell
  have gz:=q3.lt
  have go:=q1.cell
  have goz:=q1.lt
  clear hfin q0 q1 q3 q4 hxo hxa hbX hMW hME hSW HOK HSN HXO hlen
  gi_wp2_with (first
   |(gi_at_call 20;refine (CallsIn.inRound l (HP.out _ _ (by exact eX))).mono ?_;rintro e w5 ⟨v5,rfl,hv5,hb5⟩;have HX5:=Hm (show Ext W w5 by exact eX);have HV5:=Hm hv5;have g5:=(HQ1.out.ext hb5).cell;have g5z:=(HQ1.out.ext hb5).lt;clear hv5 hb5)
   |(gi_at_builtin;(refine app_bytesIn rfl (.tmp 28) (.tmp 29) rfl (X1+1+1) v SW rfl (owns_ext q2.out HX5.out) v5 MW rfl (NB.of_own HV5.out) (by omega) (by have:=HX5.out.size;omega) ?_;intro v6 w6 ho6 hg6;obtain ⟨a6,c6,rfl⟩:=OB.shape ho6;have HO6:=Hm ho6;have HG6:=Hm hg6;have g6:=(HB6F.out _ _ HX5.out hg6).cell;have g6f:=(HB6F.out _ _ HX5.out hg6).frozen;have g6z:=(HB6F.out _ _ HX5.out hg6).lt;clear ho6 hg6 g5 g5z)))
  exact HFIN.out w5 w6 _ HX5.out (by have h:=HO6.out;rw [List.length_append] at h;exact h) HG6.out
 case done=>
  rintro D ys W hD hys ⟨⟨v,q1,q2⟩,q0,q3,q4,q5⟩ hK
  have g1:=q1.cell
  have g1z:=q1.lt
  have g4:=q4.cell
  have g4f:=q4.frozen
  have g4z:=q4.lt
  have hs2:=HS.out.ext q5.out.1
  have n0:=hs2.1.1
  have n1:=hs2.1.2.1
  have n2:=hs2.1.2.2
  have n3:=hs2.2
  rw [hys] at q2
  have HQ2:=Hm q2.out
  have HK:=Hm hK
  have HQ4:=Hm q4
  clear hs2 q0 q1 q2 q3 q4 hK
  obtain ⟨av,cv,rfl⟩:=OB.shape HQ2.out
  obtain ⟨SW,hSW⟩:∃S,S=saidW LC (storyM LC TT):=⟨_,rfl⟩
  rw [←hSW] at HQ2 g1
  have HSW:=Hm hSW
  clear hSW hys
  have hDW:D<W.heap.size:=(Array.getElem?_eq_some_iff.1 HK.out).1
  have hDn:D≠w.heap.size+1:=by have:=HE4.out.size;omega
  gi_wp2
  gi_region
  all_goals
   gi_wp2
   obtain ⟨V1,hV1⟩:∃V,V=((W.setCell ⟨w.heap.size+1,0,none⟩ (.int .i64 (-1))).setCell ⟨w.heap.size+1,1,none⟩ (.int .i64 (-1))).setCell ⟨w.heap.size+1,2,none⟩ (.int .i64 0):=⟨_,rfl⟩
   rw [←hV1]
   have hkp:Kp (fun k=>k=w.heap.size+1) W V1.drew:=by
    rw [hV1]
    exact ((((Kp.set (S:=fun k=>k=w.heap.size+1) _ _ rfl).trans (Kp.set (S:=fun k=>k=w.heap.size+1) _ _ rfl) (fun x h _=>h)).trans (Kp.set (S:=fun k=>k=w.heap.size+1) _ _ rfl) (fun x h _=>h)).trans (Kp.of_ext ((Ext.refl _).drew)) (fun x h _=>h))
   have hb1:Blk V1 (w.heap.size+1) #[.int .i64 (-1), .int .i64 (-1), .int .i64 0] 31:=by
    rw [hV1]
    simpa using ((HQ4.out.set 0 (.int .i64 (-1))).set 1 (.int .i64 (-1))).set 2 (.int .i64 0)
   have ho1:OB V1.drew (X1+1+1) (.slice av SW.length cv) SW:=OB.drew (by
    rw [hV1]
    exact owns_set (owns_set (owns_set HQ2.out (p:=⟨w.heap.size+1,0,none⟩) (by show w.heap.size+1<_;omega) _) (p:=⟨w.heap.size+1,1,none⟩) (by show w.heap.size+1<_;omega) _) (p:=⟨w.heap.size+1,2,none⟩) (by show w.heap.size+1<_;omega) _)
   have he1:Ext w V1.drew:=Kp.ext q5.out.1 (fun x hs hx=>by omega) hkp
   have hK' :V1.drew.heap[D]? =some (.deferred (some [])):=(hkp.block D hDW hDn).trans HK.out
   have hb2:Blk V1.drew (w.heap.size+1) #[.int .i64 (-1), .int .i64 (-1), .int .i64 0] 31:=hb1
   obtain ⟨V,hV⟩:∃V,V=V1.drew:=⟨_,rfl⟩
   rw [←hV] at hkp ho1 he1 hK' hb2⊢
   have hg' :=grownBy_putObj' V D (.deferred none)
   have hr' :∀r,some D=some r→∃ob:Obj,V.heap[r]? =some ob∧ob.isCells=false:=fun r e=>by cases e;exact ⟨_,hK',rfl⟩
   have hb3:=hb2.keptS hg' hr'
   have c0:=hb3.cell 0
   have c1:=hb3.cell 1
   have c2:=hb3.cell 2
   simp at c0 c1 c2
   refine ⟨by simp, .inl ⟨_,_,rfl,run_takeDeferred hK', ?_⟩⟩
   refine ⟨.tuple #[.slice av SW.length cv, .agg #[.int .i64 (-1), .int .i64 (-1), .int .i64 0]], ?_,⟨.slice av SW.length cv,rfl,by unfold sendW;rw [←HSW.out];exact owns_base (owns_keptS ho1 hg' hr') (by omega),Below.trans he1 (belowK_b (w:=w) (Nat.le_refl _) V D _ _ (by have:=HE4.out.size;omega) hK' rfl rfl)⟩⟩
   simp [results,Tryz.f7,go_sem,c0,c1,c2]
theorem send_any (ts:List TL) (a:Option Addr) (cap:Nat) (N g:Nat) (c:Value) (ps:List RR) (w:World) (ht:TS 5 K.pc w (.slice a ts.length cap) ts) (hok:∀t∈ts,t.okw) (hlen:ts.length≤60) (hc:Ca w N g c ps) (hB:∀r∈ps.map RR.r,r.okw) (hki:Kin w) (hT:Tab w) (hN:Non w) (hS:NonS w):
 Calls Tryz.prog 7 #[.pointer (some ⟨g,0,none⟩), .slice a ts.length cap] w (SendPost (ps.map RR.r) (ts.map TL.t) w):=by
 by_cases hE:ckE (ts.map TL.t) (ps.map RR.r)=0
 ·refine (callsIn_wide.1 (send_ok_in Fence.wide 9 rfl trivial trivial trivial trivial trivial trivial trivial trivial trivial rfl (by omega) ts a cap N g c ps w ht hok hlen hc hB hki hT hN hS hE)).mono ?_
  rintro e w' ⟨v,rfl,h1,h2⟩
  refine ⟨v, ?_,by rw [if_pos hE];exact h1,h2⟩
  unfold ckT ckP
  rw [if_pos hE,if_pos hE,hE]
 ·exact send_bad ts a cap N g c ps w ht hok hlen hc hN hS hE
open Go.RowKit Go.Shelf
attribute [local go_sem] Oper.semAt_some
theorem run_equalIn_func_nilS {P:Program} (w:World) (d:Nat) (t:TypeId) (f:Fn) (xs ys:Array Value) {p:Array TypeId} {r:Array TypeId} {v:Bool} (h:P.underlying t=some (.func p r v)):(Op.equalIn (d+1) t (.func f xs ys) .nilFunc).run P w= .ok false w:=by
 simp [Op.equalIn,run_underlying h]
theorem run_eql_func_nilS {P:Program} (w:World) (t:TypeId) (f:Fn) (xs ys:Array Value) {p:Array TypeId} {r:Array TypeId} {v:Bool} (h:P.underlying t=some (.func p r v)):(binOp .eql t (.func f xs ys) .nilFunc).run P w= .ok (.bool false) w:=by
 have e:(Op.equal t (.func f xs ys) .nilFunc).run P w= .ok false w:=by
  exact run_equalIn_func_nilS w 9999 t f xs ys h
 simp [binOp,e]
theorem cnew21_any (w:World):Calls Tryz.prog 22 #[] w fun e w' =>e= .returned (.pointer (some ⟨w.heap.size,0,none⟩))∧w' =w.alloc (.cells #[.slice none 0 0] 128):=by
 go_enter Tryz.func22,Tryz.ntmps22
 go_wp2
 go_ret
 exact ⟨rfl,rfl⟩
theorem snew_any (w:World):Calls Tryz.prog 45 #[] w fun e w' =>∃rv kg,e= .returned (.pointer (some ⟨rv,0,none⟩))∧Blk w' rv #[.pointer (some ⟨kg,0,none⟩), .int .u32 0, .pointer none, .slice none 0 0] 168∧Ca w' kg kg (.slice none 0 0) []∧Ext w w'∧w.heap.size≤kg∧w.heap.size≤rv∧kg≠rv:=by
 have HC:=Hm (cnew21_any w)
 go_enter Tryz.func45,Tryz.ntmps45
 go_wp2_with (go_at_call 22;refine HC.out.mono ?_;rintro e w1 ⟨rfl,rfl⟩)
 go_ret
 exact ⟨_,w.heap.size,rfl,Blk.new' _ _ (by simp),(Ca.new w).ext ((Ext.refl _).alloc _),by exact eX,Nat.le_refl _,by omega,by omega⟩
theorem sopen_any (rv kg:Nat) (w:World) (h:Blk w rv #[.pointer (some ⟨kg,0,none⟩), .int .u32 5, .pointer none, .slice none 0 0] 168):Calls Tryz.prog 48 #[.pointer (some ⟨rv,0,none⟩)] w fun e w' =>e= .returned (.bool false)∧w=w' :=by
 have c0:=h.cell
 have cz:=h.lt
 clear h
 go_enter Tryz.func48,Tryz.ntmps48
 go_wp2
 go_ret
 exact ⟨rfl,rfl⟩
theorem scat_in (F:Fence) (n:Nat) (hFe:F=Fence.wide) (hCF:F.fn 22) (h1F:F.fn 111) (hAF:F.fn 82) (hOF:F.fn 66) (hDF:F.fn 47) (hro:F.round=none) (hn:4≤n) (rv N kg:Nat) (c:Value) (w:World) (h:Blk w rv #[.pointer (some ⟨kg,0,none⟩), .int .u32 5, .pointer none, .slice none 0 0] 168) (hc:Ca w N kg c []):
 CallsIn F n Tryz.prog 47 #[.pointer (some ⟨rv,0,none⟩)] w fun e w' =>∃g,e= .returned (.pointer (some ⟨g,0,none⟩))∧Ext w w' :=by
 have h1:1≤n:=by omega
 have HC:=Hm hc
 have HCN:=Hm (fun m W=>(show CallsIn F m Tryz.prog 22 #[] W _ from by rw [hFe];exact callsIn_wide.2 (cnew21_any W)))
 have HFE:=Hm hFe
 have mixed:Tryz.prog.follows .mixedOrders=true:=by kernel_rfl
 have hfn:∀(W:World) (ys:Array Value),(binOp .eql 173 (.func (.func 111) #[] ys) .nilFunc).run Tryz.prog W= .ok (.bool false) W:=fun W ys=>run_eql_func_nilS W _ _ _ _ (show Tryz.prog.underlying 173=some (.func #[200] #[] false) by kernel_rfl)
 have c0:=h.cell
 have cz:=h.lt
 clear hc hFe h
 refine callsIn_of_wp_marks Tryz.func47 rfl hDF ?_ hro
 simp only [Tryz.ntmps47,List.size_toArray,List.length_cons,List.length_nil,Nat.reduceAdd,Nat.reduceSub,Array.replicate_succ,Array.replicate_zero,List.push_toArray,List.append_toArray,List.nil_append,List.cons_append]
 gi_wp2_with (first
  |(gi_at_call 22;refine (HCN.out _ _).mono ?_;rintro e w' ⟨rfl,rfl⟩)
  |(gi_at_call 82;refine (all_in F (n - 1) hAF hro _ _).mono ?_;rintro e w' ⟨rfl,rfl⟩))
 have hE4:Ext w (((w.alloc (.cells #[.slice none 0 0] 128)).alloc (.cells #[.pointer (some ⟨w.heap.size,0,none⟩)] 26)).alloc (.cells #[.pointer (some ⟨kg,0,none⟩)] 26)):=by exact eX
 have hB4:Blk (((w.alloc (.cells #[.slice none 0 0] 128)).alloc (.cells #[.pointer (some ⟨w.heap.size,0,none⟩)] 26)).alloc (.cells #[.pointer (some ⟨kg,0,none⟩)] 26)) (w.heap.size+1+1) #[.pointer (some ⟨kg,0,none⟩)] 26:=Blk.new' _ _ (by simp)
 have hR1:Blk (((w.alloc (.cells #[.slice none 0 0] 128)).alloc (.cells #[.pointer (some ⟨w.heap.size,0,none⟩)] 26)).alloc (.cells #[.pointer (some ⟨kg,0,none⟩)] 26)) (w.heap.size+1) #[.pointer (some ⟨w.heap.size,0,none⟩)] 26:=(Blk.new' _ _ (by simp)).alloc _
 obtain ⟨W4,hW4⟩:∃W4,W4=(((w.alloc (.cells #[.slice none 0 0] 128)).alloc (.cells #[.pointer (some ⟨w.heap.size,0,none⟩)] 26)).alloc (.cells #[.pointer (some ⟨kg,0,none⟩)] 26)):=⟨_,rfl⟩
 have hz4:W4.heap.size=w.heap.size+1+1+1:=by rw [hW4];simp
 rw [←hW4] at hE4 hB4 hR1⊢
 have HE4:=Hm hE4
 clear hW4 hE4 hfn c0 cz
 have htold:SeqTold F (n - 1) Tryz.prog 111 #[.pointer (some ⟨w.heap.size+1+1,0,none⟩)] encA (fun _ _=>False) (fun ys=>ys.map RR.r= []) 0 w.heap.size W4:=fun l J W hW hJ hY h0=>
  (all1_in F (n - 1) HFE.out h1F hOF hro (by omega) l (w.heap.size+1+1) w N kg c [] HC J W hJ (fun pre x W hj hn _ _ _=>absurd hn (Nat.not_lt_zero _)) (HE4.out.trans hW) ((hW.cell (p:=⟨w.heap.size+1+1,0,none⟩) hB4.lt).trans (hB4.cell 0)) h0)
 refine wpIn_range_told hro h1 (gf:=111) (lb:= #[.pointer (some ⟨w.heap.size+1+1,0,none⟩)]) rfl h1F (enters_of Tryz.func111 (by kernel_rfl) rfl) htold (by omega) (Below.refl _ _) (fun _=>rfl)
  (fun pre W=>Blk W (w.heap.size+1) #[.pointer (some ⟨w.heap.size,0,none⟩)] 26∧Hid (Below w.heap.size w W∧W4.heap.size≤W.heap.size)) ?hI
  ⟨hR1,Hm ⟨HE4.out,Nat.le_refl _⟩⟩
  (fun _ _ _=>False)
  (fun x a' W l o' h _ _=>h.elim) (fun l pre x W K _ h _=>h.elim) (fun l pre x a' W _ _ h=>h.elim) ?done
 case hI=>
  rintro s A B row ⟨q3,q5⟩ hg hr
  have hr2:∀r,row=some r→∃o:Obj,A.heap[r]? =some o∧o.isCells=false:=fun r e=>(hr r e).2
  exact ⟨q3.keptS hg hr2,Hm ⟨q5.out.1.grown hg (by have:=q5.out.2;omega) (fun k e=>by have:=(hr k e).1;omega),Nat.le_trans q5.out.2 hg.size⟩⟩
 case done=>
  rintro D ys W hD hys ⟨q3,q5⟩ hK
  have g3:=q3.cell
  have g3z:=q3.lt
  gi_wp2
  refine ⟨by simp, .inl ⟨_,_,rfl,run_takeDeferred hK, ?_⟩⟩
  refine ⟨.pointer (some ⟨w.heap.size,0,none⟩), ?_,⟨w.heap.size,rfl,Below.trans q5.out.1 (belowK_b (w:=w) (Nat.le_refl _) W D _ _ (by omega) hK rfl rfl)⟩⟩
  simp [results,Tryz.f47,go_sem]
theorem scat_any (rv N kg:Nat) (c:Value) (w:World) (h:Blk w rv #[.pointer (some ⟨kg,0,none⟩), .int .u32 5, .pointer none, .slice none 0 0] 168) (hc:Ca w N kg c []):Calls Tryz.prog 47 #[.pointer (some ⟨rv,0,none⟩)] w fun e w' =>∃g,e= .returned (.pointer (some ⟨g,0,none⟩))∧Ext w w' :=
 callsIn_wide.1 (scat_in Fence.wide 9 rfl trivial trivial trivial trivial trivial rfl (by omega) rv N kg c w h hc)
end Go.Proofs.YtgmphpccpfaapaaGreatDoor
namespace Go.Proofs.YtgmphpccpfaapaaGreatDoor
open Go.RowKit
theorem cells_newA {w:World} {b:Nat} (h:b=w.heap.size) (cs:Array Value) (T:TypeId):∀j u,cs.toList[j]? =some u→(w.alloc (.cells cs T)).cell? ((⟨b,0,none⟩:Addr).add j)=some u:=by
 subst h
 exact cells_new w cs T
theorem Tryz.infoTxS:(Tryz.prog.info? 84).map (fun i=>(i.zero,i.size,i.bytes))=some (some (.agg #[.int .u32 0, .int .u64 0, .slice none 0 0]),3,40):=by kernel_rfl
theorem receive_any (bb o cp:Nat) (w:World) (hs:Sl w (.slice (some ⟨bb,o,none⟩) 30 cp) 1 (msgBC.map bcell)) (hcp:30≤cp) (hk:Kin w):
 Calls Tryz.prog 23 #[.slice (some ⟨bb,o,none⟩) 30 cp] w fun e w' =>∃v g,e= .returned (.tuple #[v, .pointer (some ⟨g,0,none⟩), .int .i64 30, .int .i64 0])∧w'.ownsRow w.heap.size 84 3 v 1 [.int .u32 5, .int .u64 0, .slice none 0 0]∧Ext w w' :=by
 obtain ⟨i0,hi,hz0,hz1,hz2⟩:=info_parts Tryz.infoTxS
 have HNW:=Hm (snew_any w)
 have hs2:Sl w (.slice (some ⟨bb,o+17,none⟩) 13 (cp - 17)) 1 (msgC1.map bcell):=sl_drop (l:=msgBC) (m:=17) hs (by decide)
 have HTB:=Hm (fun rv kg W (h:Ext w W) (hr:Blk W rv #[.pointer (some ⟨kg,0,none⟩), .int .u32 0, .pointer none, .slice none 0 0] 168) (hc:Ca W kg kg (.slice none 0 0) [])=>takeB_any rv kg bb o cp kg (.slice none 0 0) [] W hr (hs.ext h) hcp (hk.ext h) hc)
 have HTC:=Hm (fun rv kg tb W (h:Ext w W) (hr:Blk W rv #[.pointer (some ⟨kg,0,none⟩), .int .u32 0, .pointer (some ⟨tb,0,none⟩), .slice none 0 0] 168) (ht:Blk W tb #[.int .u32 5, .int .u64 0, .slice none 0 0] 84) (hc:Ca W kg kg (.slice none 0 0) [])=>takeC_any rv kg tb bb (o+17) (cp - 17) kg (.slice none 0 0) [] W hr ht (hs2.ext h) (by omega) (hk.ext h) hc)
 have hcpm:((cp:Int) - 17).toNat=cp - 17:=by omega
 have hc0: ¬ cp=17:=by omega
 have hc1: ¬ cp=0:=by omega
 have hcm:(17:Int)≤(cp:Int):=by omega
 clear hs hs2 hk
 go_enter Tryz.func23,Tryz.ntmps23
 go_wp2_with (go_at_call 45;refine HNW.out.mono ?_;rintro e w1 ⟨rv,kg,rfl,hr1,hc1',he1,hz1',hz2',hne⟩;have HR1:=Hm hr1;have HC1:=Hm hc1';have HE1:=Hm he1;have HNE:=Hm (And.intro hz1' (And.intro hz2' hne));clear hr1 hc1' he1 hz1' hz2' hne)
 refine wp_loop_rounds 3 ?_
 rw [rounds_succ]
 go_wp2_with (go_at_call 46;refine (HTB.out rv kg _ HE1.out HR1.out HC1.out).mono ?_;rintro e w2 ⟨tb,rfl,hb2,hr2,hk2⟩;have HB2:=Hm hb2;have HR2:=Hm hr2;have HE2:=Hm (Kp.ext HE1.out (fun x hx _=>by have h2:x=rv:=hx;have:=HNE.out;omega) hk2);have HC2:=Hm (HC1.out.kp hk2 (show ¬ kg=rv from HNE.out.2.2) (fun b hb=>by cases hb) (fun p hp=>by cases hp));clear hb2 hr2 hk2)
 rw [rounds_succ]
 have HX3:Hid (Ext w2 (w2.alloc (.cells #[.int .u32 0, .int .u64 0, .slice none 0 0] 84))):=Hm ((Ext.refl _).alloc _)
 have HE3:=Hm (HE2.out.trans HX3.out)
 have HR3:=Hm (HR2.out.ext HX3.out)
 have HB3:=Hm (HB2.out.ext HX3.out)
 have HC3:=Hm (HC2.out.ext HX3.out)
 obtain ⟨w3,hw3⟩:∃W,W=w2.alloc (.cells #[.int .u32 0, .int .u64 0, .slice none 0 0] 84):=⟨_,rfl⟩
 rw [←hw3] at HE3 HR3 HB3 HC3⊢
 clear hw3 HX3 HE2 HR2 HB2 HC2 HE1 HR1 HC1 HTB HNW
 go_wp2_with (first
  |(go_at_call 46;refine (HTC.out rv kg tb _ HE3.out HR3.out HB3.out HC3.out).mono ?_;rintro e w4 ⟨rfl,hr4,hk4⟩;have HR4:=Hm hr4;have HE4:=Hm (Kp.ext HE3.out (fun x hx _=>by have h2:x=rv:=hx;have:=HNE.out;omega) hk4);have HC4:=Hm (HC3.out.kp hk4 (show ¬ kg=rv from HNE.out.2.2) (fun b hb=>by cases hb) (fun p hp=>by cases hp));have hz4:=HE4.out.size;clear hr4 hk4)
  |(at_builtin;(refine wpList_append_own _ rfl _ _ 34 rfl w.heap.size 84 i0 _ 3 40 Tryz.underlying34 hi hz0 hz1 hz2 rfl (by decide) _ _ _ rfl (World.ownsRow_nil _ _ _ _) ⟨_,0,none⟩ 1 1 [.int .u32 5, .int .u64 0, .slice none 0 0] rfl rfl (cells_newA (by simp) #[.int .u32 5, .int .u64 0, .slice none 0 0] _) (by intro u hu;simp at hu;rcases hu with rfl|rfl|rfl<;>rfl) (by unfold maxLen;omega) (by omega) (by simp;omega) ?_;intro v5 w5 ho5 hg5 _;have HO5:=Hm ho5;have HX5:=Hm (show Ext ((w4.alloc (.cells #[.int .u32 5, .int .u64 0, .slice none 0 0] 84)).alloc (.cells #[.int .u32 5, .int .u64 0, .slice none 0 0] 84)) w5 from Below.grown (Ext.refl _) hg5 (Nat.le_refl _) (fun g hg=>by cases hg));clear ho5 hg5)))
 rw [rounds_succ]
 have HS5:=Hm (show Ext w4 w5 from (((Ext.refl w4).alloc _).alloc _).trans HX5.out)
 have HE5:=Hm (HE4.out.trans HS5.out)
 have HR5:=Hm (HR4.out.ext HS5.out)
 have HC5:=Hm (HC4.out.ext HS5.out)
 have HOP:=Hm (sopen_any rv kg w5 HR5.out)
 have HCT:=Hm (scat_any rv kg kg (.slice none 0 0) w5 HR5.out HC5.out)
 obtain ⟨av,cv,rfl⟩:=owns_shape HO5.out
 clear HX5 HE4 HR4 HC4 HTC HR3 HB3 HC3 HE3
 go_wp2_with (first
  |(go_at_call 48;refine HOP.out.mono ?_;rintro e w6 ⟨rfl,rfl⟩)
  |(go_at_call 47;refine HCT.out.mono ?_;rintro e w6 ⟨gc,rfl,hb6⟩;have HX6:=Hm hb6;clear hb6))
 simp [bodyPost,results,Tryz.results23,go_sem]
 exact ⟨owns_ext HO5.out HX6.out,HE5.out.trans HX6.out⟩
end Go.Proofs.YtgmphpccpfaapaaGreatDoor
