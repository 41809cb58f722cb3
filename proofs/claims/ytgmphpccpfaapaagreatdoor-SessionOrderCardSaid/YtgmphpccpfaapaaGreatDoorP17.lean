import Derived.RangeFuncNested
import Derived.RangeFuncBound
import Derived.RangeFuncCalls
import Derived.RangeFuncLeaves
import Derived.RangeFuncBox
import Derived.Shelf.Abstract
import Derived.Shelf.RegionOpen
import Derived.OwnWalkIn
import Derived.TacticsInMore
import Derived.LoopNIn
import Derived.LoopIn
import Derived.RangeFuncOne
import Derived.Test.YtgmphpccpfaapaaGreatDoorP12
import Derived.Test.YtgmphpccpfaapaaGreatDoorP6
import Derived.Test.YtgmphpccpfaapaaGreatDoorP1
import Derived.Test.YtgmphpccpfaapaaGreatDoorP8
set_option maxRecDepth 100000
set_option maxHeartbeats 16000000

namespace Go.Proofs.YtgmphpccpfaapaaGreatDoor
open Go.RowKit Go.Shelf
attribute [local go_sem] Oper.semAt_some
theorem owns_kept {A B:World} {row:Option Nat} {base n size:Nat} {e:TypeId} {v:Value} {xs:List Value} (h:A.ownsRow base e size v n xs) (hg:A.grownBy B row) (hr:∀r,row=some r→∃o:Obj,A.heap[r]? =some o∧o.isCells=false):B.ownsRow base e size v n xs:=by
 refine owns_kp h (Kp.of_grown hg) (fun b hb e=> ?_)
 obtain ⟨o,ho,hn⟩:=hr b e
 rcases h.2 with ⟨rfl,_⟩|⟨g,cap,cur,rfl,hbg,hh,_⟩
 ·simp [Value.ownBlock] at hb
 ·simp [Value.ownBlock] at hb;subst hb
  rw [hh] at ho;cases ho;simp [Obj.isCells] at hn
structure LastAt (N:Nat) (w W:World) (q:RR):Prop where
 c0:W.cell? ⟨w.heap.size+1,0,none⟩=some (.int .u32 q.r.oid)
 c1:W.cell? ⟨w.heap.size+1,1,none⟩=some (.int .u32 q.r.ver)
 c2:W.cell? ⟨w.heap.size+1,2,none⟩=some (.string q.r.nm)
 c3:W.cell? ⟨w.heap.size+1,3,none⟩=some (.int .u8 q.r.id)
 c4:W.cell? ⟨w.heap.size+1,4,none⟩=some (.slice q.a q.r.cols.length q.c)
 b:W.cell? ⟨w.heap.size+1+1,0,none⟩=some (.bool true)
 own:q.owned N W
theorem LastAt.kept {N:Nat} {w A B:World} {q:RR} {row:Option Nat} (h:LastAt N w A q) (hg:A.grownBy B row) (hr:∀r,row=some r→∃o:Obj,A.heap[r]? =some o∧o.isCells=false):LastAt N w B q:=
 ⟨cell_kept h.c0 hg hr,cell_kept h.c1 hg hr,cell_kept h.c2 hg hr,cell_kept h.c3 hg hr,cell_kept h.c4 hg hr,cell_kept h.b hg hr,owns_kept h.own hg hr⟩
end Go.Proofs.YtgmphpccpfaapaaGreatDoor
namespace Go.Proofs.YtgmphpccpfaapaaGreatDoor
open Go.RowKit
variable {F : Fence} {n : Nat} {P : Program}
def SeqTold {α:Type} (F:Fence) (n:Nat) (P:Program) (g:Nat) (lb:Array Value) (encs:α→Array Value) (C:α→World→Prop) (S:List α→Prop) (N B0:Nat) (w:World):Prop:=
 ∀(l:Nat) (J:List α→World→Prop) (W:World),Below w.heap.size w W→AbidesFrom W.heap.size J→
  (∀pre x W1,J pre W1→pre.length<N→C x W1→YieldAt F (n - 1) P l (encs x) W1 fun e W' =>e= .returned (.bool true)∧J (pre++ [x]) W'∧Below B0 W1 W')→
  J [] W→
  CallsIn F n P g (#[.func (.yield l) #[] #[]]++lb) W fun e W' =>(∃v,e= .returned v)∧∃xs,S xs∧J xs W'
def goesOn {α:Type} (B B0:Nat) (I:List α→World→Prop) (xs:List α) (W:World):Exit→Act→World→Prop
 | .normal,_,W' =>KeepsFrom B W W'∧Below B0 W W'∧I xs W'
 |_,_,_=>False
theorem below_putObj {B0:Nat} (W:World) (l:Nat) (o' :Obj) (h:B0≤l):Below B0 W (W.putObj l o'):=
 have hg:=grownBy_putObj' W l o'
 ⟨hg.os,hg.tape,hg.output,hg.size,fun k hk=>by
  rcases Nat.lt_or_ge k W.heap.size with h1|h1
  ·exact hg.block k h1 (fun e=>by cases e;omega)
  ·exact World.putObj_heap_other (by omega)⟩
theorem wpIn_range_told {α:Type} {g:Operand} {ps:Array Tmp} {assign body:Code} {Q:Exit→Act→World→Prop} {a:Act} {w:World}
 (hro:F.round=none) (h1:1≤n) {gf:Nat} {lb:Array Value} (hg:a.eval g= .func (.func gf) #[] lb) (hFg:F.fn gf) (eg:∀args w,(callFunc gf args).run P w= .ok (.enter gf args) w)
 {encs:α→Array Value} {C:α→World→Prop} {S:List α→Prop} {N B0:Nat} {w0:World} (hseq:SeqTold F (n - 1) P gf lb encs C S N B0 w0) (hB0:B0≤w.heap.size) (hb0:Below w0.heap.size w0 w) (hps:∀x,(encs x).size=ps.size)
 (I:List α→World→Prop) (hI:OwnFrom w.heap.size I) (h0:I [] w) (Ax:α→Act→World→Prop)
 (hAx:∀x a' W l o',Ax x a' W→w.heap.size≤l→(∃o,W.heap[l]? =some o∧o.isCells=false)→Ax x a' (W.putObj l o'))
 (hassign:∀(l:Nat) (pre:List α) (x:α) (W:World) (K:Act→World→Prop),I pre W→C x W→(∀a' W',KeepsFrom w.heap.size W W'→Below B0 W W'→I pre W'→Ax x a' W'→K a' W')→
  assign.wpIn (F.inRound l) (n - 1 - 1) P (Exit.then K (fun _ _ _=>False)) { tmps:=(ps.zip (encs x)).foldl (fun t (p,v)=>t.setIfInBounds p v) a.tmps,defers:= [] } W)
 (hbody:∀(l:Nat) (pre:List α) (x:α) (a' :Act) (W:World),I pre W→pre.length<N→Ax x a' W→body.wpIn (F.inRound l) (n - 1 - 1) P (goesOn w.heap.size B0 I (pre++ [x]) W) a' W)
 (hdone:∀(D:Nat) (xs:List α) (W:World),w.heap.size≤D→S xs→I xs W→W.heap[D]? =some (.deferred (some []))→Q .normal { a with defers:= { target:= .collected D,args:= #[] } ::a.defers } W):
 (Code.rangeFunc g ps assign body).wpIn F n P Q a w:=by
 refine wpIn_rangeFunc ?_
 intro fn hfn
 rw [hro]
 have hw0:w0.heap.size≤w.heap.size:=hb0.size
 obtain ⟨rec,hrec⟩:∃rec:LoopState→Option Code→Loop,rec=fun st pe=> { state:=st,pending:=pe,fn,tmps:=a.tmps,params:=ps,assign,body,defers:=w.heap.size } :=⟨_,rfl⟩
 obtain ⟨W1,hW1⟩:∃W1,(w.alloc (.deferred (some []))).alloc (.loop (rec .ready none))=W1:=⟨_,rfl⟩
 have hs1:W1.heap.size=w.heap.size+2:=by rw [←hW1];simp
 have hL1:W1.heap[w.heap.size+1]? =some (.loop (rec .ready none)):=by
  rw [←hW1];have:=World.alloc_heap_new (w.alloc (.deferred (some []))) (.loop (rec .ready none));rwa [World.size_alloc] at this
 have hK1:W1.heap[w.heap.size]? =some (.deferred (some [])):=by
  rw [←hW1];exact (Below.heap_alloc _ _ _ (by simp)).trans (World.alloc_heap_new w _)
 refine ⟨w.heap.size+1, [{ target:= .collected w.heap.size,args:= #[] }],W1, { target:= .fn (.func gf) lb,args:= #[.func (.yield (w.heap.size+1)) #[] #[]] },W1,gf,
  #[.func (.yield (w.heap.size+1)) #[] #[]]++lb,W1, ?_, ?_, ?_, ?_,fun _=>h1, ?_⟩
 ·rw [←hW1,hrec];exact run_enterLoop_outer _ _ _ _ _
 ·simp only [resolve,hg]
  simp [go_sem]
 ·intro f' hf';simp [Target.leads] at hf';subst hf';exact hFg
 ·simp [invoke,go_sem,eg]
 refine (hseq (w.heap.size+1) (fun pre W=>I pre W∧W.heap[w.heap.size+1]? =some (.loop (rec .ready none))∧W.heap[w.heap.size]? =some (.deferred (some []))) W1
  (by rw [←hW1];exact hb0.trans ((((Below.refl _ w).alloc (Nat.le_refl _) _).alloc (by simp) _).mono hw0))
  (fun s A B row hs hg' hr=>⟨hI s A B row hs.1 hg' (fun r e=>by obtain ⟨q1,o,q2,q3⟩:=hr r e;exact ⟨by omega,o,q2,Obj.not_cells_of_walk q3⟩),(grownBy_keeps hg' (fun r e=>(hr r e).2) hs.2.1 rfl).trans hs.2.1,(grownBy_keeps hg' (fun r e=>(hr r e).2) hs.2.2 rfl).trans hs.2.2⟩)
  ?_ ⟨by rw [←hW1];exact hI.alloc _ (hI.alloc _ h0),hL1,hK1⟩).mono ?_
 ·rintro pre x W ⟨hi,hl,hk⟩ hlen hc
  have hlt:w.heap.size+1<W.heap.size:=(Array.getElem?_eq_some_iff.1 hl).1
  have hy:=run_yield (P:=P) (args:=encs x) hl (by rw [hrec];exact hps x)
  rw [hrec] at hy
  refine ⟨fn,_,assign,body,hy,roundIn_of_wpIn hfn (hassign _ pre x W _ hi hc (fun a' W' hkp hbl hi' hax=> ?_))⟩
  have hl' :W'.heap[w.heap.size+1]? =some (.loop (rec .ready none)):=hkp.same _ _ (by omega) hl rfl
  have hk' :W'.heap[w.heap.size]? =some (.deferred (some [])):=hkp.same _ _ (Nat.le_refl _) hk rfl
  have hlt' :w.heap.size+1<W'.heap.size:=(Array.getElem?_eq_some_iff.1 hl').1
  refine ⟨_,run_beginRound hl' (by rw [hrec]), ?_⟩
  obtain ⟨V,hV⟩:∃V,V=W'.putObj (w.heap.size+1) (.loop { rec .ready none with state:= .busy }):=⟨_,rfl⟩
  have hl2:V.heap[w.heap.size+1]? =some (.loop { rec .ready none with state:= .busy }):=by rw [hV];exact World.putObj_heap_same hlt'
  have hk2:V.heap[w.heap.size]? =some (.deferred (some [])):=by rw [hV];exact (World.putObj_heap_other (by omega)).trans hk'
  have hVb:Below B0 W V:=by rw [hV];exact hbl.trans (below_putObj _ _ _ (by omega))
  have hVI:I pre V:=by rw [hV];exact hI.putObj _ hi' (by omega) hl' rfl
  have hVA:Ax x a' V:=by rw [hV];exact hAx x a' W' _ _ hax (by omega) ⟨_,hl',rfl⟩
  rw [←hV]
  refine wpIn_mono (hbody _ pre x a' V hVI hlen hVA) ?_
  rintro e a3 W3 hp
  cases e with
  |normal=>
   obtain ⟨hk3,hkp3,hi3⟩:=hp
   have hl3:=hk3.same _ _ (by omega) hl2 rfl
   have hr:=run_endRound (P:=P) none hl3
   refine ⟨_,_,hr,rfl,⟨hI.putObj _ hi3 (by omega) hl3 rfl, ?_,(World.putObj_heap_other (by omega)).trans (hk3.same _ _ (Nat.le_refl _) hk2 rfl)⟩,(hVb.trans hkp3).trans (below_putObj _ _ _ (by omega))⟩
   rw [World.putObj_heap_same (Array.getElem?_eq_some_iff.1 hl3).1,hrec];rfl
  |_=>exact hp.elim
 ·rintro e W2 ⟨⟨v,rfl⟩,xs,hS,hi,hl,hk⟩
  exact ⟨none,_,by have:=run_endLoop (P:=P) hl (by rw [hrec];simp);rw [hrec] at this;exact this,hdone _ xs _ (Nat.le_refl _) hS (hI.putObj _ hi (by omega) hl rfl) ((World.putObj_heap_other (by omega)).trans hk)⟩
open Go.RowKit Go.Shelf
attribute [local go_sem] Oper.semAt_some
def encA (q:RR):Array Value:= #[.agg #[.int .u32 q.r.oid, .int .u32 q.r.ver], .agg #[.int .u32 q.r.oid, .int .u32 q.r.ver, .string q.r.nm, .int .u8 q.r.id, .slice q.a q.r.cols.length q.c]]
theorem ext_grown {w w' :World} (h:Ext w w'):w.grownBy w' none:=⟨h.os,h.tape,h.output,h.size,fun k hk _=>h.block k hk⟩
theorem all1_in (F:Fence) (n:Nat) (hFe:F=Fence.wide) (hF:F.fn 111) (hOF:F.fn 66) (hro:F.round=none) (hn:1≤n) (l Bs:Nat) (w0:World) (N g:Nat) (c:Value) (ps:List RR) (hc:Hid (Ca w0 N g c ps))
 (J:List RR→World→Prop) (W0:World) (hJ:Hid (AbidesFrom W0.heap.size J))
 (hY:Hid (∀pre x W,J pre W→pre.length<ps.length→x.in W→x.r.cols.length≤1000→(x.r∈ps.map RR.r∧x.r.cols.length≤x.c)→YieldAt F (n - 1) Tryz.prog l (encA x) W fun e W' =>e= .returned (.bool true)∧J (pre++ [x]) W'∧Below w0.heap.size W W'))
 (hE:Hid (Ext w0 W0)) (hBs:W0.cell? ⟨Bs,0,none⟩=some (.pointer (some ⟨g,0,none⟩))) (h0:Hid (J [] W0)):
 CallsIn F n Tryz.prog 111 #[.func (.yield l) #[] #[], .pointer (some ⟨Bs,0,none⟩)] W0 fun e W' =>(∃v,e= .returned v)∧∃ys,ys.map RR.r=ps.map RR.r∧J ys W' :=by
 obtain ⟨a,cap,rfl⟩:=hc.out.shape
 have HOW:=Hm (fun m (p:RR) (hp:p∈ps) W (h:Ext w0 W)=>(show CallsIn F m Tryz.prog 66 #[p.agg] W _ from by rw [hFe];exact callsIn_wide.2 (pown_any p W ((hc.out.sl p hp).ext h) (by have:=hc.out.n16 hp;omega))))
 have hB0:=hBs
 have g0:=(hc.out.ptr.ext hE.out).cell
 have z0:=(hc.out.ptr.ext hE.out).lt
 have HL:=Hm hc.out.rl.row
 have hn64:=hc.out.n64
 have H16:=Hm (fun p hp=>hc.out.n16 (p:=p) hp)
 have mixed:Tryz.prog.follows .mixedOrders=true:=by kernel_rfl
 clear hFe hc hBs
 refine callsIn_of_wp Tryz.func111 rfl hF ?_ hro
 simp only [Tryz.ntmps111,List.size_toArray,List.length_cons,List.length_nil,Nat.reduceAdd,Nat.reduceSub,Array.replicate_succ,Array.replicate_zero,List.push_toArray,List.append_toArray,List.nil_append,List.cons_append]
 gi_wp2
 clear hB0 g0 z0
 gi_loopw [10] (fun i wr=>∃(k:Nat) (ys:List RR),k≤ps.length∧i= .int .i64 k∧Hid (ys.map RR.r=(ps.map RR.r).take k)∧Hid (J ys wr)∧Hid (Ext w0 wr)) (fun i _=>ps.length - (intOf i).toNat)
 case atStart=>exact ⟨0, [],Nat.zero_le _,rfl,Hm rfl,h0,hE⟩
 case round=>
  obtain ⟨k,ys,hk,rfl,hys,hJs,hEw⟩:=hrel
  by_cases hlt:k<ps.length
  ·obtain ⟨b,o,rfl,hb,hx⟩:=HL.out.at_ (i:=k) (by simpa using hlt)
   obtain ⟨f0,f1,f2,f3,f4⟩:=RR.at_ hlt hx hb hEw.out
   have hbw:b<wr.heap.size:=Nat.lt_of_lt_of_le hb hEw.out.size
   have hpm:ps[k]∈ps:=List.getElem_mem hlt
   have HOWp:=Hm (fun m W (h:Ext w0 W)=>HOW.out m ps[k] hpm W h)
   have HN:=Hm (H16.out _ hpm)
   have HPM:Hid (ps[k].r∈ps.map RR.r):=Hm (List.mem_map_of_mem hpm)
   have HLEN:Hid (ys.length<ps.length):=Hm (by have:=congrArg List.length hys.out;simp at this;omega)
   have HT:Hid ((ps.map RR.r).take (k+1)=(ps.map RR.r).take k++ [ps[k].r]):=Hm (by rw [List.take_succ_eq_append_getElem (by simpa using hlt),List.getElem_map])
   obtain ⟨p,hp⟩:∃p,p=ps[k]:=⟨_,rfl⟩
   rw [←hp] at f0 f1 f2 f3 f4 HOWp HN HT HPM
   unfold RR.agg at HOWp
   clear hx hp hpm
   gi_wp2
   have HW1:Hid (Ext wr (wr.alloc (.cells #[.int .u32 p.r.oid, .int .u32 p.r.ver, .string p.r.nm, .int .u8 p.r.id, .slice p.a p.r.cols.length p.c] 72))):=Hm ((Ext.refl wr).alloc _)
   have hbx:=(Blk.new wr #[.int .u32 p.r.oid, .int .u32 p.r.ver, .string p.r.nm, .int .u8 p.r.id, .slice p.a p.r.cols.length p.c] 72).cell
   gi_region_with_o (first
    |(gi_at_call 66;refine (HOWp.out _ _ (hEw.out.trans (by exact eX))).mono ?_;rintro e w5 ⟨⟨r',a',c'⟩,rfl,hqr,hqo,hb5⟩;simp only at hqr;subst hqr;have HX5:=Hm (show Ext wr w5 by exact eX);have HQI:=Hm (RR.owned.in hqo);have HQC:=Hm (owns_cap hqo);have hbx5:=((Blk.new wr #[.int .u32 p.r.oid, .int .u32 p.r.ver, .string p.r.nm, .int .u8 p.r.id, .slice p.a p.r.cols.length p.c] 72).ext (show Ext (wr.alloc (.cells #[.int .u32 p.r.oid, .int .u32 p.r.ver, .string p.r.nm, .int .u8 p.r.id, .slice p.a p.r.cols.length p.c] 72)) w5 by exact eX)).cell;obtain ⟨fn,tmps,assign,body,hy,hR⟩:=hY.out ys ⟨p.r,a',c'⟩ w5 (hJ.out _ _ _ none hJs.out (ext_grown HX5.out) (by simp)) HLEN.out HQI.out (by have:=HN.out;simp only;omega) ⟨HPM.out,HQC.out⟩;simp only [encA] at hy;clear hqo hb5;try simp only)
    |(refine hR.mono ?_;rintro e W3 ⟨rfl,hJ3,hk3⟩))
   all_goals
    gi_wp2
    go_roundw
    case rel=>exact ⟨k+1,_,by omega,by go_num,Hm (by rw [List.map_append,hys.out,HT.out];rfl),Hm hJ3,Hm (Below.trans (hEw.out.trans HX5.out) hk3)⟩
    case measure=>simp [intOf];omega
  ·obtain rfl:k=ps.length:=by omega
   have hys2:=hys.out
   rw [show ps.length=(ps.map RR.r).length by simp,List.take_length] at hys2
   gi_wp2
   go_end0
   exact ⟨⟨_,rfl⟩,ys,hys2,hJs.out⟩
theorem all_in (F:Fence) (n:Nat) (hF:F.fn 82) (hro:F.round=none) (g:Nat) (w:World):
 CallsIn F n Tryz.prog 82 #[.pointer (some ⟨g,0,none⟩)] w fun e w' =>e= .returned (.func (.func 111) #[] #[.pointer (some ⟨w.heap.size,0,none⟩)])∧w' =w.alloc (.cells #[.pointer (some ⟨g,0,none⟩)] 26):=by
 refine callsIn_of_wp Tryz.func82 rfl hF ?_ hro
 simp only [Tryz.ntmps82,List.size_toArray,List.length_cons,List.length_nil,Nat.reduceAdd,Nat.reduceSub,Array.replicate_succ,Array.replicate_zero,List.push_toArray,List.append_toArray,List.nil_append,List.cons_append]
 gi_wp2
 go_ret
 exact ⟨rfl,rfl⟩
end Go.Proofs.YtgmphpccpfaapaaGreatDoor
namespace Go.Proofs.YtgmphpccpfaapaaGreatDoor
open Go.RowKit
def RR.rowned (N:Nat) (W:World) (q:RR):Prop:=W.ownsRow N 103 3 (.slice q.a q.r.cols.length q.c) q.r.cols.length (q.r.cols.map Col.cells).flatten
theorem RR.rowned.in {N:Nat} {W:World} {q:RR} (h:q.rowned N W):q.in W:=Sl.of_owns (base:=N) (e:=103) (by rw [List.length_map];exact h) (by intro xs hxs;simp at hxs;obtain ⟨_,_,rfl⟩:=hxs;rfl)
theorem RR.rowned.at_ {N:Nat} {W:World} {q:RR} (h:q.rowned N W) {b o:Nat} (e:q.a=some ⟨b,o,none⟩):N≤b∧b<W.heap.size:=h.lt b (by rw [e];rfl)
theorem RR.rowned.ext {N:Nat} {W W' :World} {q:RR} (h:q.rowned N W) (he:Ext W W'):q.rowned N W' :=owns_ext h he
theorem RR.rowned.mono {N M:Nat} {W:World} {q:RR} (h:q.rowned N W) (hm:M≤N):q.rowned M W:=owns_base h hm
open Go.RowKit Go.Shelf
attribute [local go_sem] Oper.semAt_some
theorem run_equalIn_func_nil {P:Program} (w:World) (d:Nat) (t:TypeId) (f:Fn) (xs ys:Array Value) {p:Array TypeId} {r:Array TypeId} {v:Bool} (h:P.underlying t=some (.func p r v)):(Op.equalIn (d+1) t (.func f xs ys) .nilFunc).run P w= .ok false w:=by
 simp [Op.equalIn,run_underlying h]
@[go_sem] theorem run_eql_func_nil {P:Program} (w:World) (t:TypeId) (f:Fn) (xs ys:Array Value) {p:Array TypeId} {r:Array TypeId} {v:Bool} (h:P.underlying t=some (.func p r v)):(binOp .eql t (.func f xs ys) .nilFunc).run P w= .ok (.bool false) w:=by
 have e:(Op.equal t (.func f xs ys) .nilFunc).run P w= .ok false w:=by
  exact run_equalIn_func_nil w 9999 t f xs ys h
 simp [binOp,e]
structure BkR (W:World) (N:Nat) (rs:List Rl) (v:Value) (qs:List RR):Prop where
 own:W.ownsRow N 44 5 v qs.length (qs.map RR.cells).flatten
 r:qs.map RR.r=rs
 sl:∀q∈qs,q.rowned N W
 ne:∀q∈qs,∀b o,q.a=some ⟨b,o,none⟩→v.ownBlock≠some b
theorem BkR.nil (W:World) (N:Nat):BkR W N [] (.slice none 0 0) []:=⟨World.ownsRow_nil _ _ _ _,rfl,(fun q h=>by cases h),(fun q h=>by cases h)⟩
theorem BkR.ext {W W' :World} {N:Nat} {rs:List Rl} {qs:List RR} {v:Value} (h:BkR W N rs v qs) (he:Ext W W'):BkR W' N rs v qs:=⟨owns_ext h.own he,h.r,fun q hq=>(h.sl q hq).ext he,h.ne⟩
theorem rowned_kp {S:Nat→Prop} {W W' :World} {N:Nat} {x:RR} (h2:x.rowned N W) (hk1:Kp S W W') (h3:∀b o,x.a=some ⟨b,o,none⟩→¬ S b):x.rowned N W' :=by
 refine owns_kp h2 hk1 (fun b hb=> ?_)
 obtain ⟨xr,xa,xc⟩:=x
 cases xa with
 |none=>cases hb
 |some ad=>
  obtain ⟨b',o',sp⟩:=ad
  have hb' :b' =b:=by simpa [Value.ownBlock] using hb
  subst hb'
  rcases h2.2 with ⟨hv, -⟩|⟨g,cap,cur,hv, -⟩
  ·cases hv
  ·simp only [Value.slice.injEq,Option.some.injEq,Addr.mk.injEq] at hv
   obtain ⟨⟨rfl,rfl,rfl⟩, -⟩:=hv
   exact h3 _ _ rfl
theorem BkR.kept {W W' :World} {N:Nat} {rs:List Rl} {qs:List RR} {v:Value} {row:Option Nat} (h:BkR W N rs v qs) (hg:W.grownBy W' row) (hr:∀r,row=some r→∃o:Obj,W.heap[r]? =some o∧o.isCells=false):BkR W' N rs v qs:=
 ⟨owns_kept h.own hg hr,h.r,fun q hq=>owns_kept (h.sl q hq) hg hr,h.ne⟩
theorem BkR.set {W:World} {N:Nat} {rs:List Rl} {qs:List RR} {v:Value} (h:BkR W N rs v qs) {p:Addr} (hp:p.block<N) (u:Value):BkR (W.setCell p u) N rs v qs:=⟨owns_set h.own hp u,h.r,fun q hq=>owns_set (h.sl q hq) hp u,h.ne⟩
theorem BkR.push {W W' :World} {N:Nat} {rs:List Rl} {qs:List RR} {v v' :Value} {q:RR} (h:BkR W N rs v qs) (hs:q.rowned N W) (hn:∀b o,q.a=some ⟨b,o,none⟩→v.ownBlock≠some b)
 (hg:W.grownBy W' v.ownBlock) (hat:v'.ownBlock=v.ownBlock∨v'.ownBlock=some W.heap.size) (ho:W'.ownsRow N 44 5 v' (qs.length+1) ((qs.map RR.cells).flatten++q.cells)):BkR W' N (rs++ [q.r]) v' (qs++ [q]):=by
 have hall:∀x∈qs++ [q],x.rowned N W∧∀b o,x.a=some ⟨b,o,none⟩→v.ownBlock≠some b:=fun x hx=>by
  rcases List.mem_append.1 hx with hx|hx
  ·exact ⟨h.sl x hx,h.ne x hx⟩
  ·obtain rfl:x=q:=by simpa using hx
   exact ⟨hs,hn⟩
 refine ⟨by simpa using ho,by rw [List.map_append,h.r];rfl,fun x hx=>rowned_kp (hall x hx).1 (Kp.of_grown hg) (hall x hx).2,fun x hx b o e=> ?_⟩
 obtain ⟨h2,h3⟩:=hall x hx
 rcases hat with h4|h4
 ·rw [h4];exact h3 b o e
 ·rw [h4];intro h5;injection h5 with h5
  have:=(h2.at_ e).2;omega
theorem BkR.rl {W:World} {N:Nat} {rs:List Rl} {qs:List RR} {v:Value} (h:BkR W N rs v qs):RL W v qs:=⟨Sl.of_owns (base:=N) (e:=44) (by rw [List.length_map];exact h.own) (RR.len qs),fun q hq=>(h.sl q hq).in⟩
end Go.Proofs.YtgmphpccpfaapaaGreatDoor
namespace Go.Proofs.YtgmphpccpfaapaaGreatDoor
open Go.RowKit
theorem rsame8_any (p q:RR) (w:World) (hp:p.in w) (hq:q.in w) (hlen:p.r.cols.length≤1000) (hlen2:q.r.cols.length≤9223372036854775807):
 Calls Tryz.prog 58 #[p.agg,q.agg] w fun e w' =>e= .returned (.bool (rlB p.r q.r))∧Ext w w' :=by
 obtain ⟨⟨o1,v1,n1,i1,c1⟩,a1,k1⟩:=p
 obtain ⟨⟨o2,v2,n2,i2,c2⟩,a2,k2⟩:=q
 unfold RR.agg
 unfold RR.in at hp hq
 simp only at hp hq hlen hlen2⊢
 have HL:=Hm hp
 have HM:=Hm hq
 have hc:=rl_cases (⟨o1,v1,n1,i1,c1⟩:Rl) (⟨o2,v2,n2,i2,c2⟩:Rl)
 simp only at hc
 clear hp hq
 obtain ⟨R,hR⟩:∃R,R=rlB (⟨o1,v1,n1,i1,c1⟩:Rl) (⟨o2,v2,n2,i2,c2⟩:Rl):=⟨_,rfl⟩
 rw [←hR] at hc⊢
 clear hR
 rcases hc with ⟨h1,h0⟩|⟨rfl,h1,h0⟩|⟨rfl,rfl,h1,h0⟩|⟨rfl,rfl,rfl,h1,h0⟩|⟨rfl,rfl,rfl,rfl,h0⟩
 ·have e1:(o1==o2)=false:=by simpa using h1
  have H0:=Hm h0
  clear h0 h1
  go_enter Tryz.func58,Tryz.ntmps58
  go_wp2
  go_ret
  exact ⟨ret_bool H0.out.symm,by exact eX⟩
 ·have e1:(v1==v2)=false:=by simpa using h1
  have H0:=Hm h0
  clear h0 h1
  go_enter Tryz.func58,Tryz.ntmps58
  go_wp2
  go_ret
  exact ⟨ret_bool H0.out.symm,by exact eX⟩
 ·have e1:(n1.toList==n2.toList)=false:=by rw [str_beq2];exact decide_eq_false h1
  have e2:(n1.toList !=n2.toList)=true:=by unfold bne;rw [e1];rfl
  have H0:=Hm h0
  clear h0 h1
  go_enter Tryz.func58,Tryz.ntmps58
  go_wp2
  go_ret
  exact ⟨ret_bool H0.out.symm,by exact eX⟩
 ·have e1:(i1 !=i2)=true:=by simpa using h1
  have H0:=Hm h0
  clear h0 h1
  go_enter Tryz.func58,Tryz.ntmps58
  go_wp2
  go_ret
  exact ⟨ret_bool H0.out.symm,by exact eX⟩
 by_cases hn:c1.length=c2.length
 case neg=>
  have hn' :(((c1.length:Nat):Int) !=((c2.length:Nat):Int))=true:=by simp;omega
  have H0:=Hm (h0.trans (colsB_false.2 (fun h=>hn (by rw [h]))))
  clear h0 hn
  go_enter Tryz.func58,Tryz.ntmps58
  go_wp2
  go_ret
  exact ⟨ret_bool H0.out.symm,by exact eX⟩
 have hn' :(((c1.length:Nat):Int) !=((c2.length:Nat):Int))=false:=by simp;omega
 have H0:=Hm h0
 have HN:=Hm hn
 clear h0 hn
 go_enter Tryz.func58,Tryz.ntmps58
 go_wp2
 go_loopw [5] (fun i wr=>∃k:Nat,k≤c1.length∧i= .int .i64 k∧Hid (∀j (h1:j<c1.length) (h2:j<c2.length),j<k→c1[j]=c2[j])∧Hid (Ext ((w.alloc (.cells #[.int .u32 o1, .int .u32 v1, .string n1, .int .u8 i1, .slice a1 c1.length k1] 44)).alloc (.cells #[.int .u32 o1, .int .u32 v1, .string n1, .int .u8 i1, .slice a2 c2.length k2] 44)) wr)) (fun i _=>c1.length - (intOf i).toNat)
 case atStart=>exact ⟨0,Nat.zero_le _,rfl,fun j _ _ h=>by omega,Hm (Ext.refl _)⟩
 case round=>
  obtain ⟨k,hk,rfl,hrel,hE⟩:=hrel
  have HEW:=Hm ((((Ext.refl w).alloc (.cells #[.int .u32 o1, .int .u32 v1, .string n1, .int .u8 i1, .slice a1 c1.length k1] 44)).alloc (.cells #[.int .u32 o1, .int .u32 v1, .string n1, .int .u8 i1, .slice a2 c2.length k2] 44)).trans hE.out)
  have HB0:=Hm (((Blk.new w #[.int .u32 o1, .int .u32 v1, .string n1, .int .u8 i1, .slice a1 c1.length k1] 44).alloc (.cells #[.int .u32 o1, .int .u32 v1, .string n1, .int .u8 i1, .slice a2 c2.length k2] 44)).ext hE.out)
  have HB1:=Hm ((Blk.new' (w:=w.alloc (.cells #[.int .u32 o1, .int .u32 v1, .string n1, .int .u8 i1, .slice a1 c1.length k1] 44)) (b:=w.heap.size+1) #[.int .u32 o1, .int .u32 v1, .string n1, .int .u8 i1, .slice a2 c2.length k2] 44 (by simp)).ext hE.out)
  have g0:=HB0.out.cell
  have z0:=HB0.out.lt
  have g1:=HB1.out.cell
  have z1:=HB1.out.lt
  by_cases hlt:k<c1.length
  ·have hlt2:k<c2.length:=by have:=HN.out;omega
   obtain ⟨b1,q1,rfl,hb1,hx1⟩:=HL.out.at_ (i:=k) (by simpa using hlt)
   obtain ⟨f0,f1,f2⟩:=Col.at_ hlt hx1 hb1 HEW.out
   obtain ⟨b2,q2,rfl,hb2,hx2⟩:=HM.out.at_ (i:=k) (by simpa using hlt2)
   obtain ⟨p0,p1,p2⟩:=Col.at_ hlt2 hx2 hb2 HEW.out
   have hbw:b1<wr.heap.size:=Nat.lt_of_lt_of_le hb1 HEW.out.size
   have hbw2:b2<wr.heap.size:=Nat.lt_of_lt_of_le hb2 HEW.out.size
   have hNq:=fun w=>neq_rcol c1[k] c2[k] w
   cases hA:colB c1[k] c2[k] with
   |true=>
    rw [hA] at hNq
    have HA:=Hm (colB_true.1 hA)
    clear hA hx1 hx2
    go_wp2
    go_region_held3 (fun w' =>Ext (wr) w'∧(∀b o,b<(wr).heap.size→w'.cell? ⟨b,o,none⟩=(wr).cell? ⟨b,o,none⟩)∧(∀b o,b<(wr).heap.size→w'.frozen? ⟨b,o,none⟩=(wr).frozen? ⟨b,o,none⟩)) ((exact held_of (by exact eX))) (fail)
    go_wp2
    go_roundw
    case rel=>exact ⟨k+1,by omega,by go_num,fun j h1 h2 hjk=>by
     by_cases e:j=k
     ·subst e;exact HA.out
     ·exact hrel.out j h1 h2 (by omega),Hm (hE.out.trans (by exact eX))⟩
    case measure=>simp [intOf];omega
   |false=>
    rw [hA] at hNq
    have HR:=Hm (H0.out.trans (show colsB c1 c2=false from colsB_false.2 (fun h=>by subst h;rw [colB_true.2 rfl] at hA;cases hA)))
    clear hA hx1 hx2
    go_wp2
    go_region_held3 (fun w' =>Ext (wr) w'∧(∀b o,b<(wr).heap.size→w'.cell? ⟨b,o,none⟩=(wr).cell? ⟨b,o,none⟩)∧(∀b o,b<(wr).heap.size→w'.frozen? ⟨b,o,none⟩=(wr).frozen? ⟨b,o,none⟩)) ((exact held_of (by exact eX))) (fail)
    go_wp2
    go_ret
    exact ⟨ret_bool HR.out.symm,HEW.out.trans (by exact eX)⟩
  ·have hkk:k=c1.length:=by omega
   have HR:=Hm (H0.out.trans (show colsB c1 c2=true from colsB_true.2 (List.ext_getElem HN.out (fun i h1 h2=>hrel.out i h1 h2 (by omega)))))
   subst hkk
   go_wp2
   go_ret
   exact ⟨ret_bool HR.out.symm,HEW.out⟩
theorem cget_is {N g:Nat} {c:Value} {ps:List RR} {o v:Int} {w:World} (hc:Ca w N g c ps) {x:Rl} (h:getR o v (ps.map RR.r)=some x):
 Calls Tryz.prog 36 #[.pointer (some ⟨g,0,none⟩), .agg #[.int .u32 o, .int .u32 v]] w fun e w' =>∃q:RR,e= .returned (.tuple #[.agg #[.int .u32 x.oid, .int .u32 x.ver, .string x.nm, .int .u8 x.id, .slice q.a x.cols.length q.c], .bool true])∧q.r=x∧q.owned w.heap.size w'∧Ext w w' :=by
 refine (cget_any N g c ps o v w hc).mono fun e w' hq=> ?_
 obtain ⟨q,h1,h2,h3,h4⟩:=hq
 have hh:hasR o v (ps.map RR.r)=true:=by
  cases e2:hasR o v (ps.map RR.r) with
  |true=>rfl
  |false=>rw [getR_none.2 e2] at h;cases h
 have hg:(getP o v ps).map RR.r=some x:=(getP_map o v ps).trans h
 obtain ⟨p,hp,hpx⟩:=Option.map_eq_some_iff.1 hg
 rw [hp,Option.getD_some,hpx] at h2
 refine ⟨q, ?_,h2,h3,h4⟩
 rw [h1,hh]
 unfold RR.agg
 rw [h2]
end Go.Proofs.YtgmphpccpfaapaaGreatDoor
