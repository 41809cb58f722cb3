/-
A range over an iterator that hands out what it has laid down itself, whose own memory a round leaves as it was: whatever relation of worlds says so.
-/
import Derived.RangeFuncNested
import Derived.Test.YtgmphpccpfaapaaGreatDoorP17
import Derived.Test.YtgmphpccpfaapaaGreatDoorP25
import Derived.Test.YtgmphpccpfaapaaGreatDoorP22
import Derived.Test.YtgmphpccpfaapaaGreatDoorP20
import Derived.Test.YtgmphpccpfaapaaGreatDoorP19
import Derived.Test.YtgmphpccpfaapaaGreatDoorP4
import Derived.Test.YtgmphpccpfaapaaGreatDoorP7
import Derived.Test.YtgmphpccpfaapaaGreatDoorP12
set_option maxRecDepth 100000
set_option maxHeartbeats 16000000
namespace Go.Proofs.YtgmphpccpfaapaaGreatDoor
open Go.RowKit
variable {F : Fence} {n : Nat} {P : Program}
def SeqToldK {α:Type} (F:Fence) (n:Nat) (P:Program) (g:Nat) (lb:Array Value) (encs:α→Array Value) (C:α→World→Prop) (S:List α→Prop) (N:Nat) (Kp:World→World→Prop) (w:World):Prop:=
 ∀(l:Nat) (J:List α→World→Prop) (W:World),Below w.heap.size w W→AbidesFrom W.heap.size J→
  (∀pre x W1,J pre W1→pre.length<N→C x W1→YieldAt F (n - 1) P l (encs x) W1 fun e W' =>e= .returned (.bool true)∧J (pre++ [x]) W'∧Kp W1 W')→
  J [] W→
  CallsIn F n P g (#[.func (.yield l) #[] #[]]++lb) W fun e W' =>(∃v,e= .returned v)∧∃xs,S xs∧J xs W'
def goesOnK {α:Type} (B:Nat) (Kp:World→World→Prop) (I:List α→World→Prop) (xs:List α) (W:World):Exit→Act→World→Prop
 | .normal,_,W' =>KeepsFrom B W W'∧Kp W W'∧I xs W'
 |_,_,_=>False
theorem wpIn_range_toldK {α:Type} {g:Operand} {ps:Array Tmp} {assign body:Code} {Q:Exit→Act→World→Prop} {a:Act} {w:World}
 (hro:F.round=none) (h1:1≤n) {gf:Nat} {lb:Array Value} (hg:a.eval g= .func (.func gf) #[] lb) (hFg:F.fn gf) (eg:∀args w,(callFunc gf args).run P w= .ok (.enter gf args) w)
 {encs:α→Array Value} {C:α→World→Prop} {S:List α→Prop} {N:Nat} {Kp:World→World→Prop} {w0:World} (hseq:SeqToldK F (n - 1) P gf lb encs C S N Kp w0) (hb0:Below w0.heap.size w0 w) (hps:∀x,(encs x).size=ps.size)
 (hKt:∀ {A B C:World},Kp A B→Kp B C→Kp A C) (hKb:∀(W:World) (l:Nat) (r:Loop) (o' :Obj),w.heap.size≤l→W.heap[l]? =some (.loop r)→Kp W (W.putObj l o'))
 (I:List α→World→Prop) (hI:OwnFrom w.heap.size I) (h0:I [] w) (Ax:α→Act→World→Prop)
 (hAx:∀x a' W l o',Ax x a' W→w.heap.size≤l→(∃o,W.heap[l]? =some o∧o.isCells=false)→Ax x a' (W.putObj l o'))
 (hassign:∀(l:Nat) (pre:List α) (x:α) (W:World) (K:Act→World→Prop),I pre W→C x W→(∀a' W',KeepsFrom w.heap.size W W'→Kp W W'→I pre W'→Ax x a' W'→K a' W')→
  assign.wpIn (F.inRound l) (n - 1 - 1) P (Exit.then K (fun _ _ _=>False)) { tmps:=(ps.zip (encs x)).foldl (fun t (p,v)=>t.setIfInBounds p v) a.tmps,defers:= [] } W)
 (hbody:∀(l:Nat) (pre:List α) (x:α) (a' :Act) (W:World),I pre W→pre.length<N→Ax x a' W→body.wpIn (F.inRound l) (n - 1 - 1) P (goesOnK w.heap.size Kp I (pre++ [x]) W) a' W)
 (hdone:∀(D:Nat) (xs:List α) (W:World),w.heap.size≤D→S xs→I xs W→W.heap[D]? =some (.deferred (some []))→Q .normal { a with defers:= { target:= .collected D,args:= #[] } ::a.defers } W):
 (Code.rangeFunc g ps assign body).wpIn F n P Q a w:=by
 refine wpIn_rangeFunc ?_
 intro fn hfn
 rw [hro]
 obtain ⟨rec,hrec⟩:∃rec:LoopState→Option Code→Loop,rec=fun st pe=> { state:=st,pending:=pe,fn,tmps:=a.tmps,params:=ps,assign,body,defers:=w.heap.size } :=⟨_,rfl⟩
 obtain ⟨W1,hW1⟩:∃W1,(w.alloc (.deferred (some []))).alloc (.loop (rec .ready none))=W1:=⟨_,rfl⟩
 have hs1:W1.heap.size=w.heap.size+2:=by rw [←hW1];simp
 have hL1:W1.heap[w.heap.size+1]? =some (.loop (rec .ready none)):=by
  rw [←hW1];have:=World.alloc_heap_new (w.alloc (.deferred (some []))) (.loop (rec .ready none));rwa [World.size_alloc] at this
 have hK1:W1.heap[w.heap.size]? =some (.deferred (some [])):=by
  rw [←hW1];exact (Below.heap_alloc _ _ _ (by simp)).trans (World.alloc_heap_new w _)
 refine ⟨w.heap.size+1, [{ target:= .collected w.heap.size,args:= #[] }],W1, { target:= .fn (.func gf) lb,args:= #[.func (.yield (w.heap.size+1)) #[] #[]] },W1,gf,
  #[.func (.yield (w.heap.size+1)) #[] #[]]++lb,W1, ?_, ?_, ?_, ?_,fun _=>h1, ?_⟩
 ·rw [←hW1,hrec];exact run_enterLoop_outer _ _ _ _ _
 ·simp only [resolve,hg]
  simp [go_sem]
 ·intro f' hf';simp [Target.leads] at hf';subst hf';exact hFg
 ·simp [invoke,go_sem,eg]
 refine (hseq (w.heap.size+1) (fun pre W=>I pre W∧W.heap[w.heap.size+1]? =some (.loop (rec .ready none))∧W.heap[w.heap.size]? =some (.deferred (some []))) W1
  (by rw [←hW1];exact hb0.trans ((((Below.refl _ w).alloc (Nat.le_refl _) _).alloc (by simp) _).mono hb0.size))
  (fun s A B row hs hg' hr=>⟨hI s A B row hs.1 hg' (fun r e=>by obtain ⟨q1,o,q2,q3⟩:=hr r e;exact ⟨by omega,o,q2,Obj.not_cells_of_walk q3⟩),(grownBy_keeps hg' (fun r e=>(hr r e).2) hs.2.1 rfl).trans hs.2.1,(grownBy_keeps hg' (fun r e=>(hr r e).2) hs.2.2 rfl).trans hs.2.2⟩)
  ?_ ⟨by rw [←hW1];exact hI.alloc _ (hI.alloc _ h0),hL1,hK1⟩).mono ?_
 ·rintro pre x W ⟨hi,hl,hk⟩ hlen hc
  have hlt:w.heap.size+1<W.heap.size:=(Array.getElem?_eq_some_iff.1 hl).1
  have hy:=run_yield (P:=P) (args:=encs x) hl (by rw [hrec];exact hps x)
  rw [hrec] at hy
  refine ⟨fn,_,assign,body,hy,roundIn_of_wpIn hfn (hassign _ pre x W _ hi hc (fun a' W' hkp hbl hi' hax=> ?_))⟩
  have hl' :W'.heap[w.heap.size+1]? =some (.loop (rec .ready none)):=hkp.same _ _ (by omega) hl rfl
  have hk' :W'.heap[w.heap.size]? =some (.deferred (some [])):=hkp.same _ _ (Nat.le_refl _) hk rfl
  have hlt' :w.heap.size+1<W'.heap.size:=(Array.getElem?_eq_some_iff.1 hl').1
  refine ⟨_,run_beginRound hl' (by rw [hrec]), ?_⟩
  obtain ⟨V,hV⟩:∃V,V=W'.putObj (w.heap.size+1) (.loop { rec .ready none with state:= .busy }):=⟨_,rfl⟩
  have hl2:V.heap[w.heap.size+1]? =some (.loop { rec .ready none with state:= .busy }):=by rw [hV];exact World.putObj_heap_same hlt'
  have hk2:V.heap[w.heap.size]? =some (.deferred (some [])):=by rw [hV];exact (World.putObj_heap_other (by omega)).trans hk'
  have hVb:Kp W V:=by rw [hV];exact hKt hbl (hKb _ _ _ _ (by omega) hl')
  have hVI:I pre V:=by rw [hV];exact hI.putObj _ hi' (by omega) hl' rfl
  have hVA:Ax x a' V:=by rw [hV];exact hAx x a' W' _ _ hax (by omega) ⟨_,hl',rfl⟩
  rw [←hV]
  refine wpIn_mono (hbody _ pre x a' V hVI hlen hVA) ?_
  rintro e a3 W3 hp
  cases e with
  |normal=>
   obtain ⟨hk3,hkp3,hi3⟩:=hp
   have hl3:=hk3.same _ _ (by omega) hl2 rfl
   have hr:=run_endRound (P:=P) none hl3
   refine ⟨_,_,hr,rfl,⟨hI.putObj _ hi3 (by omega) hl3 rfl, ?_,(World.putObj_heap_other (by omega)).trans (hk3.same _ _ (Nat.le_refl _) hk2 rfl)⟩,hKt (hKt hVb hkp3) (hKb _ _ _ _ (by omega) hl3)⟩
   rw [World.putObj_heap_same (Array.getElem?_eq_some_iff.1 hl3).1,hrec];rfl
  |_=>exact hp.elim
 ·rintro e W2 ⟨⟨v,rfl⟩,xs,hS,hi,hl,hk⟩
  exact ⟨none,_,by have:=run_endLoop (P:=P) hl (by rw [hrec];simp);rw [hrec] at this;exact this,hdone _ xs _ (Nat.le_refl _) hS (hI.putObj _ hi (by omega) hl rfl) ((World.putObj_heap_other (by omega)).trans hk)⟩
def Obj.stays (u:TypeId):Obj→Bool
 | .cells _ t _=>t !=u
 | .map .. =>true
 | .mapIter .. =>true
 | .stringIter .. =>true
 |_=>false
structure KpY (u:TypeId) (B M:Nat) (W W' :World):Prop where
 low:Below B W W'
 same:∀(k:Nat) (o:Obj),M≤k→W.heap[k]? =some o→Obj.stays u o=true→W'.heap[k]? =some o
section
variable {u : TypeId} {B M : Nat} {A W W' : World}
theorem KpY.refl (W:World):KpY u B M W W:=⟨Below.refl _ _,fun _ _ _ h _=>h⟩
theorem KpY.trans (h:KpY u B M A W) (k:KpY u B M W W'):KpY u B M A W' :=⟨h.low.trans k.low,fun i o hi h1 h2=>k.same i o hi (h.same i o hi h1 h2) h2⟩
theorem KpY.ext (h:Ext W W') (hB:B≤W.heap.size):KpY u B M W W' :=⟨h.mono hB,fun i _o _ h1 _=>(h.block i (Array.getElem?_eq_some_iff.1 h1).1).trans h1⟩
theorem KpY.loop {l:Nat} {r:Loop} (o' :Obj) (hB:B≤l) (h:W.heap[l]? =some (.loop r)):KpY u B M W (W.putObj l o'):=
 ⟨below_putObj W l o' hB,fun i o _ h1 h2=>by
  by_cases e:i=l
  ·subst e;rw [h] at h1;cases h1;cases h2
  ·exact (World.putObj_heap_other e).trans h1⟩
theorem KpY.blk (h:KpY u B M W W') {b:Nat} {cs:Array Value} {t:TypeId} (hb:M≤b) (hk:Blk W b cs t) (ht:t≠u):Blk W' b cs t:=h.same b _ hb hk (by simpa [Obj.stays] using ht)
end
open Go.RowKit Go.Maps
theorem Tryz.laidOutS:laidOutB Tryz.prog=true:=by kernel_rfl
theorem Tryz.refIsS:RefIs Tryz.prog 69 38:=⟨Tryz.underlying69,Tryz.underlying38,by kernel_rfl,by kernel_rfl,by kernel_rfl,of_decide_eq_true (by kernel_rfl)⟩
theorem Tryz.rowRefS:(69:TypeId)<Tryz.prog.types.size:=of_decide_eq_true (by kernel_rfl)
theorem Tryz.atRefS:Tryz.prog.keyTypeAt 2 69=true:=by kernel_rfl
theorem Tryz.lawRefS:Keyed Tryz.prog 69:=Tryz.refIsS.law Tryz.laidOutS Tryz.rowRefS Tryz.atRefS
theorem keyRefS {o v:Int} (ho:B32 o) (hv:B32 v):Go.keyOf Tryz.prog 69 (.agg #[.int .u32 o, .int .u32 v])=some (litR o v):=Tryz.refIsS.key ho hv
theorem litR_injS {o v o' v' :Int} (ho:B32 o) (hv:B32 v) (ho' :B32 o') (hv' :B32 v') (h:litR o v=litR o' v'):o=o'∧v=v' :=by
 have h2:=Tryz.lawRefS.inj (keyRefS ho hv) (by rw [h];exact keyRefS ho' hv')
 simpa using h2
def RVS (v:Value):Option (DataW Value×List MemPlace):=some (.held v, [])
def SetT (W:World) (m:Nat) (l:List Rf):Prop:=∃D:DataW Value,W.ownsMap Tryz.prog 69 RVS m (Maps.size D) D∧Maps.size D≤l.length∧∀o v,B32 o→B32 v→D.atKey (litR o v) (.held (.bool false))= .held (.bool (hasRf l ⟨o,v⟩))
theorem ownsMap_sizeS {W:World} {k:TypeId} {R:Value→Option (DataW Value×List MemPlace)} {b n:Nat} {D:DataW Value} (h:W.ownsMap Tryz.prog k R b n D):W.ownsMap Tryz.prog k R b (Maps.size D) D:=by
 obtain ⟨es,clock,hb,F,hs,rfl⟩:=h
 refine ⟨es,clock,hb,F, ?_,rfl⟩
 rw [Maps.size_eq,length_sorted];simp
section
variable {W W' : World} {m : Nat} {l : List Rf}
theorem SetT.lt (h:SetT W m l):m<W.heap.size:=by obtain ⟨D,h1, -⟩:=h;exact h1.lt
theorem SetT.made (w:World):SetT (w.alloc (.map #[] 0)) w.heap.size []:=
 ⟨.map [],World.ownsMap_made w _ _ _,Nat.le_refl _,fun _ _ _ _=>rfl⟩
theorem SetT.kept (h:SetT W m l) {row:Option Nat} (hg:W.grownBy W' row) (hne:some m≠row):SetT W' m l:=by
 obtain ⟨D,h1,h2,h3⟩:=h
 exact ⟨D,h1.kept hg hne,h2,h3⟩
theorem SetT.ext (h:SetT W m l) (he:Ext W W'):SetT W' m l:=h.kept (row:=none) ⟨he.os,he.tape,he.output,he.size,fun k hk _=>he.block k hk⟩ (by simp)
theorem SetT.kpy (h:SetT W m l) {u:TypeId} {B M:Nat} (hk:KpY u B M W W') (hm:M≤m):SetT W' m l:=by
 obtain ⟨D,⟨es,clock,hb,F,hs,rfl⟩,h2,h3⟩:=h
 exact ⟨_,⟨es,clock,hk.same m _ hm hb rfl,F,hs,rfl⟩,h2,h3⟩
theorem zeroBoolS (w:World):(zeroValue 4).run Tryz.prog w= .ok (.bool false) w:=Tryz.zeroValue4 w
theorem SetT.look (h:SetT W m l) {o v:Int} (ho:B32 o) (hv:B32 v):(Instr.lookup 111 (.map (some m)) (.agg #[.int .u32 o, .int .u32 v]) false).run Tryz.prog W= .ok (.bool (hasRf l ⟨o,v⟩)) W:=by
 obtain ⟨D,h1,h2,h3⟩:=h
 obtain ⟨y,ps,hrun,hy⟩:=h1.lookup Tryz.lawRefS Tryz.underlying111 (zeroBoolS _) (show RVS (.bool false)=some (.held (.bool false), []) from rfl) (keyRefS ho hv)
 rw [h3 o v ho hv] at hy
 unfold RVS at hy
 simp only [Option.some.injEq,Prod.mk.injEq,DataW.held.injEq] at hy
 rw [←hy.1];exact hrun
theorem SetT.put {D:DataW Value} {o v:Int} (ho:B32 o) (hv:B32 v) (h1:W.ownsMap Tryz.prog 69 RVS m (Maps.size D) D) (h2:Maps.size D≤l.length) (h3:∀o v,B32 o→B32 v→D.atKey (litR o v) (.held (.bool false))= .held (.bool (hasRf l ⟨o,v⟩)))
 (h:W'.ownsMap Tryz.prog 69 RVS m (Maps.size D+1) (D.put (litR o v) (.held (.bool true)))):SetT W' m (l++ [⟨o,v⟩]):=by
 have hk:=Tryz.lawRefS.key (keyRefS ho hv)
 have hM:=h1.isMap
 refine ⟨_,ownsMap_sizeS h, ?_,fun a b ha hb=> ?_⟩
 ·rw [Maps.size_put (h1.tidy Tryz.lawRefS),List.length_append]
  split<;>simp<;>omega
 ·rw [hasRf_snoc]
  by_cases e:a=o∧b=v
  ·obtain ⟨rfl,rfl⟩:=e
   rw [Maps.atKey_put_same hM hk,(rfB_true (c:=⟨a,b⟩) (d:=⟨a,b⟩)).2 rfl,Bool.or_true]
  ·rw [Maps.atKey_put_other (fun q=>e (litR_injS ha hb ho hv q)),h3 a b ha hb]
   have hn:rfB ⟨o,v⟩ ⟨a,b⟩=false:=by
    rw [←Bool.not_eq_true,rfB_true]
    intro q
    injection q with q1 q2
    exact e ⟨q1.symm,q2.symm⟩
   rw [hn,Bool.or_false]
end
end Go.Proofs.YtgmphpccpfaapaaGreatDoor
namespace Go.Proofs.YtgmphpccpfaapaaGreatDoor
open Go.RowKit
theorem YieldAt.any {m m' :Nat} {P:Program} {l:Nat} {args:Array Value} {W:World} {R:Ending→World→Prop} (h:YieldAt Fence.wide m P l args W R):YieldAt Fence.wide m' P l args W R:=by
 obtain ⟨fn,tmps,assign,body,h1,h2,h3⟩:=h
 exact ⟨fn,tmps,assign,body,h1,h2,fun c cs _=>h3 c cs (room_wide _)⟩
theorem one_in (F:Fence) (n:Nat) (_hFe:F=Fence.wide) (hF:F.fn 34) (hro:F.round=none) (hn:1≤n) (l b:Nat) (p:ML) (W:World) (R:World→Prop) (hb:Blk W b #[.func (.yield l) #[] #[]] 110)
 (hY:YieldAt F (n - 1) Tryz.prog l #[p.agg] (W.alloc (.cells p.arr 79)) fun e W' =>e= .returned (.bool true)∧R W'):
 CallsIn F n Tryz.prog 34 #[p.agg, .bool true, .pointer (some ⟨b,0,none⟩)] W fun e W' =>e= .returned (.bool true)∧R W' :=by
 obtain ⟨k,x,st,nn,⟨⟨oid,ver,nm,id,cols⟩,ca,cc⟩,⟨⟨kd,ao,av,old,lb,la,rs,fl⟩,ba,bc,aa,ac,ra,rc⟩⟩:=p
 unfold ML.agg ML.arr at hY
 unfold ML.agg ML.arr
 simp only at hY⊢
 have HB:=Hm hb
 have g0:=hb.cell
 have z0:=hb.lt
 obtain ⟨fn,tmps,assign,body,hy,hR⟩:=hY
 have HL:=Hm (load17 (Blk.new W #[.int .u8 k, .int .u32 x, .int .u64 st, .int .u32 nn, .int .u32 oid, .int .u32 ver, .string nm, .int .u8 id, .slice ca cols.length cc, .int .u8 kd, .int .u32 ao, .int .u32 av, .int .u8 old, .slice ba lb.length bc, .slice aa la.length ac, .slice ra rs.length rc, .int .u8 fl] 79))
 have hl:=HL.out
 clear hb _hFe
 refine callsIn_of_wp Tryz.func34 rfl hF ?_ hro
 simp only [Tryz.ntmps34,List.size_toArray,List.length_cons,List.length_nil,Nat.reduceAdd,Nat.reduceSub,Array.replicate_succ,Array.replicate_zero,List.push_toArray,List.append_toArray,List.nil_append,List.cons_append]
 gi_wp2_with (refine hR.mono ?_;rintro e W3 ⟨rfl,h3⟩)
 go_ret
 exact ⟨rfl,h3⟩
theorem messages_in (F:Fence) (n:Nat) (hF:F.fn 19) (hro:F.round=none) (g:Nat) (a:Option Addr) (m cap:Nat) (w:World):
 CallsIn F n Tryz.prog 19 #[.pointer (some ⟨g,0,none⟩), .slice a m cap] w fun e w' =>e= .returned (.func (.func 33) #[] #[.pointer (some ⟨w.heap.size+1,0,none⟩), .pointer (some ⟨w.heap.size,0,none⟩)])∧w' =(w.alloc (.cells #[.pointer (some ⟨g,0,none⟩)] 26)).alloc (.cells #[.slice a m cap] 34):=by
 refine callsIn_of_wp Tryz.func19 rfl hF ?_ hro
 simp only [Tryz.ntmps19,List.size_toArray,List.length_cons,List.length_nil,Nat.reduceAdd,Nat.reduceSub,Array.replicate_succ,Array.replicate_zero,List.push_toArray,List.append_toArray,List.nil_append,List.cons_append]
 gi_wp2
 go_ret
 exact ⟨rfl,rfl⟩
open Go.RowKit Go.Maps
structure MsI (J:List ML→World→Prop) (w0:World) (M bc g b3 l m:Nat) (s:Said) (ys:List ML) (W:World):Prop where
 ms:ys.map ML.m=s.1
 j:J ys W
 set:SetT W m s.2
 box:Blk W b3 #[.func (.yield l) #[] #[]] 110
 cat:Blk W bc #[.pointer (some ⟨g,0,none⟩)] 26
 ext:Ext w0 W
 ok:∀y∈ys,y.ok
section
variable {J : List ML → World → Prop} {w0 W W' : World} {M bc g b3 l m N0 : Nat} {s : Said} {ys : List ML} {x : ML} {r : Rf}
theorem ext_grownS {w w' :World} (h:Ext w w'):w.grownBy w' none:=⟨h.os,h.tape,h.output,h.size,fun k hk _=>h.block k hk⟩
theorem MsI.go (h:MsI J w0 M bc g b3 l m s ys W) (hJ:AbidesFrom N0 J) (he:Ext W W'):MsI J w0 M bc g b3 l m s ys W' :=
 ⟨h.ms,hJ _ _ _ none h.j (ext_grownS he) (by simp),h.set.ext he,h.box.ext he,h.cat.ext he,h.ext.trans he,h.ok⟩
theorem MsI.said (h:MsI J w0 M bc g b3 l m s ys W) (hk:KpY 5 w0.heap.size M W W') (h3:M≤b3) (hc:M≤bc) (hm:M≤m) (hj:J (ys++ [x]) W') (hx:x.ok):MsI J w0 M bc g b3 l m (s.1++ [x.m],s.2) (ys++ [x]) W' :=
 ⟨by rw [List.map_append,h.ms];rfl,hj,h.set.kpy hk hm,hk.blk h3 h.box (by decide),hk.blk hc h.cat (by decide),Below.trans h.ext hk.low,fun y hy=>by
  rcases List.mem_append.1 hy with hy|hy
  ·exact h.ok y hy
  ·obtain rfl:y=x:=by simpa using hy
   exact hx⟩
theorem not_map {W:World} {b m:Nat} {cs:Array Value} {t:TypeId} {es:Array MapEntry} {cl:Nat} (hb:Blk W b cs t) (hm:W.heap[m]? =some (.map es cl)):b≠m:=fun e=>by
 subst e
 unfold Blk at hb
 rw [hm] at hb
 cases hb
theorem SetT.obj {l:List Rf} (h:SetT W m l):∃(es:Array MapEntry) (cl:Nat),W.heap[m]? =some (.map es cl):=by
 obtain ⟨D,⟨es,clock,hb,_⟩, -⟩:=h
 exact ⟨es,clock,hb⟩
theorem Blk.mapd {b:Nat} {cs:Array Value} {t:TypeId} {l:List Rf} (h:Blk W b cs t) (hs:SetT W m l) (hg:W.grownBy W' (some m)):Blk W' b cs t:=by
 obtain ⟨es,cl,ho⟩:=hs.obj
 exact (hg.block b h.lt (fun e=>not_map h ho (by injection e))).trans h
theorem owns_mapd {N n k:Nat} {t:TypeId} {v:Value} {xs:List Value} {l:List Rf} (h:W.ownsRow N t k v n xs) (hs:SetT W m l) (hg:W.grownBy W' (some m)):W'.ownsRow N t k v n xs:=by
 refine owns_kp h (Kp.of_grown hg) (fun b hb e=> ?_)
 obtain ⟨es,cl,ho⟩:=hs.obj
 injection e with e
 subst e
 rcases h.2 with ⟨rfl,_⟩|⟨g,cap,cur,rfl,_,hh,_⟩
 ·simp [Value.ownBlock] at hb
 ·obtain rfl:g=m:=by simpa [Value.ownBlock] using hb
  exact not_map hh ho rfl
theorem owns_kpy {N n k:Nat} {t:TypeId} {v:Value} {xs:List Value} {B:Nat} (h:W.ownsRow N t k v n xs) (hk:KpY 5 B M W W') (hN:M≤N) (ht:t≠5):W'.ownsRow N t k v n xs:=by
 refine owns_kp h (S:=fun i=>W'.heap[i]?≠W.heap[i]?) ⟨hk.low.os,hk.low.tape,hk.low.output,hk.low.size,fun i _ h=>Classical.not_not.1 h⟩ (fun b hb e=> ?_)
 rcases h.2 with ⟨rfl,_⟩|⟨g,cap,cur,rfl,hg,hh,_⟩
 ·simp [Value.ownBlock] at hb
 ·obtain rfl:g=b:=by simpa [Value.ownBlock] using hb
  exact e ((hk.blk (by omega) hh ht).trans hh.symm)
theorem MsI.told (h:MsI J w0 M bc g b3 l m s ys W) (hJ:AbidesFrom N0 J) (h0:N0≤m) (hw:w0.heap.size≤m) (hg:W.grownBy W' (some m)) (hs:SetT W' m (s.2++ [r])):MsI J w0 M bc g b3 l m (s.1,s.2++ [r]) ys W' :=by
 obtain ⟨es,cl,ho⟩:=h.set.obj
 exact ⟨h.ms,hJ _ _ _ (some m) h.j hg (fun q e=>by cases e;exact ⟨h0,_,ho,rfl⟩),hs,h.box.mapd h.set hg,h.cat.mapd h.set hg,Below.grown h.ext hg h.ext.size (fun q e=>by cases e;exact hw),h.ok⟩
theorem say_in {F:Fence} (n:Nat) (hFe:F=Fence.wide) (hF:F.fn 34) (hro:F.round=none) (hn:1≤n) (hI:MsI J w0 M bc g b3 l m s ys W) (hJ:AbidesFrom N0 J)
 (hY:∀pre x W,J pre W→pre.length<1200001→(x.at 5 K.pc W∧x.ok)→YieldAt F (n - 1) Tryz.prog l #[x.agg] W fun e W' =>e= .returned (.bool true)∧J (pre++ [x]) W'∧KpY 5 w0.heap.size M W W')
 (h3:M≤b3) (hc:M≤bc) (hm:M≤m) (hs:s.1.length≤1200000) (hx:x.at 5 K.pc W) (hk:x.ok):
 CallsIn F n Tryz.prog 34 #[x.agg, .bool true, .pointer (some ⟨b3,0,none⟩)] W fun e W' =>e= .returned (.bool true)∧MsI J w0 M bc g b3 l m (s.1++ [x.m],s.2) (ys++ [x]) W'∧KpY 5 w0.heap.size M W W' :=by
 have he:Ext W (W.alloc (.cells x.arr 79)):=(Ext.refl W).alloc _
 have hg:=hI.go hJ he
 have hl:ys.length<1200001:=by have h:=congrArg List.length hg.ms;rw [List.length_map] at h;omega
 obtain ⟨fn,tmps,assign,body,q1,q2⟩:=hY ys x _ hg.j hl ⟨hx.ext he,hk⟩
 refine one_in F n hFe hF hro hn l b3 x W (fun W' =>MsI J w0 M bc g b3 l m (s.1++ [x.m],s.2) (ys++ [x]) W'∧KpY 5 w0.heap.size M W W') hI.box ⟨fn,tmps,assign,body,q1,q2.mono ?_⟩
 rintro e W' ⟨rfl,hj,hk2⟩
 exact ⟨rfl,hg.said hk2 h3 hc hm hj hk,(KpY.ext he hI.ext.size).trans hk2⟩
end
end Go.Proofs.YtgmphpccpfaapaaGreatDoor
namespace Go.Proofs.YtgmphpccpfaapaaGreatDoor
open Go.RowKit
theorem rf_lenS (l:List Rf):∀xs∈l.map Rf.cells,xs.length=2:=by
 intro xs hxs
 rw [List.mem_map] at hxs
 obtain ⟨p,_,rfl⟩:=hxs
 rfl
theorem sAt_at (c:List Rl) (ts:List TL) {k:Nat} (h:k<ts.length):sAt c (ts.map TL.t) (k+1)=((sEv c (ts.map TL.t) k ts[k].t ts[k].es.length).1++ [(mlC ts[k].xid ts[k].es.length).m],(sEv c (ts.map TL.t) k ts[k].t ts[k].es.length).2):=by
 have h1:=sAt_succ c (l:=ts.map TL.t) (i:=k) (by rw [List.length_map];exact h)
 rw [List.getElem_map] at h1
 rw [h1,show (ts[k].t).es.length=ts[k].es.length from List.length_map ..,mlC_m]
theorem sEv_at (c:List Rl) (l:List Tx) (i:Nat) (t:TL) {k:Nat} (h:k<t.es.length):sEv c l i t.t (k+1)=((sUs c l i t.t k t.es[k].e (usesE t.es[k].e).length).1++ [msgOf t.es[k].e],(sUs c l i t.t k t.es[k].e (usesE t.es[k].e).length).2):=by
 have h1:=sEv_succ c l i (t:=t.t) (k:=k) (by show k<(t.es.map EL.e).length;rw [List.length_map];exact h)
 rw [h1]
 unfold TL.t
 simp only [List.getElem_map]
theorem got_r {o v:Int} {ps:List RR} {q:RR} (h:q.r=((getP o v ps).getD RR.zero).r):q.r=(getR o v (ps.map RR.r)).getD Rl0:=by
 rw [h,←getP_map]
 cases getP o v ps<;>rfl
theorem got_ok {o v:Int} {ps:List RR} {q:RR} (h:q.r=((getP o v ps).getD RR.zero).r) (hB:∀r∈ps.map RR.r,r.okw):q.r.okw:=by
 rw [h]
 cases hg:getP o v ps with
 |none=>exact Rl0_okw
 |some p=>exact hB _ (List.mem_map_of_mem (getP_some hg).1)
theorem Tryz.infoRfE:(Tryz.prog.info? 69).map (fun i=>(i.zero,i.size,i.bytes))=some (some (.agg #[.int .u32 0, .int .u32 0]),2,8):=by kernel_rfl
theorem eown_any (kind ao av old:Int) (lb la:List K) (rs:List Rf) (fl:Int) (ba aa ra:Option Addr) (bc ac rc:Nat) (w:World) (hb:Sl w (.slice ba lb.length bc) 6 (lb.map K.rc)) (ha:Sl w (.slice aa la.length ac) 6 (la.map K.rc)) (hr:Sl w (.slice ra rs.length rc) 2 (rs.map Rf.cells)) (hnb:lb.length≤1000) (hna:la.length≤1000) (hnr:rs.length≤1000):
 Calls Tryz.prog 21 #[.agg #[.int .u8 kind, .int .u32 ao, .int .u32 av, .int .u8 old, .slice ba lb.length bc, .slice aa la.length ac, .slice ra rs.length rc, .int .u8 fl]] w fun e w' =>∃b1 c1 a1 d1 r1 e1,e= .returned (.agg #[.int .u8 kind, .int .u32 ao, .int .u32 av, .int .u8 old, .slice b1 lb.length c1, .slice a1 la.length d1, .slice r1 rs.length e1, .int .u8 fl])∧(⟨⟨kind,ao,av,old,lb,la,rs,fl⟩,b1,c1,a1,d1,r1,e1⟩:EL).at 5 K.pc w'∧(⟨⟨kind,ao,av,old,lb,la,rs,fl⟩,b1,c1,a1,d1,r1,e1⟩:EL).on (fun b=>w.heap.size≤b)∧Ext w w' :=by
 obtain ⟨i0,hi,hz0,hz1,hz2⟩:=info_parts Tryz.infoRfE
 have HOB:=Hm (fun W (h:Ext w W)=>ownK_fr lb ba bc W (hb.ext h) hnb)
 have HOA:=Hm (fun W (h:Ext w W)=>ownK_fr la aa ac W (ha.ext h) hna)
 have HR:=Hm hr
 clear hb ha hr
 go_enter Tryz.func21,Tryz.ntmps21
 go_upto_region 1 with (fail)
 go_cut [3] (fun p wx=>∃X b1 c1 a1 d1,p= .pointer (some ⟨X,0,none⟩)∧Hid (Blk wx X #[.int .u8 kind, .int .u32 ao, .int .u32 av, .int .u8 old, .slice b1 lb.length c1, .slice a1 la.length d1, .slice none 0 0, .int .u8 fl] 77)∧Hid (Sl wx (.slice b1 lb.length c1) 5 (lb.map K.pc))∧Hid (Sl wx (.slice a1 la.length d1) 5 (la.map K.pc))∧Hid (lb.map K.pc≠ []→∀b o,b1=some ⟨b,o,none⟩→b≠X∧w.heap.size+1<b)∧Hid (la.map K.pc≠ []→∀b o,a1=some ⟨b,o,none⟩→b≠X∧w.heap.size+1<b)∧Hid (w.heap.size+1<X)∧Hid (Ext ((w.alloc (.cells #[.int .u8 kind, .int .u32 ao, .int .u32 av, .int .u8 old, .slice ba lb.length bc, .slice aa la.length ac, .slice ra rs.length rc, .int .u8 fl] 47)).alloc (.cells #[.int .u8 0, .int .u32 0, .int .u32 0, .int .u8 0, .slice none 0 0, .slice none 0 0, .slice none 0 0, .int .u8 0] 77)) wx))
 case first=>
  go_region_held3 (fun w' =>Ext (((w.alloc (.cells #[.int .u8 kind, .int .u32 ao, .int .u32 av, .int .u8 old, .slice ba lb.length bc, .slice aa la.length ac, .slice ra rs.length rc, .int .u8 fl] 47)).alloc (.cells #[.int .u8 0, .int .u32 0, .int .u32 0, .int .u8 0, .slice none 0 0, .slice none 0 0, .slice none 0 0, .int .u8 0] 77))) w'∧(∀b o,b<(((w.alloc (.cells #[.int .u8 kind, .int .u32 ao, .int .u32 av, .int .u8 old, .slice ba lb.length bc, .slice aa la.length ac, .slice ra rs.length rc, .int .u8 fl] 47)).alloc (.cells #[.int .u8 0, .int .u32 0, .int .u32 0, .int .u8 0, .slice none 0 0, .slice none 0 0, .slice none 0 0, .int .u8 0] 77))).heap.size→w'.cell? ⟨b,o,none⟩=(((w.alloc (.cells #[.int .u8 kind, .int .u32 ao, .int .u32 av, .int .u8 old, .slice ba lb.length bc, .slice aa la.length ac, .slice ra rs.length rc, .int .u8 fl] 47)).alloc (.cells #[.int .u8 0, .int .u32 0, .int .u32 0, .int .u8 0, .slice none 0 0, .slice none 0 0, .slice none 0 0, .int .u8 0] 77))).cell? ⟨b,o,none⟩)∧(∀b o,b<(((w.alloc (.cells #[.int .u8 kind, .int .u32 ao, .int .u32 av, .int .u8 old, .slice ba lb.length bc, .slice aa la.length ac, .slice ra rs.length rc, .int .u8 fl] 47)).alloc (.cells #[.int .u8 0, .int .u32 0, .int .u32 0, .int .u8 0, .slice none 0 0, .slice none 0 0, .slice none 0 0, .int .u8 0] 77))).heap.size→w'.frozen? ⟨b,o,none⟩=(((w.alloc (.cells #[.int .u8 kind, .int .u32 ao, .int .u32 av, .int .u8 old, .slice ba lb.length bc, .slice aa la.length ac, .slice ra rs.length rc, .int .u8 fl] 47)).alloc (.cells #[.int .u8 0, .int .u32 0, .int .u32 0, .int .u8 0, .slice none 0 0, .slice none 0 0, .slice none 0 0, .int .u8 0] 77))).frozen? ⟨b,o,none⟩)) ((exact held_of (by exact eX)))
   (first
    |(go_at_call 43;refine (ref9_any _ _ _).mono ?_;rintro e w2 ⟨rfl,hb2⟩;obtain ⟨hc2,hf2⟩:=hb2.cells;have hz2:=hb2.size;(try simp at hz2);have q2:w.heap.size+1<w2.heap.size:=(by omega);(try have p2:w.heap.size+1+1<w2.heap.size:=(by omega)))
    |(go_at_call_of 44 (Value.slice ba lb.length bc);refine (HOB.out _ (by exact eX)).mono ?_;rintro e w3 ⟨b1,c1,rfl, -,hs3,hb3⟩;have H3:=Hm hs3;clear hs3;obtain ⟨hc3,hf3⟩:=hb3.cells;have hz3:=hb3.size;(try simp at hz3);have q3:w.heap.size+1<w3.heap.size:=(by omega);(try have q23:w2.heap.size<w3.heap.size:=(by omega));(try have p3:w.heap.size+1+1<w3.heap.size:=(by omega)))
    |(go_at_call_of 44 (Value.slice aa la.length ac);refine (HOA.out _ (by exact eX)).mono ?_;rintro e w4 ⟨a1,d1,rfl, -,hs4,hb4⟩;have H4:=Hm hs4;clear hs4;obtain ⟨hc4,hf4⟩:=hb4.cells;have hz4:=hb4.size;(try simp at hz4);have q4:w.heap.size+1<w4.heap.size:=(by omega);(try have p4:w.heap.size+1+1<w4.heap.size:=(by omega));(try have q24:w2.heap.size<w4.heap.size:=(by omega));(try have q35:w3.heap.size<w4.heap.size:=(by omega))))
  all_goals
   go_wp2
   go_meet
   case rel=>
    refine ⟨_,b1,c1,a1,d1,rfl,Hm ?_,Hm ?_,Hm ?_,Hm ?_,Hm ?_,Hm ?_,Hm ?_⟩
    ·repeat (with_reducible (first|exact Blk.new _ _ _|(refine Blk.new' _ _ ?_;(simp;done))|apply Blk.eight|refine Blk.alloc ?_ _|refine Blk.drew ?_|refine Blk.ext ?_ hb4|refine Blk.ext ?_ hb3|refine Blk.ext ?_ hb2))
    ·first|((with_reducible refine Fr.sl (Fr.eight (Fr.ext H3.out ?_) ?_));(· exact eX);(· first|(simp;done)|(simp;omega)|omega|(left;simp;done)|(left;simp;omega)|(right;simp;done)|(right;simp;omega)))|((with_reducible refine Fr.sl (Fr.ext H3.out ?_)); · exact eX)
    ·first|((with_reducible refine Fr.sl (Fr.eight (Fr.ext H4.out ?_) ?_));(· exact eX);(· first|(simp;done)|(simp;omega)|omega|(left;simp;done)|(left;simp;omega)|(right;simp;done)|(right;simp;omega)))|((with_reducible refine Fr.sl (Fr.ext H4.out ?_)); · exact eX)
    ·refine fun h0=>Fr.ne2 H3.out ?_ ?_ h0;(· first|(simp;done)|(simp;omega)|omega|(left;simp;done)|(left;simp;omega)|(right;simp;done)|(right;simp;omega));(· first|omega|(simp;omega)|simp)
    ·refine fun h0=>Fr.ne2 H4.out ?_ ?_ h0;(· first|(simp;done)|(simp;omega)|omega|(left;simp;done)|(left;simp;omega)|(right;simp;done)|(right;simp;omega));(· first|omega|(simp;omega)|simp)
    ·first|omega|(simp;omega)|simp
    ·first|exact eX|(repeat (with_reducible refine Ext.setCell ?_ (by first|(simp;done)|(simp;omega)|omega) _);exact eX)
 case rest=>
  obtain ⟨X,b1,c1,a1,d1,rfl,HX,HSB,HSA,HNB,HNA,HWX,HE⟩:=hcut
  have HEc:=Hm (show Ext w wc from (((Ext.refl w).alloc _).alloc _).trans HE.out)
  have HB1:=Hm (((Blk.new w #[.int .u8 kind, .int .u32 ao, .int .u32 av, .int .u8 old, .slice ba lb.length bc, .slice aa la.length ac, .slice ra rs.length rc, .int .u8 fl] 47).alloc (.cells #[.int .u8 0, .int .u32 0, .int .u32 0, .int .u8 0, .slice none 0 0, .slice none 0 0, .slice none 0 0, .int .u8 0] 77)).ext HE.out)
  have HB2:=Hm ((Blk.new' (w:=w.alloc (.cells #[.int .u8 kind, .int .u32 ao, .int .u32 av, .int .u8 old, .slice ba lb.length bc, .slice aa la.length ac, .slice ra rs.length rc, .int .u8 fl] 47)) (b:=w.heap.size+1) #[.int .u8 0, .int .u32 0, .int .u32 0, .int .u8 0, .slice none 0 0, .slice none 0 0, .slice none 0 0, .int .u8 0] 77 (by simp)).ext HE.out)
  clear HOB HOA
  have hzX:X<wc.heap.size:=HX.out.lt
  have hzw:w.heap.size<X:=by have:=HWX.out;omega
  have HZX:=Hm (And.intro hzX hzw)
  clear HE
  go_wp2
  go_loopw [4] (fun i wr=>∃(k:Nat) (va:Option Addr) (vc:Nat),k≤rs.length∧i= .int .i64 k∧Hid (Blk wr X #[.int .u8 kind, .int .u32 ao, .int .u32 av, .int .u8 old, .slice b1 lb.length c1, .slice a1 la.length d1, .slice va k vc, .int .u8 fl] 77)∧Hid (wr.ownsRow wc.heap.size 69 2 (.slice va k vc) k ((rs.take k).map Rf.cells).flatten)∧Hid (Kp (fun x=>x=X) wc wr)) (fun i _=>rs.length - (intOf i).toNat)
  case atStart=>exact ⟨0,none,0,Nat.zero_le _,rfl,HX,Hm (World.ownsRow_nil _ _ _ _),Hm Kp.refl⟩
  case round=>
   obtain ⟨k,va,vc,hk,rfl,hX,hown,hK⟩:=hrel
   have HEW:Hid (Ext w wr):=Hm (Kp.ext HEc.out (fun x hx _=>by have:=HZX.out.2;omega) hK.out)
   have HG1:Hid (Blk wr w.heap.size #[.int .u8 kind, .int .u32 ao, .int .u32 av, .int .u8 old, .slice ba lb.length bc, .slice aa la.length ac, .slice ra rs.length rc, .int .u8 fl] 47):=Hm (HB1.out.kp hK.out (by have:=HZX.out.2;omega))
   have g1:=HG1.out.cell
   have z1:=HG1.out.lt
   have gX:=hX.out.cell
   have gXf:=hX.out.frozen
   have zX:=hX.out.lt
   have hzc:=hK.out.size
   by_cases hlt:k<rs.length
   ·obtain ⟨b,o,rfl,hb,hx⟩:=HR.out.at_ (i:=k) (by simpa using hlt)
    have HF:=Hm (fun W (h:Ext w W)=>Rf.at_ hlt hx hb h)
    have HT:Hid (rs.take (k+1)=rs.take k++ [rs[k]]):=Hm (List.take_succ_eq_append_getElem hlt)
    obtain ⟨r,hr⟩:∃r,r=rs[k]:=⟨_,rfl⟩
    rw [←hr] at HF HT
    have HLT:Hid (k<rs.length):=Hm hlt
    have HBW:Hid (b<w.heap.size):=Hm hb
    clear hx hr hb
    have HS:Hid (∀w',Kp (fun x=>wc.heap.size≤x) wr w'→(∀j,w'.cell? ⟨w.heap.size,j,none⟩=(#[.int .u8 kind, .int .u32 ao, .int .u32 av, .int .u8 old, .slice ba lb.length bc, .slice aa la.length ac, .slice (some ⟨b,o,none⟩) rs.length rc, .int .u8 fl])[j]?)∧(∀j,w'.cell? ⟨X,j,none⟩=(#[.int .u8 kind, .int .u32 ao, .int .u32 av, .int .u8 old, .slice b1 lb.length c1, .slice a1 la.length d1, .slice va k vc, .int .u8 fl])[j]?)∧(∀j,w'.frozen? ⟨X,j,none⟩=false)∧w'.cell? ⟨b,o+k*2,none⟩=some (.int .u32 r.o)∧w'.cell? ⟨b,o+k*2+1,none⟩=some (.int .u32 r.v)∧b<w'.heap.size∧X<w'.heap.size∧w.heap.size<w'.heap.size):=Hm (fun w' h=>by
     have hE:Ext w w' :=Kp.ext HEc.out (S:=fun x=>x=X∨wc.heap.size≤x) (fun x hx _=>by have:=HZX.out;omega) ((hK.out.mono (T:=fun x=>x=X∨wc.heap.size≤x) (fun x hx _=> .inl hx)).trans h (fun x hx _=> .inr hx))
     have h1:=HG1.out.kp h (by have:=HZX.out;omega)
     have h2:=hX.out.kp h (by have:=HZX.out;omega)
     obtain ⟨f0,f1⟩:=HF.out w' hE
     exact ⟨h1.cell,h2.cell,h2.frozen,f0,f1,Nat.lt_of_lt_of_le HBW.out hE.size,h2.lt,h1.lt⟩)
    have HOWN:=hown
    go_wp2
    clear g1 gX gXf
    have hA0:Hid ((fun w' =>(∀j,w'.cell? ⟨w.heap.size,j,none⟩=(#[.int .u8 kind, .int .u32 ao, .int .u32 av, .int .u8 old, .slice ba lb.length bc, .slice aa la.length ac, .slice (some ⟨b,o,none⟩) rs.length rc, .int .u8 fl])[j]?)∧(∀j,w'.cell? ⟨X,j,none⟩=(#[.int .u8 kind, .int .u32 ao, .int .u32 av, .int .u8 old, .slice b1 lb.length c1, .slice a1 la.length d1, .slice va k vc, .int .u8 fl])[j]?)∧(∀j,w'.frozen? ⟨X,j,none⟩=false)∧w'.cell? ⟨b,o+k*2,none⟩=some (.int .u32 r.o)∧w'.cell? ⟨b,o+k*2+1,none⟩=some (.int .u32 r.v)∧b<w'.heap.size∧X<w'.heap.size∧w.heap.size<w'.heap.size) wr.drew):=Hm (HS.out _ (Kp.of_ext (Ext.refl wr).drew))
    refine wp_region_head 10 (fun w' =>(∀j,w'.cell? ⟨w.heap.size,j,none⟩=(#[.int .u8 kind, .int .u32 ao, .int .u32 av, .int .u8 old, .slice ba lb.length bc, .slice aa la.length ac, .slice (some ⟨b,o,none⟩) rs.length rc, .int .u8 fl])[j]?)∧(∀j,w'.cell? ⟨X,j,none⟩=(#[.int .u8 kind, .int .u32 ao, .int .u32 av, .int .u8 old, .slice b1 lb.length c1, .slice a1 la.length d1, .slice va k vc, .int .u8 fl])[j]?)∧(∀j,w'.frozen? ⟨X,j,none⟩=false)∧w'.cell? ⟨b,o+k*2,none⟩=some (.int .u32 r.o)∧w'.cell? ⟨b,o+k*2+1,none⟩=some (.int .u32 r.v)∧b<w'.heap.size∧X<w'.heap.size∧w.heap.size<w'.heap.size) (by kernel_rfl) (by decide) ?_
    (refine wpHd_take (i:=0) (v:= ?_) rfl (by kernel_rfl) (by kernel_rfl) (by kernel_rfl) (fun _ _ _ h=>h) (Or.inl ⟨by rfl, ?_⟩) hA0.out ?_;rotate_left 1; · (intro w' hS';(try dsimp only at hS');go_split_ands;go_simp;try with_reducible rfl))
    (refine wpHd_take (i:=1) (v:= ?_) rfl (by kernel_rfl) (by kernel_rfl) (by kernel_rfl) (fun _ _ _ h=>h) (Or.inl ⟨by rfl, ?_⟩) hA0.out ?_;rotate_left 1; · (intro w' hS';(try dsimp only at hS');go_split_ands;go_simp;try with_reducible rfl))
    (refine wpHd_take (i:=2) (v:= ?_) rfl (by kernel_rfl) (by kernel_rfl) (by kernel_rfl) (fun _ _ _ h=>h) (Or.inl ⟨by rfl, ?_⟩) hA0.out ?_;rotate_left 1; · (intro w' hS';(try dsimp only at hS');go_split_ands;go_simp;try with_reducible rfl))
    (refine wpHd_take (i:=3) (v:= ?_) rfl (by kernel_rfl) (by kernel_rfl) (by kernel_rfl) (fun _ _ _ h=>h) (Or.inl ⟨by rfl, ?_⟩) hA0.out ?_;rotate_left 1; · (intro w' hS';(try dsimp only at hS');go_split_ands;go_simp;try with_reducible rfl))
    (refine wpHd_take (i:=4) (v:= ?_) rfl (by kernel_rfl) (by kernel_rfl) (by kernel_rfl) (fun _ _ _ h=>h) (Or.inl ⟨by rfl, ?_⟩) hA0.out ?_;rotate_left 1; · (intro w' hS';(try dsimp only at hS');go_split_ands;go_simp;try with_reducible rfl))
    (refine wpHd_take (i:=5) (v:= ?_) rfl (by kernel_rfl) (by kernel_rfl) (by kernel_rfl) (fun _ _ _ h=>h) (Or.inl ⟨by rfl, ?_⟩) hA0.out ?_;rotate_left 1; · (intro w' hS';(try dsimp only at hS');go_split_ands;go_simp;try with_reducible rfl))
    (refine wpHd_take (i:=6) (v:= ?_) rfl (by kernel_rfl) (by kernel_rfl) (by kernel_rfl) (fun _ _ _ h=>h) (Or.inl ⟨by rfl, ?_⟩) hA0.out ?_;rotate_left 1; · (intro w' hS';(try dsimp only at hS');go_split_ands;go_simp;try with_reducible rfl))
    refine wpHd_one (i:=7) rfl rfl (by kernel_rfl) (fun K hK=> ?_)
    go_simp
    refine (ref9_any _ _ _).mono ?_
    rintro e w7 ⟨rfl,hb7⟩
    have HB7:Hid (Ext wr w7):=Hm ((Ext.refl wr).drew.trans hb7)
    refine hK.out _ _ (HS.out _ (Kp.of_ext HB7.out)) (fun hA=> ?_)
    clear hK K hA hA0 hb7
    refine wpHd_one (i:=8) rfl rfl (by kernel_rfl) (fun K hK=> ?_)
    go_simp
    refine hK.out _ _ (HS.out _ (Kp.of_ext (HB7.out.alloc _))) (fun hA=> ?_)
    clear hK K hA
    refine wpHd_one (i:=9) rfl rfl (by kernel_rfl) (fun K hK=> ?_)
    refine wp_append_lies _ _ _ 75 (by rfl) wc.heap.size 69 i0 _ 2 8 Tryz.underlying75 hi hz0 hz1 hz2 rfl (by decide) (.slice va k vc) k _ (by rfl) (owns_ext HOWN.out (HB7.out.alloc _)) ⟨_,0,none⟩ 1 1 r.cells (by rfl) rfl (cells_new _ #[.int .u32 r.o, .int .u32 r.v] _) (by intro u hu;simp [Rf.cells] at hu;rcases hu with rfl|rfl<;>rfl) (by decide) (by unfold maxLen;omega) (by omega) (by have:=HB7.out.size;simp;omega) _ rfl ?_
    intro g4 cap4 w4 hown4 hgrow4 hat4 hlt4
    have HO4:=Hm hown4
    have HKG:Hid (Kp (fun x=>wc.heap.size≤x) wr w4):=Hm ((Kp.of_ext (S:=fun x=>wc.heap.size≤x) (HB7.out.alloc _)).trans (Kp.of_grown hgrow4) (fun x hx _=>(HOWN.out.lt x hx).1))
    refine hK.out _ _ (HS.out _ HKG.out) (fun hA=> ?_)
    clear hK K hA hown4 hgrow4 hat4 hlt4
    have hX4:Hid (Blk w4 X #[.int .u8 kind, .int .u32 ao, .int .u32 av, .int .u8 old, .slice b1 lb.length c1, .slice a1 la.length d1, .slice va k vc, .int .u8 fl] 77):=Hm (hX.out.kp HKG.out (by have:=HZX.out;omega))
    have gX:=hX4.out.cell
    have gXf:=hX4.out.frozen
    have zX:=hX4.out.lt
    refine wpHd_tail (by kernel_rfl) ?_
    simp only [List.drop_succ_cons,List.drop_zero]
    go_wp2
    go_roundw
    case rel=>
     refine ⟨k+1,some ⟨g4,0,none⟩,cap4,by have:=HLT.out;omega,by go_num,Hm ?_,Hm ?_,Hm ?_⟩
     ·have:=hX4.out.set 6 (.slice (some ⟨g4,0,none⟩) (k+1) cap4)
      simpa only [List.setIfInBounds_toArray,List.set_cons_zero,List.set_cons_succ] using this
     ·rw [HT.out,List.map_append,List.flatten_append]
      exact owns_set (by simpa using HO4.out) (by show X<_;have:=HZX.out;omega) _
     ·exact ((hK.out.mono (T:=fun x=>x=X) (fun x hx _=>hx)).trans (HKG.out) (fun x hx h=>by omega)).trans (T:=fun x=>x=X) (Kp.set _ _ rfl) (fun x hx _=>hx)
    case measure=>have:=HLT.out;simp [intOf];omega
   ·obtain rfl:k=rs.length:=by omega
    rw [List.take_length] at hown
    have HB2r:Hid (Blk wr (w.heap.size+1) #[.int .u8 0, .int .u32 0, .int .u32 0, .int .u8 0, .slice none 0 0, .slice none 0 0, .slice none 0 0, .int .u8 0] 77):=Hm (HB2.out.kp hK.out (by have:=HWX.out;omega))
    have k2:=HB2r.out.cell
    have k2f:=HB2r.out.frozen
    have z2:=HB2r.out.lt
    go_wp2
    simp [bodyPost,results,Tryz.results21,go_sem, *]
    have hwr:=HZX.out
    have hw2:=HWX.out
    have hSB:Sl wr (.slice b1 lb.length c1) 5 (lb.map K.pc):=Sl.kp HSB.out hK.out (fun h0 b o e=>(HNB.out h0 b o e).1)
    have hSA:Sl wr (.slice a1 la.length d1) 5 (la.map K.pc):=Sl.kp HSA.out hK.out (fun h0 b o e=>(HNA.out h0 b o e).1)
    have hSR:Sl wr (.slice va rs.length vc) 2 (rs.map Rf.cells):=Sl.of_owns (base:=wc.heap.size) (e:=69) (by rw [List.length_map];exact hown.out) (by intro xs hxs;simp at hxs;obtain ⟨_,_,rfl⟩:=hxs;rfl)
    refine ⟨b1,c1,a1,d1,va,vc,⟨⟨rfl,rfl⟩,⟨rfl,rfl⟩,rfl,rfl⟩,⟨Sl.kp hSB Kp.eight (fun h0 b o e=>by have:=(HNB.out h0 b o e).2;omega),Sl.kp hSA Kp.eight (fun h0 b o e=>by have:=(HNA.out h0 b o e).2;omega),Sl.kp hSR Kp.eight (fun h0 b o e=>by have:=hown.out.lt b (by rw [show va=some ⟨b,o,none⟩ from e];rfl);omega)⟩,⟨fun h0 b o e=>by have:=(HNB.out (fun q=>h0 (by simpa using q)) b o e).2;omega,fun h0 b o e=>by have:=(HNA.out (fun q=>h0 (by simpa using q)) b o e).2;omega,fun h0 b o e=>by have:=hown.out.lt b (by rw [show va=some ⟨b,o,none⟩ from e];rfl);omega⟩,Kp.ext HEW.out (fun x hx _=>by omega) Kp.eight⟩
theorem eown_el (x:EL) (w:World) (hx:x.at 6 K.rc w) (hnb:x.e.b.length≤1000) (hna:x.e.a.length≤1000) (hnr:x.e.rs.length≤1000):
 Calls Tryz.prog 21 #[x.agg] w fun e w' =>∃y:EL,e= .returned y.agg∧y.e=x.e∧y.at 5 K.pc w'∧y.on (fun b=>w.heap.size≤b)∧Ext w w' :=by
 obtain ⟨⟨kind,ao,av,old,lb,la,rs,fl⟩,ba,bc,aa,ac,ra,rc⟩:=x
 refine (eown_any kind ao av old lb la rs fl ba aa ra bc ac rc w hx.b hx.a hx.r hnb hna hnr).mono fun e w' h=> ?_
 obtain ⟨b1,c1,a1,d1,r1,e1,h1,h2,h3,h4⟩:=h
 exact ⟨⟨⟨kind,ao,av,old,lb,la,rs,fl⟩,b1,c1,a1,d1,r1,e1⟩,h1,rfl,h2,h3,h4⟩
end Go.Proofs.YtgmphpccpfaapaaGreatDoor
