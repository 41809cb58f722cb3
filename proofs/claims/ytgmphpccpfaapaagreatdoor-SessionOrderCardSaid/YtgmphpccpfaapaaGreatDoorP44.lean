/-
The message that bytes begin with, of whatever kind: the reference's Parse over relations in any order.
-/
import Derived.Scope
import Derived.WalkMore
import Derived.Test.YtgmphpccpfaapaaGreatDoorP40
import Derived.Test.YtgmphpccpfaapaaGreatDoorP43
import Derived.Test.YtgmphpccpfaapaaGreatDoorP35
import Derived.Test.YtgmphpccpfaapaaGreatDoorP19
import Derived.Test.YtgmphpccpfaapaaGreatDoorP9
import Derived.Test.YtgmphpccpfaapaaGreatDoorP2
import Derived.Test.YtgmphpccpfaapaaGreatDoorP1
set_option maxRecDepth 100000
set_option maxHeartbeats 16000000
namespace Go.Proofs.YtgmphpccpfaapaaGreatDoor
open Go.RowKit
theorem img_in {ps:List RR} {o v:Int} {r:Rl} (h:getR o v (ps.map RR.r)=some r):∃q∈ps,getP o v ps=some q∧q.r=r:=by
 rw [←getP_map] at h
 cases hg:getP o v ps with
 |none=>rw [hg] at h;cases h
 |some q=>
  rw [hg] at h
  simp only [Option.map_some,Option.some.injEq] at h
  exact ⟨q,(getP_some hg).1,rfl,h⟩
theorem imok_of {q:RR} {l:List K} (h:fitsE l q.r=0) (ht:∀c∈l,c.tw):ImOk q l:=by
 obtain ⟨h1,h2,h3⟩:=fits_zero h
 exact ⟨h2,by have:=Rl.cols_le h1;omega,h3,ht⟩
theorem bodyW_pos (m:Msg):0<(bodyW m).length:=by
 unfold bodyW relW refW
 (repeat' split)<;>simp only [List.length_append,octs_len]<;>omega
theorem pbody_any (m:Msg) (ps:List RR) (a:Option Addr) (cap g:Nat) (w:World) (h:Rd w g (strOfNums (bodyW m))) (hm:m.good (ps.map RR.r)) (hlow:∀W,Kp (fun k=>k=g) w W→RL W (.slice a ps.length cap) ps) (hlen:ps.length≤1000):
 Calls Tryz.prog 25 #[.pointer (some ⟨g,0,none⟩), .slice a ps.length cap, .int .u8 m.k] w (BodyPost m g w):=by
 have hO:=msg_own hm.fine
 have hL:=msg_let hm.fine
 have hx:=hm.x
 have hst:=hm.st
 have hn:=hm.n
 have hr:=hm.r
 have he:=hm.e
 have hF:=hm.fine
 clear hm
 obtain ⟨k,x,st,n,r,e⟩:=m
 simp only at hL hx hst hn hr he⊢
 unfold Msg.own at hO
 simp only at hO
 by_cases h1:k=66
 ·subst h1
  rw [if_pos rfl] at hO
  simp only [Msg.mk.injEq] at hO
  obtain ⟨-, -, -,rfl,rfl,rfl⟩:=hO
  exact pbodyB_any x st g _ w h hx hst
 by_cases h2:k=67
 ·subst h2
  rw [if_neg (show ¬ ((67:Int)=66) by decide),if_pos rfl] at hO
  simp only [Msg.mk.injEq] at hO
  obtain ⟨-, -,rfl, -,rfl,rfl⟩:=hO
  exact pbodyC_any x n g _ w h hx hn
 by_cases h3:k=82
 ·subst h3
  rw [if_neg (show ¬ ((82:Int)=66) by decide),if_neg (show ¬ ((82:Int)=67) by decide),if_pos rfl] at hO
  simp only [Msg.mk.injEq] at hO
  obtain ⟨-,rfl,rfl,rfl, -,rfl⟩:=hO
  exact pbodyR_any r g _ w h (msg_rel hF rfl) hr.o hr.v hr.id.1
 rw [if_neg h1,if_neg h2,if_neg h3] at hO
 simp only [Msg.mk.injEq] at hO
 obtain ⟨-,rfl,rfl,rfl,rfl, -⟩:=hO
 obtain ⟨hk,hE⟩:=msg_ev hF h1 h2 h3
 simp only at hk hE
 by_cases h4:k=84
 ·subst h4
  have h7:e.kind=7:=by rw [hk];rfl
  have q:=ev_tr hE h7
  have hq:=q.is
  have h' :Rd w g (strOfNums (octs e.rs.length 1++(octs e.fl 1++refsW e.rs))):=h
  have:=pbodyT_any e.rs e.fl g (.slice a ps.length cap) w h' he.rs he.fl q.n
  rw [←hq] at this
  exact this
 have h7:e.kind≠7:=by
  rw [hk]
  unfold wkind
  (repeat' split)<;>first|omega|decide
 obtain ⟨r,q⟩:=ev_row hE h7 he.wk.old
 obtain ⟨qr,hqm,hqp,rfl⟩:=img_in q.got
 have hget:∀W,Kp (fun k=>k=g) w W→Calls Tryz.prog 55 #[.slice a ps.length cap, .agg #[.int .u32 e.ao, .int .u32 e.av]] W fun en w' =>en= .returned (.tuple #[qr.agg, .bool true])∧Ext W w' :=fun W hW=>by
  have h5:=rget_any ps a cap e.ao e.av W (hlow W hW) hlen
  rw [hqp] at h5
  exact h5
 have hqin:∀W,Kp (fun k=>k=g) w W→qr.in W:=fun W hW=>(hlow W hW).sl qr hqm
 have hb:e.old≠0→ImOk qr e.b:=fun h0=>imok_of (q.b1 h0) he.tb
 have ha:e.kind≠6→ImOk qr e.a:=fun h0=>imok_of (q.a1 h0) he.ta
 have hao:=he.ao
 have hav:=he.av
 have q1:=q.rs
 have q2:=q.fl
 have q3:=q.old
 have q4:=q.old4
 have q5:=q.old6
 have q6:=q.b0
 have q7:=q.a0
 have q8:=he.wk.old
 have hb' :Rd w g (strOfNums (refW e.ao e.av++((if e.old=1 then imgW 75 e.b else if e.old=2 then imgW 79 e.b else [])++(if k=68 then [] else imgW 78 e.a)))):=by
  have h6:bodyW ⟨k,0,0,0,Rl0,e⟩=refW e.ao e.av++((if e.old=1 then imgW 75 e.b else if e.old=2 then imgW 79 e.b else [])++(if k=68 then [] else imgW 78 e.a)):=by
   unfold bodyW
   rw [if_neg h1,if_neg h2,if_neg h3,if_neg h4]
  rw [h6] at h
  exact h
 clear q hE hF he h hqp hqm h7 hr hx hst hn
 obtain ⟨kd,ao,av,old,b,aa,rs,fl⟩:=e
 simp only at hk hget hb ha hao hav q1 q2 q3 q4 q5 q6 q7 q8 hb'
 subst q1 q2
 have hkk:k=73∨k=85∨k=68:=by
  unfold wlet wkind at hL
  have:=of_decide_eq_true hL
  (repeat' split at this)<;>omega
 rcases hkk with rfl|rfl|rfl
 ·have hk4:kd=4:=hk
  obtain rfl:old=0:=q4 hk4
  obtain rfl:b= []:=q6 rfl
  rw [if_neg (show ¬ ((73:Int)=68) by decide),if_neg (show ¬ ((0:Int)=1) by decide),if_neg (show ¬ ((0:Int)=2) by decide),List.nil_append] at hb'
  exact pbodyI_any kd ao av aa qr g _ w hk.symm (by rw [List.append_nil];exact hb') hao hav (ha (by omega)) hget hqin
 ·have hk5:kd=5:=hk
  rw [if_neg (show ¬ ((85:Int)=68) by decide)] at hb'
  by_cases o0:old=0
  ·subst o0
   obtain rfl:b= []:=q6 rfl
   rw [if_neg (show ¬ ((0:Int)=1) by decide),if_neg (show ¬ ((0:Int)=2) by decide),List.nil_append] at hb'
   exact pbodyU0_any kd ao av aa qr g _ w hk.symm (by rw [List.append_nil];exact hb') hao hav (ha (by omega)) hget hqin
  by_cases o1:old=1
  ·subst o1
   rw [if_pos (show (1:Int)=1 from rfl)] at hb'
   refine pbodyU1_any kd ao av b aa qr g _ w hk.symm ?_ hao hav (hb (by decide)) (ha (by omega)) hget hqin
   simpa only [imgW,List.append_nil,List.append_assoc,List.cons_append,List.nil_append] using hb'
  ·obtain rfl:old=2:=by omega
   rw [if_neg (show ¬ ((2:Int)=1) by decide),if_pos (show (2:Int)=2 from rfl)] at hb'
   refine pbodyU2_any kd ao av b aa qr g _ w hk.symm ?_ hao hav (hb (by decide)) (ha (by omega)) hget hqin
   simpa only [imgW,List.append_nil,List.append_assoc,List.cons_append,List.nil_append] using hb'
 ·have hk6:kd=6:=hk
  obtain rfl:aa= []:=q7 hk6
  rw [if_pos (show (68:Int)=68 from rfl),List.append_nil] at hb'
  have o0:=q5 hk6
  by_cases o1:old=1
  ·subst o1
   rw [if_pos (show (1:Int)=1 from rfl)] at hb'
   refine pbodyD1_any kd ao av b qr g _ w hk.symm ?_ hao hav (hb (by decide)) hget hqin
   simpa only [imgW,List.append_nil,List.append_assoc,List.cons_append,List.nil_append] using hb'
  ·obtain rfl:old=2:=by omega
   rw [if_neg (show ¬ ((2:Int)=1) by decide),if_pos (show (2:Int)=2 from rfl)] at hb'
   refine pbodyD2_any kd ao av b qr g _ w hk.symm ?_ hao hav (hb (by decide)) hget hqin
   simpa only [imgW,List.append_nil,List.append_assoc,List.cons_append,List.nil_append] using hb'
theorem parse_any (m:Msg) (rest L:List Int) (b o c:Nat) (ps:List RR) (a:Option Addr) (cap:Nat) (w:World) (hL:L=msgW m (ps.map RR.r)++rest) (h:Sl w (.slice (some ⟨b,o,none⟩) L.length c) 1 (L.map bcell)) (hc:L.length≤c) (hl:L.length≤1000000000000000000)
 (hm:m.good (ps.map RR.r)) (hps:RL w (.slice a ps.length cap) ps) (hpu:RCatU ps):
 Calls Tryz.prog 10 #[.slice a ps.length cap, .slice (some ⟨b,o,none⟩) L.length c] w (ParsePost m w):=by
 refine parse_of m rest L b o c _ w ?_ h hc (msg_let hm.fine) (body_short hm.fine hm.e.wk.old hm.e.wb hm.e.wa) (bodyW_pos m) hl (fun g W hg he hr=>pbody_any m ps a cap g W hr hm (fun W' hk=>hps.ext (Kp.ext he (fun x hx _=>by have hx:x=g:=hx;omega) hk)) hpu.n) (fun p W he hpm hpa=> ?_)
 ·rw [hL]
  unfold msgW
  rw [if_neg (by rw [hm.fine];simp)]
  simp only [List.cons_append,List.append_assoc]
 ·have hr:p.r.r=m.r:=congrArg Msg.r hpm
  have he2:p.e.e=m.e:=congrArg Msg.e hpm
  have h1:=mrright_anyU p ps a cap W hpa (by rw [hr];exact hm.r.len) (by rw [hr];exact hm.r.nm) (by rw [hr];exact hm.r.cs) (by rw [he2];exact hm.e.sm) (by rw [he2];exact hm.e.wk) (hps.ext he) hpu
  rw [hpm,hm.fine] at h1
  exact h1
theorem saidW_at (C:List Rl) {M:List Msg} {k:Nat} (h:k<M.length):saidW C (M.drop k)=msgW M[k] C++saidW C (M.drop (k+1)):=by
 unfold saidW
 rw [List.drop_eq_getElem_cons h,List.map_cons,List.flatten_cons]
theorem msgW_good {C:List Rl} {m:Msg} (h:m.good C):(msgW m C).length=5+(bodyW m).length:=by
 unfold msgW
 rw [if_neg (by rw [h.fine];simp)]
 simp only [List.length_cons,List.length_append,octs_len]
 omega
theorem saidW_leG {C D:List Rl} :∀(l:List Msg) (_:∀m∈l,m.good D),(saidW C l).length≤10000005*l.length
 | [],_=>Nat.le_refl _
 |m::l,h=>by
  have h1:=saidW_leG (C:=C) l (fun x hx=>h x (List.mem_cons_of_mem _ hx))
  have h2:=msgW_le (rs:=C) (h m (List.mem_cons_self ..)).e.sm (h m (List.mem_cons_self ..)).e.wb (h m (List.mem_cons_self ..)).e.wa
  have h3:saidW C (m::l)=msgW m C++saidW C l:=by unfold saidW;rw [List.map_cons,List.flatten_cons]
  rw [h3,List.length_append,List.length_cons]
  omega
theorem ordS_len {s t:Bool×List Rf} {m:Msg} (h:ordS s m=some t):t.2.length≤s.2.length+1:=by
 unfold ordS at h
 (repeat' split at h)<;>first|(simp only [Option.some.injEq] at h;subst h;first|exact Nat.le_succ _|(show (_++ [_]).length≤_;rw [List.length_append];exact Nat.le_refl _))|cases h
theorem ordF_len {M:List Msg} :∀(k:Nat) {s:Bool×List Rf} (_:k≤M.length) (_:ordF (M.take k)=some s),s.2.length≤k
 |0,s,_,h=>by
  simp only [List.take_zero] at h
  unfold ordF at h
  simp only [List.foldl_nil,Option.some.injEq] at h
  subst h
  exact Nat.le_refl _
 |k+1,s,hk,h=>by
  rw [List.take_succ_eq_append_getElem hk,ordF_snoc] at h
  cases h1:ordF (M.take k) with
  |none=>rw [h1] at h;cases h
  |some t=>
   rw [h1] at h
   have h2:=ordF_len k (by omega) h1
   have h3:=ordS_len (show ordS t M[k]=some s from h)
   omega
theorem saidW_congr {C D:List Rl} (h:∀o v,getR o v C=getR o v D) (M:List Msg):saidW C M=saidW D M:=by
 unfold saidW
 congr 1
 apply List.map_congr_left
 intro m _
 unfold msgW
 rw [msgE_congr h]
theorem good_congr {C D:List Rl} (h:∀o v,getR o v C=getR o v D) {m:Msg} (hm:m.good C):m.good D:=
 ⟨by rw [←msgE_congr h];exact hm.fine,hm.x,hm.st,hm.n,hm.r,hm.wb,hm.e⟩
structure Told (C:List Rl) (M:List Msg) (n:Nat):Prop where
 good:∀m∈M,m.good C
 len:M.length≤1200000
 ord:∃rs,ordF M=some (false,rs)∧rs.length=n
theorem told_of {qs:List Rl} {ps:List Rl} {ts:List TL} (hq:qs=ofUp ps ps.length) (h0:ofE ps=0) (hok:∀t∈ts,t.okw) (hl:ts.length≤60) (hkw:∀r∈qs,r.okw∧r.wb∧r.right=0) (hE:ckE (ts.map TL.t) qs=0):Told ps (storyM qs (ts.map TL.t)) (usedL (ts.map TL.t)).length∧sendW qs (ts.map TL.t)=saidW ps (storyM qs (ts.map TL.t)):=by
 have hg:∀o v,getR o v qs=getR o v ps:=fun o v=>by rw [hq];exact getR_up h0 o v
 have hev:∀t∈ts.map TL.t,∀e∈t.es,e.okw:=fun t ht e he=>by
  obtain ⟨t2,h2,rfl⟩:=List.mem_map.1 ht
  obtain ⟨e2,h3,rfl⟩:=List.mem_map.1 he
  exact (hok t2 h2).es e2 h3
 refine ⟨⟨fun m hm=>good_congr hg (story_good hE (fun x hx=>(hkw x hx).2.2) (fun x hx=>(hkw x hx).1) (fun x hx=>(hkw x hx).2.1) (fun t ht=> ?_) m hm), ?_,story_ordered hE (fun t ht e he=>(hev t ht e he).wk.old)⟩,saidW_congr hg _⟩
 ·refine ⟨?_, ?_, ?_,hev t ht⟩
  ·obtain ⟨t2,h2,rfl⟩:=List.mem_map.1 ht;exact (hok t2 h2).xid
  ·obtain ⟨t2,h2,rfl⟩:=List.mem_map.1 ht;exact (hok t2 h2).st
  ·obtain ⟨t2,h2,rfl⟩:=List.mem_map.1 ht
   have:=(hok t2 h2).n
   show (t2.es.map EL.e).length<4294967296
   rw [List.length_map]
   omega
 ·have h1:=(txT_n qs (ts.map TL.t) ([], []) (fun t ht=>by obtain ⟨t2,h2,rfl⟩:=List.mem_map.1 ht;exact (hok t2 h2).lit)).2.1
  rw [List.length_map] at h1
  have h2:(([], []):Said).1.length=0:=rfl
  show (txT qs ([], []) (ts.map TL.t)).1.length≤1200000
  omega
theorem ordS_B {s t:Bool×List Rf} {m:Msg} (h:ordS s m=some t) (hk:m.k=66):s.1=false∧t=(true,s.2):=by
 unfold ordS at h
 rw [if_pos (.inl hk)] at h
 have h1:decide (m.k=67)=false:=decide_eq_false (by omega)
 rw [h1] at h
 split at h
 ·rename_i h2
  rw [h2] at h
  simp only [Option.some.injEq] at h
  exact ⟨h2,h.symm⟩
 ·cases h
theorem ordS_C {s t:Bool×List Rf} {m:Msg} (h:ordS s m=some t) (hk:m.k=67):s.1=true∧t=(false,s.2):=by
 unfold ordS at h
 rw [if_pos (.inr hk)] at h
 have h1:decide (m.k=67)=true:=decide_eq_true hk
 rw [h1] at h
 split at h
 ·rename_i h2
  rw [h2] at h
  simp only [Option.some.injEq] at h
  exact ⟨h2,h.symm⟩
 ·cases h
theorem ordS_R {s t:Bool×List Rf} {m:Msg} (h:ordS s m=some t) (hk:m.k=82):hasRf s.2 ⟨m.r.oid,m.r.ver⟩=false∧s.1=true∧t=(true,s.2++ [⟨m.r.oid,m.r.ver⟩]):=by
 unfold ordS at h
 rw [if_neg (by omega),if_pos hk] at h
 split at h
 ·cases h
 ·rename_i h2
  simp only [Option.some.injEq] at h
  have h3:s.1=true:=by
   cases h4:s.1 with
   |true=>rfl
   |false=>exact absurd (.inr h4) h2
  rw [h3] at h
  exact ⟨by cases h4:hasRf s.2 ⟨m.r.oid,m.r.ver⟩ with
   |false=>rfl
   |true=>exact absurd (.inl h4) h2,h3,h.symm⟩
theorem ordS_E {s t:Bool×List Rf} {m:Msg} (h:ordS s m=some t) (h1:m.k≠66) (h2:m.k≠67) (h3:m.k≠82):(∀r∈usesE m.e,hasRf s.2 r=true)∧s.1=true∧t=s:=by
 unfold ordS at h
 rw [if_neg (by omega),if_neg h3] at h
 split at h
 ·rename_i h4
  simp only [Option.some.injEq] at h
  exact ⟨fun r hr=>List.all_eq_true.1 h4.1 r hr,h4.2,h.symm⟩
 ·cases h
theorem told21_any (l:List Rf) (r:Rf) (a:Option Addr) (c:Nat) (w:World) (hl:Sl w (.slice a l.length c) 2 (l.map Rf.cells)) (hn:l.length≤1000000000):
 Calls Tryz.prog 11 #[.slice a l.length c, .agg #[.int .u32 r.o, .int .u32 r.v]] w fun e w' =>e= .returned (.bool (hasRf l r))∧Ext w w' :=by
 have HL:=Hm hl
 clear hl
 go_enter Tryz.func11,Tryz.ntmps11
 go_wp2
 go_loopw [5] (fun i wr=>∃(k:Nat),k≤l.length∧i= .int .i64 k∧Hid (∀j (hj:j<l.length),j<k→l[j]≠r)∧Hid (Ext (w.alloc (.cells #[.int .u32 r.o, .int .u32 r.v] 41)) wr)) (fun i _=>l.length - (intOf i).toNat)
 case atStart=>exact ⟨0,Nat.zero_le _,rfl,Hm (fun j hj h=>by omega),Hm (Ext.refl _)⟩
 case round=>
  obtain ⟨k,hk,rfl,hno,hE⟩:=hrel
  have HEW:=Hm (((Ext.refl w).alloc (.cells #[.int .u32 r.o, .int .u32 r.v] 41)).trans hE.out)
  have HBB:=Hm ((Blk.new w #[.int .u32 r.o, .int .u32 r.v] 41).ext hE.out)
  have g0:=HBB.out.cell
  have z0:=HBB.out.lt
  by_cases hlt:k<l.length
  ·obtain ⟨b0,o,rfl,hb,hx⟩:=HL.out.at_ (i:=k) (by simpa using hlt)
   obtain ⟨f0,f1⟩:=Rf.at_ hlt hx hb HEW.out
   have hbw:b0<wr.heap.size:=Nat.lt_of_lt_of_le hb HEW.out.size
   have HIN:Hid (l[k]∈l):=Hm (List.getElem_mem hlt)
   have HNX:Hid (l[k]≠r→∀j (hj:j<l.length),j<k+1→l[j]≠r):=Hm (fun h j hj hjk=>by
    by_cases e:j=k
    ·subst e;exact h
    ·exact hno.out j hj (by omega))
   obtain ⟨p,hp⟩:∃p,p=l[k]:=⟨_,rfl⟩
   rw [←hp] at f0 f1 HIN HNX
   clear hx hp hb hno
   obtain ⟨po,pv⟩:=p
   simp only at f0 f1
   obtain ⟨ro,rv⟩:=r
   simp only at g0
   by_cases h1:po=ro
   ·subst h1
    by_cases h2:pv=rv
    ·subst h2
     have HR:=Hm (hasRf_true.2 HIN.out)
     clear HNX
     go_wp2
     go_region_held3 (fun w' =>Ext (wr) w'∧(∀b o,b<(wr).heap.size→w'.cell? ⟨b,o,none⟩=(wr).cell? ⟨b,o,none⟩)∧(∀b o,b<(wr).heap.size→w'.frozen? ⟨b,o,none⟩=(wr).frozen? ⟨b,o,none⟩)) ((exact held_of (by exact eX))) (fail)
     go_wp2
     go_ret
     exact ⟨ret_bool HR.out.symm,by have hE:=HEW.out;exact eX⟩
    ·have h3:(pv==rv)=false:=by simpa using h2
     have HNX2:=Hm (HNX.out (fun e=>h2 (by injection e)))
     clear HNX h2
     go_wp2
     go_region_held3 (fun w' =>Ext (wr) w'∧(∀b o,b<(wr).heap.size→w'.cell? ⟨b,o,none⟩=(wr).cell? ⟨b,o,none⟩)∧(∀b o,b<(wr).heap.size→w'.frozen? ⟨b,o,none⟩=(wr).frozen? ⟨b,o,none⟩)) ((exact held_of (by exact eX))) (fail)
     go_wp2
     go_roundw
     case rel=>exact ⟨k+1,by omega,by go_num,HNX2,Hm (by have hE:=hE.out;exact eX)⟩
     case measure=>simp [intOf];omega
   ·have h3:(po==ro)=false:=by simpa using h1
    have HNX2:=Hm (HNX.out (fun e=>h1 (by injection e)))
    clear HNX h1
    go_wp2
    go_region_held3 (fun w' =>Ext (wr) w'∧(∀b o,b<(wr).heap.size→w'.cell? ⟨b,o,none⟩=(wr).cell? ⟨b,o,none⟩)∧(∀b o,b<(wr).heap.size→w'.frozen? ⟨b,o,none⟩=(wr).frozen? ⟨b,o,none⟩)) ((exact held_of (by exact eX))) (fail)
    go_wp2
    go_roundw
    case rel=>exact ⟨k+1,by omega,by go_num,HNX2,Hm (by have hE:=hE.out;exact eX)⟩
    case measure=>simp [intOf];omega
  ·have HR:Hid (hasRf l r=false):=Hm (by
    rw [←Bool.not_eq_true,hasRf_true]
    intro h
    obtain ⟨j,hj,e⟩:=List.getElem_of_mem h
    exact hno.out j hj (by omega) e)
   clear hno
   go_wp2
   go_ret
   exact ⟨ret_bool HR.out.symm,by have hE:=HEW.out;exact eX⟩
structure RS where
 l:List Int
 e:Int
def isB (l:List Int):Prop:=∀x∈l,0≤x∧x<256
theorem isB.drop {l:List Int} (h:isB l) (n:Nat):isB (l.drop n):=fun x hx=>h x (List.mem_of_mem_drop hx)
theorem isB.take {l:List Int} (h:isB l) (n:Nat):isB (l.take n):=fun x hx=>h x (List.mem_of_mem_take hx)
theorem isB.nil:isB []:=fun x hx=>by cases hx
theorem isB.append {l m:List Int} (h:isB l) (k:isB m):isB (l++m):=fun x hx=>by rcases List.mem_append.1 hx with h1|h1;exact h x h1;exact k x h1
theorem isB.tail {x:Int} {l:List Int} (h:isB (x::l)):isB l:=fun y hy=>h y (List.mem_cons_of_mem _ hy)
def RS.ok (st:RS):Prop:=(st.e≠0→st.l= [])∧isB st.l
structure Tch (g:Nat) (w w' :World):Prop where
 os:w'.os=w.os
 tape:w'.tape=w.tape
 output:w'.output=w.output
 size:w.heap.size≤w'.heap.size
 block:∀k,k<w.heap.size→k≠g→w'.heap[k]? =w.heap[k]?
theorem Tch.refl (g:Nat) (w:World):Tch g w w:=⟨rfl,rfl,rfl,Nat.le_refl _,fun _ _ _=>rfl⟩
theorem Tch.trans {g:Nat} {a b c:World} (h:Tch g a b) (k:Tch g b c):Tch g a c:=
 ⟨k.os.trans h.os,k.tape.trans h.tape,k.output.trans h.output,Nat.le_trans h.size k.size,fun i hi hg=>(k.block i (Nat.lt_of_lt_of_le hi h.size) hg).trans (h.block i hi hg)⟩
theorem Tch.of_ext {g:Nat} {w w' :World} (h:Ext w w'):Tch g w w' :=⟨h.os,h.tape,h.output,h.size,fun k hk _=>h.block k hk⟩
theorem Tch.ext {g:Nat} {W w w' :World} (hE:Ext W w) (hg:W.heap.size≤g) (h:Tch g w w'):Ext W w' :=
 Below.trans hE ⟨h.os,h.tape,h.output,h.size,fun k hk=>h.block k (Nat.lt_of_lt_of_le hk hE.size) (by omega)⟩
theorem Tch.set {g:Nat} {w w' :World} (h:Tch g w w') (i:Nat) (v:Value):Tch g w (w'.setCell ⟨g,i,none⟩ v):=
 h.trans ⟨rfl,rfl,rfl,by simp [World.setCell],fun k _ hg=>Below.heap_setCell _ _ _ _ hg⟩
theorem Tch.alloc {g:Nat} {w w' :World} (h:Tch g w w') (o:Obj):Tch g w (w'.alloc o):=h.trans (Tch.of_ext ((Ext.refl _).alloc o))
theorem Tch.drewN {g:Nat} {w w' :World} (h:Tch g w w') (n:Nat):Tch g w (w'.drewN n):=h.trans (Tch.of_ext ((Ext.refl _).drewN n))
def SB (w:World) (g d:Nat) (v:Value) (l:List Int):Prop:=
 ∃a cap,v= .slice a l.length cap∧l.length≤cap∧(a=none→cap=0)∧(l= []∨∃b o,a=some ⟨b,o,none⟩∧b<w.heap.size∧(d≤b∧b<g)∧∀i,i<l.length→w.cell? ⟨b,o+i,none⟩=some (.int .u8 (l.getD i 0)))
theorem Tch.cell {g:Nat} {w w1:World} (he:Tch g w w1) {b:Nat} (hb:b<w.heap.size) (hne:b≠g) (o:Nat):w1.cell? ⟨b,o,none⟩=w.cell? ⟨b,o,none⟩:=
 World.cell?_of_block (w:=w) (he.block b hb hne)
theorem SB.ext {w w1:World} {g d:Nat} {v:Value} {l:List Int} (h:SB w g d v l) (he:Ext w w1):SB w1 g d v l:=by
 obtain ⟨a,cap,rfl,h1,h2,h⟩:=h
 refine ⟨a,cap,rfl,h1,h2,h.imp id ?_⟩
 rintro ⟨b,o,ha,hb,hd,hc⟩
 exact ⟨b,o,ha,Nat.lt_of_lt_of_le hb he.size,hd,fun i hi=>(he.cells.1 b _ hb).trans (hc i hi)⟩
theorem SB.sl {w:World} {g d:Nat} {v:Value} {l:List Int} (h:SB w g d v l):Sl w v 1 (l.map bcell):=by
 obtain ⟨a,cap,rfl, -, -,h⟩:=h
 refine ⟨a,cap,by simp, ?_⟩
 rcases h with rfl|⟨b,o,ha,hb,hne,hc⟩
 ·exact .inl rfl
 ·refine .inr ⟨b,o,ha,hb,fun i hi j hj=> ?_⟩
  obtain rfl:j=0:=by omega
  have hi' :i<l.length:=by simpa using hi
  rw [Nat.mul_one,Nat.add_zero,hc i hi']
  simp [bcell,List.getD,List.getElem?_map,List.getElem?_eq_getElem hi']
theorem SB.nil (w:World) (g d:Nat):SB w g d (.slice none 0 0) []:=⟨none,0,rfl,Nat.le_refl _,fun _=>rfl, .inl rfl⟩
theorem SB.zero (w:World) (g d:Nat) (a:Option Addr) (cap:Nat) (h:a=none→cap=0):SB w g d (.slice a 0 cap) []:=⟨a,cap,rfl,Nat.zero_le _,h, .inl rfl⟩
theorem SB.of_own {w:World} {g base:Nat} {v:Value} {l:List Int} (h:OB w base v l) (hg:w.heap.size≤g):SB w g base v l:=by
 have hs:=h.sl
 rcases h.2 with ⟨rfl,h0⟩|⟨k,cap,cur,rfl,hb,hk,hn,_⟩
 ·have:l= []:=List.length_eq_zero_iff.1 h0
  subst this;exact SB.nil _ _ _
 ·refine ⟨_,cap,rfl,hn,fun h=>(by cases h), ?_⟩
  rcases Nat.eq_zero_or_pos l.length with h0|h0
  ·exact .inl (List.length_eq_zero_iff.1 h0)
  ·obtain ⟨h1,_,h2⟩:=Sl.bytes hs h0
   exact .inr ⟨k,0,rfl,h1,⟨hb,by omega⟩,h2⟩
theorem SB.drop {w:World} {g d:Nat} {b o:Nat} {l:List Int} {len cap n:Nat} (h:SB w g d (.slice (some ⟨b,o,none⟩) len cap) l) (hn:n≤l.length) (len' cap' :Nat) (hlen:len' =l.length - n) (hcap:cap' =cap - n):SB w g d (.slice (some ⟨b,o+n,none⟩) len' cap') (l.drop n):=by
 obtain ⟨a,c,hv,h1,h2,h⟩:=h
 simp only [Value.slice.injEq] at hv
 obtain ⟨rfl,rfl,rfl⟩:=hv
 subst hlen hcap
 refine ⟨some ⟨b,o+n,none⟩,cap - n,by simp,by simp;omega,fun h=>(by cases h), ?_⟩
 rcases h with rfl|⟨b',o',ha,hb,hne,hc⟩
 ·exact .inl (by simp)
 ·cases ha
  refine .inr ⟨b,o+n,rfl,hb,hne,fun i hi=> ?_⟩
  simp only [List.length_drop] at hi
  rw [Nat.add_assoc,hc (n+i) (by omega)]
  simp [List.getD]
theorem SB.take {w:World} {g d:Nat} {a:Option Addr} {l:List Int} {len cap n:Nat} (h:SB w g d (.slice a len cap) l) (hn:n≤l.length):SB w g d (.slice a n cap) (l.take n):=by
 obtain ⟨a',c,hv,h1,h2,h⟩:=h
 simp only [Value.slice.injEq] at hv
 obtain ⟨rfl,rfl,rfl⟩:=hv
 refine ⟨a,cap,by simp;omega,by simp;omega,h2, ?_⟩
 rcases h with rfl|⟨b',o',ha,hb,hne,hc⟩
 ·exact .inl (by simp)
 ·refine .inr ⟨b',o',ha,hb,hne,fun i hi=> ?_⟩
  simp only [List.length_take] at hi
  rw [hc i (by omega)]
  simp [List.getD,show i<n by omega]
def jumps (J:Nat→Act→World→Prop) (Q:Exit→Act→World→Prop):Exit→Act→World→Prop
 | .goto l,a,w=>J l a w
 |e,a,w=>Q e a w
end Go.Proofs.YtgmphpccpfaapaaGreatDoor
