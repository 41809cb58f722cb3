/-
How many messages a story has; how long their bytes are.
-/
import Derived.Test.YtgmphpccpfaapaaGreatDoorP19
import Derived.Test.YtgmphpccpfaapaaGreatDoorP24
import Derived.Test.YtgmphpccpfaapaaGreatDoorP20
import Derived.Test.YtgmphpccpfaapaaGreatDoorP7
import Derived.Test.YtgmphpccpfaapaaGreatDoorP3
import Derived.Test.YtgmphpccpfaapaaGreatDoorP21
set_option maxRecDepth 100000
set_option maxHeartbeats 16000000
namespace Go.Proofs.YtgmphpccpfaapaaGreatDoor
open Go.RowKit
theorem usesE_le {e:Ev} (h:e.rs.length≤30):(usesE e).length≤30:=by
 unfold usesE
 split
 ·simp
 ·split
  ·exact h
  ·simp
theorem stU_n (c:List Rl) (s:Said) (r:Rf):s.1.length≤(stU c s r).1.length∧(stU c s r).1.length≤s.1.length+1∧((stU c s r).2.length+s.1.length=(stU c s r).1.length+s.2.length):=by
 unfold stU
 split
 ·omega
 ·simp only [List.length_append,List.length_cons,List.length_nil];omega
theorem usU_n (c:List Rl):∀(l:List Rf) (s:Said),s.1.length≤(usU c s l).1.length∧(usU c s l).1.length≤s.1.length+l.length∧((usU c s l).2.length+s.1.length=(usU c s l).1.length+s.2.length)
 | [],s=>by unfold usU;simp only [List.foldl_nil,List.length_nil];omega
 |r::l,s=>by
  have h1:=stU_n c s r
  have h2:=usU_n c l (stU c s r)
  have h3:usU c s (r::l)=usU c (stU c s r) l:=rfl
  rw [h3,List.length_cons]
  omega
theorem stV_n (c:List Rl) (s:Said) {v:Ev} (h:v.rs.length≤30):s.1.length<(stV c s v).1.length∧(stV c s v).1.length≤s.1.length+31∧(stV c s v).2.length+s.1.length≤(stV c s v).1.length+s.2.length:=by
 have h1:=usU_n c (usesE v) s
 have h2:=usesE_le h
 unfold stV
 simp only [List.length_append,List.length_cons,List.length_nil]
 omega
theorem evV_n (c:List Rl):∀(l:List Ev) (s:Said) (_:∀v∈l,v.rs.length≤30),s.1.length≤(evV c s l).1.length∧(evV c s l).1.length≤s.1.length+31*l.length∧(evV c s l).2.length+s.1.length≤(evV c s l).1.length+s.2.length
 | [],s,_=>by unfold evV;simp only [List.foldl_nil,List.length_nil];omega
 |v::l,s,h=>by
  have h1:=stV_n c s (h v (List.mem_cons_self ..))
  have h2:=evV_n c l (stV c s v) (fun x hx=>h x (List.mem_cons_of_mem _ hx))
  have h3:evV c s (v::l)=evV c (stV c s v) l:=rfl
  rw [h3,List.length_cons]
  omega
def Tx.lit (t:Tx):Prop:=t.es.length≤600∧∀v∈t.es,v.rs.length≤30
theorem stT_n (c:List Rl) (s:Said) {t:Tx} (h:t.lit):s.1.length≤(stT c s t).1.length∧(stT c s t).1.length≤s.1.length+18602∧(stT c s t).2.length+s.1.length≤(stT c s t).1.length+s.2.length:=by
 have h1:=evV_n c t.es (s.1++ [txMB t],s.2) h.2
 have h2:=h.1
 unfold stT
 simp only [List.length_append,List.length_cons,List.length_nil] at h1⊢
 omega
theorem txT_n (c:List Rl):∀(l:List Tx) (s:Said) (_:∀t∈l,t.lit),s.1.length≤(txT c s l).1.length∧(txT c s l).1.length≤s.1.length+18602*l.length∧(txT c s l).2.length+s.1.length≤(txT c s l).1.length+s.2.length
 | [],s,_=>by unfold txT;simp only [List.foldl_nil,List.length_nil];omega
 |t::l,s,h=>by
  have h1:=stT_n c s (h t (List.mem_cons_self ..))
  have h2:=txT_n c l (stT c s t) (fun x hx=>h x (List.mem_cons_of_mem _ hx))
  have h3:txT c s (t::l)=txT c (stT c s t) l:=rfl
  rw [h3,List.length_cons]
  omega
noncomputable def sAt (c:List Rl) (l:List Tx) (i:Nat):Said:=txT c ([], []) (l.take i)
noncomputable def sEv (c:List Rl) (l:List Tx) (i:Nat) (t:Tx) (k:Nat):Said:=evV c ((sAt c l i).1++ [txMB t],(sAt c l i).2) (t.es.take k)
noncomputable def sUs (c:List Rl) (l:List Tx) (i:Nat) (t:Tx) (k:Nat) (v:Ev) (j:Nat):Said:=usU c (sEv c l i t k) ((usesE v).take j)
section
variable {c : List Rl} {l : List Tx} (h : ∀ t ∈ l, t.lit) (hn : l.length ≤ 60)
include h hn
omit hn in
theorem sAt_n (i:Nat):(sAt c l i).1.length≤18602*i∧(sAt c l i).2.length≤(sAt c l i).1.length:=by
 have h1:=txT_n c (l.take i) ([], []) (fun t ht=>h t (List.mem_of_mem_take ht))
 have h2:(l.take i).length≤i:=by rw [List.length_take];omega
 unfold sAt
 simp only [List.length_nil] at h1
 omega
omit hn in
theorem sEv_n {i k:Nat} {t:Tx} (ht:t∈l):(sEv c l i t k).1.length≤18602*i+1+31*k∧(sEv c l i t k).2.length≤(sEv c l i t k).1.length:=by
 have h0:=sAt_n (c:=c) h i
 have h1:=evV_n c (t.es.take k) ((sAt c l i).1++ [txMB t],(sAt c l i).2) (fun v hv=>(h t ht).2 v (List.mem_of_mem_take hv))
 have h2:(t.es.take k).length≤k:=by rw [List.length_take];omega
 unfold sEv
 simp only [List.length_append,List.length_cons,List.length_nil] at h1
 omega
theorem sUs_n {i k j:Nat} {t:Tx} {v:Ev} (ht:t∈l) (hi:i<l.length) (hv:v∈t.es) (hk:k<t.es.length):(sUs c l i t k v j).1.length≤1200000∧(sUs c l i t k v j).2.length≤1200000:=by
 have h0:=sEv_n (c:=c) (i:=i) (k:=k) h ht
 have h1:=usU_n c ((usesE v).take j) (sEv c l i t k)
 have h2:=usesE_le ((h t ht).2 v hv)
 have h3:((usesE v).take j).length≤30:=by rw [List.length_take];omega
 have h4:=(h t ht).1
 unfold sUs
 omega
theorem sAt_b {i:Nat} (hi:i≤l.length):(sAt c l i).1.length≤1200000∧(sAt c l i).2.length≤1200000:=by
 have h0:=sAt_n (c:=c) h i
 omega
theorem sEv_b {i k:Nat} {t:Tx} (ht:t∈l) (hi:i<l.length) (hk:k≤t.es.length):(sEv c l i t k).1.length≤1200000∧(sEv c l i t k).2.length≤1200000:=by
 have h0:=sEv_n (c:=c) (i:=i) (k:=k) h ht
 have h4:=(h t ht).1
 omega
end
theorem sAt_end (c:List Rl) (l:List Tx):(sAt c l l.length).1=storyM c l:=by unfold sAt storyM;rw [List.take_length]
theorem sAt_succ (c:List Rl) {l:List Tx} {i:Nat} (h:i<l.length):sAt c l (i+1)=((sEv c l i l[i] l[i].es.length).1++ [txMC l[i]],(sEv c l i l[i] l[i].es.length).2):=by
 unfold sAt sEv
 rw [txT_take _ _ _ h,List.take_length]
 rfl
theorem sEv_zero (c:List Rl) (l:List Tx) (i:Nat) (t:Tx):sEv c l i t 0=((sAt c l i).1++ [txMB t],(sAt c l i).2):=rfl
theorem sEv_succ (c:List Rl) (l:List Tx) (i:Nat) {t:Tx} {k:Nat} (h:k<t.es.length):sEv c l i t (k+1)=((sUs c l i t k t.es[k] (usesE t.es[k]).length).1++ [msgOf t.es[k]],(sUs c l i t k t.es[k] (usesE t.es[k]).length).2):=by
 unfold sEv sUs
 rw [evV_take _ _ _ h,List.take_length]
 rfl
theorem sUs_succ (c:List Rl) (l:List Tx) (i:Nat) (t:Tx) (k:Nat) (v:Ev) {j:Nat} (h:j<(usesE v).length):sUs c l i t k v (j+1)=stU c (sUs c l i t k v j) (usesE v)[j]:=by
 unfold sUs
 exact usU_take _ _ _ h
theorem msgW_le {m:Msg} {rs:List Rl} (hs:m.e.small) (hb:∀c∈m.e.b,c.wr) (ha:∀c∈m.e.a,c.wr):(msgW m rs).length≤10000005:=by
 unfold msgW
 by_cases h0:msgE m rs≠0
 ·rw [if_pos h0];simp
 ·rw [if_neg h0]
  have:=body_len (m:=m) (rs:=rs) (Classical.not_not.1 h0) hs hb ha
  simp only [List.length_cons,List.length_append,octs_len]
  omega
theorem saidW_le (rs:List Rl):∀(l:List ML) (_:∀p∈l,p.okr),(saidW rs (l.map ML.m)).length≤10000005*l.length
 | [],_=>by unfold saidW;simp
 |p::l,h=>by
  have h1:=saidW_le rs l (fun q hq=>h q (List.mem_cons_of_mem _ hq))
  have hp:=h p (List.mem_cons_self ..)
  have h2:=msgW_le (m:=p.m) (rs:=rs) hp.sm hp.wb hp.wa
  unfold saidW at h1⊢
  simp only [List.map_cons,List.flatten_cons,List.length_append,List.length_cons]
  omega
theorem rload17 {W:World} {b:Nat} {v0 v1 v2 v3 v4 v5 v6 v7 v8 v9 v10 v11 v12 v13 v14 v15 v16:Value} (h:Blk W b #[v0,v1,v2,v3,v4,v5,v6,v7,v8,v9,v10,v11,v12,v13,v14,v15,v16] 49):
 (Instr.loadAt 49 (.pointer (some ⟨b,0,none⟩))).run Tryz.prog W= .ok (.agg #[v0,v1,v2,v3,v4,v5,v6,v7,v8,v9,v10,v11,v12,v13,v14,v15,v16]) W:=by
 have c:=h.cell
 have c0:=c 0
 have c1:=c 1
 have c2:=c 2
 have c3:=c 3
 have c4:=c 4
 have c5:=c 5
 have c6:=c 6
 have c7:=c 7
 have c8:=c 8
 have c9:=c 9
 have c10:=c 10
 have c11:=c 11
 have c12:=c 12
 have c13:=c 13
 have c14:=c 14
 have c15:=c 15
 have c16:=c 16
 clear c h
 simp at c0 c1 c2 c3 c4 c5 c6 c7 c8 c9 c10 c11 c12 c13 c14 c15 c16
 simp [go_sem,c0,c1,c2,c3,c4,c5,c6,c7,c8,c9,c10,c11,c12,c13,c14,c15,c16]
theorem rstore17 {W:World} {b:Nat} {u0 u1 u2 u3 u4 u5 u6 u7 u8 u9 u10 u11 u12 u13 u14 u15 u16:Value} {i0 i1 i2 i3 i4 i5 i7 i9 i10 i11 i12 i16:Int} {s6:ByteArray} {a8 a13 a14 a15:Option Addr} {n8 c8 n13 c13 n14 c14 n15 c15:Nat} (h:Blk W b #[u0,u1,u2,u3,u4,u5,u6,u7,u8,u9,u10,u11,u12,u13,u14,u15,u16] 49):
 (Instr.storeAt 49 (.pointer (some ⟨b,0,none⟩)) (.agg #[.int .u8 i0, .int .u32 i1, .int .u64 i2, .int .u32 i3, .int .u32 i4, .int .u32 i5, .string s6, .int .u8 i7, .slice a8 n8 c8, .int .u8 i9, .int .u32 i10, .int .u32 i11, .int .u8 i12, .slice a13 n13 c13, .slice a14 n14 c14, .slice a15 n15 c15, .int .u8 i16])).run Tryz.prog W= .ok () (((((((((((((((((W.setCell ⟨b,0,none⟩ (.int .u8 i0)).setCell ⟨b,1,none⟩ (.int .u32 i1)).setCell ⟨b,2,none⟩ (.int .u64 i2)).setCell ⟨b,3,none⟩ (.int .u32 i3)).setCell ⟨b,4,none⟩ (.int .u32 i4)).setCell ⟨b,5,none⟩ (.int .u32 i5)).setCell ⟨b,6,none⟩ (.string s6)).setCell ⟨b,7,none⟩ (.int .u8 i7)).setCell ⟨b,8,none⟩ (.slice a8 n8 c8)).setCell ⟨b,9,none⟩ (.int .u8 i9)).setCell ⟨b,10,none⟩ (.int .u32 i10)).setCell ⟨b,11,none⟩ (.int .u32 i11)).setCell ⟨b,12,none⟩ (.int .u8 i12)).setCell ⟨b,13,none⟩ (.slice a13 n13 c13)).setCell ⟨b,14,none⟩ (.slice a14 n14 c14)).setCell ⟨b,15,none⟩ (.slice a15 n15 c15)).setCell ⟨b,16,none⟩ (.int .u8 i16)):=by
 have c:=h.cell
 have hf:=h.frozen
 have c0:=c 0
 have c1:=c 1
 have c2:=c 2
 have c3:=c 3
 have c4:=c 4
 have c5:=c 5
 have c6:=c 6
 have c7:=c 7
 have c8:=c 8
 have c9:=c 9
 have c10:=c 10
 have c11:=c 11
 have c12:=c 12
 have c13:=c 13
 have c14:=c 14
 have c15:=c 15
 have c16:=c 16
 clear c h
 simp at c0 c1 c2 c3 c4 c5 c6 c7 c8 c9 c10 c11 c12 c13 c14 c15 c16
 simp [go_sem,c0,c1,c2,c3,c4,c5,c6,c7,c8,c9,c10,c11,c12,c13,c14,c15,c16,hf]
structure Ev.okw (e:Ev):Prop where
 sm:e.small
 wk:e.wk
 wb:∀c∈e.b,c.wr
 wa:∀c∈e.a,c.wr
 ao:B32 e.ao
 av:B32 e.av
 rs:∀r∈e.rs,B32 r.o∧B32 r.v
 fl:0≤e.fl∧e.fl<256
 k:0≤e.kind∧e.kind<256
 tb:∀c∈e.b,c.tw
 ta:∀c∈e.a,c.tw
theorem Ev.okw_of {e:Ev} (hz:e.sz) (ht:e.tw) (hl:e.lit):e.okw:=
 ⟨⟨by have:=hl.b;omega,by have:=hl.a;omega,by have:=hl.r;omega⟩,⟨hz.sb,hz.sa,hz.old.1⟩,fun c hc=>⟨⟨(ht.b c hc).n.1,by have:=(ht.b c hc).n.2;omega⟩,(ht.b c hc).s⟩,fun c hc=>⟨⟨(ht.a c hc).n.1,by have:=(ht.a c hc).n.2;omega⟩,(ht.a c hc).s⟩,
  ht.at_.o,ht.at_.v,fun r hr=>⟨(ht.r r hr).o,(ht.r r hr).v⟩,hz.fl,hz.kind,ht.b,ht.a⟩
theorem Ev0_okw:Ev0.okw:=⟨⟨Nat.zero_le _,Nat.zero_le _,Nat.zero_le _⟩,⟨(fun c h=>by cases h),(fun c h=>by cases h),Int.le_refl _⟩,(fun c h=>by cases h),(fun c h=>by cases h),⟨Int.le_refl _,by decide⟩,⟨Int.le_refl _,by decide⟩,(fun c h=>by cases h),⟨Int.le_refl _,by decide⟩,⟨Int.le_refl _,by decide⟩,(fun c h=>by cases h),(fun c h=>by cases h)⟩
theorem usesE_b32 {e:Ev} (h:e.okw):∀r∈usesE e,B32 r.o∧B32 r.v:=by
 unfold usesE
 split
 ·intro r hr
  obtain rfl:r=⟨e.ao,e.av⟩:=by simpa using hr
  exact ⟨h.ao,h.av⟩
 ·split
  ·exact h.rs
  ·intro r hr;cases hr
structure Rl.okw (r:Rl):Prop where
 len:r.cols.length≤1000
 nm:r.nm.size≤9223372036854775807
 cs:∀c∈r.cols,c.nm.size≤9223372036854775807
 o:B32 r.oid
 v:B32 r.ver
 id:0≤r.id∧r.id<256
theorem Rl0_okw:Rl0.okw:=⟨Nat.zero_le _,by decide,(fun c h=>by cases h),⟨Int.le_refl _,by decide⟩,⟨Int.le_refl _,by decide⟩,⟨Int.le_refl _,by decide⟩⟩
theorem right_id {r:Rl} (h:r.right=0):r.id≤2:=by
 unfold Rl.right at h
 (repeat' split at h)<;>first|omega|cases h
theorem Rl.okw_of {r:Rl} (h:r.right=0) (hw:r.wb) (hb:B32 r.oid∧B32 r.ver):r.okw:=
 ⟨by have:=Rl.cols_le h;omega,hw.nm,hw.cs,hb.1,hb.2,⟨hw.idn,by have:=right_id h;omega⟩⟩
def R0:RR:=⟨Rl0,none,0⟩
def E0:EL:=⟨Ev0,none,0,none,0,none,0⟩
def mlB (x st:Int):ML:=⟨66,x,st,0,R0,E0⟩
def mlC (x:Int) (n:Nat):ML:=⟨67,x,0,n,R0,E0⟩
def mlR (q:RR):ML:=⟨82,0,0,0,q,E0⟩
theorem mlC_m (t:TL):(mlC t.xid t.es.length).m=txMC t.t:=by unfold mlC txMC ML.m TL.t;simp only [List.length_map];rfl
theorem mlR_m {c:List Rl} {r:Rf} {q:RR} (h:q.r=(getR r.o r.v c).getD Rl0):(mlR q).m=relM c r:=by unfold mlR relM ML.m;rw [h];rfl
theorem mlB_at {n:Nat} {f:K→List Value} (W:World) (x st:Int):(mlB x st).at n f W:=⟨RR.in_zero W,EL.at_zero n f W⟩
theorem mlC_at {n:Nat} {f:K→List Value} (W:World) (x:Int) (m:Nat):(mlC x m).at n f W:=⟨RR.in_zero W,EL.at_zero n f W⟩
theorem mlR_at {n:Nat} {f:K→List Value} {W:World} {q:RR} (h:q.in W):(mlR q).at n f W:=⟨h,EL.at_zero n f W⟩
theorem b32_zero:B32 0:=⟨Int.le_refl _,by decide⟩
theorem ML.okr_mk {p:ML} (hr:p.r.r.okw) (he:p.e.e.okw) (hk:0≤p.k∧p.k<256) (hx:B32 p.x) (hst:0≤p.st∧p.st<18446744073709551616) (hn:B32 p.n):p.okr:=
 ⟨hr.len,hr.nm,hr.cs,he.sm,he.wk,hk.1,hk.2,hx,hst.1,hst.2,hn,hr.o,hr.v,hr.id,he.wb,he.wa,he.ao,he.av,he.rs,he.fl⟩
theorem z64:(0:Int)≤0∧(0:Int)<18446744073709551616:=⟨Int.le_refl _,by decide⟩
theorem mlB_ok {x st:Int} (hx:B32 x) (hst:0≤st∧st<18446744073709551616):(mlB x st).ok:=⟨ML.okr_mk Rl0_okw Ev0_okw (show (0:Int)≤66∧(66:Int)<256 by decide) hx hst b32_zero,Nat.le_refl _⟩
theorem mlC_ok {x:Int} {n:Nat} (hx:B32 x) (hn:n<4294967296):(mlC x n).ok:=⟨ML.okr_mk Rl0_okw Ev0_okw (show (0:Int)≤67∧(67:Int)<256 by decide) hx z64 ⟨Int.natCast_nonneg _,by show (n:Int)<_;omega⟩,Nat.le_refl _⟩
theorem mlR_ok {q:RR} (h:q.r.okw) (hc:q.r.cols.length≤q.c):(mlR q).ok:=⟨ML.okr_mk h Ev0_okw (show (0:Int)≤82∧(82:Int)<256 by decide) b32_zero z64 b32_zero,hc⟩
theorem okr_msgOf {p:ML} {e:Ev} (h:p.m=msgOf e) (he:e.okw):p.okr:=by
 obtain ⟨k,x,st,n,r,v⟩:=p
 unfold ML.m msgOf at h
 have hz:∀(k' :Int) (e' :Ev),(⟨k,x,st,n,r.r,v.e⟩:Msg)=⟨k',0,0,0,Rl0,e'⟩→(0≤k'∧k' <256)→e'.okw→ML.okr ⟨k,x,st,n,r,v⟩:=fun k' e' h1 h2 h3=>by
  simp only [Msg.mk.injEq] at h1
  obtain ⟨rfl,rfl,rfl,rfl,h5,h6⟩:=h1
  exact ML.okr_mk (by show r.r.okw;rw [h5];exact Rl0_okw) (by show v.e.okw;rw [h6];exact h3) h2 b32_zero z64 b32_zero
 simp only at h
 split at h
 ·exact hz 73 e h ⟨by decide,by decide⟩ he
 split at h
 ·exact hz 85 e h ⟨by decide,by decide⟩ he
 split at h
 ·exact hz 68 e h ⟨by decide,by decide⟩ he
 split at h
 ·exact hz 84 e h ⟨by decide,by decide⟩ he
 ·exact hz 0 Ev0 h ⟨by decide,by decide⟩ Ev0_okw
theorem msgOf_r0 (e:Ev):(msgOf e).r=Rl0:=by
 unfold msgOf
 (repeat' split)<;>rfl
theorem cap_msgOf {p:ML} {e:Ev} (h:p.m=msgOf e):p.r.r.cols.length≤p.r.c:=by
 have h1:p.r.r=Rl0:=(show p.m.r=Rl0 by rw [h];exact msgOf_r0 e)
 rw [h1];exact Nat.zero_le _
structure TL.okw (t:TL):Prop where
 xid:B32 t.xid
 st:0≤t.st∧t.st<18446744073709551616
 es:∀e∈t.es,e.e.okw
 n:t.es.length≤600
 r:∀e∈t.es,e.e.rs.length≤30
theorem TL.okw.lit {t:TL} (h:t.okw):t.t.lit:=⟨by unfold TL.t;rw [List.length_map];exact h.n,fun v hv=>by
 obtain ⟨e,he,rfl⟩:=List.mem_map.1 hv
 exact h.r e he⟩
def bodyB:List Int:= [0,0,0,5,0,0,0,0,0,0,0,0]
def bodyC:List Int:= [0,0,0,5,0,0,0,0]
theorem bodyB_b:∀x∈bodyB,0≤x∧x<256:=by decide
theorem bodyC_b:∀x∈bodyC,0≤x∧x<256:=by decide
theorem wlet_B:wlet 66=true:=by decide
theorem wlet_C:wlet 67=true:=by decide
theorem msgE_B (rs:List Rl):msgE (mlB 5 0).m rs=0:=by
 unfold msgE
 rw [if_neg (by rw [show (mlB 5 0).m.k=66 from rfl,wlet_B];simp),if_neg (by rw [msgB_true.2 (show (mlB 5 0).m=(mlB 5 0).m.own from rfl)];simp),if_pos (.inl rfl),if_neg (by rw [show (mlB 5 0).m.x=5 from rfl];decide)]
theorem msgE_C (rs:List Rl):msgE (mlC 5 0).m rs=0:=by
 unfold msgE
 rw [if_neg (by rw [show (mlC 5 0).m.k=67 from rfl,wlet_C];simp),if_neg (by rw [msgB_true.2 (show (mlC 5 0).m=(mlC 5 0).m.own from rfl)];simp),if_pos (.inr rfl),if_neg (by rw [show (mlC 5 0).m.x=5 from rfl];decide)]
theorem res_wmsg {W:World} {b:Nat} {v0 v1 v2 v3 v4 v5 v6 v7 v8 v9 v10 v11 v12 v13 v14 v15 v16:Value} {tm:Array Value} (h:Blk W b #[v0,v1,v2,v3,v4,v5,v6,v7,v8,v9,v10,v11,v12,v13,v14,v15,v16] 79) (ht:tm.getD 6 undef= .pointer (some ⟨b,0,none⟩)):
 (results Tryz.f137 tm).run Tryz.prog W= .ok (.agg #[v0,v1,v2,v3,v4,v5,v6,v7,v8,v9,v10,v11,v12,v13,v14,v15,v16]) W:=by
 have c:=h.cell
 have c0:=c 0
 have c1:=c 1
 have c2:=c 2
 have c3:=c 3
 have c4:=c 4
 have c5:=c 5
 have c6:=c 6
 have c7:=c 7
 have c8:=c 8
 have c9:=c 9
 have c10:=c 10
 have c11:=c 11
 have c12:=c 12
 have c13:=c 13
 have c14:=c 14
 have c15:=c 15
 have c16:=c 16
 clear c h
 simp at c0 c1 c2 c3 c4 c5 c6 c7 c8 c9 c10 c11 c12 c13 c14 c15 c16
 rw [Array.getD_eq_getD_getElem?] at ht
 simp [results,Tryz.results137,go_sem,ht,c0,c1,c2,c3,c4,c5,c6,c7,c8,c9,c10,c11,c12,c13,c14,c15,c16]
theorem Kp.setNew {S:Nat→Prop} {W0 W:World} (h:Kp S W0 W) {p:Addr} (hb:W0.heap.size≤p.block) (u:Value):Kp S W0 (W.setCell p u):=
 h.trans (Kp.set (S:=fun k=>k=p.block) p u rfl) (fun x hx hl=>by have h2:x=p.block:=hx;exact absurd h2 (by omega))
theorem Kp.new17 {S:Nat→Prop} {W0 W:World} {b:Nat} {v0 v1 v2 v3 v4 v5 v6 v7 v8 v9 v10 v11 v12 v13 v14 v15 v16:Value} (h:Kp S W0 W) (hb:W0.heap.size≤b):Kp S W0 ((((((((((((((((((W.setCell ⟨b,0,none⟩ v0).setCell ⟨b,1,none⟩ v1).setCell ⟨b,2,none⟩ v2).setCell ⟨b,3,none⟩ v3).setCell ⟨b,4,none⟩ v4).setCell ⟨b,5,none⟩ v5).setCell ⟨b,6,none⟩ v6).setCell ⟨b,7,none⟩ v7).setCell ⟨b,8,none⟩ v8).setCell ⟨b,9,none⟩ v9).setCell ⟨b,10,none⟩ v10).setCell ⟨b,11,none⟩ v11).setCell ⟨b,12,none⟩ v12).setCell ⟨b,13,none⟩ v13).setCell ⟨b,14,none⟩ v14).setCell ⟨b,15,none⟩ v15).setCell ⟨b,16,none⟩ v16)):=by
 repeat refine Kp.setNew ?_ hb _
 exact h
theorem Kp.setS {S:Nat→Prop} {W0 W:World} (h:Kp S W0 W) {p:Addr} (hb:S p.block) (u:Value):Kp S W0 (W.setCell p u):=h.trans (Kp.set p u hb) (fun _ h _=>h)
theorem Kp.w17 {S:Nat→Prop} {W0 W:World} {b:Nat} {v0 v1 v2 v3 v4 v5 v6 v7 v8 v9 v10 v11 v12 v13 v14 v15 v16:Value} (h:Kp S W0 W) (hb:S b):Kp S W0 ((((((((((((((((((W.setCell ⟨b,0,none⟩ v0).setCell ⟨b,1,none⟩ v1).setCell ⟨b,2,none⟩ v2).setCell ⟨b,3,none⟩ v3).setCell ⟨b,4,none⟩ v4).setCell ⟨b,5,none⟩ v5).setCell ⟨b,6,none⟩ v6).setCell ⟨b,7,none⟩ v7).setCell ⟨b,8,none⟩ v8).setCell ⟨b,9,none⟩ v9).setCell ⟨b,10,none⟩ v10).setCell ⟨b,11,none⟩ v11).setCell ⟨b,12,none⟩ v12).setCell ⟨b,13,none⟩ v13).setCell ⟨b,14,none⟩ v14).setCell ⟨b,15,none⟩ v15).setCell ⟨b,16,none⟩ v16)):=by
 repeat refine Kp.setS ?_ hb _
 exact h
theorem msgB_any (rb N g:Nat) (c:Value) (ps:List RR) (w:World) (h:RBk w rb bodyB) (_hk:Kin w) (_hc:Ca w N g c ps) (_hg:g≠rb) (hlow:∀W,Kp (fun k=>k=rb) w W→Kin W∧Ca W N g c ps):
 Calls Tryz.prog 137 #[.pointer (some ⟨rb,0,none⟩), .pointer (some ⟨g,0,none⟩), .int .u8 66] w fun e w' =>e= .returned (mlB 5 0).agg∧Kp (fun k=>k=rb) w w' :=by
 have HR0:=Hm h
 have HLW:=Hm hlow
 have HN1:=Hm (fun W (h:RBk W rb bodyB)=>show Calls Tryz.prog 158 #[.pointer (some ⟨rb,0,none⟩), .int .u64 4] W (fun e w' =>e= .returned (.int .u64 5)∧RBk w' rb (bodyB.drop 4)∧Kp (fun k=>k=rb) W w') from rnumber_any rb 4 bodyB W h (by decide) (by decide) (by decide) bodyB_b)
 have HN2:=Hm (fun W (h:RBk W rb (bodyB.drop 4))=>show Calls Tryz.prog 158 #[.pointer (some ⟨rb,0,none⟩), .int .u64 8] W (fun e w' =>e= .returned (.int .u64 0)∧RBk w' rb []∧Kp (fun k=>k=rb) W w') from rnumber_any rb 8 (bodyB.drop 4) W h (by decide) (by decide) (by decide) (fun x hx=>bodyB_b x (List.mem_of_mem_drop hx)))
 have HND:=Hm (fun e W=>need_any e W)
 have HRG:=Hm (fun W (h:Kp (fun k=>k=rb) w W)=>show Calls Tryz.prog 38 #[.agg #[.int .u8 66, .int .u32 5, .int .u64 0, .int .u32 0, .int .u32 0, .int .u32 0, .string ⟨#[]⟩, .int .u8 0, .slice none 0 0, .int .u8 0, .int .u32 0, .int .u32 0, .int .u8 0, .slice none 0 0, .slice none 0 0, .slice none 0 0, .int .u8 0], .pointer (some ⟨g,0,none⟩)] W (fun e w' =>e= .returned (.int .i64 0)∧Ext W w') from by
  have h1:=mright_any (mlB 5 0) N g c ps W (mlB_at W 5 0) (Nat.zero_le _) (Nat.zero_le _) (by decide) (fun c hc=>by cases hc) Ev0_okw.sm Ev0_okw.wk (show (0:Int)≤66 by decide) (show (66:Int)<256 by decide) (HLW.out W h).1 (HLW.out W h).2
  rw [msgE_B] at h1
  exact h1)
 have hrb:=(show rb<w.heap.size from by obtain ⟨a,c,h1, -⟩:=h;exact h1.lt)
 clear h _hk _hc hlow _hg
 go_enter Tryz.func137,Tryz.ntmps137
 go_upto_region 12 with (first
  |(go_at_call 158;refine (HN1.out _ (HR0.out.ext (by exact eX))).mono ?_;rintro e w1 ⟨rfl,hr1,hk1⟩;have HR1:=Hm hr1;have HK1:=Hm hk1;clear HN1 hr1 hk1)
  |(go_at_call 158;refine (HN2.out _ HR1.out).mono ?_;rintro e w2 ⟨rfl,hr2,hk2⟩;have HR2:=Hm hr2;have HK2:=Hm (HK1.out.trans hk2 (fun _ h _=>h));have HX2:=Hm ((Blk.new' (w:=w.alloc (.cells #[.int .u8 0, .int .u32 0, .int .u64 0, .int .u32 0, .int .u32 0, .int .u32 0, .string ⟨#[]⟩, .int .u8 0, .slice none 0 0, .int .u8 0, .int .u32 0, .int .u32 0, .int .u8 0, .slice none 0 0, .slice none 0 0, .slice none 0 0, .int .u8 0] 79)) (b:=w.heap.size+1) #[.int .u8 66, .int .u32 0, .int .u64 0, .int .u32 0, .int .u32 0, .int .u32 0, .string ⟨#[]⟩, .int .u8 0, .slice none 0 0, .int .u8 0, .int .u32 0, .int .u32 0, .int .u8 0, .slice none 0 0, .slice none 0 0, .slice none 0 0, .int .u8 0] 79 (by simp)).kp HK2.out (by omega));have HZ2:=Hm (((Blk.new w #[.int .u8 0, .int .u32 0, .int .u64 0, .int .u32 0, .int .u32 0, .int .u32 0, .string ⟨#[]⟩, .int .u8 0, .slice none 0 0, .int .u8 0, .int .u32 0, .int .u32 0, .int .u8 0, .slice none 0 0, .slice none 0 0, .slice none 0 0, .int .u8 0] 79).alloc (.cells #[.int .u8 66, .int .u32 0, .int .u64 0, .int .u32 0, .int .u32 0, .int .u32 0, .string ⟨#[]⟩, .int .u8 0, .slice none 0 0, .int .u8 0, .int .u32 0, .int .u32 0, .int .u8 0, .slice none 0 0, .slice none 0 0, .slice none 0 0, .int .u8 0] 79)).kp HK2.out (by omega));have g2:=HX2.out.cell;have g2f:=HX2.out.frozen;have g2z:=HX2.out.lt;clear HN2 hr2 hk2))
 obtain ⟨w3,hw3⟩:∃W,W=(w2.setCell ⟨w.heap.size+1,1,none⟩ (.int .u32 5)).setCell ⟨w.heap.size+1,2,none⟩ (.int .u64 0):=⟨_,rfl⟩
 have HS3:Hid (Kp (fun k=>k=w.heap.size+1) w2 w3):=Hm (by rw [hw3];exact (Kp.set (S:=fun k=>k=w.heap.size+1) _ _ rfl).trans (Kp.set (S:=fun k=>k=w.heap.size+1) _ _ rfl) (fun _ h _=>h))
 have HX3:Hid (Blk w3 (w.heap.size+1) #[.int .u8 66, .int .u32 5, .int .u64 0, .int .u32 0, .int .u32 0, .int .u32 0, .string ⟨#[]⟩, .int .u8 0, .slice none 0 0, .int .u8 0, .int .u32 0, .int .u32 0, .int .u8 0, .slice none 0 0, .slice none 0 0, .slice none 0 0, .int .u8 0] 79):=Hm (by
  have h:=(HX2.out.set 1 (.int .u32 5)).set 2 (.int .u64 0)
  simp only [List.setIfInBounds_toArray,List.set_cons_zero,List.set_cons_succ] at h
  rw [hw3];exact h)
 have HZ3:Hid (Blk w3 w.heap.size #[.int .u8 0, .int .u32 0, .int .u64 0, .int .u32 0, .int .u32 0, .int .u32 0, .string ⟨#[]⟩, .int .u8 0, .slice none 0 0, .int .u8 0, .int .u32 0, .int .u32 0, .int .u8 0, .slice none 0 0, .slice none 0 0, .slice none 0 0, .int .u8 0] 79):=Hm (HZ2.out.kp HS3.out (by omega))
 have HK3:Hid (Kp (fun k=>k=rb) w w3):=Hm (((Kp.of_ext (S:=fun k=>k=rb) (show Ext w ((w.alloc (.cells #[.int .u8 0, .int .u32 0, .int .u64 0, .int .u32 0, .int .u32 0, .int .u32 0, .string ⟨#[]⟩, .int .u8 0, .slice none 0 0, .int .u8 0, .int .u32 0, .int .u32 0, .int .u8 0, .slice none 0 0, .slice none 0 0, .slice none 0 0, .int .u8 0] 79)).alloc (.cells #[.int .u8 66, .int .u32 0, .int .u64 0, .int .u32 0, .int .u32 0, .int .u32 0, .string ⟨#[]⟩, .int .u8 0, .slice none 0 0, .int .u8 0, .int .u32 0, .int .u32 0, .int .u8 0, .slice none 0 0, .slice none 0 0, .slice none 0 0, .int .u8 0] 79)) from ((Ext.refl w).alloc _).alloc _)).trans HK2.out (fun _ h _=>h)).trans HS3.out (fun x h hx=>by have h2:x=w.heap.size+1:=h;exact absurd h2 (by omega)))
 obtain ⟨ra,rc,hb3, -, -⟩:=HR2.out
 have hb4:=hb3.kp HS3.out (show ¬ rb=w.heap.size+1 by omega)
 have r3:=hb4.cell
 have r3z:=hb4.lt
 rw [←hw3]
 clear hw3 HX2 HZ2 HK2 HK1 HR1 HR2 HR0 HS3 g2 g2f g2z hb3 hb4
 have g3:=HX3.out.cell
 have g3z:=HX3.out.lt
 go_upto_region 13 with (go_at_call 162;refine (HND.out _ _).mono ?_;rintro e w4 ⟨rfl,rfl⟩)
 clear r3 r3z
 have HE5F:=Hm (fun W (h:Ext w3 W)=>show (Instr.storeAt 79 (.pointer (some ⟨w.heap.size,0,none⟩)) (.agg #[.int .u8 66, .int .u32 5, .int .u64 0, .int .u32 0, .int .u32 0, .int .u32 0, .string ⟨#[]⟩, .int .u8 0, .slice none 0 0, .int .u8 0, .int .u32 0, .int .u32 0, .int .u8 0, .slice none 0 0, .slice none 0 0, .slice none 0 0, .int .u8 0])).run Tryz.prog W= .ok () _ from store17 (HZ3.out.ext h))
 as_aux_lemma=>
  go_wp2_with (first
   |(refine wpList_load_to rfl 79 (.tmp 7) rfl _ _ ?e1 (load17 HX3.out) ?_;(case e1=>go_simp))
   |(go_at_call 38;refine (HRG.out _ HK3.out).mono ?_;rintro e w5 ⟨rfl,hb5⟩;have HE5:=Hm hb5;clear hb5)
   |(go_at_call 162;refine (HND.out _ _).mono ?_;rintro e w6 ⟨rfl,rfl⟩)
   |(refine wpList_load_to rfl 79 (.tmp 7) rfl _ _ ?e1 (load17 (HX3.out.ext HE5.out)) ?_;(case e1=>go_simp))
   |(refine wpList_store_to rfl 79 (.tmp 6) (.tmp 60) rfl _ _ ?e1 ?e2 (HE5F.out _ HE5.out) ?_;(case e1=>go_simp);(case e2=>go_simp)))
  as_aux_lemma=>
   refine bodyPost_ret (res_wmsg (Blk.c17 (HZ3.out.ext HE5.out)) rfl) rfl ⟨rfl,Kp.new17 (HK3.out.trans (Kp.of_ext HE5.out) (fun _ h _=>h)) (Nat.le_refl _)⟩
theorem msgC_any (rb N g:Nat) (c:Value) (ps:List RR) (w:World) (h:RBk w rb bodyC) (_hk:Kin w) (_hc:Ca w N g c ps) (_hg:g≠rb) (hlow:∀W,Kp (fun k=>k=rb) w W→Kin W∧Ca W N g c ps):
 Calls Tryz.prog 137 #[.pointer (some ⟨rb,0,none⟩), .pointer (some ⟨g,0,none⟩), .int .u8 67] w fun e w' =>e= .returned (mlC 5 0).agg∧Kp (fun k=>k=rb) w w' :=by
 have HR0:=Hm h
 have HLW:=Hm hlow
 have HN1:=Hm (fun W (h:RBk W rb bodyC)=>show Calls Tryz.prog 158 #[.pointer (some ⟨rb,0,none⟩), .int .u64 4] W (fun e w' =>e= .returned (.int .u64 5)∧RBk w' rb (bodyC.drop 4)∧Kp (fun k=>k=rb) W w') from rnumber_any rb 4 bodyC W h (by decide) (by decide) (by decide) bodyC_b)
 have HN2:=Hm (fun W (h:RBk W rb (bodyC.drop 4))=>show Calls Tryz.prog 158 #[.pointer (some ⟨rb,0,none⟩), .int .u64 4] W (fun e w' =>e= .returned (.int .u64 0)∧RBk w' rb []∧Kp (fun k=>k=rb) W w') from rnumber_any rb 4 (bodyC.drop 4) W h (by decide) (by decide) (by decide) (fun x hx=>bodyC_b x (List.mem_of_mem_drop hx)))
 have HND:=Hm (fun e W=>need_any e W)
 have HRG:=Hm (fun W (h:Kp (fun k=>k=rb) w W)=>show Calls Tryz.prog 38 #[.agg #[.int .u8 67, .int .u32 5, .int .u64 0, .int .u32 0, .int .u32 0, .int .u32 0, .string ⟨#[]⟩, .int .u8 0, .slice none 0 0, .int .u8 0, .int .u32 0, .int .u32 0, .int .u8 0, .slice none 0 0, .slice none 0 0, .slice none 0 0, .int .u8 0], .pointer (some ⟨g,0,none⟩)] W (fun e w' =>e= .returned (.int .i64 0)∧Ext W w') from by
  have h1:=mright_any (mlC 5 0) N g c ps W (mlC_at W 5 0) (Nat.zero_le _) (Nat.zero_le _) (by decide) (fun c hc=>by cases hc) Ev0_okw.sm Ev0_okw.wk (show (0:Int)≤67 by decide) (show (67:Int)<256 by decide) (HLW.out W h).1 (HLW.out W h).2
  rw [msgE_C] at h1
  exact h1)
 have hrb:=(show rb<w.heap.size from by obtain ⟨a,c,h1, -⟩:=h;exact h1.lt)
 clear h _hk _hc hlow _hg
 go_enter Tryz.func137,Tryz.ntmps137
 go_upto_region 12 with (first
  |(go_at_call 158;refine (HN1.out _ (HR0.out.ext (by exact eX))).mono ?_;rintro e w1 ⟨rfl,hr1,hk1⟩;have HR1:=Hm hr1;have HK1:=Hm hk1;clear HN1 hr1 hk1)
  |(go_at_call 158;refine (HN2.out _ HR1.out).mono ?_;rintro e w2 ⟨rfl,hr2,hk2⟩;have HR2:=Hm hr2;have HK2:=Hm (HK1.out.trans hk2 (fun _ h _=>h));have HX2:=Hm ((Blk.new' (w:=w.alloc (.cells #[.int .u8 0, .int .u32 0, .int .u64 0, .int .u32 0, .int .u32 0, .int .u32 0, .string ⟨#[]⟩, .int .u8 0, .slice none 0 0, .int .u8 0, .int .u32 0, .int .u32 0, .int .u8 0, .slice none 0 0, .slice none 0 0, .slice none 0 0, .int .u8 0] 79)) (b:=w.heap.size+1) #[.int .u8 67, .int .u32 0, .int .u64 0, .int .u32 0, .int .u32 0, .int .u32 0, .string ⟨#[]⟩, .int .u8 0, .slice none 0 0, .int .u8 0, .int .u32 0, .int .u32 0, .int .u8 0, .slice none 0 0, .slice none 0 0, .slice none 0 0, .int .u8 0] 79 (by simp)).kp HK2.out (by omega));have HZ2:=Hm (((Blk.new w #[.int .u8 0, .int .u32 0, .int .u64 0, .int .u32 0, .int .u32 0, .int .u32 0, .string ⟨#[]⟩, .int .u8 0, .slice none 0 0, .int .u8 0, .int .u32 0, .int .u32 0, .int .u8 0, .slice none 0 0, .slice none 0 0, .slice none 0 0, .int .u8 0] 79).alloc (.cells #[.int .u8 67, .int .u32 0, .int .u64 0, .int .u32 0, .int .u32 0, .int .u32 0, .string ⟨#[]⟩, .int .u8 0, .slice none 0 0, .int .u8 0, .int .u32 0, .int .u32 0, .int .u8 0, .slice none 0 0, .slice none 0 0, .slice none 0 0, .int .u8 0] 79)).kp HK2.out (by omega));have g2:=HX2.out.cell;have g2f:=HX2.out.frozen;have g2z:=HX2.out.lt;clear HN2 hr2 hk2))
 obtain ⟨w3,hw3⟩:∃W,W=(w2.setCell ⟨w.heap.size+1,1,none⟩ (.int .u32 5)).setCell ⟨w.heap.size+1,3,none⟩ (.int .u32 0):=⟨_,rfl⟩
 have HS3:Hid (Kp (fun k=>k=w.heap.size+1) w2 w3):=Hm (by rw [hw3];exact (Kp.set (S:=fun k=>k=w.heap.size+1) _ _ rfl).trans (Kp.set (S:=fun k=>k=w.heap.size+1) _ _ rfl) (fun _ h _=>h))
 have HX3:Hid (Blk w3 (w.heap.size+1) #[.int .u8 67, .int .u32 5, .int .u64 0, .int .u32 0, .int .u32 0, .int .u32 0, .string ⟨#[]⟩, .int .u8 0, .slice none 0 0, .int .u8 0, .int .u32 0, .int .u32 0, .int .u8 0, .slice none 0 0, .slice none 0 0, .slice none 0 0, .int .u8 0] 79):=Hm (by
  have h:=(HX2.out.set 1 (.int .u32 5)).set 3 (.int .u32 0)
  simp only [List.setIfInBounds_toArray,List.set_cons_zero,List.set_cons_succ] at h
  rw [hw3];exact h)
 have HZ3:Hid (Blk w3 w.heap.size #[.int .u8 0, .int .u32 0, .int .u64 0, .int .u32 0, .int .u32 0, .int .u32 0, .string ⟨#[]⟩, .int .u8 0, .slice none 0 0, .int .u8 0, .int .u32 0, .int .u32 0, .int .u8 0, .slice none 0 0, .slice none 0 0, .slice none 0 0, .int .u8 0] 79):=Hm (HZ2.out.kp HS3.out (by omega))
 have HK3:Hid (Kp (fun k=>k=rb) w w3):=Hm (((Kp.of_ext (S:=fun k=>k=rb) (show Ext w ((w.alloc (.cells #[.int .u8 0, .int .u32 0, .int .u64 0, .int .u32 0, .int .u32 0, .int .u32 0, .string ⟨#[]⟩, .int .u8 0, .slice none 0 0, .int .u8 0, .int .u32 0, .int .u32 0, .int .u8 0, .slice none 0 0, .slice none 0 0, .slice none 0 0, .int .u8 0] 79)).alloc (.cells #[.int .u8 67, .int .u32 0, .int .u64 0, .int .u32 0, .int .u32 0, .int .u32 0, .string ⟨#[]⟩, .int .u8 0, .slice none 0 0, .int .u8 0, .int .u32 0, .int .u32 0, .int .u8 0, .slice none 0 0, .slice none 0 0, .slice none 0 0, .int .u8 0] 79)) from ((Ext.refl w).alloc _).alloc _)).trans HK2.out (fun _ h _=>h)).trans HS3.out (fun x h hx=>by have h2:x=w.heap.size+1:=h;exact absurd h2 (by omega)))
 obtain ⟨ra,rc,hb3, -, -⟩:=HR2.out
 have hb4:=hb3.kp HS3.out (show ¬ rb=w.heap.size+1 by omega)
 have r3:=hb4.cell
 have r3z:=hb4.lt
 rw [←hw3]
 clear hw3 HX2 HZ2 HK2 HK1 HR1 HR2 HR0 HS3 g2 g2f g2z hb3 hb4
 have g3:=HX3.out.cell
 have g3z:=HX3.out.lt
 go_upto_region 13 with (go_at_call 162;refine (HND.out _ _).mono ?_;rintro e w4 ⟨rfl,rfl⟩)
 clear r3 r3z
 have HE5F:=Hm (fun W (h:Ext w3 W)=>show (Instr.storeAt 79 (.pointer (some ⟨w.heap.size,0,none⟩)) (.agg #[.int .u8 67, .int .u32 5, .int .u64 0, .int .u32 0, .int .u32 0, .int .u32 0, .string ⟨#[]⟩, .int .u8 0, .slice none 0 0, .int .u8 0, .int .u32 0, .int .u32 0, .int .u8 0, .slice none 0 0, .slice none 0 0, .slice none 0 0, .int .u8 0])).run Tryz.prog W= .ok () _ from store17 (HZ3.out.ext h))
 as_aux_lemma=>
  go_wp2_with (first
   |(refine wpList_load_to rfl 79 (.tmp 7) rfl _ _ ?e1 (load17 HX3.out) ?_;(case e1=>go_simp))
   |(go_at_call 38;refine (HRG.out _ HK3.out).mono ?_;rintro e w5 ⟨rfl,hb5⟩;have HE5:=Hm hb5;clear hb5)
   |(go_at_call 162;refine (HND.out _ _).mono ?_;rintro e w6 ⟨rfl,rfl⟩)
   |(refine wpList_load_to rfl 79 (.tmp 7) rfl _ _ ?e1 (load17 (HX3.out.ext HE5.out)) ?_;(case e1=>go_simp))
   |(refine wpList_store_to rfl 79 (.tmp 6) (.tmp 60) rfl _ _ ?e1 ?e2 (HE5F.out _ HE5.out) ?_;(case e1=>go_simp);(case e2=>go_simp)))
  as_aux_lemma=>
   refine bodyPost_ret (res_wmsg (Blk.c17 (HZ3.out.ext HE5.out)) rfl) rfl ⟨rfl,Kp.new17 (HK3.out.trans (Kp.of_ext HE5.out) (fun _ h _=>h)) (Nat.le_refl _)⟩
end Go.Proofs.YtgmphpccpfaapaaGreatDoor
