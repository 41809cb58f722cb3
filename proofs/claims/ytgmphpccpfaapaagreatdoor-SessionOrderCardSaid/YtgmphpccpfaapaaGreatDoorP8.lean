/-
Whether two relations are the same, two lists of them: the program's, the reference's.
-/
import Derived.Deep.RegionHeld
import Derived.Maps.AppendAt
import Derived.Test.YtgmphpccpfaapaaGreatDoorP4
import Derived.Test.YtgmphpccpfaapaaGreatDoorP6
import Derived.Test.YtgmphpccpfaapaaGreatDoorP7
set_option maxRecDepth 100000
set_option maxHeartbeats 16000000
namespace Go.Proofs.YtgmphpccpfaapaaGreatDoor
open Go.RowKit
theorem str_beq2 (s t:ByteArray):(s.toList==t.toList)=decide (s=t):=by
 by_cases h:s=t
 ·subst h;simp
 ·rw [decide_eq_false h,beq_eq_false_iff_ne]
  exact fun e=>h (toList_inj' e)
noncomputable def colB (c d:Col):Bool:= @decide (c=d) (Classical.propDecidable _)
noncomputable def colsB (l m:List Col):Bool:= @decide (l=m) (Classical.propDecidable _)
noncomputable def rlB (a b:Rl):Bool:= @decide (a=b) (Classical.propDecidable _)
theorem colB_true {c d:Col} :colB c d=true↔c=d:=by unfold colB;simp
theorem colsB_true {l m:List Col} :colsB l m=true↔l=m:=by unfold colsB;simp
theorem colsB_false {l m:List Col} :colsB l m=false↔l≠m:=by unfold colsB;simp
theorem rlB_true {a b:Rl} :rlB a b=true↔a=b:=by unfold rlB;simp
theorem rlB_false {a b:Rl} :rlB a b=false↔a≠b:=by unfold rlB;simp
theorem colB_iff {c d:Col} :c=d↔c.nm=d.nm∧c.ty=d.ty∧c.key=d.key:=by
 constructor
 ·rintro rfl;exact ⟨rfl,rfl,rfl⟩
 ·obtain ⟨a,b,k⟩:=c;obtain ⟨a',b',k'⟩:=d
  rintro ⟨h1,h2,h3⟩
  simp only at h1 h2 h3
  rw [h1,h2,h3]
theorem neq_pcol (c d:Col) (w:World):(binOp .neq 153 (.agg #[.string c.nm, .int .u8 c.ty, .bool c.key]) (.agg #[.string d.nm, .int .u8 d.ty, .bool d.key])).run Tryz.prog w= .ok (.bool (!colB c d)) w:=by
 have hb:colB c d= @decide (c.nm=d.nm∧c.ty=d.ty∧c.key=d.key) (Classical.propDecidable _):=by
  unfold colB;exact decide_eq_decide.2 colB_iff
 rw [hb]
 clear hb
 by_cases h0:c.nm=d.nm<;>by_cases h1:c.ty=d.ty<;>by_cases h2:c.key=d.key<;>simp [go_sem,h0,h1,h2]
 all_goals first
  |(intro h;exact absurd (toList_inj' h) h0)
  |omega
  |(intros;omega)
  |(intros;intro h;exact absurd (toList_inj' h) h0)
  |(intros;exact h2)
  |exact h2
  |(apply decide_eq_decide.2;simp [h0,h1,h2])
  |(congr)
theorem neq_rcol (c d:Col) (w:World):(binOp .neq 103 (.agg #[.string c.nm, .int .u8 c.ty, .bool c.key]) (.agg #[.string d.nm, .int .u8 d.ty, .bool d.key])).run Tryz.prog w= .ok (.bool (!colB c d)) w:=by
 have hb:colB c d= @decide (c.nm=d.nm∧c.ty=d.ty∧c.key=d.key) (Classical.propDecidable _):=by
  unfold colB;exact decide_eq_decide.2 colB_iff
 rw [hb]
 clear hb
 by_cases h0:c.nm=d.nm<;>by_cases h1:c.ty=d.ty<;>by_cases h2:c.key=d.key<;>simp [go_sem,h0,h1,h2]
 all_goals first
  |(intro h;exact absurd (toList_inj' h) h0)
  |omega
  |(intros;omega)
  |(intros;intro h;exact absurd (toList_inj' h) h0)
  |(intros;exact h2)
  |exact h2
  |(apply decide_eq_decide.2;simp [h0,h1,h2])
  |(congr)
theorem eqcols_any (l m:List Col) (a b:Option Addr) (ca cb:Nat) (w:World) (hl:Sl w (.slice a l.length ca) 3 (l.map Col.cells)) (hm:Sl w (.slice b m.length cb) 3 (m.map Col.cells)) (hlen:l.length≤1000):
 Calls Tryz.prog 132 #[.slice a l.length ca, .slice b m.length cb] w fun e w' =>e= .returned (.bool (colsB l m))∧Ext w w' :=by
 have HL:=Hm hl
 have HM:=Hm hm
 clear hl hm
 by_cases hn:l.length=m.length
 case neg=>
  have hn' :(((l.length:Nat):Int) !=((m.length:Nat):Int))=true:=by simp;omega
  have HR:=Hm (show colsB l m=false from colsB_false.2 (fun h=>hn (by rw [h])))
  clear hn
  go_enter Tryz.func132,Tryz.ntmps132
  go_wp2
  go_ret
  exact ⟨ret_bool HR.out.symm,by exact eX⟩
 have hn' :(((l.length:Nat):Int) !=((m.length:Nat):Int))=false:=by simp;omega
 have HN:=Hm hn
 clear hn
 go_enter Tryz.func132,Tryz.ntmps132
 go_wp2
 go_loopw [13] (fun i wr=>∃k:Nat,k≤l.length∧i= .int .i64 k∧Hid (∀j (h1:j<l.length) (h2:j<m.length),j<k→l[j]=m[j])∧Hid (Ext w wr)) (fun i _=>l.length - (intOf i).toNat)
 case atStart=>exact ⟨0,Nat.zero_le _,rfl,fun j _ _ h=>by omega,Ext.refl _⟩
 case round=>
  obtain ⟨k,hk,rfl,hrel,hE⟩:=hrel
  by_cases hlt:k<l.length
  ·have hlt2:k<m.length:=by have:=HN.out;omega
   obtain ⟨b1,o1,rfl,hb1,hx1⟩:=HL.out.at_ (i:=k) (by simpa using hlt)
   obtain ⟨f0,f1,f2⟩:=Col.at_ hlt hx1 hb1 hE.out
   obtain ⟨b2,o2,rfl,hb2,hx2⟩:=HM.out.at_ (i:=k) (by simpa using hlt2)
   obtain ⟨p0,p1,p2⟩:=Col.at_ hlt2 hx2 hb2 hE.out
   have hbw:b1<wr.heap.size:=Nat.lt_of_lt_of_le hb1 hE.out.size
   have hbw2:b2<wr.heap.size:=Nat.lt_of_lt_of_le hb2 hE.out.size
   have hNq:=fun w=>neq_pcol l[k] m[k] w
   cases hA:colB l[k] m[k] with
   |true=>
    rw [hA] at hNq
    have HA:=Hm (colB_true.1 hA)
    clear hA hx1 hx2
    go_wp2
    go_region_held3 (fun w' =>Ext (wr) w'∧(∀b o,b<(wr).heap.size→w'.cell? ⟨b,o,none⟩=(wr).cell? ⟨b,o,none⟩)∧(∀b o,b<(wr).heap.size→w'.frozen? ⟨b,o,none⟩=(wr).frozen? ⟨b,o,none⟩)) ((exact held_of (by exact eX))) (fail)
    go_wp2
    go_roundw
    case rel=>exact ⟨k+1,by omega,by go_num,fun j h1 h2 hjk=>by
     by_cases e:j=k
     ·subst e;exact HA.out
     ·exact hrel.out j h1 h2 (by omega),Hm (hE.out.trans (by exact eX))⟩
    case measure=>simp [intOf];omega
   |false=>
    rw [hA] at hNq
    have HR:=Hm (show colsB l m=false from colsB_false.2 (fun h=>by subst h;rw [colB_true.2 rfl] at hA;cases hA))
    clear hA hx1 hx2
    go_wp2
    go_region_held3 (fun w' =>Ext (wr) w'∧(∀b o,b<(wr).heap.size→w'.cell? ⟨b,o,none⟩=(wr).cell? ⟨b,o,none⟩)∧(∀b o,b<(wr).heap.size→w'.frozen? ⟨b,o,none⟩=(wr).frozen? ⟨b,o,none⟩)) ((exact held_of (by exact eX))) (fail)
    go_wp2
    go_ret
    exact ⟨ret_bool HR.out.symm,hE.out.trans (by exact eX)⟩
  ·have hkk:k=l.length:=by omega
   have HR:=Hm (show colsB l m=true from colsB_true.2 (List.ext_getElem HN.out (fun i h1 h2=>hrel.out i h1 h2 (by omega))))
   subst hkk
   go_wp2
   go_ret
   exact ⟨ret_bool HR.out.symm,hE.out⟩
theorem rl_cases (a b:Rl):(a.oid≠b.oid∧rlB a b=false)∨(a.oid=b.oid∧a.ver≠b.ver∧rlB a b=false)∨(a.oid=b.oid∧a.ver=b.ver∧a.nm≠b.nm∧rlB a b=false)∨(a.oid=b.oid∧a.ver=b.ver∧a.nm=b.nm∧a.id≠b.id∧rlB a b=false)∨(a.oid=b.oid∧a.ver=b.ver∧a.nm=b.nm∧a.id=b.id∧rlB a b=colsB a.cols b.cols):=by
 by_cases h1:a.oid=b.oid
 ·by_cases h2:a.ver=b.ver
  ·by_cases h3:a.nm=b.nm
   ·by_cases h4:a.id=b.id
    ·refine .inr (.inr (.inr (.inr ⟨h1,h2,h3,h4, ?_⟩)))
     obtain ⟨o,v,n,i,c⟩:=a
     obtain ⟨o',v',n',i',c'⟩:=b
     simp only at h1 h2 h3 h4
     subst h1;subst h2;subst h3;subst h4
     by_cases h5:c=c'
     ·subst h5;rw [rlB_true.2 rfl,colsB_true.2 rfl]
     ·rw [rlB_false.2 (fun e=>h5 (by injection e)),colsB_false.2 h5]
    ·exact .inr (.inr (.inr (.inl ⟨h1,h2,h3,h4,rlB_false.2 (fun e=>h4 (by rw [e]))⟩)))
   ·exact .inr (.inr (.inl ⟨h1,h2,h3,rlB_false.2 (fun e=>h3 (by rw [e]))⟩))
  ·exact .inr (.inl ⟨h1,h2,rlB_false.2 (fun e=>h2 (by rw [e]))⟩)
 ·exact .inl ⟨h1,rlB_false.2 (fun e=>h1 (by rw [e]))⟩
theorem same8_any (p q:RR) (w:World) (hp:p.in w) (hq:q.in w) (hlen:p.r.cols.length≤1000):
 Calls Tryz.prog 101 #[p.agg,q.agg] w fun e w' =>e= .returned (.bool (rlB p.r q.r))∧Ext w w' :=by
 obtain ⟨⟨o1,v1,n1,i1,c1⟩,a1,k1⟩:=p
 obtain ⟨⟨o2,v2,n2,i2,c2⟩,a2,k2⟩:=q
 unfold RR.agg
 unfold RR.in at hp hq
 simp only at hp hq hlen⊢
 have HE:=Hm (fun W (h:Ext w W)=>eqcols_any c1 c2 a1 a2 k1 k2 W (hp.ext h) (hq.ext h) hlen)
 have hc:=rl_cases (⟨o1,v1,n1,i1,c1⟩:Rl) (⟨o2,v2,n2,i2,c2⟩:Rl)
 simp only at hc
 clear hp hq
 obtain ⟨R,hR⟩:∃R,R=rlB (⟨o1,v1,n1,i1,c1⟩:Rl) (⟨o2,v2,n2,i2,c2⟩:Rl):=⟨_,rfl⟩
 rw [←hR] at hc⊢
 clear hR
 rcases hc with ⟨h1,h0⟩|⟨rfl,h1,h0⟩|⟨rfl,rfl,h1,h0⟩|⟨rfl,rfl,rfl,h1,h0⟩|⟨rfl,rfl,rfl,rfl,h0⟩
 ·have e1:(o1==o2)=false:=by simpa using h1
  have H0:=Hm h0
  clear h0 h1
  go_enter Tryz.func101,Tryz.ntmps101
  go_wp2
  go_ret
  exact ⟨ret_bool H0.out.symm,by exact eX⟩
 ·have e1:(v1==v2)=false:=by simpa using h1
  have H0:=Hm h0
  clear h0 h1
  go_enter Tryz.func101,Tryz.ntmps101
  go_wp2
  go_ret
  exact ⟨ret_bool H0.out.symm,by exact eX⟩
 ·have e1:(n1.toList==n2.toList)=false:=by rw [str_beq2];exact decide_eq_false h1
  have H0:=Hm h0
  clear h0 h1
  go_enter Tryz.func101,Tryz.ntmps101
  go_wp2
  go_ret
  exact ⟨ret_bool H0.out.symm,by exact eX⟩
 ·have e1:(i1==i2)=false:=by simpa using h1
  have H0:=Hm h0
  clear h0 h1
  go_enter Tryz.func101,Tryz.ntmps101
  go_wp2
  go_ret
  exact ⟨ret_bool H0.out.symm,by exact eX⟩
 ·have H0:=Hm h0
  clear h0
  go_enter Tryz.func101,Tryz.ntmps101
  go_wp2_with (go_at_call 132;refine (HE.out _ (by exact eX)).mono ?_;rintro e w2 ⟨rfl,hb2⟩)
  go_ret
  exact ⟨ret_bool H0.out.symm,by exact eX⟩
theorem run_equalIn_slice_nil4 {P:Program} (w:World) (d:Nat) (t e:TypeId) (a:Option Addr) (l c:Nat) (h:P.underlying t=some (.slice e)):(Op.equalIn (d+1) t (.slice a l c) (.slice none 0 0)).run P w= .ok a.isNone w:=by
 cases a<;>simp [Op.equalIn,run_underlying h]
@[go_sem] theorem run_eql_slice_nil4 {P:Program} (w:World) (t e:TypeId) (a:Option Addr) (l c:Nat) (h:P.underlying t=some (.slice e)):(binOp .eql t (.slice a l c) (.slice none 0 0)).run P w= .ok (.bool a.isNone) w:=by
 have e:(Op.equal t (.slice a l c) (.slice none 0 0)).run P w= .ok a.isNone w:=by
  exact run_equalIn_slice_nil4 w 9999 t e a l c h
 simp [binOp,e]
theorem flatC_len (l:List Col):(l.map Col.cells).flatten.length=l.length*3:=by
 have:=flat_length 3 (l.map Col.cells) (fun xs hxs=>by simp at hxs;obtain ⟨c,_,rfl⟩:=hxs;rfl)
 rwa [List.length_map] at this
theorem news_col {w:World} {b o:Nat} {l:List Col} (h:∀i,i<l.length→∀j,j<3→w.cell? ⟨b,o+i*3+j,none⟩=((l.map Col.cells).getD i [])[j]?):∀j u,((l.map Col.cells).flatten)[j]? =some u→w.cell? ((⟨b,o,none⟩:Addr).add j)=some u:=by
 intro j u hj
 have hjl:j<l.length*3:=by
  rcases Nat.lt_or_ge j (l.length*3) with h|h
  ·exact h
  ·rw [List.getElem?_eq_none (by rw [flatC_len];exact h)] at hj;cases hj
 have hplain:(⟨b,o,none⟩:Addr).add j=⟨b,o+j,none⟩:=by unfold Addr.add;split<;>simp_all
 have hi:j / 3<l.length:=by omega
 have hq:=flat_get 3 (l.map Col.cells) (fun xs hxs=>by simp at hxs;obtain ⟨c,_,rfl⟩:=hxs;rfl) (j / 3) (by simpa using hi) (j%3) (Nat.mod_lt _ (by decide))
 have hm:j / 3*3+j%3=j:=by omega
 rw [hm] at hq
 rw [hplain,←hj,hq,←h (j / 3) hi (j%3) (Nat.mod_lt _ (by decide)),Nat.add_assoc,hm]
theorem clonec_any (l:List Col) (a:Option Addr) (cap:Nat) (w:World) (hl:Sl w (.slice a l.length cap) 3 (l.map Col.cells)) (hlen:l.length≤1000):
 Calls Tryz.prog 95 #[.slice a l.length cap] w fun e w' =>∃a' cap',e= .returned (.slice a' l.length cap')∧w'.ownsRow w.heap.size 153 3 (.slice a' l.length cap') l.length ((l.map Col.cells).flatten)∧Ext w w' :=by
 obtain ⟨i0,hi,hz0,hz1,hz2⟩:=info_parts Tryz.infoCol
 have HL:=Hm hl
 clear hl
 cases a with
 |none=>
  have h0:l= []:=by
   obtain ⟨a,c,hv,h⟩:=HL.out
   simp only [Value.slice.injEq] at hv
   rcases h with h|⟨b,o,ha,_⟩
   ·simpa using h
   ·rw [←hv.1] at ha;cases ha
  obtain ⟨a,c,hv, -⟩:=HL.out
  subst h0
  clear HL hv
  go_enter Tryz.func95,Tryz.ntmps95
  go_wp2
  go_ret
  exact ⟨_,_,rfl,World.ownsRow_nil _ _ _ _,by exact eX⟩
 |some ad=>
  have hnews:∀j u,((l.map Col.cells).flatten)[j]? =some u→(w.alloc (.cells #[] 153)).cell? (ad.add j)=some u:=by
   obtain ⟨a,c,hv,h⟩:=HL.out
   simp only [Value.slice.injEq] at hv
   obtain ⟨rfl, -, -⟩:=hv
   rcases h with h|⟨b,o,ha,hb,hc⟩
   ·have h0:l= []:=by simpa using h
    subst h0;intro j u hj;simp at hj
   ·cases ha
    refine news_col fun i hi j hj=> ?_
    have hE:Ext w (w.alloc (.cells #[] 153)):=(Ext.refl w).alloc _
    rw [hE.cells.1 b _ hb]
    exact hc i (by simpa using hi) j hj
  have HN:=Hm hnews
  clear HL hnews
  go_enter Tryz.func95,Tryz.ntmps95
  go_wp2_with (at_builtin;refine wpList_append_own _ rfl _ _ 70 rfl w.heap.size 153 i0 _ 3 24 Tryz.underlying70 hi hz0 hz1 hz2 rfl (by decide) (.slice (some ⟨w.heap.size,0,none⟩) 0 0) 0 [] rfl ?c0 _ l.length _ ((l.map Col.cells).flatten) rfl (flatC_len l) HN.out ?c2 ?c3 ?c4 ?c5 ?_)
  case c0=>exact ⟨rfl, .inr ⟨_,0, #[],rfl,Nat.le_refl _,Blk.new w #[] _,Nat.le_refl _,Nat.zero_le _,rfl,rfl⟩⟩
  case c2=>intro u hu;rw [List.mem_flatten] at hu;obtain ⟨xs,hxs,hu⟩:=hu;rw [List.mem_map] at hxs;obtain ⟨c,_,rfl⟩:=hxs;simp [Col.cells] at hu;rcases hu with rfl|rfl|rfl<;>rfl
  case c3=>unfold maxLen;omega
  case c4=>omega
  case c5=>simp
  intro v' w2 hown hgrow _
  have hown:w2.ownsRow w.heap.size 153 3 v' l.length ((l.map Col.cells).flatten):=by simpa using hown
  have hE2:Ext w w2:=((Ext.refl w).alloc (.cells #[] 153)).grown (v:= .slice (some ⟨w.heap.size,0,none⟩) 0 0) (e:=153) (size:=3) (n:=0) (xs:= []) ⟨rfl, .inr ⟨_,0, #[],rfl,Nat.le_refl _,Blk.new w #[] _,Nat.le_refl _,Nat.zero_le _,rfl,rfl⟩⟩ hgrow
  obtain ⟨a',c',rfl⟩:=owns_shape hown
  have HO:=Hm hown
  have HE2:=Hm hE2
  clear hown hE2 hgrow
  go_wp2
  go_ret
  exact ⟨a',c',rfl,HO.out,HE2.out⟩
theorem Tryz.infoRfQ:(Tryz.prog.info? 69).map (fun i=>(i.zero,i.size,i.bytes))=some (some (.agg #[.int .u32 0, .int .u32 0]),2,8):=by kernel_rfl
noncomputable def rfB (c d:Rf):Bool:= @decide (c=d) (Classical.propDecidable _)
noncomputable def rfsB (l m:List Rf):Bool:= @decide (l=m) (Classical.propDecidable _)
noncomputable def evB (l m:Ev):Bool:= @decide (l=m) (Classical.propDecidable _)
theorem rfB_true {c d:Rf} :rfB c d=true↔c=d:=by unfold rfB;simp
theorem rfB_false {c d:Rf} :rfB c d=false↔c≠d:=by unfold rfB;simp
theorem rfsB_true {l m:List Rf} :rfsB l m=true↔l=m:=by unfold rfsB;simp
theorem rfsB_false {l m:List Rf} :rfsB l m=false↔l≠m:=by unfold rfsB;simp
theorem evB_true {l m:Ev} :evB l m=true↔l=m:=by unfold evB;simp
theorem evB_false {l m:Ev} :evB l m=false↔l≠m:=by unfold evB;simp
theorem rfB_eq (a b c d:Int):rfB ⟨a,b⟩ ⟨c,d⟩=decide (a=c∧b=d):=by
 unfold rfB
 by_cases h:a=c∧b=d
 ·rw [decide_eq_true h];obtain ⟨rfl,rfl⟩:=h;simp
 ·rw [decide_eq_false h];simp only [Rf.mk.injEq];rw [decide_eq_false_iff_not];exact h
theorem neq_pref (a b c d:Int) (w:World):(binOp .neq 69 (.agg #[.int .u32 a, .int .u32 b]) (.agg #[.int .u32 c, .int .u32 d])).run Tryz.prog w= .ok (.bool (!rfB ⟨a,b⟩ ⟨c,d⟩)) w:=by
 rw [rfB_eq]
 by_cases h0:a=c<;>by_cases h1:b=d<;>simp [go_sem,h0,h1]
theorem eql_pref (a b c d:Int) (w:World):(binOp .eql 69 (.agg #[.int .u32 a, .int .u32 b]) (.agg #[.int .u32 c, .int .u32 d])).run Tryz.prog w= .ok (.bool (rfB ⟨a,b⟩ ⟨c,d⟩)) w:=by
 rw [rfB_eq]
 by_cases h0:a=c<;>by_cases h1:b=d<;>simp [go_sem,h0,h1]
theorem neq_rref (a b c d:Int) (w:World):(binOp .neq 41 (.agg #[.int .u32 a, .int .u32 b]) (.agg #[.int .u32 c, .int .u32 d])).run Tryz.prog w= .ok (.bool (!rfB ⟨a,b⟩ ⟨c,d⟩)) w:=by
 rw [rfB_eq]
 by_cases h0:a=c<;>by_cases h1:b=d<;>simp [go_sem,h0,h1]
theorem eqrefs_any (l m:List Rf) (a b:Option Addr) (ca cb:Nat) (w:World) (hl:Sl w (.slice a l.length ca) 2 (l.map Rf.cells)) (hm:Sl w (.slice b m.length cb) 2 (m.map Rf.cells)) (hlen:l.length≤100000):
 Calls Tryz.prog 110 #[.slice a l.length ca, .slice b m.length cb] w fun e w' =>e= .returned (.bool (rfsB l m))∧Ext w w' :=by
 have HL:=Hm hl
 have HM:=Hm hm
 clear hl hm
 by_cases hn:l.length=m.length
 case neg=>
  have hn' :(((l.length:Nat):Int) !=((m.length:Nat):Int))=true:=by simp;omega
  have HR:=Hm (show rfsB l m=false from rfsB_false.2 (fun h=>hn (by rw [h])))
  clear hn
  go_enter Tryz.func110,Tryz.ntmps110
  go_wp2
  go_ret
  exact ⟨ret_bool HR.out.symm,by exact eX⟩
 have hn' :(((l.length:Nat):Int) !=((m.length:Nat):Int))=false:=by simp;omega
 have HN:=Hm hn
 clear hn
 go_enter Tryz.func110,Tryz.ntmps110
 go_wp2
 go_loopw [13] (fun i wr=>∃k:Nat,k≤l.length∧i= .int .i64 k∧Hid (∀j (h1:j<l.length) (h2:j<m.length),j<k→l[j]=m[j])∧Hid (Ext w wr)) (fun i _=>l.length - (intOf i).toNat)
 case atStart=>exact ⟨0,Nat.zero_le _,rfl,fun j _ _ h=>by omega,Ext.refl _⟩
 case round=>
  obtain ⟨k,hk,rfl,hrel,hE⟩:=hrel
  by_cases hlt:k<l.length
  ·have hlt2:k<m.length:=by have:=HN.out;omega
   obtain ⟨b1,o1,rfl,hb1,hx1⟩:=HL.out.at_ (i:=k) (by simpa using hlt)
   obtain ⟨f0,f1⟩:=Rf.at_ hlt hx1 hb1 hE.out
   obtain ⟨b2,o2,rfl,hb2,hx2⟩:=HM.out.at_ (i:=k) (by simpa using hlt2)
   obtain ⟨p0,p1⟩:=Rf.at_ hlt2 hx2 hb2 hE.out
   have hbw:b1<wr.heap.size:=Nat.lt_of_lt_of_le hb1 hE.out.size
   have hbw2:b2<wr.heap.size:=Nat.lt_of_lt_of_le hb2 hE.out.size
   have hNq:=fun w=>neq_pref l[k].o l[k].v m[k].o m[k].v w
   cases hA:rfB ⟨l[k].o,l[k].v⟩ ⟨m[k].o,m[k].v⟩ with
   |true=>
    rw [hA] at hNq
    have HA:=Hm (rfB_true.1 hA)
    clear hA hx1 hx2
    go_wp2
    go_region_held3 (fun w' =>Ext (wr) w'∧(∀b o,b<(wr).heap.size→w'.cell? ⟨b,o,none⟩=(wr).cell? ⟨b,o,none⟩)∧(∀b o,b<(wr).heap.size→w'.frozen? ⟨b,o,none⟩=(wr).frozen? ⟨b,o,none⟩)) ((exact held_of (by exact eX))) (fail)
    go_wp2
    go_roundw
    case rel=>exact ⟨k+1,by omega,by go_num,fun j h1 h2 hjk=>by
     by_cases e:j=k
     ·subst e;exact HA.out
     ·exact hrel.out j h1 h2 (by omega),Hm (hE.out.trans (by exact eX))⟩
    case measure=>simp [intOf];omega
   |false=>
    rw [hA] at hNq
    have HR:=Hm (show rfsB l m=false from rfsB_false.2 (fun h=>rfB_false.1 hA (by subst h;rfl)))
    clear hA hx1 hx2
    go_wp2
    go_region_held3 (fun w' =>Ext (wr) w'∧(∀b o,b<(wr).heap.size→w'.cell? ⟨b,o,none⟩=(wr).cell? ⟨b,o,none⟩)∧(∀b o,b<(wr).heap.size→w'.frozen? ⟨b,o,none⟩=(wr).frozen? ⟨b,o,none⟩)) ((exact held_of (by exact eX))) (fail)
    go_wp2
    go_ret
    exact ⟨ret_bool HR.out.symm,hE.out.trans (by exact eX)⟩
  ·have hkk:k=l.length:=by omega
   have HR:=Hm (show rfsB l m=true from rfsB_true.2 (List.ext_getElem HN.out (fun i h1 h2=>hrel.out i h1 h2 (by omega))))
   subst hkk
   go_wp2
   go_ret
   exact ⟨ret_bool HR.out.symm,hE.out⟩
theorem flatR_len (l:List Rf):(l.map Rf.cells).flatten.length=l.length*2:=by
 have:=flat_length 2 (l.map Rf.cells) (fun xs hxs=>by simp at hxs;obtain ⟨c,_,rfl⟩:=hxs;rfl)
 rwa [List.length_map] at this
theorem news_ref {w:World} {b o:Nat} {l:List Rf} (h:∀i,i<l.length→∀j,j<2→w.cell? ⟨b,o+i*2+j,none⟩=((l.map Rf.cells).getD i [])[j]?):∀j u,((l.map Rf.cells).flatten)[j]? =some u→w.cell? ((⟨b,o,none⟩:Addr).add j)=some u:=by
 intro j u hj
 have hjl:j<l.length*2:=by
  rcases Nat.lt_or_ge j (l.length*2) with h|h
  ·exact h
  ·rw [List.getElem?_eq_none (by rw [flatR_len];exact h)] at hj;cases hj
 have hplain:(⟨b,o,none⟩:Addr).add j=⟨b,o+j,none⟩:=by unfold Addr.add;split<;>simp_all
 have hi:j / 2<l.length:=by omega
 have hq:=flat_get 2 (l.map Rf.cells) (fun xs hxs=>by simp at hxs;obtain ⟨c,_,rfl⟩:=hxs;rfl) (j / 2) (by simpa using hi) (j%2) (Nat.mod_lt _ (by decide))
 have hm:j / 2*2+j%2=j:=by omega
 rw [hm] at hq
 rw [hplain,←hj,hq,←h (j / 2) hi (j%2) (Nat.mod_lt _ (by decide)),Nat.add_assoc,hm]
theorem clonef_any (l:List Rf) (a:Option Addr) (cap:Nat) (w:World) (hl:Sl w (.slice a l.length cap) 2 (l.map Rf.cells)) (hlen:l.length≤1000):
 Calls Tryz.prog 69 #[.slice a l.length cap] w fun e w' =>∃a' cap',e= .returned (.slice a' l.length cap')∧w'.ownsRow w.heap.size 69 2 (.slice a' l.length cap') l.length ((l.map Rf.cells).flatten)∧Ext w w' :=by
 obtain ⟨i0,hi,hz0,hz1,hz2⟩:=info_parts Tryz.infoRfQ
 have HL:=Hm hl
 clear hl
 cases a with
 |none=>
  have h0:l= []:=by
   obtain ⟨a,c,hv,h⟩:=HL.out
   simp only [Value.slice.injEq] at hv
   rcases h with h|⟨b,o,ha,_⟩
   ·simpa using h
   ·rw [←hv.1] at ha;cases ha
  obtain ⟨a,c,hv, -⟩:=HL.out
  subst h0
  clear HL hv
  go_enter Tryz.func69,Tryz.ntmps69
  go_wp2
  go_ret
  exact ⟨_,_,rfl,World.ownsRow_nil _ _ _ _,by exact eX⟩
 |some ad=>
  have hnews:∀j u,((l.map Rf.cells).flatten)[j]? =some u→(w.alloc (.cells #[] 69)).cell? (ad.add j)=some u:=by
   obtain ⟨a,c,hv,h⟩:=HL.out
   simp only [Value.slice.injEq] at hv
   obtain ⟨rfl, -, -⟩:=hv
   rcases h with h|⟨b,o,ha,hb,hc⟩
   ·have h0:l= []:=by simpa using h
    subst h0;intro j u hj;simp at hj
   ·cases ha
    refine news_ref fun i hi j hj=> ?_
    have hE:Ext w (w.alloc (.cells #[] 69)):=(Ext.refl w).alloc _
    rw [hE.cells.1 b _ hb]
    exact hc i (by simpa using hi) j hj
  have HN:=Hm hnews
  clear HL hnews
  go_enter Tryz.func69,Tryz.ntmps69
  go_wp2_with (at_builtin;refine wpList_append_own _ rfl _ _ 75 rfl w.heap.size 69 i0 _ 2 8 Tryz.underlying75 hi hz0 hz1 hz2 rfl (by decide) (.slice (some ⟨w.heap.size,0,none⟩) 0 0) 0 [] rfl ?c0 _ l.length _ ((l.map Rf.cells).flatten) rfl (flatR_len l) HN.out ?c2 ?c3 ?c4 ?c5 ?_)
  case c0=>exact ⟨rfl, .inr ⟨_,0, #[],rfl,Nat.le_refl _,Blk.new w #[] _,Nat.le_refl _,Nat.zero_le _,rfl,rfl⟩⟩
  case c2=>intro u hu;rw [List.mem_flatten] at hu;obtain ⟨xs,hxs,hu⟩:=hu;rw [List.mem_map] at hxs;obtain ⟨c,_,rfl⟩:=hxs;simp [Rf.cells] at hu;rcases hu with rfl|rfl<;>rfl
  case c3=>unfold maxLen;omega
  case c4=>omega
  case c5=>simp
  intro v' w2 hown hgrow _
  have hown:w2.ownsRow w.heap.size 69 2 v' l.length ((l.map Rf.cells).flatten):=by simpa using hown
  have hE2:Ext w w2:=((Ext.refl w).alloc (.cells #[] 69)).grown (v:= .slice (some ⟨w.heap.size,0,none⟩) 0 0) (e:=69) (size:=2) (n:=0) (xs:= []) ⟨rfl, .inr ⟨_,0, #[],rfl,Nat.le_refl _,Blk.new w #[] _,Nat.le_refl _,Nat.zero_le _,rfl,rfl⟩⟩ hgrow
  obtain ⟨a',c',rfl⟩:=owns_shape hown
  have HO:=Hm hown
  have HE2:=Hm hE2
  clear hown hE2 hgrow
  go_wp2
  go_ret
  exact ⟨a',c',rfl,HO.out,HE2.out⟩
structure Ev.small (e:Ev):Prop where
 b:e.b.length≤1000
 a:e.a.length≤1000
 r:e.rs.length≤1000
theorem ealike_any (x y:EL) (w:World) (hx:x.at 5 K.pc w) (hy:y.at 5 K.pc w) (h1:x.e.small) (h2:y.e.small):
 Calls Tryz.prog 102 #[x.agg,y.agg] w fun e w' =>e= .returned (.bool (evB x.e y.e))∧Ext w w' :=by
 obtain ⟨⟨k1,ao1,av1,old1,b1,a1,r1,fl1⟩,ba1,bc1,aa1,ac1,ra1,rc1⟩:=x
 obtain ⟨⟨k2,ao2,av2,old2,b2,a2,r2,fl2⟩,ba2,bc2,aa2,ac2,ra2,rc2⟩:=y
 unfold EL.agg
 simp only
 have HB:=Hm (fun W (h:Ext w W)=>alike_any b1 b2 ba1 ba2 bc1 bc2 W (hx.b.ext h) (hy.b.ext h) h1.b h2.b)
 have HA:=Hm (fun W (h:Ext w W)=>alike_any a1 a2 aa1 aa2 ac1 ac2 W (hx.a.ext h) (hy.a.ext h) h1.a h2.a)
 have HF:=Hm (fun W (h:Ext w W)=>eqrefs_any r1 r2 ra1 ra2 rc1 rc2 W (hx.r.ext h) (hy.r.ext h) (by have:=h1.r;simp only at this;omega))
 clear hx hy h1 h2
 by_cases q1:k1=k2
 case neg=>
  have HR:=Hm (show evB (⟨k1,ao1,av1,old1,b1,a1,r1,fl1⟩:Ev) (⟨k2,ao2,av2,old2,b2,a2,r2,fl2⟩:Ev)=false from evB_false.2 (fun h=>by injection h;contradiction))
  have q1' :(k1==k2)=false:=by simpa using q1
  clear q1
  go_enter Tryz.func102,Tryz.ntmps102
  go_wp2
  go_ret
  exact ⟨ret_bool HR.out.symm,by exact eX⟩
 by_cases q2:rfB ⟨ao1,av1⟩ ⟨ao2,av2⟩=true
 case neg=>
  have HR:=Hm (show evB (⟨k1,ao1,av1,old1,b1,a1,r1,fl1⟩:Ev) (⟨k2,ao2,av2,old2,b2,a2,r2,fl2⟩:Ev)=false from evB_false.2 (fun h=>by injection h with _ e1 e2;exact q2 (rfB_true.2 (by rw [e1,e2]))))
  have q2' :rfB ⟨ao1,av1⟩ ⟨ao2,av2⟩=false:=by simpa using q2
  have hQ:=fun w=>eql_pref ao1 av1 ao2 av2 w
  rw [q2'] at hQ
  clear q2 q2'
  subst q1
  go_enter Tryz.func102,Tryz.ntmps102
  go_wp2
  go_ret
  exact ⟨ret_bool HR.out.symm,by exact eX⟩
 have q2e:=rfB_true.1 q2
 injection q2e with q3 q4
 clear q2
 subst q1 q3 q4
 by_cases q5:old1=old2
 case neg=>
  have HR:=Hm (show evB (⟨k1,ao1,av1,old1,b1,a1,r1,fl1⟩:Ev) (⟨k1,ao1,av1,old2,b2,a2,r2,fl2⟩:Ev)=false from evB_false.2 (fun h=>by injection h;contradiction))
  have q5' :(old1==old2)=false:=by simpa using q5
  clear q5
  go_enter Tryz.func102,Tryz.ntmps102
  go_wp2
  go_ret
  exact ⟨ret_bool HR.out.symm,by exact eX⟩
 subst q5
 by_cases q6:fl1=fl2
 case neg=>
  have HR:=Hm (show evB (⟨k1,ao1,av1,old1,b1,a1,r1,fl1⟩:Ev) (⟨k1,ao1,av1,old1,b2,a2,r2,fl2⟩:Ev)=false from evB_false.2 (fun h=>by injection h;contradiction))
  have q6' :(fl1==fl2)=false:=by simpa using q6
  clear q6
  go_enter Tryz.func102,Tryz.ntmps102
  go_wp2
  go_ret
  exact ⟨ret_bool HR.out.symm,by exact eX⟩
 subst q6
 cases hb:rowB b1 b2 with
 |false=>
  have HR:=Hm (show evB (⟨k1,ao1,av1,old1,b1,a1,r1,fl1⟩:Ev) (⟨k1,ao1,av1,old1,b2,a2,r2,fl1⟩:Ev)=false from evB_false.2 (fun h=>by injection h with _ _ _ _ e1;exact rowB_false.1 hb e1))
  rw [hb] at HB
  clear hb
  go_enter Tryz.func102,Tryz.ntmps102
  go_wp2_with (go_at_call 129;refine (HB.out _ (by exact eX)).mono ?_;rintro e w2 ⟨rfl,hb2⟩)
  go_ret
  exact ⟨ret_bool HR.out.symm,by exact eX⟩
 |true=>
 obtain rfl:=rowB_true.1 hb
 rw [hb] at HB
 clear hb
 cases ha:rowB a1 a2 with
 |false=>
  have HR:=Hm (show evB (⟨k1,ao1,av1,old1,b1,a1,r1,fl1⟩:Ev) (⟨k1,ao1,av1,old1,b1,a2,r2,fl1⟩:Ev)=false from evB_false.2 (fun h=>by injection h with _ _ _ _ _ e1;exact rowB_false.1 ha e1))
  rw [ha] at HA
  clear ha
  go_enter Tryz.func102,Tryz.ntmps102
  go_wp2_with (first
   |(go_at_call_of 129 (Value.slice ba1 b1.length bc1);(with_reducible refine (HB.out _ (by exact eX)).mono ?_);rintro e w2 ⟨rfl,hb2⟩;have hE_w2:Ext ((w.alloc (.cells #[.int .u8 k1, .int .u32 ao1, .int .u32 av1, .int .u8 old1, .slice ba1 b1.length bc1, .slice aa1 a1.length ac1, .slice ra1 r1.length rc1, .int .u8 fl1] 77)).alloc (.cells #[.int .u8 k1, .int .u32 ao1, .int .u32 av1, .int .u8 old1, .slice ba2 b1.length bc2, .slice aa2 a2.length ac2, .slice ra2 r2.length rc2, .int .u8 fl1] 77)) w2:=(by exact eX);obtain ⟨hc_w2,hf_w2⟩:=hE_w2.cells;have hz_w2:=hE_w2.size)
   |(go_at_call_of 129 (Value.slice aa1 a1.length ac1);refine (HA.out _ (by exact eX)).mono ?_;rintro e w3 ⟨rfl,hb3⟩))
  go_ret
  exact ⟨ret_bool HR.out.symm,by exact eX⟩
 |true=>
 obtain rfl:=rowB_true.1 ha
 rw [ha] at HA
 clear ha
 have HR:=Hm (show evB (⟨k1,ao1,av1,old1,b1,a1,r1,fl1⟩:Ev) (⟨k1,ao1,av1,old1,b1,a1,r2,fl1⟩:Ev)=rfsB r1 r2 from by
  unfold evB rfsB
  exact decide_eq_decide.2 (by simp only [Ev.mk.injEq,true_and,and_true]))
 generalize rfsB r1 r2=B at HF HR
 go_enter Tryz.func102,Tryz.ntmps102
 go_wp2_with (first
  |(go_at_call_of 129 (Value.slice ba1 b1.length bc1);(with_reducible refine (HB.out _ (by exact eX)).mono ?_);rintro e w2 ⟨rfl,hb2⟩;have hE_w2:Ext ((w.alloc (.cells #[.int .u8 k1, .int .u32 ao1, .int .u32 av1, .int .u8 old1, .slice ba1 b1.length bc1, .slice aa1 a1.length ac1, .slice ra1 r1.length rc1, .int .u8 fl1] 77)).alloc (.cells #[.int .u8 k1, .int .u32 ao1, .int .u32 av1, .int .u8 old1, .slice ba2 b1.length bc2, .slice aa2 a1.length ac2, .slice ra2 r2.length rc2, .int .u8 fl1] 77)) w2:=(by exact eX);obtain ⟨hc_w2,hf_w2⟩:=hE_w2.cells;have hz_w2:=hE_w2.size)
  |(go_at_call_of 129 (Value.slice aa1 a1.length ac1);(with_reducible refine (HA.out _ (by exact eX)).mono ?_);rintro e w3 ⟨rfl,hb3⟩;have hE_w3:Ext ((w.alloc (.cells #[.int .u8 k1, .int .u32 ao1, .int .u32 av1, .int .u8 old1, .slice ba1 b1.length bc1, .slice aa1 a1.length ac1, .slice ra1 r1.length rc1, .int .u8 fl1] 77)).alloc (.cells #[.int .u8 k1, .int .u32 ao1, .int .u32 av1, .int .u8 old1, .slice ba2 b1.length bc2, .slice aa2 a1.length ac2, .slice ra2 r2.length rc2, .int .u8 fl1] 77)) w3:=(by exact eX);obtain ⟨hc_w3,hf_w3⟩:=hE_w3.cells;have hz_w3:=hE_w3.size)
  |(go_at_call 110;refine (HF.out _ (by exact eX)).mono ?_;rintro e w4 ⟨rfl,hb4⟩))
 go_ret
 exact ⟨ret_bool HR.out.symm,by exact eX⟩
theorem esame_any (x y:EL) (w:World) (hx:x.at 6 K.rc w) (hy:y.at 6 K.rc w) (h1:x.e.small) (h2:y.e.small):
 Calls Tryz.prog 59 #[x.agg,y.agg] w fun e w' =>e= .returned (.bool (evB x.e y.e))∧Ext w w' :=by
 obtain ⟨⟨k1,ao1,av1,old1,b1,a1,r1,fl1⟩,ba1,bc1,aa1,ac1,ra1,rc1⟩:=x
 obtain ⟨⟨k2,ao2,av2,old2,b2,a2,r2,fl2⟩,ba2,bc2,aa2,ac2,ra2,rc2⟩:=y
 unfold EL.agg
 simp only
 have HB:=Hm (fun W (h:Ext w W)=>rsame_any b1 b2 ba1 ba2 bc1 bc2 W (hx.b.ext h) (hy.b.ext h) h1.b h2.b)
 have HA:=Hm (fun W (h:Ext w W)=>rsame_any a1 a2 aa1 aa2 ac1 ac2 W (hx.a.ext h) (hy.a.ext h) h1.a h2.a)
 have HL:=Hm hx.r
 have HM:=Hm hy.r
 have hlen:=h1.r
 simp only at hlen HL HM
 clear hx hy h1 h2
 by_cases q1:k1=k2
 case neg=>
  have HR:=Hm (show evB (⟨k1,ao1,av1,old1,b1,a1,r1,fl1⟩:Ev) (⟨k2,ao2,av2,old2,b2,a2,r2,fl2⟩:Ev)=false from evB_false.2 (fun h=>by injection h;contradiction))
  have q1' :(k1 !=k2)=true:=by simpa using q1
  clear q1
  go_enter Tryz.func59,Tryz.ntmps59
  go_wp2
  go_ret
  exact ⟨ret_bool HR.out.symm,by exact eX⟩
 by_cases q2:rfB ⟨ao1,av1⟩ ⟨ao2,av2⟩=true
 case neg=>
  have HR:=Hm (show evB (⟨k1,ao1,av1,old1,b1,a1,r1,fl1⟩:Ev) (⟨k2,ao2,av2,old2,b2,a2,r2,fl2⟩:Ev)=false from evB_false.2 (fun h=>by injection h with _ e1 e2;exact q2 (rfB_true.2 (by rw [e1,e2]))))
  have q2' :rfB ⟨ao1,av1⟩ ⟨ao2,av2⟩=false:=by simpa using q2
  have hQ:=fun w=>neq_rref ao1 av1 ao2 av2 w
  rw [q2'] at hQ
  clear q2 q2'
  subst q1
  go_enter Tryz.func59,Tryz.ntmps59
  go_wp2
  go_ret
  exact ⟨ret_bool HR.out.symm,by exact eX⟩
 have q2e:=rfB_true.1 q2
 injection q2e with q3 q4
 clear q2
 subst q1 q3 q4
 by_cases q5:old1=old2
 case neg=>
  have HR:=Hm (show evB (⟨k1,ao1,av1,old1,b1,a1,r1,fl1⟩:Ev) (⟨k1,ao1,av1,old2,b2,a2,r2,fl2⟩:Ev)=false from evB_false.2 (fun h=>by injection h;contradiction))
  have q5' :(old1 !=old2)=true:=by simpa using q5
  clear q5
  go_enter Tryz.func59,Tryz.ntmps59
  go_wp2
  go_ret
  exact ⟨ret_bool HR.out.symm,by exact eX⟩
 subst q5
 by_cases q6:fl1=fl2
 case neg=>
  have HR:=Hm (show evB (⟨k1,ao1,av1,old1,b1,a1,r1,fl1⟩:Ev) (⟨k1,ao1,av1,old1,b2,a2,r2,fl2⟩:Ev)=false from evB_false.2 (fun h=>by injection h;contradiction))
  have q6' :(fl1 !=fl2)=true:=by simpa using q6
  clear q6
  go_enter Tryz.func59,Tryz.ntmps59
  go_wp2
  go_ret
  exact ⟨ret_bool HR.out.symm,by exact eX⟩
 subst q6
 by_cases hn:r1.length=r2.length
 case neg=>
  have hn' :(((r1.length:Nat):Int) !=((r2.length:Nat):Int))=true:=by simp;omega
  have HR:=Hm (show evB (⟨k1,ao1,av1,old1,b1,a1,r1,fl1⟩:Ev) (⟨k1,ao1,av1,old1,b2,a2,r2,fl1⟩:Ev)=false from evB_false.2 (fun h=>by injection h with _ _ _ _ _ _ e1;exact hn (by rw [e1])))
  clear hn
  go_enter Tryz.func59,Tryz.ntmps59
  go_wp2
  go_ret
  exact ⟨ret_bool HR.out.symm,by exact eX⟩
 have hn' :(((r1.length:Nat):Int) !=((r2.length:Nat):Int))=false:=by simp;omega
 have HN:=Hm hn
 clear hn
 go_enter Tryz.func59,Tryz.ntmps59
 go_wp2
 go_loopw [5] (fun i wr=>∃k:Nat,k≤r1.length∧i= .int .i64 k∧Hid (∀j (h1:j<r1.length) (h2:j<r2.length),j<k→r1[j]=r2[j])∧Hid (Ext w wr)∧Hid (Blk wr w.heap.size #[.int .u8 k1, .int .u32 ao1, .int .u32 av1, .int .u8 old1, .slice ba1 b1.length bc1, .slice aa1 a1.length ac1, .slice ra1 r1.length rc1, .int .u8 fl1] 47)∧Hid (Blk wr (w.heap.size+1) #[.int .u8 k1, .int .u32 ao1, .int .u32 av1, .int .u8 old1, .slice ba2 b2.length bc2, .slice aa2 a2.length ac2, .slice ra2 r2.length rc2, .int .u8 fl1] 47)) (fun i _=>r1.length - (intOf i).toNat)
 case atStart=>exact ⟨0,Nat.zero_le _,rfl,fun j _ _ h=>by omega,Hm (by exact eX),Hm ((Blk.new _ _ _).alloc _),Hm (Blk.new' _ _ (by simp))⟩
 case round=>
  obtain ⟨k,hk,rfl,hrel,hE,hX,hY⟩:=hrel
  have gx:=hX.out.cell
  have gy:=hY.out.cell
  have zx:=hX.out.lt
  have zy:=hY.out.lt
  by_cases hlt:k<r1.length
  ·have hlt2:k<r2.length:=by have:=HN.out;omega
   obtain ⟨o1,p1,rfl,hb1,hx1⟩:=HL.out.at_ (i:=k) (by simpa using hlt)
   obtain ⟨f0,f1⟩:=Rf.at_ hlt hx1 hb1 hE.out
   obtain ⟨o2,p2,rfl,hb2,hx2⟩:=HM.out.at_ (i:=k) (by simpa using hlt2)
   obtain ⟨s0,s1⟩:=Rf.at_ hlt2 hx2 hb2 hE.out
   have hbw:o1<wr.heap.size:=Nat.lt_of_lt_of_le hb1 hE.out.size
   have hbw2:o2<wr.heap.size:=Nat.lt_of_lt_of_le hb2 hE.out.size
   have hNq:=fun w=>neq_rref r1[k].o r1[k].v r2[k].o r2[k].v w
   cases hA:rfB ⟨r1[k].o,r1[k].v⟩ ⟨r2[k].o,r2[k].v⟩ with
   |true=>
    rw [hA] at hNq
    have HAE:=Hm (rfB_true.1 hA)
    clear hA hx1 hx2
    go_wp2
    go_region_held3 (fun w' =>Ext (wr) w'∧(∀b o,b<(wr).heap.size→w'.cell? ⟨b,o,none⟩=(wr).cell? ⟨b,o,none⟩)∧(∀b o,b<(wr).heap.size→w'.frozen? ⟨b,o,none⟩=(wr).frozen? ⟨b,o,none⟩)) ((exact held_of (by exact eX))) (fail)
    go_wp2
    go_roundw
    case rel=>exact ⟨k+1,by omega,by go_num,Hm (fun j h1 h2 hjk=>by
     by_cases e:j=k
     ·subst e;exact HAE.out
     ·exact hrel.out j h1 h2 (by omega)),Hm (hE.out.trans (by exact eX)),Hm (hX.out.ext (by exact eX)),Hm (hY.out.ext (by exact eX))⟩
    case measure=>simp [intOf];omega
   |false=>
    rw [hA] at hNq
    have HR:=Hm (show evB (⟨k1,ao1,av1,old1,b1,a1,r1,fl1⟩:Ev) (⟨k1,ao1,av1,old1,b2,a2,r2,fl1⟩:Ev)=false from evB_false.2 (fun h=>by injection h with _ _ _ _ _ _ e1;exact rfB_false.1 hA (by subst e1;rfl)))
    clear hA hx1 hx2
    go_wp2
    go_region_held3 (fun w' =>Ext (wr) w'∧(∀b o,b<(wr).heap.size→w'.cell? ⟨b,o,none⟩=(wr).cell? ⟨b,o,none⟩)∧(∀b o,b<(wr).heap.size→w'.frozen? ⟨b,o,none⟩=(wr).frozen? ⟨b,o,none⟩)) ((exact held_of (by exact eX))) (fail)
    go_wp2
    go_ret
    exact ⟨ret_bool HR.out.symm,hE.out.trans (by exact eX)⟩
  ·have hkk:k=r1.length:=by omega
   have HRS:=Hm (show r1=r2 from List.ext_getElem HN.out (fun i h1 h2=>hrel.out i h1 h2 (by omega)))
   subst hkk
   cases hb:rowB b1 b2 with
   |false=>
    have HR:=Hm (show evB (⟨k1,ao1,av1,old1,b1,a1,r1,fl1⟩:Ev) (⟨k1,ao1,av1,old1,b2,a2,r2,fl1⟩:Ev)=false from evB_false.2 (fun h=>by injection h with _ _ _ _ e1;exact rowB_false.1 hb e1))
    rw [hb] at HB
    clear hb
    go_wp2_with (go_at_call 84;refine (HB.out _ hE.out).mono ?_;rintro e w2 ⟨rfl,hb2⟩)
    go_ret
    exact ⟨ret_bool HR.out.symm,hE.out.trans hb2⟩
   |true=>
    have HBE:=Hm (rowB_true.1 hb)
    rw [hb] at HB
    clear hb
    have HR:=Hm (show evB (⟨k1,ao1,av1,old1,b1,a1,r1,fl1⟩:Ev) (⟨k1,ao1,av1,old1,b2,a2,r2,fl1⟩:Ev)=rowB a1 a2 from by
     unfold evB rowB
     exact decide_eq_decide.2 (by simp only [Ev.mk.injEq,true_and,and_true,HBE.out,HRS.out]))
    generalize rowB a1 a2=B at HA HR
    go_wp2_with (first
     |(go_at_call_of 84 (Value.slice ba1 b1.length bc1);(with_reducible refine (HB.out _ hE.out).mono ?_);rintro e w2 ⟨rfl,hb2⟩;have gx2:=(hX.out.ext hb2).cell;have zx2:=(hX.out.ext hb2).lt;have gy2:=(hY.out.ext hb2).cell;have zy2:=(hY.out.ext hb2).lt)
     |(go_at_call_of 84 (Value.slice aa1 a1.length ac1);refine (HA.out _ (hE.out.trans hb2)).mono ?_;rintro e w3 ⟨rfl,hb3⟩))
    go_ret
    exact ⟨ret_bool HR.out.symm,hE.out.trans (hb2.trans hb3)⟩
end Go.Proofs.YtgmphpccpfaapaaGreatDoor
