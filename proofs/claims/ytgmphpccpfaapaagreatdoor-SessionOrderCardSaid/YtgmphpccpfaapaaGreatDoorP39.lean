/-
The messages of a story that fits are right and not long; cells, as they are read.
-/
import Derived.Test.YtgmphpccpfaapaaGreatDoorP38
import Derived.Test.YtgmphpccpfaapaaGreatDoorP25
import Derived.Test.YtgmphpccpfaapaaGreatDoorP19
set_option maxRecDepth 100000
set_option maxHeartbeats 16000000
namespace Go.Proofs.YtgmphpccpfaapaaGreatDoor
open Go.RowKit
structure Msg.fine (C:List Rl) (m:Msg):Prop where
 e:msgE m C=0
section
variable {C : List Rl}
theorem fine_B {t:Tx} (h:t.xid≠0):(txMB t).fine C:=⟨by
 unfold msgE
 rw [if_neg (by show ¬ (wlet 66=false);decide),if_neg (by rw [msgB_true.2 (show txMB t=(txMB t).own from rfl)];simp),if_pos (.inl rfl),if_neg (show ¬ (txMB t).x=0 from h)]⟩
theorem fine_C {t:Tx} (h:t.xid≠0):(txMC t).fine C:=⟨by
 unfold msgE
 rw [if_neg (by show ¬ (wlet 67=false);decide),if_neg (by rw [msgB_true.2 (show txMC t=(txMC t).own from rfl)];simp),if_pos (.inr rfl),if_neg (show ¬ (txMC t).x=0 from h)]⟩
theorem fine_R {r:Rf} (h:hasR r.o r.v C=true) (hC:∀x∈C,x.right=0):(relM C r).fine C:=⟨by
 unfold msgE
 rw [if_neg (by show ¬ (wlet 82=false);decide),if_neg (by rw [msgB_true.2 (show relM C r=(relM C r).own from rfl)];simp),if_neg (by show ¬ ((82:Int)=66∨(82:Int)=67);decide),if_pos (show (relM C r).k=82 from rfl)]
 unfold relM
 cases hg:getR r.o r.v C with
 |none=>rw [getR_none.1 hg] at h;cases h
 |some q=>exact hC q (getR_some hg).1⟩
theorem fine_E {e:Ev} (h:evE e C=0):(msgOf e).fine C:=⟨by
 have hk:=(ev_parts h).1
 have h4:e.kind=4∨e.kind=5∨e.kind=6∨e.kind=7:=by omega
 have hg:∀k:Int,wlet k=true→(k≠66∧k≠67∧k≠82)→wkind k=e.kind→msgOf e=⟨k,0,0,0,Rl0,e⟩→msgE (msgOf e) C=0:=fun k h1 h2 h3 h5=>by
  rw [h5]
  unfold msgE
  have ho:(⟨k,0,0,0,Rl0,e⟩:Msg)=(⟨k,0,0,0,Rl0,e⟩:Msg).own:=by
   unfold Msg.own
   rw [if_neg h2.1,if_neg h2.2.1,if_neg h2.2.2]
  rw [if_neg (by show ¬ (wlet k=false);rw [h1];simp),if_neg (by rw [msgB_true.2 ho];simp),if_neg (by show ¬ (k=66∨k=67);omega),if_neg (show ¬ (k=82) by omega),if_neg (by show ¬ (e.kind≠wkind k);omega)]
  exact h
 unfold msgOf at hg⊢
 rcases h4 with h4|h4|h4|h4
 ·exact hg 73 (by decide) (by decide) (by rw [h4];decide) (if_pos h4)
 ·exact hg 85 (by decide) (by decide) (by rw [h4];decide) (by rw [if_neg (by omega),if_pos h4])
 ·exact hg 68 (by decide) (by decide) (by rw [h4];decide) (by rw [if_neg (by omega),if_neg (by omega),if_pos h4])
 ·exact hg 84 (by decide) (by decide) (by rw [h4];decide) (by rw [if_neg (by omega),if_neg (by omega),if_neg (by omega),if_pos h4])⟩
theorem usU_P {P:Msg→Prop} :∀(l:List Rf) (s:Said) (_:∀m∈s.1,P m) (_:∀r∈l,P (relM C r)),∀m∈(usU C s l).1,P m
 | [],s,h,_=>h
 |r::l,s,h,h1=>usU_P l (stU C s r) (by
  unfold stU
  by_cases h2:hasRf s.2 r=true
  ·rw [if_pos h2];exact h
  ·rw [if_neg h2]
   intro m hm
   rcases List.mem_append.1 hm with hm|hm
   ·exact h m hm
   ·obtain rfl:m=relM C r:=by simpa using hm
    exact h1 r (List.mem_cons_self ..)) (fun x hx=>h1 x (List.mem_cons_of_mem _ hx))
theorem evV_P {P:Msg→Prop} :∀(l:List Ev) (s:Said) (_:∀m∈s.1,P m) (_:∀v∈l,P (msgOf v)∧∀r∈usesE v,P (relM C r)),∀m∈(evV C s l).1,P m
 | [],s,h,_=>h
 |v::l,s,h,h1=>evV_P l (stV C s v) (fun m hm=>by
  rcases List.mem_append.1 (show m∈(usU C s (usesE v)).1++ [msgOf v] from hm) with hm|hm
  ·exact usU_P _ s h (h1 v (List.mem_cons_self ..)).2 m hm
  ·obtain rfl:m=msgOf v:=by simpa using hm
   exact (h1 v (List.mem_cons_self ..)).1) (fun x hx=>h1 x (List.mem_cons_of_mem _ hx))
theorem txT_P {P:Msg→Prop} :∀(l:List Tx) (s:Said) (_:∀m∈s.1,P m) (_:∀t∈l,P (txMB t)∧P (txMC t)∧∀v∈t.es,P (msgOf v)∧∀r∈usesE v,P (relM C r)),∀m∈(txT C s l).1,P m
 | [],s,h,_=>h
 |t::l,s,h,h1=>txT_P l (stT C s t) (fun m hm=>by
  obtain ⟨a,b,c⟩:=h1 t (List.mem_cons_self ..)
  rcases List.mem_append.1 (show m∈(evV C (s.1++ [txMB t],s.2) t.es).1++ [txMC t] from hm) with hm|hm
  ·refine evV_P _ (s.1++ [txMB t],s.2) (fun m hm=> ?_) c m hm
   rcases List.mem_append.1 hm with hm|hm
   ·exact h m hm
   ·obtain rfl:m=txMB t:=by simpa using hm
    exact a
  ·obtain rfl:m=txMC t:=by simpa using hm
   exact b) (fun x hx=>h1 x (List.mem_cons_of_mem _ hx))
theorem ck_tx {xs:List Tx} (h:ckE xs C=0):∀t∈xs,t.xid≠0∧∀e∈t.es,evE e C=0:=by
 intro t ht
 obtain ⟨k,hk,rfl⟩:=List.getElem_of_mem ht
 have h1:=firstE_all h k hk
 unfold chE at h1
 rw [dif_pos hk] at h1
 by_cases c1:0<k∧xs[k].xid≤(xs.map Tx.xid).getD (k - 1) 0
 ·rw [if_pos c1] at h1;cases h1
 rw [if_neg c1] at h1
 unfold rtE at h1
 by_cases c2:xs[k].xid=0
 ·rw [if_pos c2] at h1;cases h1
 rw [if_neg c2] at h1
 by_cases c3:512<xs[k].es.length
 ·rw [if_pos c3] at h1;cases h1
 rw [if_neg c3] at h1
 refine ⟨c2,fun e he=> ?_⟩
 obtain ⟨j,hj,rfl⟩:=List.getElem_of_mem he
 have h2:=firstE_all h1 j hj
 unfold evAt at h2
 rwa [dif_pos hj] at h2
theorem story_P {P:Msg→Prop} {l:List Tx} (h:∀t∈l,P (txMB t)∧P (txMC t)∧∀v∈t.es,P (msgOf v)∧∀r∈usesE v,P (relM C r)):∀m∈storyM C l,P m:=
 txT_P l ([], []) (fun m hm=>by cases hm) h
theorem story_ordered {l:List Tx} (h:ckE l C=0) (h0:∀t∈l,∀e∈t.es,0≤e.old):∃rs,ordF (storyM C l)=some (false,rs)∧rs.length=(usedL l).length:=
 story_ord fun t ht v hv=>ev_fit ((ck_tx h t ht).2 v hv) (h0 t ht v hv)
end
theorem body_short {m:Msg} {C:List Rl} (h:msgE m C=0) (h0:0≤m.e.old) (hb:∀c∈m.e.b,c.wr) (ha:∀c∈m.e.a,c.wr):(bodyW m).length≤131072:=by
 unfold bodyW
 by_cases h1:m.k=66
 ·rw [if_pos h1];simp only [List.length_append,octs_len];omega
 rw [if_neg h1]
 by_cases h2:m.k=67
 ·rw [if_pos h2];simp only [List.length_append,octs_len];omega
 rw [if_neg h2]
 by_cases h3:m.k=82
 ·rw [if_pos h3]
  have hr:=msg_rel h h3
  have h4:=Rl.right_nm hr
  have h5:=Rl.cols_le hr
  have h6:=colsW_len m.r.cols (Rl.right_wr hr)
  unfold relW refW nameW
  simp only [List.length_append,octs_len,strL_len]
  omega
 rw [if_neg h3]
 obtain ⟨hk,hE⟩:=msg_ev h h1 h2 h3
 by_cases h4:m.k=84
 ·rw [if_pos h4]
  have h7:m.e.kind=7:=by rw [hk,h4];rfl
  have:=(ev_tr hE h7).n
  simp only [List.length_append,octs_len,refsW_len]
  omega
 rw [if_neg h4]
 have hn:m.e.b.length≤16∧m.e.a.length≤16:=by
  by_cases h7:m.e.kind=7
  ·have h8:=(ev_tr hE h7).is
   have h9:=congrArg Ev.b h8
   have h10:=congrArg Ev.a h8
   rw [h9,h10];simp
  ·obtain ⟨r,q⟩:=ev_row hE h7 h0
   constructor
   ·by_cases c:m.e.old=0
    ·rw [q.b0 c];simp
    ·obtain ⟨f1,f2, -⟩:=fits_zero (q.b1 c)
     have:=Rl.cols_le f1
     omega
   ·by_cases c:m.e.kind=6
    ·rw [q.a0 c];simp
    ·obtain ⟨f1,f2, -⟩:=fits_zero (q.a1 c)
     have:=Rl.cols_le f1
     omega
 have i1:=imgW_len 75 m.e.b hb
 have i2:=imgW_len 79 m.e.b hb
 have i3:=imgW_len 78 m.e.a ha
 have h7:(if m.e.old=1 then imgW 75 m.e.b else if m.e.old=2 then imgW 79 m.e.b else []).length≤48162:=by
  split
  ·omega
  ·split
   ·omega
   ·simp
 have h8:(if m.k=68 then [] else imgW 78 m.e.a).length≤48162:=by
  split
  ·simp
  ·omega
 unfold refW
 simp only [List.length_append,octs_len]
 omega
theorem p4_256:(256:Int) ^ 4=4294967296:=by decide
theorem res_pcell {W:World} {g:Nat} {v0 v1 v2 v3 v4 v5:Value} {tm:Array Value} (h:Blk W g #[v0,v1,v2,v3,v4,v5] 101) (ht:tm.getD 4 undef= .pointer (some ⟨g,0,none⟩)):
 (results Tryz.f83 tm).run Tryz.prog W= .ok (.agg #[v0,v1,v2,v3,v4,v5]) W:=by
 have c:=h.cell
 have c0:=c 0
 have c1:=c 1
 have c2:=c 2
 have c3:=c 3
 have c4:=c 4
 have c5:=c 5
 clear c h
 simp at c0 c1 c2 c3 c4 c5
 rw [Array.getD_eq_getD_getElem?] at ht
 simp [results,Tryz.results83,go_sem,ht,c0,c1,c2,c3,c4,c5]
theorem Blk.sixP {W:World} {b:Nat} {u0 u1 u2 u3 u4 u5 v0 v1 v2 v3 v4 v5:Value} {T:TypeId} (h:Blk W b #[u0,u1,u2,u3,u4,u5] T):
 Blk ((((((W.setCell ⟨b,0,none⟩ v0).setCell ⟨b,1,none⟩ v1).setCell ⟨b,2,none⟩ v2).setCell ⟨b,3,none⟩ v3).setCell ⟨b,4,none⟩ v4).setCell ⟨b,5,none⟩ v5) b #[v0,v1,v2,v3,v4,v5] T:=(((((h.set 0 _).set 1 _).set 2 _).set 3 _).set 4 _).set 5 _
theorem Kp.setN {S:Nat→Prop} {W0 W:World} (h:Kp S W0 W) {p:Addr} (hb:W0.heap.size≤p.block) (u:Value):Kp S W0 (W.setCell p u):=
 h.trans (Kp.set (S:=fun k=>k=p.block) p u rfl) (fun x hx hl=>by have h2:x=p.block:=hx;exact absurd h2 (by omega))
theorem Rd.other {W:World} {g:Nat} {S:ByteArray} (h:Rd W g S) {p:Addr} (hb:g≠p.block) (u:Value):Rd (W.setCell p u) g S:=Blk.other h p u hb
theorem cell_kinds {c:K} {t:Int} (h:c.right t=0) (hk:c.wk):c=K.zero∨c=⟨1,V.zero⟩∨(c.k=2∧c.v.ty=t∧rightV c.v.ty c.v.n c.v.x c.v.y c.v.s=0):=by
 have h0:=hk.k
 by_cases h2:c.k<2
 ·obtain ⟨a1,a2,a3,a4,a5, -⟩:=right_same h2 h
  have hv:c.v=V.zero:=by
   obtain ⟨k,ty,n,x,y,s⟩:=c
   simp only at a1 a2 a3 a4 a5
   subst a1 a2
   obtain rfl:x=0:=by omega
   obtain rfl:y=0:=by omega
   obtain rfl:s=ByteArray.empty:=(size_zero s).2 a5
   rfl
  obtain ⟨k,v⟩:=c
  simp only at hv h0 h2
  subst hv
  rcases (show k=0∨k=1 by omega) with rfl|rfl
  ·exact .inl rfl
  ·exact .inr (.inl rfl)
 ·have h3:c.k=2:=by
   unfold K.right rightC at h
   (repeat' split at h)<;>first|omega|(exfalso;omega)
  unfold K.right at h
  rw [h3] at h
  obtain ⟨q1,q2⟩:=right_full h
  exact .inr (.inr ⟨h3,q2,q1⟩)
theorem spellT_len {ty n:Int} {x y:Nat} {s:ByteArray} (h:rightV ty n x y s=0) (hn: -9223372036854775808≤n∧n≤9223372036854775807):(spellT ty n x y s).length≤2048:=by
 obtain ⟨-, -,hs, -⟩:=right_zero h
 unfold spellT
 by_cases h1:ty=1
 ·rw [if_pos h1];simp
 rw [if_neg h1]
 by_cases h2:ty=2
 ·rw [if_pos h2]
  by_cases h0:n<0
  ·rw [itoa_neg h0,List.length_cons]
   have:=(digits_len (u:=n.natAbs) (by omega)).2
   omega
  ·rw [itoa_pos h0]
   have:=(digits_len (u:=n.toNat) (by omega)).2
   omega
 rw [if_neg h2]
 by_cases h3:ty=3
 ·rw [if_pos h3,octs_len];omega
 rw [if_neg h3]
 by_cases h4:ty=4
 ·rw [if_pos h4,List.length_append,octs_len,octs_len];omega
 rw [if_neg h4,strL_len]
 exact hs
theorem formI_two {ty:Int} (h:1≤ty∧ty≤6):formI ty=116∨formI ty=98:=by
 unfold formI
 split
 ·exact .inl rfl
 ·rw [if_pos (by omega)];exact .inr rfl
theorem pcell_any (g:Nat) (c:K) (t:Int) (b:List Int) (w:World) (h:Rd w g (strOfNums (cellW c++b))) (hr:c.right t=0) (htw:c.tw) (hl:b.length≤100000000):
 Calls Tryz.prog 83 #[.pointer (some ⟨g,0,none⟩), .int .u8 t] w fun e w' =>e= .returned (.agg #[.int .u8 c.k, .int .u8 c.v.ty, .int .i64 c.v.n, .int .u64 c.v.x, .int .u64 c.v.y, .string c.v.s])∧Rd w' g (strOfNums b)∧Kp (fun k=>k=g) w w' :=by
 have hg:=h.lt
 rcases cell_kinds hr htw.towk with rfl|rfl|⟨h2,h3,hv⟩
 ·have H:=Hm h
  have HT1:=Hm (fun W (h:Rd W g (strOfNums (cellW K.zero++b)))=>show Calls Tryz.prog 56 #[.pointer (some ⟨g,0,none⟩), .int .u64 1] W (fun e w' =>e= .returned (.string ⟨#[110]⟩)∧Rd w' g (strOfNums b)∧Kp (fun k=>k=g) W w') from ptake_any g [110] b W h (by rw [List.length_singleton];omega))
  clear h hr htw
  go_enter Tryz.func83,Tryz.ntmps83
  go_wp2_with (go_at_call 56;refine (HT1.out _ (H.out.ext (by exact eX))).mono ?_;rintro e w1 ⟨rfl,hr1,hk1⟩;have HR1:=Hm hr1;have HK1:=Hm ((Kp.of_ext (S:=fun k=>k=g) (show Ext w (w.alloc (.cells #[.int .u8 0, .int .u8 0, .int .i64 0, .int .u64 0, .int .u64 0, .string ByteArray.empty] 101)) from (Ext.refl w).alloc _)).trans hk1 (fun _ h _=>h));have HZ1:=Hm ((Blk.new w #[.int .u8 0, .int .u8 0, .int .i64 0, .int .u64 0, .int .u64 0, .string ByteArray.empty] 101).kp hk1 (by omega));have r1:=hr1.cell;have r1z:=hr1.lt;have c1:=HZ1.out.cell;have c1f:=HZ1.out.frozen;have c1z:=HZ1.out.lt;clear hr1 hk1 HT1)
  refine bodyPost_ret (res_pcell (Blk.sixP HZ1.out) rfl) rfl ⟨rfl, ?_, ?_⟩
  ·repeat refine Rd.other ?_ (show g≠w.heap.size by omega) _
   exact HR1.out
  ·repeat refine Kp.setN ?_ (Nat.le_refl _) _
   exact HK1.out
 ·have H:=Hm h
  have HT1:=Hm (fun W (h:Rd W g (strOfNums (cellW ⟨1,V.zero⟩++b)))=>show Calls Tryz.prog 56 #[.pointer (some ⟨g,0,none⟩), .int .u64 1] W (fun e w' =>e= .returned (.string ⟨#[117]⟩)∧Rd w' g (strOfNums b)∧Kp (fun k=>k=g) W w') from ptake_any g [117] b W h (by rw [List.length_singleton];omega))
  clear h hr htw
  go_enter Tryz.func83,Tryz.ntmps83
  go_wp2_with (go_at_call 56;refine (HT1.out _ (H.out.ext (by exact eX))).mono ?_;rintro e w1 ⟨rfl,hr1,hk1⟩;have HR1:=Hm hr1;have HK1:=Hm ((Kp.of_ext (S:=fun k=>k=g) (show Ext w (w.alloc (.cells #[.int .u8 0, .int .u8 0, .int .i64 0, .int .u64 0, .int .u64 0, .string ByteArray.empty] 101)) from (Ext.refl w).alloc _)).trans hk1 (fun _ h _=>h));have HZ1:=Hm ((Blk.new w #[.int .u8 0, .int .u8 0, .int .i64 0, .int .u64 0, .int .u64 0, .string ByteArray.empty] 101).kp hk1 (by omega));have r1:=hr1.cell;have r1z:=hr1.lt;have c1:=HZ1.out.cell;have c1f:=HZ1.out.frozen;have c1z:=HZ1.out.lt;clear hr1 hk1 HT1)
  refine bodyPost_ret (res_pcell (Blk.sixP HZ1.out) rfl) rfl ⟨rfl, ?_, ?_⟩
  ·repeat refine Rd.other ?_ (show g≠w.heap.size by omega) _
   exact HR1.out
  ·repeat refine Kp.setN ?_ (Nat.le_refl _) _
   exact HK1.out
 ·obtain ⟨k,ty,n,x,y,s⟩:=c
  simp only at h2 h3 hv
  subst h2 h3
  have hn: -9223372036854775808≤n∧n≤9223372036854775807:=⟨htw.n.1,by have:=htw.n.2;simp only at this;omega⟩
  have hsl:=spellT_len hv hn
  have ht16:=(right_zero hv)
  have HRD:=Hm (fun W=>rread_any ty n x y s W hv hn htw.x htw.y)
  have HFM:=Hm (fun W=>rform_any ty W)
  have hW:cellW (⟨2,⟨ty,n,x,y,s⟩⟩:K)++b= [formI ty]++(octs (spellT ty n x y s).length 4++((spellT ty n x y s)++b)):=by
   unfold cellW
   rw [if_neg (show ¬ ((2:Int)=0) by decide),if_neg (show ¬ ((2:Int)=1) by decide)]
   rw [show spellL ty n x y s=(spellT ty n x y s) from if_neg (by rw [hv];simp)]
   simp only [List.cons_append,List.append_assoc,List.nil_append]
  rw [hW] at h
  have H:=Hm h
  obtain ⟨F,hF⟩:∃F,F=formI ty:=⟨_,rfl⟩
  have hF2:=formI_two (ty:=ty) ⟨ht16.1,ht16.2.1⟩
  rw [←hF] at H HFM hF2
  obtain ⟨SL,hSL⟩:∃L,L=(spellT ty n x y s):=⟨_,rfl⟩
  rw [←hSL] at H HRD hsl
  have HT1:=Hm (fun W (h:Rd W g (strOfNums ([F]++(octs SL.length 4++(SL++b)))))=>show Calls Tryz.prog 56 #[.pointer (some ⟨g,0,none⟩), .int .u64 1] W (fun e w' =>e= .returned (.string (strOfNums [F]))∧Rd w' g (strOfNums (octs SL.length 4++(SL++b)))∧Kp (fun k=>k=g) W w') from ptake_any g [F] _ W h (by simp only [List.length_append,List.length_singleton,octs_len];omega))
  have HN2:=Hm (fun W (h:Rd W g (strOfNums (octs SL.length 4++(SL++b))))=>show Calls Tryz.prog 51 #[.pointer (some ⟨g,0,none⟩), .int .u64 4] W (fun e w' =>e= .returned (.int .u64 SL.length)∧Rd w' g (strOfNums (SL++b))∧Kp (fun k=>k=g) W w') from pnumO_any g SL.length 4 _ W h (by rw [List.length_append];omega) (by omega) (by rw [p4_256];omega) (by omega))
  have HT3:=Hm (fun W (h:Rd W g (strOfNums (SL++b)))=>ptake_any g SL b W h (by omega))
  obtain ⟨FB,hFB⟩:∃B,B=strOfNums [F]:=⟨_,rfl⟩
  rw [←hFB] at HT1
  have k1: ¬ FB.toList= [110]:=by rw [hFB,ByteArray.toList_eq];rcases hF2 with rfl|rfl<;>decide
  have k1' :(FB.toList== [110])=false:=by rw [hFB,ByteArray.toList_eq];rcases hF2 with rfl|rfl<;>rfl
  have k2: ¬ FB.toList= [117]:=by rw [hFB,ByteArray.toList_eq];rcases hF2 with rfl|rfl<;>decide
  have k2' :(FB.toList== [117])=false:=by rw [hFB,ByteArray.toList_eq];rcases hF2 with rfl|rfl<;>rfl
  have hz1:FB.size=1:=by rw [hFB];exact strO_size _
  have hz0:0<FB.size:=by omega
  have h0:((FB[0]'hz0).toNat:Int)=F:=by subst hFB;exact strO_get (l:= [F]) (fun x hx=>by rw [List.mem_singleton.1 hx];omega) (k:=0) (by simp) hz0
  obtain ⟨SB,hSB⟩:∃B,B=strOfNums SL:=⟨_,rfl⟩
  rw [←hSB] at HRD HT3
  clear h hr htw hW hF hSL ht16 hv hsl hF2 hFB hSB
  go_enter Tryz.func83,Tryz.ntmps83
  go_upto_region 6 with (go_at_call 56;refine (HT1.out _ (H.out.ext (by exact eX))).mono ?_;rintro e w1 ⟨rfl,hr1,hk1⟩;have HR1:=Hm hr1;have HK1:=Hm ((Kp.of_ext (S:=fun k=>k=g) (show Ext w (w.alloc (.cells #[.int .u8 0, .int .u8 0, .int .i64 0, .int .u64 0, .int .u64 0, .string ByteArray.empty] 101)) from (Ext.refl w).alloc _)).trans hk1 (fun _ h _=>h));have HZ1:=Hm ((Blk.new w #[.int .u8 0, .int .u8 0, .int .i64 0, .int .u64 0, .int .u64 0, .string ByteArray.empty] 101).kp hk1 (by omega));have r1:=hr1.cell;have r1z:=hr1.lt;have c1:=HZ1.out.cell;have c1f:=HZ1.out.frozen;have c1z:=HZ1.out.lt;clear hr1 hk1 HT1)
  have hA0:Hid ((fun w' =>Ext (w1) w'∧(∀b o,b<(w1).heap.size→w'.cell? ⟨b,o,none⟩=(w1).cell? ⟨b,o,none⟩)∧(∀b o,b<(w1).heap.size→w'.frozen? ⟨b,o,none⟩=(w1).frozen? ⟨b,o,none⟩)) w1.drew):=held_of (by exact eX)
  refine wp_region_head 4 (fun w' =>Ext (w1) w'∧(∀b o,b<(w1).heap.size→w'.cell? ⟨b,o,none⟩=(w1).cell? ⟨b,o,none⟩)∧(∀b o,b<(w1).heap.size→w'.frozen? ⟨b,o,none⟩=(w1).frozen? ⟨b,o,none⟩)) (by kernel_rfl) (by decide) ?_
  refine HG.on 0 24 hA0.out ?_
  try simp only [Act.put,List.setIfInBounds_toArray,List.set_cons_zero,List.set_cons_succ]
  refine HG.on 2 26 hA0.out ?_
  try simp only [Act.put,List.setIfInBounds_toArray,List.set_cons_zero,List.set_cons_succ]
  refine wpHd_two (i:=1) (j:=3) rfl rfl rfl rfl (by kernel_rfl) (fun KK hK=> ?_) (fun KK hK=> ?_)
  ·go_simp
   refine hK.out _ _ hA0.out (fun hA=> ?_)
   clear hK KK hA
   refine wpHd_one (i:=3) rfl rfl (by kernel_rfl) (fun KK hK=> ?_)
   (go_simp;refine (HFM.out _).mono ?_;rintro e w2 ⟨rfl,hb2⟩;have HB2:=Hm (show Ext w1 w2 by exact eX);refine hK.out _ _ (held_of HB2.out) (fun hA=> ?_);clear hK KK hA hb2)
   (have HR2:=Hm (HR1.out.ext HB2.out);have HZ2:=Hm (HZ1.out.ext HB2.out);have HK2:=Hm (HK1.out.trans (Kp.of_ext (S:=fun k=>k=g) HB2.out) (fun _ h _=>h));clear r1 r1z c1 c1f c1z HR1 HZ1 HK1 HB2 HFM hA0;refine wpHd_tail (by kernel_rfl) ?_;simp only [List.drop_succ_cons,List.drop_zero];have hgw:=HZ2.out.lt;go_upto_region 10 with (first|(go_at_call 51;refine (HN2.out _ HR2.out).mono ?_;rintro e w3 ⟨rfl,hr3,hk3⟩;have HR3:=Hm hr3;have HZ3:=Hm (HZ2.out.kp hk3 (by omega));have HK3:=Hm (HK2.out.trans hk3 (fun _ h _=>h));clear hr3 hk3 HN2)|(go_at_call 56;refine (HT3.out _ HR3.out).mono ?_;rintro e w4 ⟨rfl,hr4,hk4⟩;have HR4:=Hm hr4;have HZ4:=Hm (HZ3.out.kp hk4 (by omega));have HK4:=Hm (HK3.out.trans hk4 (fun _ h _=>h));have r4:=hr4.cell;have r4z:=hr4.lt;clear hr4 hk4 HT3));go_upto_region 12 with (fail);clear r4 r4z HR3 HZ3 HK3 HR2 HZ2 HK2;go_wp2_with (go_at_call 113;refine (HRD.out _).mono ?_;rintro e w5 ⟨rfl,hb5⟩;have HR5:=Hm (HR4.out.ext hb5);have HZ5:=Hm (HZ4.out.ext hb5);have HK5:=Hm (HK4.out.trans (Kp.of_ext (S:=fun k=>k=g) hb5) (fun _ h _=>h));have c5:=HZ5.out.cell;have c5f:=HZ5.out.frozen;have c5z:=HZ5.out.lt;clear hb5 HR4 HZ4 HK4);exact bodyPost_ret (res_pcell ((Blk.sixP HZ5.out).alloc _) rfl) rfl ⟨rfl,Blk.alloc (by (repeat refine Rd.other ?_ (show g≠w.heap.size by omega) _);exact HR5.out) _,Kp.trans (T:=fun k=>k=g) (by (repeat refine Kp.setN ?_ (Nat.le_refl _) _);exact HK5.out) (Kp.of_ext ((Ext.refl _).alloc _)) (fun _ h _=>h)⟩)
  ·(go_simp;refine (HFM.out _).mono ?_;rintro e w2 ⟨rfl,hb2⟩;have HB2:=Hm (show Ext w1 w2 by exact eX);refine hK.out _ _ (held_of HB2.out) (fun hA=> ?_);clear hK KK hA hb2)
   refine wpHd_one (i:=1) rfl rfl (by kernel_rfl) (fun KK hK=> ?_)
   go_simp
   refine hK.out _ _ (held_of HB2.out) (fun hA=> ?_)
   clear hK KK hA
   (have HR2:=Hm (HR1.out.ext HB2.out);have HZ2:=Hm (HZ1.out.ext HB2.out);have HK2:=Hm (HK1.out.trans (Kp.of_ext (S:=fun k=>k=g) HB2.out) (fun _ h _=>h));clear r1 r1z c1 c1f c1z HR1 HZ1 HK1 HB2 HFM hA0;refine wpHd_tail (by kernel_rfl) ?_;simp only [List.drop_succ_cons,List.drop_zero];have hgw:=HZ2.out.lt;go_upto_region 10 with (first|(go_at_call 51;refine (HN2.out _ HR2.out).mono ?_;rintro e w3 ⟨rfl,hr3,hk3⟩;have HR3:=Hm hr3;have HZ3:=Hm (HZ2.out.kp hk3 (by omega));have HK3:=Hm (HK2.out.trans hk3 (fun _ h _=>h));clear hr3 hk3 HN2)|(go_at_call 56;refine (HT3.out _ HR3.out).mono ?_;rintro e w4 ⟨rfl,hr4,hk4⟩;have HR4:=Hm hr4;have HZ4:=Hm (HZ3.out.kp hk4 (by omega));have HK4:=Hm (HK3.out.trans hk4 (fun _ h _=>h));have r4:=hr4.cell;have r4z:=hr4.lt;clear hr4 hk4 HT3));go_upto_region 12 with (fail);clear r4 r4z HR3 HZ3 HK3 HR2 HZ2 HK2;go_wp2_with (go_at_call 113;refine (HRD.out _).mono ?_;rintro e w5 ⟨rfl,hb5⟩;have HR5:=Hm (HR4.out.ext hb5);have HZ5:=Hm (HZ4.out.ext hb5);have HK5:=Hm (HK4.out.trans (Kp.of_ext (S:=fun k=>k=g) hb5) (fun _ h _=>h));have c5:=HZ5.out.cell;have c5f:=HZ5.out.frozen;have c5z:=HZ5.out.lt;clear hb5 HR4 HZ4 HK4);exact bodyPost_ret (res_pcell ((Blk.sixP HZ5.out).alloc _) rfl) rfl ⟨rfl,Blk.alloc (by (repeat refine Rd.other ?_ (show g≠w.heap.size by omega) _);exact HR5.out) _,Kp.trans (T:=fun k=>k=g) (by (repeat refine Kp.setN ?_ (Nat.le_refl _) _);exact HK5.out) (Kp.of_ext ((Ext.refl _).alloc _)) (fun _ h _=>h)⟩)
theorem res_pref {W:World} {g:Nat} {v0 v1:Value} {tm:Array Value} (h:Blk W g #[v0,v1] 41) (ht:tm.getD 2 undef= .pointer (some ⟨g,0,none⟩)):
 (results Tryz.f52 tm).run Tryz.prog W= .ok (.agg #[v0,v1]) W:=by
 have c:=h.cell
 have c0:=c 0
 have c1:=c 1
 clear c h
 simp at c0 c1
 rw [Array.getD_eq_getD_getElem?] at ht
 simp [results,Tryz.results52,go_sem,ht,c0,c1]
theorem Blk.twoP {W:World} {b:Nat} {u0 u1 v0 v1:Value} {T:TypeId} (h:Blk W b #[u0,u1] T):Blk ((W.setCell ⟨b,0,none⟩ v0).setCell ⟨b,1,none⟩ v1) b #[v0,v1] T:=(h.set 0 _).set 1 _
theorem b32_wrap {x:Int} (h:B32 x):IntKind.u32.wrap x=x:=by
 have:=h.1
 have:=h.2
 simp [IntKind.wrap,IntKind.signed,IntKind.bits];omega
theorem pref_any (g:Nat) (o v:Int) (b:List Int) (w:World) (h:Rd w g (strOfNums (refW o v++b))) (ho:B32 o) (hv:B32 v) (hl:b.length≤100000000):
 Calls Tryz.prog 52 #[.pointer (some ⟨g,0,none⟩)] w fun e w' =>e= .returned (.agg #[.int .u32 o, .int .u32 v])∧Rd w' g (strOfNums b)∧Kp (fun k=>k=g) w w' :=by
 have hg:=h.lt
 rw [show refW o v++b=octs o 4++(octs v 4++b) by unfold refW;rw [List.append_assoc]] at h
 have H:=Hm h
 have HN1:=Hm (fun W (h:Rd W g (strOfNums (octs o 4++(octs v 4++b))))=>show Calls Tryz.prog 51 #[.pointer (some ⟨g,0,none⟩), .int .u64 4] W (fun e w' =>e= .returned (.int .u64 o)∧Rd w' g (strOfNums (octs v 4++b))∧Kp (fun k=>k=g) W w') from pnumO_any g o 4 _ W h (by rw [List.length_append,octs_len];omega) ho.1 (by rw [p4_256];exact ho.2) (by omega))
 have HN2:=Hm (fun W (h:Rd W g (strOfNums (octs v 4++b)))=>show Calls Tryz.prog 51 #[.pointer (some ⟨g,0,none⟩), .int .u64 4] W (fun e w' =>e= .returned (.int .u64 v)∧Rd w' g (strOfNums b)∧Kp (fun k=>k=g) W w') from pnumO_any g v 4 _ W h (by omega) hv.1 (by rw [p4_256];exact hv.2) (by omega))
 have q1:=b32_wrap ho
 have q2:=b32_wrap hv
 clear h ho hv
 go_enter Tryz.func52,Tryz.ntmps52
 go_wp2_with (first
  |(go_at_call 51;refine (HN1.out _ (H.out.ext (by exact eX))).mono ?_;rintro e w1 ⟨rfl,hr1,hk1⟩;have HR1:=Hm hr1;have HK1:=Hm ((Kp.of_ext (S:=fun k=>k=g) (show Ext w (w.alloc (.cells #[.int .u32 0, .int .u32 0] 41)) from (Ext.refl w).alloc _)).trans hk1 (fun _ h _=>h));have HZ1:=Hm ((Blk.new w #[.int .u32 0, .int .u32 0] 41).kp hk1 (by omega));clear hr1 hk1 HN1)
  |(go_at_call 51;refine (HN2.out _ HR1.out).mono ?_;rintro e w2 ⟨rfl,hr2,hk2⟩;have HR2:=Hm hr2;have HK2:=Hm (HK1.out.trans hk2 (fun _ h _=>h));have HZ2:=Hm (HZ1.out.kp hk2 (by omega));have c2:=HZ2.out.cell;have c2f:=HZ2.out.frozen;have c2z:=HZ2.out.lt;clear hr2 hk2 HN2))
 refine bodyPost_ret (res_pref (Blk.twoP HZ2.out) rfl) rfl ⟨rfl, ?_, ?_⟩
 ·repeat refine Rd.other ?_ (show g≠w.heap.size by omega) _
  exact HR2.out
 ·repeat refine Kp.setN ?_ (Nat.le_refl _) _
  exact HK2.out
theorem rc_lenP {l:List K} :∀xs∈l.map K.rc,xs.length=6:=by intro xs hxs;simp at hxs;obtain ⟨a,_,rfl⟩:=hxs;rfl
theorem cellsW_at {l:List K} {k:Nat} (h:k<l.length):cellsW (l.drop k)=cellW l[k]++cellsW (l.drop (k+1)):=by
 rw [List.drop_eq_getElem_cons h];rfl
theorem cellsW_drop_le (l:List K) (k:Nat):(cellsW (l.drop k)).length≤(cellsW l).length:=by
 induction l generalizing k with
 |nil=>simp
 |cons c l ih=>
  cases k with
  |zero=>exact Nat.le_refl _
  |succ k=>
   rw [List.drop_succ_cons]
   have h1:=ih k
   have h2:(cellsW (c::l)).length=(cellW c).length+(cellsW l).length:=by
    show (cellW c++cellsW l).length=_
    rw [List.length_append]
   omega
theorem Rd.apart {w:World} {g:Nat} {S:ByteArray} {q:RR} (h:Rd w g S) (hq:q.in w):q.r.cols≠ []→∀b o,q.a=some ⟨b,o,none⟩→b≠g:=fun h0 b o e he=>by
 subst he
 obtain ⟨b2,o2,e2,hb,hx⟩:=(show Sl w (.slice q.a q.r.cols.length q.c) 3 (q.r.cols.map Col.cells) from hq).at_ (i:=0) (by rw [List.length_map];exact List.length_pos_iff.2 h0)
 rw [e] at e2
 simp only [Option.some.injEq,Addr.mk.injEq] at e2
 obtain ⟨rfl,rfl, -⟩:=e2
 have h2:=(Col.at_ (List.length_pos_iff.2 h0) hx hb (Ext.refl _)).2.1
 rw [h.cell] at h2
 have h3:o+0*3+1=o+1:=by omega
 rw [h3] at h2
 cases o with
 |zero=>simp at h2
 |succ o=>simp at h2
theorem pimage_any (g:Nat) (q:RR) (cs:List K) (b:List Int) (w:World) (h:Rd w g (strOfNums (octs cs.length 1++(cellsW cs++b)))) (hq:q.in w) (hlen:cs.length=q.r.cols.length) (h16:cs.length≤16)
 (hr:∀i (h:i<cs.length) (h2:i<q.r.cols.length),cs[i].right q.r.cols[i].ty=0) (htw:∀c∈cs,c.tw) (hl:b.length≤50000000):
 Calls Tryz.prog 57 #[.pointer (some ⟨g,0,none⟩),q.agg] w fun e w' =>∃a c,e= .returned (.slice a cs.length c)∧Sl w' (.slice a cs.length c) 6 (cs.map K.rc)∧(∀k o,a=some ⟨k,o,none⟩→w.heap.size≤k)∧Rd w' g (strOfNums b)∧Kp (fun k=>k=g) w w' :=by
 have hg:=h.lt
 have hcl:=cellsW_len cs (fun c hc=>⟨(htw c hc).n.1,by have:=(htw c hc).n.2;omega⟩)
 have hcl2:(cellsW cs).length≤48160:=by omega
 have hap:=h.apart hq
 obtain ⟨⟨oid,ver,nm,id,cols⟩,a2,cap2⟩:=q
 simp only at hlen hr hap
 have hq2:Sl w (.slice a2 cols.length cap2) 3 (cols.map Col.cells):=hq
 have HQ:=Hm hq2
 have HAP:=Hm hap
 have H:=Hm h
 have HN1:=Hm (fun W (h:Rd W g (strOfNums (octs cs.length 1++(cellsW cs++b))))=>show Calls Tryz.prog 51 #[.pointer (some ⟨g,0,none⟩), .int .u64 1] W (fun e w' =>e= .returned (.int .u64 cs.length)∧Rd w' g (strOfNums (cellsW cs++b))∧Kp (fun k=>k=g) W w') from pnumO_any g cs.length 1 _ W h (by rw [List.length_append];omega) (by omega) (by omega) (by omega))
 have HCE:=Hm (fun k (hk:k<cs.length) (hk2:k<cols.length) W (h:Rd W g (strOfNums (cellsW (cs.drop k)++b)))=>pcell_any g cs[k] cols[k].ty (cellsW (cs.drop (k+1))++b) W (by rw [←List.append_assoc,←cellsW_at hk];exact h) (hr k hk hk2) (htw _ (List.getElem_mem hk)) (by have:=cellsW_drop_le cs (k+1);rw [List.length_append];omega))
 have HTK:=Hm (fun k (hk:k<cs.length)=>List.take_succ_eq_append_getElem (l:=cs) hk)
 have HD0:=Hm (show cs.drop 0=cs from rfl)
 have HDN:=Hm (show cellsW (cs.drop cs.length)++b=b by rw [List.drop_length];rfl)
 have HTN:=Hm (show cs.take cs.length=cs from List.take_length)
 obtain ⟨n,hn⟩:∃n,n=cs.length:=⟨_,rfl⟩
 have hnw:IntKind.i64.wrap (n:Int)=n:=by simp [IntKind.wrap,IntKind.signed,IntKind.bits];omega
 have hnu:IntKind.u64.wrap (n:Int)=n:=by simp [IntKind.wrap,IntKind.signed,IntKind.bits];omega
 have HNL:=Hm hn
 rw [←hn] at HN1 H HDN HTN hlen h16⊢
 have hcn:cols.length=n:=hlen.symm
 have HCN:=Hm hcn
 obtain ⟨i0,hi,hz0,hz1,hz2⟩:=info_parts Tryz.infoCellR
 show Calls Tryz.prog 57 #[.pointer (some ⟨g,0,none⟩), .agg #[.int .u32 oid, .int .u32 ver, .string nm, .int .u8 id, .slice a2 cols.length cap2]] w _
 rw [hcn]
 rw [hcn] at HQ
 clear h hq hq2 hr htw hcl hap hn hlen hcn
 go_enter Tryz.func57,Tryz.ntmps57
 go_upto_region 4 with (go_at_call 51;refine (HN1.out _ (H.out.ext (by exact eX))).mono ?_;rintro e w1 ⟨rfl,hr1,hk1⟩;have HR1:=Hm hr1;have HB1:=Hm ((Blk.new w #[.int .u32 oid, .int .u32 ver, .string nm, .int .u8 id, .slice a2 n cap2] 44).kp hk1 (by omega));have HK1:=Hm ((Kp.of_ext (S:=fun k=>k=g) (show Ext w (w.alloc (.cells #[.int .u32 oid, .int .u32 ver, .string nm, .int .u8 id, .slice a2 n cap2] 44)) from (Ext.refl w).alloc _)).trans hk1 (fun _ h _=>h));have r1:=hr1.cell;have r1z:=hr1.lt;have b1:=HB1.out.cell;have b1z:=HB1.out.lt;clear hr1 hk1 HN1)
 have hw1:=HK1.out.size
 clear r1 r1z b1
 go_wp2
 go_loopw [6,7] (fun v i wr=>∃k:Nat,k≤n∧i= .int .i64 k∧Hid (wr.ownsRow w1.heap.size 101 6 v k (((cs.take k).map K.rc).flatten))∧Hid (Rd wr g (strOfNums (cellsW (cs.drop k)++b)))∧Hid (Kp (fun k=>k=g) w1 wr)) (fun _ i _=>n - (intOf i).toNat)
 case atStart=>exact ⟨0,Nat.zero_le _,rfl,Hm (World.ownsRow_nil _ _ _ _),HR1,Hm Kp.refl⟩
 case round=>
  obtain ⟨k,hk,rfl,hown,hrd,hkr⟩:=hrel
  have hB:=HB1.out.kp hkr.out (by omega)
  have g0:=hB.cell
  have z0:=hB.lt
  have r0:=hrd.out.cell
  have r0z:=hrd.out.lt
  clear hB
  by_cases hlt:k<n
  ·have hk1:k<cs.length:=by rw [←HNL.out];exact hlt
   have hk2:k<cols.length:=by rw [HCN.out];exact hlt
   obtain ⟨b2,o2,ha2e,hb2,hx2⟩:=HQ.out.at_ (i:=k) (by rw [List.length_map,HCN.out];exact hlt)
   have hKw:Kp (fun k=>k=g) w wr:=HK1.out.trans hkr.out (fun _ h _=>h)
   have p1:wr.cell? ⟨b2,o2+k*3+1,none⟩=some (.int .u8 cols[k].ty):=by
    rw [hKw.cell hb2 (HAP.out (List.ne_nil_of_length_pos (by omega)) b2 o2 ha2e)]
    exact (Col.at_ hk2 hx2 hb2 (Ext.refl _)).2.1
   have hb2w:b2<wr.heap.size:=Nat.lt_of_lt_of_le hb2 hKw.size
   have HC:=Hm (HCE.out k hk1 hk2)
   have HS:=Hm (HTK.out k hk1)
   obtain ⟨ty,hte⟩:∃ty,ty=cols[k].ty:=⟨_,rfl⟩
   obtain ⟨c,hce⟩:∃c,c=cs[k]:=⟨_,rfl⟩
   rw [←hte] at p1
   rw [←hte,←hce] at HC
   rw [←hce] at HS
   subst ha2e
   clear hte hce hx2 hKw
   go_upto_region 7 with (first
    |(go_at_call 83;refine (HC.out _ hrd.out).mono ?_;rintro e w2 ⟨rfl,hr2,hk2'⟩;have HR2:=Hm hr2;have HK2:=Hm (hkr.out.trans hk2' (fun _ h _=>h));have HO2:=Hm (owns_kp hown.out hk2' (fun q hq e=>by have:=(hown.out.lt q hq).1;omega));clear hr2 hk2')
    |(at_builtin;refine wpList_append_own _ rfl _ _ 45 rfl w1.heap.size 101 i0 _ 6 56 Tryz.underlying45 hi hz0 hz1 hz2 rfl (by decide) _ _ _ rfl (HO2.out.alloc (.cells #[.int .u8 c.k, .int .u8 c.v.ty, .int .i64 c.v.n, .int .u64 c.v.x, .int .u64 c.v.y, .string c.v.s] 101)) ⟨_,0,none⟩ 1 1 c.rc rfl rfl ?c1 ?c2 ?c3 ?c4 ?c5 ?_))
   case c1=>exact cells_new _ #[.int .u8 c.k, .int .u8 c.v.ty, .int .i64 c.v.n, .int .u64 c.v.x, .int .u64 c.v.y, .string c.v.s] _
   case c2=>intro u hu;simp [K.rc] at hu;rcases hu with rfl|rfl|rfl|rfl|rfl|rfl<;>rfl
   case c3=>unfold maxLen;omega
   case c4=>omega
   case c5=>have:=HK2.out.size;simp;omega
   intro v' w3 hown' hgrow _
   have hlo:=fun q hq=>hown.out.lt q hq
   have HN:=Hm hown'
   have HE3:=Hm (show Ext w2 (w2.alloc (.cells #[.int .u8 c.k, .int .u8 c.v.ty, .int .i64 c.v.n, .int .u64 c.v.x, .int .u64 c.v.y, .string c.v.s] 101)) from (Ext.refl w2).alloc _)
   have HR3:=Hm (Blk.kp (HR2.out.ext HE3.out) (Kp.of_grown hgrow) (fun e=>by have:=(hlo g e).1;omega))
   have HK3:=Hm ((HK2.out.trans (Kp.of_ext (S:=fun k=>k=g) HE3.out) (fun _ h _=>h)).trans (Kp.of_grown hgrow) (fun x hx hx2=>by have:=(hlo x hx).1;omega))
   clear hown' hgrow hlo HO2 HR2 HK2
   go_wp2
   go_roundw
   case rel=>exact ⟨k+1,by omega,by go_num,Hm (by rw [HS.out,List.map_append,List.flatten_append];simpa using HN.out),HR3,HK3⟩
   case measure=>simp [intOf];omega
  ·have hkk:k=n:=by omega
   subst hkk
   rw [HTN.out] at hown
   rw [HDN.out] at hrd
   go_wp2
   obtain ⟨x,cx,hvx, -⟩:=(Sl.of_owns (w:=wr) (base:=w1.heap.size) (e:=101) (k:=6) (xss:=cs.map K.rc) (by rw [List.length_map,←HNL.out];exact hown.out) rc_lenP)
   rw [List.length_map,←HNL.out] at hvx
   subst hvx
   go_ret
   refine ⟨x,cx,rfl, ?_, ?_,hrd.out,HK1.out.trans hkr.out (fun _ h _=>h)⟩
   ·have h5:=(Sl.of_owns (w:=wr) (base:=w1.heap.size) (e:=101) (k:=6) (xss:=cs.map K.rc) (by rw [List.length_map,←HNL.out];exact hown.out) rc_lenP)
    exact h5
   ·intro k o e
    subst e
    have:=(hown.out.lt k rfl).1
    omega
structure Msg.good (C:List Rl) (m:Msg):Prop where
 fine:msgE m C=0
 x:B32 m.x
 st:0≤m.st∧m.st<18446744073709551616
 n:B32 m.n
 r:m.r.okw
 wb:m.r.wb
 e:m.e.okw
theorem Rl0_wb:Rl0.wb:=⟨by decide,(fun c h=>by cases h),Nat.zero_le _,Int.le_refl _⟩
section
variable {C : List Rl}
theorem good_B {t:Tx} (h:t.xid≠0) (hx:B32 t.xid) (hs:0≤t.st∧t.st<18446744073709551616):(txMB t).good C:=⟨(fine_B h).e,hx,hs,b32_zero,Rl0_okw,Rl0_wb,Ev0_okw⟩
theorem good_C {t:Tx} (h:t.xid≠0) (hx:B32 t.xid) (hn:t.es.length<4294967296):(txMC t).good C:=⟨(fine_C h).e,hx,z64,⟨Int.natCast_nonneg _,by show ((t.es.length:Nat):Int)<4294967296;omega⟩,Rl0_okw,Rl0_wb,Ev0_okw⟩
theorem good_R {r:Rf} (h:hasR r.o r.v C=true) (hC:∀x∈C,x.right=0) (hk:∀x∈C,x.okw) (hw:∀x∈C,x.wb):(relM C r).good C:=by
 refine ⟨(fine_R h hC).e,b32_zero,z64,b32_zero, ?_, ?_,Ev0_okw⟩
 ·unfold relM
  cases hg:getR r.o r.v C with
  |none=>exact Rl0_okw
  |some q=>exact hk q (getR_some hg).1
 ·unfold relM
  cases hg:getR r.o r.v C with
  |none=>exact Rl0_wb
  |some q=>exact hw q (getR_some hg).1
theorem good_E {e:Ev} (h:evE e C=0) (he:e.okw):(msgOf e).good C:=by
 have hk:=(ev_parts h).1
 have h1:(msgOf e).x=0∧(msgOf e).st=0∧(msgOf e).n=0∧(msgOf e).r=Rl0:=by
  unfold msgOf
  (repeat' split)<;>exact ⟨rfl,rfl,rfl,rfl⟩
 obtain ⟨q1,q2,q3,q4⟩:=h1
 refine ⟨(fine_E h).e,by rw [q1];exact b32_zero,by rw [q2];exact z64,by rw [q3];exact b32_zero,by rw [q4];exact Rl0_okw,by rw [q4];exact Rl0_wb,by rw [(msgOf_k hk.1 hk.2).1];exact he⟩
theorem story_good {l:List Tx} (h:ckE l C=0) (hC:∀x∈C,x.right=0) (hk:∀x∈C,x.okw) (hw:∀x∈C,x.wb) (hl:∀t∈l,B32 t.xid∧(0≤t.st∧t.st<18446744073709551616)∧t.es.length<4294967296∧∀e∈t.es,e.okw):∀m∈storyM C l,m.good C:=
 story_P fun t ht=>⟨good_B (ck_tx h t ht).1 (hl t ht).1 (hl t ht).2.1,good_C (ck_tx h t ht).1 (hl t ht).1 (hl t ht).2.2.1,fun v hv=>
  ⟨good_E ((ck_tx h t ht).2 v hv) ((hl t ht).2.2.2 v hv),fun r hr=>good_R ((ev_fit ((ck_tx h t ht).2 v hv) ((hl t ht).2.2.2 v hv).wk.old).uses r hr) hC hk hw⟩⟩
theorem msgE_congr {D:List Rl} (h:∀o v,getR o v C=getR o v D) (m:Msg):msgE m C=msgE m D:=by
 unfold msgE
 rw [evE_congr h]
theorem msg_let {m:Msg} (h:msgE m C=0):wlet m.k=true:=by
 unfold msgE at h
 by_cases c:wlet m.k=false
 ·rw [if_pos c] at h;cases h
 ·simpa using c
theorem msg_own {m:Msg} (h:msgE m C=0):m=m.own:=by
 unfold msgE at h
 rw [if_neg (by rw [msg_let (m:=m) h];simp)] at h
 by_cases c:msgB m m.own=false
 ·rw [if_pos c] at h;cases h
 ·exact msgB_true.1 (by simpa using c)
end
end Go.Proofs.YtgmphpccpfaapaaGreatDoor
