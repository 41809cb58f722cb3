/-
Append of any row, nil or not, to what a call owns.
-/
import Derived.Maps.AppendAt
import Derived.Maps.RangeWalk
import Derived.DeepKeys4
import Derived.Lib.LaidTab
import Derived.Lib.ItoaNum
import Derived.Sort.Grow
import Derived.Test.YtgmphpccpfaapaaGreatDoorP3
import Derived.Test.YtgmphpccpfaapaaGreatDoorP4
import Derived.Test.YtgmphpccpfaapaaGreatDoorP1
import Derived.Test.YtgmphpccpfaapaaGreatDoorP19
import Derived.Test.YtgmphpccpfaapaaGreatDoorP2
set_option maxRecDepth 100000
set_option maxHeartbeats 16000000
namespace Go.Proofs.YtgmphpccpfaapaaGreatDoor
open Go.RowKit
theorem run_app_nil {P:Program} {w:World} (base:Nat) (t ty e:TypeId) (i:TypeInfo) (size:Nat) (ht:P.underlying t=some (.slice e)) (hi:P.info? e=some i)
 (v:Value) (n:Nat) (xs:List Value) (hown:w.ownsRow base e size v n xs) (c:Nat):(Builtin.append_ #[t,t] ty #[v, .slice none 0 c]).run P w= .ok v w:=by
 rcases hown.2 with ⟨rfl,rfl⟩|⟨g,cap,cur,rfl,_,_,hnc,_⟩
 ·simp [Builtin.append_,run_underlying ht,sizeOf,typeInfo,hi,Builtin.lenOf,Builtin.firstCells]
 ·simp [Builtin.append_,run_underlying ht,sizeOf,typeInfo,hi,Builtin.lenOf,Builtin.firstCells,hnc,storeCells]
def WB (W:World) (g:Nat) (q:Option Nat) (l:List Int):Prop:=∃v,Blk W g #[v] 120∧OB W (g+1) v l∧v.ownBlock=q
def Wr (W W' :World) (g:Nat) (q q' :Option Nat):Prop:=Kp (fun x=>x=g∨q=some x) W W'∧(q' =q∨∃b,q' =some b∧W.heap.size≤b)
theorem OB.kp {S:Nat→Prop} {W W' :World} {base:Nat} {v:Value} {l:List Int} (h:OB W base v l) (hk:Kp S W W') (hs:∀b,v.ownBlock=some b→¬ S b):OB W' base v l:=owns_kp h hk hs
theorem Blk.cell0 {W:World} {b:Nat} {v:Value} {t:TypeId} (h:Blk W b #[v] t):W.cell? ⟨b,0,none⟩=some v:=h.cell 0
section
variable {W W' A B C : World} {g : Nat} {q q1 q2 : Option Nat} {l : List Int}
theorem WB.lt (h:WB W g q l):g<W.heap.size:=by obtain ⟨v,h1, -⟩:=h;exact h1.lt
theorem WB.qlt (h:WB W g q l) {b:Nat} (e:q=some b):g<b∧b<W.heap.size:=by
 obtain ⟨v,h1,h2,h3⟩:=h
 have h4:=owns_lt3 h2 (h3.trans e)
 omega
theorem WB.ext (h:WB W g q l) (he:Ext W W'):WB W' g q l:=by obtain ⟨v,h1,h2,h3⟩:=h;exact ⟨v,h1.ext he,h2.ext he,h3⟩
theorem WB.new (h:WB W g q l) {b:Nat} (hb:W.heap.size≤b): ¬ (b=g∨q=some b):=fun e=>by
 rcases e with e|e
 ·have:=h.lt;omega
 ·have:=(h.qlt e).2;omega
theorem Wr.refl:Wr W W g q q:=⟨Kp.refl, .inl rfl⟩
theorem Wr.trans (h:Wr A B g q q1) (k:Wr B C g q1 q2):Wr A C g q q2:=by
 refine ⟨h.1.trans k.1 (fun x hx hl=> ?_), ?_⟩
 ·rcases hx with hx|hx
  ·exact .inl hx
  ·rcases h.2 with e|⟨b,e,hb⟩
   ·exact .inr (e ▸ hx)
   ·rw [e] at hx;injection hx with hx;omega
 ·rcases k.2 with e|⟨b,e,hb⟩
  ·rcases h.2 with e2|h2
   ·exact .inl (e.trans e2)
   ·exact .inr (by rw [e];exact h2)
  ·exact .inr ⟨b,e,Nat.le_trans h.1.size hb⟩
theorem Wr.of_ext (he:Ext W W'):Wr W W' g q q:=⟨Kp.of_ext he, .inl rfl⟩
theorem Wr.pre (he:Ext A B) (h:Wr B C g q q1):Wr A C g q q1:=(Wr.of_ext he).trans h
theorem Wr.post (h:Wr A B g q q1) (he:Ext B C):Wr A C g q q1:=h.trans (Wr.of_ext he)
theorem Wr.ext {W0:World} (he:Ext W0 W) (hw:WB W g q l) (hg:W0.heap.size≤g) (h:Wr W W' g q q1):Ext W0 W' :=
 Kp.ext he (fun x hx _=>by
  rcases hx with hx|hx
  ·omega
  ·have:=(hw.qlt hx).1;omega) h.1
theorem Blk.wr {b:Nat} {cs:Array Value} {t:TypeId} (h:Blk W b cs t) (k:Wr W W' g q q1) (hn: ¬ (b=g∨q=some b)):Blk W' b cs t:=h.kp k.1 hn
def WG (W:World) (bs g:Nat) (q:Option Nat) (l:List Int):Prop:=∃v,Blk W g #[v] 120∧OB W bs v l∧v.ownBlock≠some g∧v.ownBlock=q
theorem WB.gen (h:WB W g q l):WG W (g+1) g q l:=by
 obtain ⟨v,h1,h2,h3⟩:=h
 exact ⟨v,h1,h2,fun e=>by have:=(owns_lt3 h2 e).1;omega,h3⟩
theorem WG.wb (h:WG W (g+1) g q l):WB W g q l:=by
 obtain ⟨v,h1,h2, -,h3⟩:=h
 exact ⟨v,h1,h2,h3⟩
theorem WG.ext {bs:Nat} (h:WG W bs g q l) (he:Ext W W'):WG W' bs g q l:=by obtain ⟨v,h1,h2,h3,h4⟩:=h;exact ⟨v,h1.ext he,h2.ext he,h3,h4⟩
theorem WG.qlt {bs:Nat} (h:WG W bs g q l) {b:Nat} (e:q=some b):bs≤b∧b<W.heap.size∧b≠g:=by
 obtain ⟨v,h1,h2,h4,h3⟩:=h
 have h5:=owns_lt3 h2 (h3.trans e)
 exact ⟨h5.1,h5.2,fun e2=>h4 (by rw [h3,e,e2])⟩
theorem WG.wext {W0:World} {bs:Nat} (he:Ext W0 W) (hw:WG W bs g q l) (hg:W0.heap.size≤g) (hb:W0.heap.size≤bs) (h:Wr W W' g q q1):Ext W0 W' :=
 Kp.ext he (fun x hx _=>by
  rcases hx with hx|hx
  ·omega
  ·have:=(hw.qlt hx).1;omega) h.1
theorem WG.put {bs:Nat} {v v' :Value} {m:List Int} (hb:Blk W g #[v] 120) (hn:v.ownBlock≠some g) (h1:OB W' bs v' (l++m)) (hg:W.grownBy W' v.ownBlock) (ha:v'.ownBlock=v.ownBlock∨∃b,v'.ownBlock=some b∧W.heap.size≤b):
 WG (W'.setCell ⟨g,0,none⟩ v') bs g v'.ownBlock (l++m)∧Wr W (W'.setCell ⟨g,0,none⟩ v') g v.ownBlock v'.ownBlock:=by
 have hk:Kp (fun x=>x=g) W' (W'.setCell ⟨g,0,none⟩ v'):=Kp.set (S:=fun x=>x=g) ⟨g,0,none⟩ v' rfl
 have hn' :v'.ownBlock≠some g:=fun e=>by
  rcases ha with h|⟨b,h,hb2⟩
  ·exact hn (h ▸ e)
  ·rw [h] at e
   injection e with e
   have:=hb.lt
   omega
 refine ⟨⟨v', ?_,h1.kp hk (fun b hb e=>hn' (by rw [hb,e])),hn',rfl⟩,((Kp.of_grown hg).mono (fun x hx _=> .inr hx)).trans hk (fun x hx _=> .inl hx),ha⟩
 have h2:=(hb.kp (Kp.of_grown hg) hn).set 0 v'
 simpa only [List.setIfInBounds_toArray,List.set_cons_zero] using h2
theorem WB.put {v v' :Value} {m:List Int} (hb:Blk W g #[v] 120) (ho:OB W (g+1) v l) (h1:OB W' (g+1) v' (l++m)) (hg:W.grownBy W' v.ownBlock) (ha:v'.ownBlock=v.ownBlock∨∃b,v'.ownBlock=some b∧W.heap.size≤b):
 WB (W'.setCell ⟨g,0,none⟩ v') g v'.ownBlock (l++m)∧Wr W (W'.setCell ⟨g,0,none⟩ v') g v.ownBlock v'.ownBlock:=by
 have hk:Kp (fun x=>x=g) W' (W'.setCell ⟨g,0,none⟩ v'):=Kp.set (S:=fun x=>x=g) ⟨g,0,none⟩ v' rfl
 refine ⟨⟨v', ?_,h1.kp hk (fun b hb e=>by have:=(owns_lt3 h1 hb).1;omega),rfl⟩,((Kp.of_grown hg).mono (fun x hx _=> .inr hx)).trans hk (fun x hx _=> .inl hx),ha⟩
 have h2:=(hb.kp (Kp.of_grown hg) (fun e=>by have:=(owns_lt3 ho e).1;omega)).set 0 v'
 simpa only [List.setIfInBounds_toArray,List.set_cons_zero] using h2
end
theorem wp_app_bytes {w:World} {o:Oper} {a:Act} {K:Act→World→Prop} {Q:Exit→Act→World→Prop} (s x:Operand)
 (ho:o.op= .call { callee:= .builtin .append,args:= #[s,x],argTypes:= #[28,28] })
 (base:Nat) (v:Value) (l:List Int) (hs:a.eval s=v) (hown:OB w base v l) (u:Value) (m:List Int) (hx:a.eval x=u) (hu:NB w u m)
 (h63:l.length+m.length≤1000000000) (hbase:base≤w.heap.size)
 (h:∀v' w',OB w' base v' (l++m)→w.grownBy w' v.ownBlock→(v'.ownBlock=v.ownBlock∨∃b,v'.ownBlock=some b∧w.heap.size≤b)→K (a.put o.dst v') w'):o.wp Tryz.prog a w K Q:=by
 obtain ⟨i0,hi,hz0,hz1,hz2⟩:=info_parts Tryz.infoU8
 have key:∃v' w',(Builtin.append_ #[28,28] o.type #[v,u]).run Tryz.prog w= .ok v' w'∧OB w' base v' (l++m)∧w.grownBy w' v.ownBlock∧(v'.ownBlock=v.ownBlock∨∃b,v'.ownBlock=some b∧w.heap.size≤b):=by
  rcases hu with ⟨rfl,rfl⟩|⟨ad,cap,rfl,hn⟩
  ·exact ⟨v,w,run_app_nil base 28 o.type 5 i0 1 Tryz.underlying28 hi v _ _ hown 0,by rw [List.append_nil];exact hown,⟨rfl,rfl,rfl,Nat.le_refl _,fun _ _ _=>rfl⟩, .inl rfl⟩
  ·obtain ⟨v',w',hr,h2,h3,h4,h5⟩:=run_append_own_at (P:=Tryz.prog) w base 28 o.type 5 i0 _ 1 1 Tryz.underlying28 hi hz0 hz1 hz2 rfl (by decide) v _ _ hown ad m.length cap (bs m) (by rw [bs_len,Nat.mul_one]) hn (bs_one m) (by unfold maxLen;omega) (by omega) hbase
   exact ⟨v',w',hr,OB.push h2 rfl,h3,h5.imp (fun e=>e) (fun e=>⟨_,e,Nat.le_refl _⟩)⟩
 obtain ⟨v',w',hrun,h2,h3,h4⟩:=key
 unfold Oper.wp execOp
 simp only [ho,resolve,invoke,builtin,Sem.run_bind,Sem.run_pure,Result.andThen_ok,List.map_toArray,List.map_cons,List.map_nil,hs,hx,hrun]
 exact h v' w' h2 h3 h4
theorem wpList_app_b {w:World} {ops:Array Oper} {rest:List Oper} {o:Oper} {a:Act} {Q:Exit→Act→World→Prop} (hgd:o.guard=none) (s x:Operand)
 (ho:o.op= .call { callee:= .builtin .append,args:= #[s,x],argTypes:= #[28,28] })
 (base:Nat) (v:Value) (l:List Int) (hs:a.eval s=v) (hown:OB w base v l) (u:Value) (m:List Int) (hx:a.eval x=u) (hu:NB w u m)
 (h63:l.length+m.length≤1000000000) (hbase:base≤w.heap.size)
 (h:∀v' w',OB w' base v' (l++m)→w.grownBy w' v.ownBlock→(v'.ownBlock=v.ownBlock∨∃b,v'.ownBlock=some b∧w.heap.size≤b)→wpList Tryz.prog ops Q rest (a.put o.dst v') w'):wpList Tryz.prog ops Q (o::rest) a w:=by
 refine wpList_plain hgd fun K hK=> ?_
 exact wp_app_bytes s x ho base v l hs hown u m hx hu h63 hbase (fun v' w' h1 h2 h3=>hK _ _ (h v' w' h1 h2 h3))
theorem NB.one (w:World) (x:Int):NB (w.alloc (.cells #[.int .u8 x] 5)) (.slice (some ⟨w.heap.size,0,none⟩) 1 1) [x]:= .inr ⟨_,1,rfl,cells_one w x⟩
theorem str_at {w w' :World} {v v' :Value} {l:List Int} {base:Nat} (t u ty:TypeId) (i:TypeInfo) (ht:Tryz.prog.underlying t=some (.slice 5)) (hu:Tryz.prog.underlying u=some .string) (hi:Tryz.prog.info? 5=some i) (hz:i.zero=some (.int .u8 0)) (hsize:i.size=1) (hby:i.bytes=1) (hown:OB w base v l) (s:ByteArray) (h63:l.length+s.size≤1000000000)
 (hr:(Builtin.append_ #[t,u] ty #[v, .string s]).run Tryz.prog w= .ok v' w'):v'.ownBlock=v.ownBlock∨∃b,v'.ownBlock=some b∧w.heap.size≤b:=by
 rcases hown.2 with ⟨rfl,h0⟩|⟨g,cap,cur,rfl,hbg,hg,hnc,hcm,hcs,htake⟩
 ·by_cases hm:s.size=0
  ·have hf:=Go.Lib.run_firstCells_string (P:=Tryz.prog) w 1 s
   rw [hm] at hf
   have h2:(Builtin.append_ #[t,u] ty #[.slice none 0 0, .string s]).run Tryz.prog w= .ok (.slice none 0 0) w:=by
    simp [Builtin.append_,run_underlying ht,run_underlying hu,sizeOf,typeInfo,hi,hsize,Builtin.lenOf,hm,hf]
   rw [h2] at hr
   cases hr
   exact .inl rfl
  ·have h2:=run_append_nil_string (P:=Tryz.prog) w t u ty 5 i (.int .u8 0) ht hu hi hz s (by omega) (by omega) (by rw [hby];omega)
   rw [h2] at hr
   cases hr
   exact .inr ⟨_,rfl,Nat.le_refl _⟩
 ·by_cases hroom:l.length+s.size≤cap
  ·have hcs' :cur.size=cap:=by simpa using hcs
   have h2:=Go.Lib.run_append_room_string (P:=Tryz.prog) w t u ty 5 i ht hu hi hsize g l.length cap cur hg s hroom (by omega)
   rw [h2] at hr
   cases hr
   exact .inl rfl
  ·have holds:∀j u,(bs l)[j]? =some u→w.cell? ((⟨g,0,none⟩:Addr).add j)=some u:=World.ownsRow.cells hown (g:=g) rfl
   have h2:=Go.Lib.run_append_grow_string (P:=Tryz.prog) w t u ty 5 i (.int .u8 0) ht hu hi hz ⟨g,0,none⟩ l.length cap (bs l) (by rw [hsize,bs_len,Nat.mul_one]) holds s (by omega) (by omega) (by rw [hby];exact growslice_fits (by omega) (by omega))
   rw [h2] at hr
   cases hr
   exact .inr ⟨_,rfl,Nat.le_refl _⟩
theorem wpList_app_str {w:World} {ops:Array Oper} {rest:List Oper} {o:Oper} {a:Act} {Q:Exit→Act→World→Prop} (hgd:o.guard=none) (sl x:Operand)
 (ho:o.op= .call { callee:= .builtin .append,args:= #[sl,x],argTypes:= #[28,9] })
 (base:Nat) (v:Value) (l:List Int) (hs:a.eval sl=v) (hown:OB w base v l) (s:ByteArray) (hx:a.eval x= .string s) (h63:l.length+s.size≤1000000000) (hbase:base≤w.heap.size)
 (h:∀v' w',OB w' base v' (l++strL s)→w.grownBy w' v.ownBlock→(v'.ownBlock=v.ownBlock∨∃b,v'.ownBlock=some b∧w.heap.size≤b)→wpList Tryz.prog ops Q rest (a.put o.dst v') w'):wpList Tryz.prog ops Q (o::rest) a w:=by
 obtain ⟨i0,hi,hz0,hz1,hz2⟩:=info_parts Tryz.infoU8
 refine wpList_plain hgd fun K hK=> ?_
 obtain ⟨v',w',hr,h2,h3,h4⟩:=Go.Lib.run_append_own_string (P:=Tryz.prog) w base 28 9 o.type 5 i0 Tryz.underlying28 Tryz.underlying9 hi hz0 hz1 hz2 v l.length (bs l) hown s (by unfold maxLen;omega) (by omega) hbase
 have h5:=str_at 28 9 o.type i0 Tryz.underlying28 Tryz.underlying9 hi hz0 hz1 hz2 hown s h63 hr
 have h6:OB w' base v' (l++strL s):=by
  rw [bs_str] at h2
  exact OB.push h2 (by rw [strL_len])
 unfold Oper.wp execOp
 simp only [ho,resolve,invoke,builtin,Sem.run_bind,Sem.run_pure,Result.andThen_ok,List.map_toArray,List.map_cons,List.map_nil,hs,hx,hr]
 exact hK _ _ (h v' w' h6 h3 h5)
theorem number_gen (bs g:Nat) (q:Option Nat) (l:List Int) (n:Int) (size:Nat) (w:World) (h:WG w bs g q l) (hbs:bs≤w.heap.size) (hlen:l.length≤900000000) (hs:size≤8) (_hn:0≤n):
 Calls Tryz.prog 39 #[.pointer (some ⟨g,0,none⟩), .int .u64 n, .int .i64 size] w fun e w' =>e= .returned (.tuple #[])∧∃q',WG w' bs g q' (l++octs n size)∧Wr w w' g q q' :=by
 have HW:=Hm h
 have HBS:=Hm hbs
 clear h hbs
 go_enter Tryz.func39,Tryz.ntmps39
 go_wp2
 go_loopg [6] size (fun y i wr=>∃z:Nat,z=y∧z≤size∧i= .int .i64 ((z:Int) - 1)∧∃q',Hid (WG wr bs g q' (l++(octs n size).take (size - z)))∧Hid (Wr w wr g q q'))
 case atStart=>exact ⟨size,rfl,Nat.le_refl _,rfl,q,Hm (by rw [Nat.sub_self,List.take_zero,List.append_nil];exact HW.out),Hm Wr.refl⟩
 case round=>
  obtain ⟨z,rfl,hz,rfl,q1,hw,hk⟩:=hrel
  by_cases h0:z=0
  ·subst h0
   go_wp2
   go_end0
   refine ⟨rfl,q1, ?_,hk.out⟩
   have h1:=hw.out
   rw [Nat.sub_zero,List.take_of_length_le (by rw [octs_len];exact Nat.le_refl _)] at h1
   exact h1
  ·obtain ⟨k,rfl⟩:∃k,z=k+1:=⟨z - 1,by omega⟩
   rw [show (((k+1:Nat):Int) - 1)=(k:Int) by omega]
   obtain ⟨v,hb,ho,hne,rfl⟩:=hw.out
   obtain ⟨va,vc,rfl⟩:=ho.shape
   obtain ⟨lv,hlv⟩:∃L,L=(l++(octs n size).take (size - (k+1))).length:=⟨_,rfl⟩
   rw [←hlv] at hb ho hne hk
   have HB:=Hm hb
   have HO:=Hm ho
   have HNE:=Hm hne
   have c0:=hb.cell0
   have z0:=hb.lt
   clear hb ho hne
   go_upto_region 3 with (fail)
   have hA0:Hid ((fun w' =>w'.cell? ⟨g,0,none⟩=some (.slice va lv vc)∧g<w'.heap.size) wr.drew):=Hm ⟨c0,z0⟩
   refine wp_region_head 12 (fun w' =>w'.cell? ⟨g,0,none⟩=some (.slice va lv vc)∧g<w'.heap.size) (by kernel_rfl) (by decide) ?_
   have q1:IntKind.i64.wrap (8*(k:Int))=8*(k:Int):=IntWalk.i64_in _ (by omega)
   have q2:8*(k:Int)≤64:=by omega
   have q3:IntKind.u8.wrap (n / 2 ^ (8*(k:Int)).toNat)=byteAt n k:=by
    unfold byteAt
    rw [show (8*(k:Int)).toNat=8*k by omega]
    simp [IntKind.wrap,IntKind.signed,IntKind.bits]
   (refine wpHd_take (i:=0) (v:= ?_) rfl (by kernel_rfl) (by kernel_rfl) (by kernel_rfl) (fun _ _ _ h=>h) (Or.inl ⟨by rfl, ?_⟩) hA0.out ?_;rotate_left 1; · (intro w' hS';(try dsimp only at hS');go_split_ands;go_simp;try with_reducible rfl))
   (refine wpHd_take (i:=1) (v:= ?_) rfl (by kernel_rfl) (by kernel_rfl) (by kernel_rfl) (fun _ _ _ h=>h) (Or.inl ⟨by rfl, ?_⟩) hA0.out ?_;rotate_left 1; · (intro w' hS';(try dsimp only at hS');go_split_ands;go_simp;try with_reducible rfl))
   (refine wpHd_take (i:=2) (v:= ?_) rfl (by kernel_rfl) (by kernel_rfl) (by kernel_rfl) (fun _ _ _ h=>h) (Or.inl ⟨by rfl, ?_⟩) hA0.out ?_;rotate_left 1; · (intro w' hS';(try dsimp only at hS');go_split_ands;go_simp;try with_reducible rfl))
   (refine wpHd_take (i:=3) (v:= ?_) rfl (by kernel_rfl) (by kernel_rfl) (by kernel_rfl) (fun _ _ _ h=>h) (Or.inl ⟨by rfl, ?_⟩) hA0.out ?_;rotate_left 1; · (intro w' hS';(try dsimp only at hS');go_split_ands;go_simp;try with_reducible rfl))
   (refine wpHd_take (i:=4) (v:= ?_) rfl (by kernel_rfl) (by kernel_rfl) (by kernel_rfl) (fun _ _ _ h=>h) (Or.inl ⟨by rfl, ?_⟩) hA0.out ?_;rotate_left 1; · (intro w' hS';(try dsimp only at hS');go_split_ands;go_simp;try with_reducible rfl))
   (refine wpHd_take (i:=5) (v:= ?_) rfl (by kernel_rfl) (by kernel_rfl) (by kernel_rfl) (fun _ _ _ h=>h) (Or.inl ⟨by rfl, ?_⟩) hA0.out ?_;rotate_left 1; · (intro w' hS';(try dsimp only at hS');go_split_ands;go_simp;try with_reducible rfl))
   (refine wpHd_take (i:=6) (v:= ?_) rfl (by kernel_rfl) (by kernel_rfl) (by kernel_rfl) (fun _ _ _ h=>h) (Or.inl ⟨by rfl, ?_⟩) hA0.out ?_;rotate_left 1; · (intro w' hS';(try dsimp only at hS');go_split_ands;go_simp;try with_reducible rfl))
   (refine wpHd_take (i:=7) (v:= ?_) rfl (by kernel_rfl) (by kernel_rfl) (by kernel_rfl) (fun _ _ _ h=>h) (Or.inl ⟨by rfl, ?_⟩) hA0.out ?_;rotate_left 1; · (intro w' hS';(try dsimp only at hS');go_split_ands;go_simp;try with_reducible rfl))
   (refine wpHd_take (i:=8) (v:= ?_) rfl (by kernel_rfl) (by kernel_rfl) (by kernel_rfl) (fun _ _ _ h=>h) (Or.inl ⟨by rfl, ?_⟩) hA0.out ?_;rotate_left 1; · (intro w' hS';(try dsimp only at hS');go_split_ands;go_simp;try with_reducible rfl))
   (refine wpHd_take (i:=9) (v:= ?_) rfl (by kernel_rfl) (by kernel_rfl) (by kernel_rfl) (fun _ _ _ h=>h) (Or.inl ⟨by rfl, ?_⟩) hA0.out ?_;rotate_left 1; · (intro w' hS';(try dsimp only at hS');go_split_ands;go_simp;try with_reducible rfl))
   refine wpHd_one (i:=10) rfl rfl (by kernel_rfl) (fun KK hK=> ?_)
   go_simp
   have HE1:=Hm (show Ext wr ((wr.alloc (.cells #[.int .u8 (byteAt n k)] 5)).drew) by exact eX)
   have HB1:=Hm (HB.out.ext HE1.out)
   have HO1:=Hm (HO.out.ext HE1.out)
   refine hK.out _ _ ⟨HB1.out.cell0,HB1.out.lt⟩ (fun hA=> ?_)
   clear hK KK hA
   refine wpHd_one (i:=11) rfl rfl (by kernel_rfl) (fun KK hK=> ?_)
   refine wp_app_bytes (.tmp 17) (.tmp 23) ?ho bs (.slice va lv vc) _ ?ev1 HO1.out (.slice (some ⟨wr.heap.size,0,none⟩) 1 1) [byteAt n k] ?ev2 ?c1 ?c2 ?c3 ?_
   case ho=>rfl
   case ev1=>(try go_simp);(try rfl)
   case ev2=>(try go_simp);(try rfl)
   case c1=>exact (NB.one wr _).ext (fun ad len cap e _=>by cases e;simp) ((Ext.refl _).drew)
   case c2=>rw [←hlv];rw [hlv,List.length_append,List.length_take,octs_len];simp only [List.length_cons,List.length_nil];omega
   case c3=>have:=HBS.out;have:=hk.out.1.size;have:=HE1.out.size;omega
   intro v' w4 ho4 hg4 ha4
   obtain ⟨a4,c4,rfl⟩:=ho4.shape
   have HP:=Hm (WG.put HB1.out HNE.out ho4 hg4 ha4)
   have HB4:=Hm (HB1.out.kp (Kp.of_grown hg4) HNE.out)
   refine hK.out _ _ ⟨HB4.out.cell0,HB4.out.lt⟩ (fun hA=> ?_)
   clear hK KK hA ho4 hg4 ha4 c0 z0 hA0
   have HT:=Hm (octs_take n (n:=size) (j:=size - (k+1)) (by omega))
   rw [show size - (k+1)+1=size - k by omega,show size - 1 - (size - (k+1))=k by omega] at HT
   have gw:=HB4.out.cell0
   have gwf:=HB4.out.frozen
   have zw:=HB4.out.lt
   have HKK:=Hm ((hk.out.post HE1.out).trans HP.out.2)
   refine wpHd_tail (by kernel_rfl) ?_
   simp only [List.drop_succ_cons,List.drop_zero]
   obtain ⟨ln,hln⟩:∃L,L=(l++(octs n size).take (size - (k+1))++ [byteAt n k]).length:=⟨_,rfl⟩
   rw [←hln] at HP HKK⊢
   clear hln hlv
   go_wp2
   go_roundg k
   case measure=>omega
   case rel=>exact ⟨k,rfl,by omega,rfl,_,Hm (by rw [HT.out,←List.append_assoc];exact HP.out.1),HKK⟩
theorem number_any (g:Nat) (q:Option Nat) (l:List Int) (n:Int) (size:Nat) (w:World) (h:WB w g q l) (hlen:l.length≤900000000) (hs:size≤8) (hn:0≤n):
 Calls Tryz.prog 39 #[.pointer (some ⟨g,0,none⟩), .int .u64 n, .int .i64 size] w fun e w' =>e= .returned (.tuple #[])∧∃q',WB w' g q' (l++octs n size)∧Wr w w' g q q' :=by
 refine (number_gen (g+1) g q l n size w h.gen (by have:=h.lt;omega) hlen hs hn).mono ?_
 rintro e w' ⟨rfl,q',h1,h2⟩
 exact ⟨rfl,q',h1.wb,h2⟩
open Go.RowKit Go.Maps
def litR (o v:Int):Go.Lit:= .string (keyBytes [.int .u32 o, .int .u32 v])
def B32 (o:Int):Prop:=0≤o∧o<4294967296
theorem B32.wf {o:Int} (h:B32 o):(Go.Lit.int .u32 o).wf=true:=by
 obtain ⟨h1,h2⟩:=h
 exact WalkArith.wf_u32 ⟨h1,by omega⟩
structure RefIs (P:Program) (k u:TypeId):Prop where
 dk:P.underlying k=some (.struct #[⟨"Oid",u,0,false, "", "",0⟩,⟨"Version",u,1,false, "", "",4⟩])
 du:P.underlying u=some (.int .u32)
 kt:P.keyType k=true
 ck:P.cellsOf k=2
 cu:P.cellsOf u=1
 nz:0<P.types.size
section
variable {P : Program} {k u : TypeId}
theorem RefIs.wide (h:RefIs P k u):(match P.underlying k with|some (.array _ _)|some (.struct _)=>true|_=>false)=true:=by rw [h.dk]
theorem RefIs.lits (h:RefIs P k u) (a b:Value):P.keyLits (P.types.size+1) k [a,b]=(do
 let x←P.keyLits P.types.size u [a]
 let y←P.keyLits P.types.size u [b]
 pure (x++y)):=by
 simp [Program.keyLits,h.dk,h.ck,h.cu]
 cases P.keyLits P.types.size u [a] with
 |none=>simp
 |some x=>cases P.keyLits P.types.size u [b]<;>simp
theorem RefIs.one (h:RefIs P k u) (a:Value):P.keyLits P.types.size u [a]=match a with
 | .int q n=>if q= .u32∧(Go.Lit.int .u32 n).wf=true then some [.int .u32 n] else none
 |_=>none:=by
 obtain ⟨d,hd⟩:∃d,P.types.size=d+1:=⟨P.types.size - 1,by have:=h.nz;omega⟩
 rw [hd]
 cases a<;>simp [Program.keyLits,h.du]
theorem RefIs.key (h:RefIs P k u) {o v:Int} (ho:B32 o) (hv:B32 v):Go.keyOf P k (.agg #[.int .u32 o, .int .u32 v])=some (litR o v):=by
 have h1:=ho.wf
 have h2:=hv.wf
 unfold Go.keyOf
 simp [h.dk,h.kt,Value.formed,h.ck,Value.cells,litR,h.lits,h.one,h1,h2]
theorem RefIs.law (h:RefIs P k u) (hl:laidOutB P=true) (hrow:k<P.types.size) (hk:P.keyTypeAt 2 k=true):Keyed P k:=Keyed.of_law (deep_law_laid hl (m:=2) (by omega) hrow hk h.wide)
end
end Go.Proofs.YtgmphpccpfaapaaGreatDoor
namespace Go.Proofs.YtgmphpccpfaapaaGreatDoor
open Go.RowKit
theorem B32.u64 {o:Int} (h:B32 o):IntKind.u64.wrap o=o:=by
 rw [u64_wrap];unfold B32 at h;omega
theorem u64_small {n:Int} (h0:0≤n) (h1:n<18446744073709551616):IntKind.u64.wrap n=n:=by rw [u64_wrap];omega
def WQ (g:Nat) (q:Option Nat) (l:List Int) (w:World) (e:Ending) (w' :World):Prop:=e= .returned (.tuple #[])∧∃q',WB w' g q' l∧Wr w w' g q q'
theorem wref_any (g:Nat) (q:Option Nat) (l:List Int) (o v:Int) (w:World) (h:WB w g q l) (hlen:l.length≤800000000) (ho:B32 o) (hv:B32 v):
 Calls Tryz.prog 41 #[.pointer (some ⟨g,0,none⟩), .agg #[.int .u32 o, .int .u32 v]] w (WQ g q (l++refW o v) w):=by
 have HW1:=Hm (h.ext ((Ext.refl w).alloc (.cells #[.int .u32 o, .int .u32 v] 69)))
 have HX1:=Hm (Blk.new w #[.int .u32 o, .int .u32 v] 69)
 have HN:=Hm (h.new (b:=w.heap.size) (Nat.le_refl _))
 have w1:=ho.u64
 have w2:=hv.u64
 have h0:0≤o:=ho.1
 have h1:0≤v:=hv.1
 clear h
 go_enter Tryz.func41,Tryz.ntmps41
 have gX:=HX1.out.cell
 have zX:=HX1.out.lt
 go_upto_region 2 with (go_at_call 39;refine (number_any g q l o 4 _ HW1.out (by omega) (by omega) h0).mono ?_;rintro e w3 ⟨rfl,q3,hw3,hr3⟩;have HW3:=Hm hw3;have HR3:=Hm hr3;have HX3:=Hm (HX1.out.wr hr3 HN.out);clear hw3 hr3)
 clear gX zX
 have gX:=HX3.out.cell
 have zX:=HX3.out.lt
 go_wp2_with (go_at_call 39;refine (number_any g q3 (l++octs o 4) v 4 _ HW3.out (by rw [List.length_append,octs_len];omega) (by omega) h1).mono ?_;rintro e w4 ⟨rfl,q4,hw4,hr4⟩;have HW4:=Hm hw4;have HR4:=Hm hr4;clear hw4 hr4)
 go_end0
 refine ⟨rfl,q4, ?_,((HR3.out.trans HR4.out).pre ((Ext.refl w).alloc _))⟩
 have h2:=HW4.out
 rw [List.append_assoc] at h2
 exact h2
theorem wname_any (g:Nat) (q:Option Nat) (l:List Int) (s:ByteArray) (w:World) (h:WB w g q l) (hlen:l.length≤800000000) (hs:s.size≤100000):
 Calls Tryz.prog 74 #[.pointer (some ⟨g,0,none⟩), .string s] w (WQ g q (l++nameW s) w):=by
 obtain ⟨i0,hi,hz0,hz1,hz2⟩:=info_parts Tryz.infoU8
 have HW:=Hm h
 have w1:=u64_small (n:=(s.size:Int)) (by omega) (by omega)
 clear h
 go_enter Tryz.func74,Tryz.ntmps74
 go_upto_region 1 with (go_at_call 39;refine (number_any g q l s.size 1 _ HW.out (by omega) (by omega) (by omega)).mono ?_;rintro e w3 ⟨rfl,q3,hw3,hr3⟩;have HW3:=Hm hw3;have HR3:=Hm hr3;clear hw3 hr3)
 obtain ⟨v,hb,ho,rfl⟩:=HW3.out
 obtain ⟨va,vc,rfl⟩:=ho.shape
 obtain ⟨lv,hlv⟩:∃L,L=(l++octs s.size 1).length:=⟨_,rfl⟩
 rw [←hlv] at hb ho HR3
 have HB:=Hm hb
 have HO:=Hm ho
 have c0:=hb.cell0
 have cf:=hb.frozen
 have z0:=hb.lt
 have HL:=Hm hlv
 clear hb ho hlv
 go_wp2_with (at_builtin;refine wpList_app_str rfl _ _ rfl (g+1) _ _ rfl HO.out s rfl ?c1 ?c2 ?_)
 case c1=>rw [←HL.out,show lv=l.length+1 by rw [HL.out,List.length_append,octs_len]];omega
 case c2=>omega
 intro v' w4 ho4 hg4 ha4
 rw [←List.append_assoc] at ho4
 have HP:=Hm (WB.put HB.out HO.out ho4 hg4 ha4)
 have HB4:=Hm (HB.out.kp (Kp.of_grown hg4) (fun e=>by have:=(owns_lt3 HO.out e).1;omega))
 obtain ⟨a4,c4,rfl⟩:=ho4.shape
 obtain ⟨ln,hln⟩:∃L,L=((l++octs s.size 1)++strL s).length:=⟨_,rfl⟩
 rw [←hln] at HP⊢
 clear c0 cf z0 ho4 hg4 ha4 hln
 have gw:=HB4.out.cell0
 have gwf:=HB4.out.frozen
 have zw:=HB4.out.lt
 go_wp2
 go_end0
 refine ⟨rfl,_, ?_,HR3.out.trans HP.out.2⟩
 have h2:=HP.out.1
 rw [List.append_assoc] at h2
 exact h2
open Go.RowKit Go.Sort
def Tab (w:World):Prop:=Lib.TabIs Tryz.prog w "internal/strconv.uint64pow10" .u64 Lib.pow10Tab
theorem Tab.ext {w w' :World} (h:Tab w) (he:Ext w w'):Tab w' :=by
 unfold Tab Lib.TabIs World.var? at h⊢
 have hgn:Tryz.prog.globalNamed "internal/strconv.uint64pow10" =some 5:=by kernel_rfl
 rw [hgn] at h⊢
 simp only [Option.bind_some] at h⊢
 have hlt:5<w.heap.size:=by
  rcases Nat.lt_or_ge 5 w.heap.size with h' |h'
  ·exact h'
  ·rw [Array.getElem?_eq_none h'] at h;cases h
 rw [he.block _ hlt]
 exact h
theorem ext_grow (w:World) (k:Nat) (os:Array Obj):Ext w (grow (w.drewN k) os):=
 ⟨rfl,rfl,rfl,by rw [size_grow];exact Nat.le_add_right _ _,fun i hi=>heap_grow_old (w.drewN k) os hi⟩
end Go.Proofs.YtgmphpccpfaapaaGreatDoor
namespace Go.Proofs.YtgmphpccpfaapaaGreatDoor
open Go.RowKit
theorem strO_app (l m:List Int):strOfNums l++strOfNums m=strOfNums (l++m):=by
 apply ByteArray.ext
 simp [strOfNums]
theorem strO_strL (s:ByteArray):strOfNums (strL s)=s:=by
 apply ByteArray.ext
 apply Array.ext'
 simp [strOfNums,strL,Function.comp_def]
theorem strO_size (l:List Int):(strOfNums l).size=l.length:=strOfNums_size l
theorem run_makeW (n:Nat) (hn:n≤1000) (w:World):(Instr.makeSlice 28 (.int .i64 (n:Int)) (.int .i64 (n:Int))).run Tryz.prog w= .ok (.slice (some ⟨w.heap.size,0,none⟩) n n) (w.alloc (.cells (bs (List.replicate n 0)).toArray 5)):=by
 obtain ⟨i0,hi,hz0,hz1,hz2⟩:=info_parts Tryz.infoU8
 have hr:=run_make (P:=Tryz.prog) w 28 5 i0 _ Tryz.underlying28 hi hz0 .i64 .i64 (n:Int) (n:Int) (by omega) (by omega) (by rw [hz2];omega) (by omega)
 simp only [Int.toNat_natCast,hz1,Nat.mul_one] at hr
 have e:∀z:Array Value,z= #[.int .u8 0]→madeCells z n=(bs (List.replicate n 0)).toArray:=by
  rintro z rfl
  apply Array.ext
  ·simp [bs,madeCells]
  ·intro i h1 h2
   simp [bs,madeCells,Nat.mod_one]
 have e2:=e _ (show (Value.int .u8 0).cells= #[.int .u8 0] from rfl)
 rw [hr,e2]
theorem run_make8 (w:World):(Instr.makeSlice 28 (.int .i64 8) (.int .i64 8)).run Tryz.prog w= .ok (.slice (some ⟨w.heap.size,0,none⟩) 8 8) (w.alloc (.cells (bs (List.replicate 8 0)).toArray 5)):=run_makeW 8 (by omega) w
theorem conv_one (w:World) (x:Int):(convert 28 9 (.slice (some ⟨w.heap.size,0,none⟩) 1 1)).run Tryz.prog (w.alloc (.cells #[.int .u8 x] 5))= .ok (.string (strOfNums [x])) (w.alloc (.cells #[.int .u8 x] 5)):=
 conv_Sl (Sl.new w #[.int .u8 x] 5 1 1 1 [[.int .u8 x]] rfl (by intro xs hxs;simp at hxs;subst hxs;rfl) rfl)
theorem set_bs (l:List Int) (m:Nat) (x:Int):(bs l).toArray.setIfInBounds m (.int .u8 x)=(bs (l.set m x)).toArray:=by
 simp [bs,List.map_set]
theorem set_rep (m:Nat) (x:Int) (l:List Int):(List.replicate (m+1) 0++l).set m x=List.replicate m 0++(x::l):=by
 rw [List.replicate_succ',List.append_assoc,List.set_append_right (h:=by simp)]
 simp
theorem word_any (n:Int) (w:World):
 Calls Tryz.prog 155 #[.int .u64 n] w fun e w' =>e= .returned (.string (strOfNums (octs n 8)))∧Ext w w' :=by
 have hmk:=run_make8 w
 go_enter Tryz.func155,Tryz.ntmps155
 go_wp2
 go_loopg [8] 8 (fun y i wr=>∃k:Nat,y+k=8∧i= .int .i64 k∧Hid (Blk wr w.heap.size (bs (List.replicate (8 - k) 0++octs n k)).toArray 5)∧Hid (Ext w wr))
 case atStart=>exact ⟨0,rfl,rfl,Hm (Blk.new _ _ _),Hm (by exact eX)⟩
 case round=>
  obtain ⟨k,hk,rfl,hb,hE⟩:=hrel
  by_cases hlt:k<8
  ·obtain ⟨m,hm⟩:∃m,k+m=7:=⟨7 - k,by omega⟩
   have q1:IntKind.i64.wrap (8*(k:Int))=8*(k:Int):=IntWalk.i64_in _ (by omega)
   have q2:8*(k:Int)≤64:=by omega
   have q3:IntKind.u8.wrap (n / 2 ^ (8*(k:Int)).toNat)=byteAt n k:=by
    unfold byteAt
    rw [show (8*(k:Int)).toNat=8*k by omega]
    simp [IntKind.wrap,IntKind.signed,IntKind.bits]
   have q4:(7:Int) - (k:Int)=(m:Int):=by omega
   have q5:IntKind.i64.wrap (m:Int)=(m:Int):=IntWalk.i64_in _ (by omega)
   have q6:(m:Int)<8:=by omega
   have hc:=hb.out.cell m
   have hf:=hb.out.frozen
   have hl:=hb.out.lt
   rw [show 8 - k=m+1 by omega] at hc hb
   have hc2:wr.cell? ⟨w.heap.size,m,none⟩=some (.int .u8 0):=by
    rw [hc]
    simp [bs,List.getElem?_append]
   clear hc
   have HB2:=Hm (hb.out.set m (.int .u8 (byteAt n k)))
   have HM:=Hm hm
   clear hm
   go_wp2
   go_roundg m
   case measure=>have:=HM.out;omega
   case rel=>
    refine ⟨k+1,by have:=HM.out;omega,by go_num,Hm ?_,Hm (Ext.setCell hE.out (Nat.le_refl _) _)⟩
    have h1:=HB2.out
    rw [set_bs,set_rep] at h1
    rw [show 8 - (k+1)=m by have:=HM.out;omega,octs_succ]
    exact h1
  ·obtain rfl:k=8:=by omega
   rw [Nat.sub_self,List.replicate_zero,List.nil_append] at hb
   have hS:Sl wr (.slice (some ⟨w.heap.size,0,none⟩) 8 8) 1 ((octs n 8).map bcell):=by
    refine ⟨_,8,by rw [List.length_map,octs_len], .inr ⟨w.heap.size,0,rfl,hb.out.lt,fun i hi j hj=> ?_⟩⟩
    rw [List.length_map,octs_len] at hi
    obtain rfl:j=0:=by omega
    rw [getD_map bcell _ (by rw [octs_len];exact hi),hb.out.cell]
    simp [bs,bcell,octs_len,hi]
   have hconv:=conv_Sl hS
   clear hS
   go_wp2
   go_ret
   exact ⟨rfl,hE.out⟩
theorem rword_any (n:Int) (many:Nat) (w:World) (h0:0≤n) (h1:n<18446744073709551616) (hm:many≤8):
 Calls Tryz.prog 165 #[.int .u64 n, .int .i64 many] w fun e w' =>e= .returned (.string (strOfNums (octs n many)))∧Ext w w' :=by
 go_enter Tryz.func165,Tryz.ntmps165
 go_wp2
 go_loopg [0,5,6] many (fun y a s i wr=>∃k:Nat,y+k=many∧a= .int .u64 (n / 2 ^ (8*k))∧s= .string (strOfNums (octs n k))∧i= .int .i64 k∧Hid (Ext w wr))
 case atStart=>exact ⟨0,rfl,by simp,rfl,rfl,Hm (Ext.refl w)⟩
 case round=>
  obtain ⟨k,hk,rfl,rfl,rfl,hE⟩:=hrel
  by_cases hlt:k<many
  ·have hcv:=conv_one wr
   have hsz:=strO_size (octs n k)
   rw [octs_len] at hsz
   have q1:0≤n / 2 ^ (8*k):=Int.ediv_nonneg h0 (Int.le_of_lt (Int.pow_pos (by decide)))
   have hs1:∀x:Int,(strOfNums [x]).size=1:=fun x=>strO_size [x]
   have q2:(n / 2 ^ (8*k)).tdiv 256=n / 2 ^ (8*(k+1)):=by
    rw [Int.tdiv_eq_ediv_of_nonneg q1,Int.ediv_ediv_of_nonneg (Int.le_of_lt (Int.pow_pos (by decide))),show 8*(k+1)=8*k+8 by omega,Int.pow_add]
    rfl
   have q4:0≤n / 2 ^ (8*(k+1)):=Int.ediv_nonneg h0 (Int.le_of_lt (Int.pow_pos (by decide)))
   have q5:n / 2 ^ (8*(k+1))≤n:=Int.ediv_le_self _ h0
   have q3:IntKind.u64.wrap (n / 2 ^ (8*(k+1)))=n / 2 ^ (8*(k+1)):=by rw [u64_wrap];omega
   go_wp2
   go_roundg (many - (k+1))
   case measure=>omega
   case rel=>exact ⟨k+1,by omega,rfl,by rw [strO_app];rfl,by go_num,Hm (hE.out.alloc _)⟩
  ·obtain rfl:k=many:=by omega
   go_wp2
   go_ret
   exact ⟨rfl,hE.out⟩
end Go.Proofs.YtgmphpccpfaapaaGreatDoor
