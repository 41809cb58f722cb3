import Derived.Scope
import Derived.WalkMore
import Derived.Test.YtodbhliidbclcaaGreatP12
set_option maxRecDepth 100000
set_option maxHeartbeats 16000000

namespace Go.Proofs.YtodbhliidbclcaaGreat
open Go.RowKit
theorem ext_size (s:ByteArray):(s.extract 256 s.size).size=s.size - 256:=by rw [ByteArray.size_extract];omega
def pcs (s:ByteArray):List ByteArray:=if _h:256<s.size then s.extract 0 256::pcs (s.extract 256 s.size) else if s.size=0 then [] else [s]
termination_by s.size
decreasing_by rw [ext_size];omega
theorem Tryz.infoStrS:(Tryz.prog.info? 9).map (fun i=>(i.zero,i.size,i.bytes))=some (some (.string ⟨#[]⟩),1,16):=by kernel_rfl
structure Tch (g:Nat) (w w' :World):Prop where
 os:w'.os=w.os
 tape:w'.tape=w.tape
 output:w'.output=w.output
 size:w.heap.size≤w'.heap.size
 block:∀k,k<w.heap.size→k≠g→w'.heap[k]? =w.heap[k]?
theorem Tch.refl (g:Nat) (w:World):Tch g w w:=⟨rfl,rfl,rfl,Nat.le_refl _,fun _ _ _=>rfl⟩
theorem Tch.trans {g:Nat} {a b c:World} (h:Tch g a b) (k:Tch g b c):Tch g a c:=
 ⟨k.os.trans h.os,k.tape.trans h.tape,k.output.trans h.output,Nat.le_trans h.size k.size,fun i hi hg=>(k.block i (Nat.lt_of_lt_of_le hi h.size) hg).trans (h.block i hi hg)⟩
theorem Tch.of_ext {g:Nat} {w w' :World} (h:Ext w w'):Tch g w w' :=⟨h.os,h.tape,h.output,h.size,fun k hk _=>h.block k hk⟩
theorem Tch.ext {g:Nat} {W w w' :World} (hE:Ext W w) (hg:W.heap.size≤g) (h:Tch g w w'):Ext W w' :=
 Below.trans hE ⟨h.os,h.tape,h.output,h.size,fun k hk=>h.block k (Nat.lt_of_lt_of_le hk hE.size) (by omega)⟩
theorem Tch.set {g:Nat} {w w' :World} (h:Tch g w w') (i:Nat) (v:Value):Tch g w (w'.setCell ⟨g,i,none⟩ v):=
 h.trans ⟨rfl,rfl,rfl,by simp [World.setCell],fun k _ hg=>Below.heap_setCell _ _ _ _ hg⟩
theorem Tch.alloc {g:Nat} {w w' :World} (h:Tch g w w') (o:Obj):Tch g w (w'.alloc o):=h.trans (Tch.of_ext ((Ext.refl _).alloc o))
theorem Tch.drewN {g:Nat} {w w' :World} (h:Tch g w w') (n:Nat):Tch g w (w'.drewN n):=h.trans (Tch.of_ext ((Ext.refl _).drewN n))
theorem Blk.tch {w w1:World} {b g:Nat} {cs:Array Value} {t:TypeId} (h:Blk w b cs t) (he:Tch g w w1) (hne:b≠g):Blk w1 b cs t:=(he.block b h.lt hne).trans h
def SB (w:World) (g d:Nat) (v:Value) (l:List Int):Prop:=
 ∃a cap,v= .slice a l.length cap∧l.length≤cap∧(a=none→cap=0)∧(l= []∨∃b o,a=some ⟨b,o,none⟩∧b<w.heap.size∧(d≤b∧b<g)∧∀i,i<l.length→w.cell? ⟨b,o+i,none⟩=some (.int .u8 (l.getD i 0)))
theorem Tch.cell {g:Nat} {w w1:World} (he:Tch g w w1) {b:Nat} (hb:b<w.heap.size) (hne:b≠g) (o:Nat):w1.cell? ⟨b,o,none⟩=w.cell? ⟨b,o,none⟩:=
 World.cell?_of_block (w:=w) (he.block b hb hne)
theorem SB.tch {w w1:World} {g d h:Nat} {v:Value} {l:List Int} (hs:SB w g d v l) (he:Tch h w w1) (hh:h<d∨g≤h):SB w1 g d v l:=by
 obtain ⟨a,cap,rfl,h1,h2,hs⟩:=hs
 refine ⟨a,cap,rfl,h1,h2,hs.imp id ?_⟩
 rintro ⟨b,o,ha,hb,hd,hc⟩
 exact ⟨b,o,ha,Nat.lt_of_lt_of_le hb he.size,hd,fun i hi=>(he.cell hb (by omega) _).trans (hc i hi)⟩
theorem SB.ext {w w1:World} {g d:Nat} {v:Value} {l:List Int} (h:SB w g d v l) (he:Ext w w1):SB w1 g d v l:=by
 obtain ⟨a,cap,rfl,h1,h2,h⟩:=h
 refine ⟨a,cap,rfl,h1,h2,h.imp id ?_⟩
 rintro ⟨b,o,ha,hb,hd,hc⟩
 exact ⟨b,o,ha,Nat.lt_of_lt_of_le hb he.size,hd,fun i hi=>(he.cells.1 b _ hb).trans (hc i hi)⟩
theorem SB.sl {w:World} {g d:Nat} {v:Value} {l:List Int} (h:SB w g d v l):Sl w v 1 (l.map bcell):=by
 obtain ⟨a,cap,rfl, -, -,h⟩:=h
 refine ⟨a,cap,by simp, ?_⟩
 rcases h with rfl|⟨b,o,ha,hb,hne,hc⟩
 ·exact .inl rfl
 ·refine .inr ⟨b,o,ha,hb,fun i hi j hj=> ?_⟩
  obtain rfl:j=0:=by omega
  have hi' :i<l.length:=by simpa using hi
  rw [Nat.mul_one,Nat.add_zero,hc i hi']
  simp [bcell,List.getD,List.getElem?_map,List.getElem?_eq_getElem hi']
theorem SB.nil (w:World) (g d:Nat):SB w g d (.slice none 0 0) []:=⟨none,0,rfl,Nat.le_refl _,fun _=>rfl, .inl rfl⟩
theorem SB.zero (w:World) (g d:Nat) (a:Option Addr) (cap:Nat) (h:a=none→cap=0):SB w g d (.slice a 0 cap) []:=⟨a,cap,rfl,Nat.zero_le _,h, .inl rfl⟩
theorem SB.of_own {w:World} {g base:Nat} {v:Value} {l:List Int} (h:OB w base v l) (hg:w.heap.size≤g):SB w g base v l:=by
 have hs:=h.sl
 rcases h.2 with ⟨rfl,h0⟩|⟨k,cap,cur,rfl,hb,hk,hn,_⟩
 ·have:l= []:=List.length_eq_zero_iff.1 h0
  subst this;exact SB.nil _ _ _
 ·refine ⟨_,cap,rfl,hn,fun h=>(by cases h), ?_⟩
  rcases Nat.eq_zero_or_pos l.length with h0|h0
  ·exact .inl (List.length_eq_zero_iff.1 h0)
  ·obtain ⟨h1,_,h2⟩:=Sl.bytes hs h0
   exact .inr ⟨k,0,rfl,h1,⟨hb,by omega⟩,h2⟩
theorem SB.drop {w:World} {g d:Nat} {b o:Nat} {l:List Int} {len cap n:Nat} (h:SB w g d (.slice (some ⟨b,o,none⟩) len cap) l) (hn:n≤l.length) (len' cap' :Nat) (hlen:len' =l.length - n) (hcap:cap' =cap - n):SB w g d (.slice (some ⟨b,o+n,none⟩) len' cap') (l.drop n):=by
 obtain ⟨a,c,hv,h1,h2,h⟩:=h
 simp only [Value.slice.injEq] at hv
 obtain ⟨rfl,rfl,rfl⟩:=hv
 subst hlen hcap
 refine ⟨some ⟨b,o+n,none⟩,cap - n,by simp,by simp;omega,fun h=>(by cases h), ?_⟩
 rcases h with rfl|⟨b',o',ha,hb,hne,hc⟩
 ·exact .inl (by simp)
 ·cases ha
  refine .inr ⟨b,o+n,rfl,hb,hne,fun i hi=> ?_⟩
  simp only [List.length_drop] at hi
  rw [Nat.add_assoc,hc (n+i) (by omega)]
  simp [List.getD]
theorem SB.take {w:World} {g d:Nat} {a:Option Addr} {l:List Int} {len cap n:Nat} (h:SB w g d (.slice a len cap) l) (hn:n≤l.length):SB w g d (.slice a n cap) (l.take n):=by
 obtain ⟨a',c,hv,h1,h2,h⟩:=h
 simp only [Value.slice.injEq] at hv
 obtain ⟨rfl,rfl,rfl⟩:=hv
 refine ⟨a,cap,by simp;omega,by simp;omega,h2, ?_⟩
 rcases h with rfl|⟨b',o',ha,hb,hne,hc⟩
 ·exact .inl (by simp)
 ·refine .inr ⟨b',o',ha,hb,hne,fun i hi=> ?_⟩
  simp only [List.length_take] at hi
  rw [hc i (by omega)]
  simp [List.getD,show i<n by omega]
def RD (w:World) (g d:Nat) (st:RS):Prop:=∃v,Blk w g #[v, .int .i64 st.e] 136∧SB w g d v st.l∧st.ok∧st.l.length≤1000000
theorem RD.tch {w w1:World} {g d h:Nat} {st:RS} (hr:RD w g d st) (he:Tch h w w1) (hg:h≠g) (hd:h<d∨g≤h):RD w1 g d st:=by
 obtain ⟨v,h1,h2,h3⟩:=hr
 exact ⟨v,h1.tch he hg.symm,h2.tch he hd,h3⟩
theorem RD.ext {w w1:World} {g d:Nat} {st:RS} (hr:RD w g d st) (he:Ext w w1):RD w1 g d st:=by
 obtain ⟨v,h1,h2,h3⟩:=hr
 exact ⟨v,h1.ext he,h2.ext he,h3⟩
theorem RD.lt {w:World} {g d:Nat} {st:RS} (hr:RD w g d st):g<w.heap.size:=by obtain ⟨v,h1,_⟩:=hr;exact h1.lt
def RPost (g d:Nat) (w:World) (r:Value) (st:RS) (e:Ending) (w' :World):Prop:=e= .returned r∧RD w' g d st∧Tch g w w'
theorem giveUp_any (g d:Nat) (st:RS) (x:Int) (w:World) (h:RD w g d st) (_hx:x≠0):
 Calls Tryz.prog 81 #[.pointer (some ⟨g,0,none⟩), .int .i64 x] w (RPost g d w (.tuple #[]) (giveS st x)):=by
 obtain ⟨v,hb,hsb,hok,hlen⟩:=h
 have hc:=hb.cell
 have hf:=hb.frozen
 have hlt:=hb.lt
 have H1:=Hm hb
 have H2:=Hm hsb
 clear hb hsb
 by_cases he:st.e=0
 ·rw [he] at hc H1
  go_enter Tryz.func81,Tryz.ntmps81
  go_wp2
  go_end0
  refine ⟨rfl, ?_, ?_⟩
  ·unfold giveS;rw [if_pos he]
   exact ⟨_,(H1.out.set 1 _).set 0 _,SB.nil _ _ _,⟨fun _=>rfl,isB.nil⟩,Nat.zero_le _⟩
  ·exact ((Tch.refl g w).set 1 _).set 0 _
 ·go_enter Tryz.func81,Tryz.ntmps81
  go_wp2
  go_end0
  refine ⟨rfl, ?_,Tch.refl g w⟩
  unfold giveS;rw [if_neg he]
  exact ⟨v,H1.out,H2.out,hok,hlen⟩
def jumps (J:Nat→Act→World→Prop) (Q:Exit→Act→World→Prop):Exit→Act→World→Prop
 | .goto l,a,w=>J l a w
 |e,a,w=>Q e a w
theorem wp_scope_labels {P:Program} {a:Act} {w:World} {Q:Exit→Act→World→Prop} {c:Code} (rest:Nat→Code) (J:Nat→Act→World→Prop) (μ:Nat→Act→World→Nat) (hf:∀l a w,J l a w→findLabel c l=some (rest l))
 (first:c.wp P (jumps J Q) a w)
 (pass:∀l a w,J l a w→(rest l).wp P (jumps (fun l' a' w' =>J l' a' w'∧μ l' a' w' <μ l a w) Q) a w):(Code.scope c).wp P Q a w:=by
 intro b k cs
 have hg:∀l a w,J l a w→gotoIn l (.inScope c::k)=some (.code (rest l):: .inScope c::k):=fun l a w h=>by simp [gotoIn,hf l a w h]
 have key:∀n l a w,μ l a w=n→J l a w→∃e a' w',Q e a' w'∧Arrives P (lone (b.at a (.code (rest l):: .inScope c::k)) cs w) b k cs e a' w' :=by
  intro n
  induction n using Nat.strongRecOn with
  |_ n ih=>
   intro l a w hn hJ
   obtain ⟨e,a₁,w₁,hq,harr⟩:=pass l a w hJ b (.inScope c::k) cs
   cases e with
   |normal=>exact ⟨.normal,a₁,w₁,hq,Steps.trans harr (.one step_inScope)⟩
   |exit id=>exact ⟨.exit id,a₁,w₁,hq,fun k' hk=>harr k' (by simp [exitTo,hk])⟩
   |goto l' =>
    obtain ⟨hJ',hlt⟩:=hq
    obtain ⟨e₂,a₂,w₂,hq₂,harr₂⟩:=ih _ (by omega) l' a₁ w₁ rfl hJ'
    exact ⟨e₂,a₂,w₂,hq₂, .of_steps (harr _ (hg _ _ _ hJ')) harr₂⟩
   |ret=>exact ⟨_,a₁,w₁,hq,harr⟩
   |panic ch=>exact ⟨_,a₁,w₁,hq,harr⟩
   |outgrown=>exact ⟨_,a₁,w₁,hq,harr⟩
 obtain ⟨e,a₁,w₁,hq,harr⟩:=first b (.inScope c::k) cs
 cases e with
 |normal=>exact ⟨.normal,a₁,w₁,hq, .head step_scope (Steps.trans harr (.one step_inScope))⟩
 |exit id=>exact ⟨.exit id,a₁,w₁,hq,fun k' hk=> .head step_scope (harr k' (by simp [exitTo,hk]))⟩
 |goto l' =>
  obtain ⟨e₂,a₂,w₂,hq₂,harr₂⟩:=key _ l' a₁ w₁ rfl hq
  exact ⟨e₂,a₂,w₂,hq₂, .of_steps (.head step_scope (harr _ (hg _ _ _ hq))) harr₂⟩
 |ret=>exact ⟨_,a₁,w₁,hq, .of_steps (.one step_scope) harr⟩
 |panic ch=>exact ⟨_,a₁,w₁,hq, .of_steps (.one step_scope) harr⟩
 |outgrown=>exact ⟨_,a₁,w₁,hq, .of_steps (.one step_scope) harr⟩
def jumps2 (J0 J1:Act→World→Prop) (Q:Exit→Act→World→Prop):Exit→Act→World→Prop:=jumps (fun l a w=>(l=0∧J0 a w)∨(l=1∧J1 a w)) Q
theorem jumps2_zero {J0 J1:Act→World→Prop} {Q:Exit→Act→World→Prop} {a:Act} {w:World} (h:J0 a w):jumps2 J0 J1 Q (.goto 0) a w:= .inl ⟨rfl,h⟩
theorem jumps2_one {J0 J1:Act→World→Prop} {Q:Exit→Act→World→Prop} {a:Act} {w:World} (h:J1 a w):jumps2 J0 J1 Q (.goto 1) a w:= .inr ⟨rfl,h⟩
theorem jumps2_ret {J0 J1:Act→World→Prop} {Q:Exit→Act→World→Prop} {a:Act} {w:World} (h:Q .ret a w):jumps2 J0 J1 Q .ret a w:=h
theorem jumps2_mono {J0 J1 J0' J1' :Act→World→Prop} {Q:Exit→Act→World→Prop} (h0:∀a w,J0 a w→J0' a w) (h1:∀a w,J1 a w→J1' a w):∀e a w,jumps2 J0 J1 Q e a w→jumps2 J0' J1' Q e a w:=by
 intro e a w h
 cases e with
 |goto l=>exact h.imp (fun ⟨x,y⟩=>⟨x,h0 _ _ y⟩) (fun ⟨x,y⟩=>⟨x,h1 _ _ y⟩)
 |normal=>exact h
 |exit id=>exact h
 |ret=>exact h
 |panic c=>exact h
 |outgrown=>exact h
theorem skip_seq {P:Program} {a:Act} {w:World} {Q:Exit→Act→World→Prop} {c:Code} (h:c.wp P Q a w):(Code.skip.seq c).wp P Q a w:=wp_seq (wp_skip h)
theorem wp_scope_two {P:Program} {a:Act} {w:World} {Q:Exit→Act→World→Prop} {c X0 X1:Code} (J0 J1:Act→World→Prop) (μ:Act→World→Nat) (h0:findLabel c 0=some (Code.skip.seq X0)) (h1:findLabel c 1=some (Code.skip.seq X1))
 (first:(∀a w,J0 a w→X0.wp P (jumps2 J0 J1 Q) a w)→c.wp P (jumps2 J0 J1 Q) a w)
 (pass0:∀a w,J0 a w→X0.wp P (jumps2 (fun a' w' =>J0 a' w'∧μ a' w' <μ a w) J1 Q) a w)
 (pass1:∀a w,J1 a w→X1.wp P (jumps2 (fun _ _=>False) (fun _ _=>False) Q) a w):(Code.scope c).wp P Q a w:=by
 refine wp_scope_labels (fun l=>if l=0 then Code.skip.seq X0 else Code.skip.seq X1) (fun l a w=>(l=0∧J0 a w)∨(l=1∧J1 a w)) (fun l a w=>if l=0 then μ a w+1 else 0) ?_ (first fun a w h=>wp_mono (pass0 a w h) (jumps2_mono (fun _ _ h=>h.1) (fun _ _ h=>h))) ?_
 ·rintro l a w (⟨rfl,_⟩|⟨rfl,_⟩)
  ·exact h0
  ·exact h1
 ·rintro l a w (⟨rfl,h⟩|⟨rfl,h⟩)
  ·refine skip_seq (wp_mono (pass0 a w h) ?_)
   intro e a' w' he
   cases e with
   |goto l' =>
    rcases he with ⟨rfl,hj,hlt⟩|⟨rfl,hj⟩
    ·exact ⟨.inl ⟨rfl,hj⟩,by simpa using hlt⟩
    ·exact ⟨.inr ⟨rfl,hj⟩,by simp⟩
   |normal=>exact he
   |exit id=>exact he
   |ret=>exact he
   |panic c=>exact he
   |outgrown=>exact he
  ·refine skip_seq (wp_mono (pass1 a w h) ?_)
   intro e a' w' he
   cases e with
   |goto l' =>rcases he with ⟨_,hj⟩|⟨_,hj⟩<;>exact hj.elim
   |normal=>exact he
   |exit id=>exact he
   |ret=>exact he
   |panic c=>exact he
   |outgrown=>exact he
theorem fail_any (g d:Nat) (st:RS) (x:Int) (w:World) (h:RD w g d st):
 Calls Tryz.prog 53 #[.pointer (some ⟨g,0,none⟩), .int .i64 x] w (RPost g d w (.tuple #[]) (failS st x)):=by
 have H:=Hm h
 clear h
 by_cases hx:x=0
 ·subst hx
  go_enter Tryz.func53,Tryz.ntmps53
  go_wp2
  go_end0
  exact ⟨rfl,by unfold failS;rw [if_neg (by decide)];exact H.out,Tch.refl g w⟩
 ·have hx2:(x !=0)=true:=by simpa using hx
  have HX:=Hm hx
  clear hx
  go_enter Tryz.func53,Tryz.ntmps53
  go_wp2_with (go_at_call 81;refine (giveUp_any g d st x _ H.out HX.out).mono ?_;rintro e w1 ⟨rfl,hr,ht⟩;have HR:=Hm hr;have HT:=Hm ht;clear hr ht)
  go_end0
  exact ⟨rfl,by unfold failS;rw [if_pos HX.out];exact HR.out,HT.out⟩
theorem rerr_any (g d:Nat) (st:RS) (w:World) (h:RD w g d st):
 Calls Tryz.prog 83 #[.pointer (some ⟨g,0,none⟩)] w fun e w' =>e= .returned (.int .i64 st.e)∧w=w' :=by
 obtain ⟨v,hb,hsb,hok,hlen⟩:=h
 have hc:=hb.cell
 clear hb
 go_enter Tryz.func83,Tryz.ntmps83
 go_wp2
 go_ret
 exact ⟨rfl,rfl⟩
theorem rleft_any (g d:Nat) (st:RS) (w:World) (h:RD w g d st):
 Calls Tryz.prog 108 #[.pointer (some ⟨g,0,none⟩)] w fun e w' =>e= .returned (.int .i64 st.l.length)∧w=w' :=by
 obtain ⟨v,hb,⟨a,cap,rfl,hlc,hnc,hs⟩,hok,hlen⟩:=h
 have hc:=hb.cell
 clear hb hlc hnc
 go_enter Tryz.func108,Tryz.ntmps108
 go_wp2
 go_ret
 exact ⟨rfl,rfl⟩
theorem rend_any (g d:Nat) (st:RS) (w:World) (h:RD w g d st):
 Calls Tryz.prog 25 #[.pointer (some ⟨g,0,none⟩)] w fun e w' =>e= .returned (.int .i64 (endE st))∧w=w' :=by
 obtain ⟨v,hb,⟨a,cap,rfl,hlc,hnc,hs⟩,hok,hlen⟩:=h
 have hc:=hb.cell
 clear hb hlc hnc
 obtain ⟨L,E⟩:=st
 simp only at*
 go_enter Tryz.func25,Tryz.ntmps25
 by_cases hE:E=0
 ·subst hE
  cases L with
  |nil=>
   go_wp2
   go_ret
   exact ⟨rfl,rfl⟩
  |cons x L=>
   have hpos:(0:Int)<((L.length+1:Nat):Int):=by omega
   simp only [List.length_cons] at*
   go_wp2
   go_ret
   exact ⟨rfl,rfl⟩
 ·have HE:Hid (endE ⟨L,E⟩=E):=Hm (by unfold endE;rw [if_neg (fun h=>hE h.1)])
  have hE1:(E==0)=false:=by simpa using hE
  go_wp2
  go_ret
  exact ⟨ret_int HE.out.symm,rfl⟩
theorem read_any (v:Value) (l:List Int) (w:World) (hl:Sl w v 1 (l.map bcell)) (hlen:l.length≤1000000) (hb:isB l):
 Calls Tryz.prog 22 #[v] w fun e w' =>∃g,e= .returned (.pointer (some ⟨g,0,none⟩))∧w.heap.size≤g∧RD w' g w.heap.size ⟨l,0⟩∧Ext w w' :=by
 have HL:=Hm hl
 have HB:=Hm hb
 clear hl hb
 go_enter Tryz.func22,Tryz.ntmps22
 go_wp2_with (go_at_call 48;refine (clone_any v l _ HL.out hlen).mono ?_;rintro e w1 ⟨v1,rfl,ho1,hb1⟩;obtain ⟨a1,cap1,rfl⟩:=ho1.shape;have HO1:=Hm ho1;have HE1:=Hm hb1;clear ho1 hb1)
 go_ret
 exact ⟨_,rfl,HE1.out.size,⟨_,Blk.new _ _ _,(SB.of_own HO1.out (Nat.le_refl _)).ext ((Ext.refl w1).alloc _),⟨fun h=>absurd rfl h,HB.out⟩,hlen⟩,HE1.out.alloc _⟩
theorem or_seven (v x n:Nat) (hv:v<128 ^ n):v|||x*128 ^ n=v+x*128 ^ n:=by
 have e:x*128 ^ n=2 ^ (7*n)*x:=by rw [Nat.pow_mul,Nat.mul_comm]
 have hv' :v<2 ^ (7*n):=by rw [Nat.pow_mul];exact hv
 rw [e,or_apart (7*n) x v hv',Nat.add_comm]
theorem pow_le9 {n:Nat} (h:n≤9):128 ^ n≤9223372036854775808:=by
 have h1:128 ^ n≤128 ^ 9:=Nat.pow_le_pow_right (by decide) h
 have h2:(128:Nat) ^ 9=9223372036854775808:=by decide
 omega
theorem dig_room {q n:Nat} (hn:n≤9) (hq:q<128) (h9:n=9→q≤1):q*128 ^ n<18446744073709551616:=by
 by_cases h:n=9
 ·subst h;have:=h9 rfl;have h2:(128:Nat) ^ 9=9223372036854775808:=by decide
  rw [h2];omega
 ·have h1:128 ^ n≤128 ^ 8:=Nat.pow_le_pow_right (by decide) (by omega)
  have h2:(128:Nat) ^ 8=72057594037927936:=by decide
  have h3:q*128 ^ n≤127*128 ^ n:=Nat.mul_le_mul_right _ (by omega)
  omega
theorem dig_or {v n:Nat} {x:Int} (hv:v<128 ^ n) (hn:n≤9) (hx:0≤x) (_h9: ¬ (n=9∧1<x)) (hx1:x<256) (hx2:n=9→x≤1):
 bits BinOp.or IntKind.u64 (v:Int) (IntKind.u64.wrap (x%128*2 ^ (7*n)))=((v+(x%128).toNat*128 ^ n:Nat):Int):=by
 have hp:=pow_le9 hn
 have e:x%128*2 ^ (7*n)=(((x%128).toNat*128 ^ n:Nat):Int):=by
  have h1:((2:Int) ^ (7*n))=((128 ^ n:Nat):Int):=by rw [show (128:Nat)=2 ^ 7 from rfl,←Nat.pow_mul,Int.natCast_pow];rfl
  rw [h1,Int.natCast_mul];congr 1;omega
 have hr:=dig_room (q:=(x%128).toNat) hn (by omega) (fun h=>by have:=hx2 h;omega)
 rw [e,u64_wrap',Int.emod_eq_of_lt (by omega) (by omega),bits_or_u64_nat _ _ (by omega) (by omega),or_seven _ _ _ hv]
theorem dig_lt {v q n:Nat} (hv:v<128 ^ n) (hq:q<128):v+q*128 ^ n<128 ^ (n+1):=by
 have h3:q*128 ^ n≤127*128 ^ n:=Nat.mul_le_mul_right _ (by omega)
 rw [Nat.pow_succ];omega
def DigJ0 (g:Nat) (l:List Int) (w:World) (a' :Act) (w' :World):Prop:=w' =w∧∃(n v:Nat) (u5 u6 u7 u8 u9 u10 u11 u12 u13 u14 u15 u16 u17 u18 u19 u20 u21 u22 u23 u24 u25 u26 u27 u28 u29 u30 u31 u32 u33 u34 u35 u36 u37 u38 u39 u40 u41 u42 u43 u44 u45:Value),a' = { tmps:= #[.pointer (some ⟨g,0,none⟩),undef, .int .u64 v, .int .i64 n, .int .i64 0,u5,u6,u7,u8,u9,u10,u11,u12,u13,u14,u15,u16,u17,u18,u19,u20,u21,u22,u23,u24,u25,u26,u27,u28,u29,u30,u31,u32,u33,u34,u35,u36,u37,u38,u39,u40,u41,u42,u43,u44,u45],defers:= [] } ∧n≤l.length∧n≤9∧v<128 ^ n∧Hid (digs (l.drop n) n v=digs l 0 0)
def DigJ1 (g:Nat) (l:List Int) (w:World) (a' :Act) (w' :World):Prop:=w' =w∧∃(u2 u3 u4 u5 u6 u7 u8 u9 u10 u11 u12 u13 u14 u15 u16 u17 u18 u19 u20 u21 u22 u23 u24 u25 u26 u27 u28 u29 u30 u31 u32 u33 u34 u35 u36 u37 u38 u39 u40 u41 u42 u43 u44 u45:Value),a' = { tmps:= #[.pointer (some ⟨g,0,none⟩),undef,u2,u3,u4,u5,u6,u7,u8,u9,u10,u11,u12,u13,u14,u15,u16,u17,u18,u19,u20,u21,u22,u23,u24,u25,u26,u27,u28,u29,u30,u31,u32,u33,u34,u35,u36,u37,u38,u39,u40,u41,u42,u43,u44,u45],defers:= [] } ∧Hid (digs l 0 0=(0,0,5))
def DigM (a' :Act) (_:World):Nat:=20 - (intOf (a'.tmps.getD 3 undef)).toNat
theorem digits_any (g d:Nat) (st:RS) (w:World) (h:RD w g d st):
 Calls Tryz.prog 80 #[.pointer (some ⟨g,0,none⟩)] w fun e w' =>e= .returned (.tuple #[.int .u64 (digs st.l 0 0).1, .int .i64 (digs st.l 0 0).2.1, .int .i64 (digs st.l 0 0).2.2])∧w=w' :=by
 obtain ⟨v,hb,⟨a,cap,rfl,hlc,hnc,hs⟩,hok,hlen⟩:=h
 have hc:=hb.cell
 clear hb
 have HC:Hid (∀k,k<st.l.length→∃b o,a=some ⟨b,o,none⟩∧w.cell? ⟨b,o+k,none⟩=some (.int .u8 (st.l.getD k 0))):=Hm (fun k hk=>by
  rcases hs with h0|⟨b,o,ha,hb,hne,hc⟩
  ·rw [h0] at hk;simp at hk
  ·exact ⟨b,o,ha,hc k hk⟩)
 have HOK:=Hm hok
 clear hs hok hlc hnc
 go_enter Tryz.func80,Tryz.ntmps80
 go_wp2
 refine wp_scope_two (DigJ0 g st.l w) (DigJ1 g st.l w) DigM rfl rfl ?first ?pass0 ?pass1
 case first=>
  intro hp
  go_wp2
  go_step3
  rename_i hK
  refine hK _ _ (hp _ _ ?_)
  exact ⟨rfl,0,0,_,_,_,_,_,_,_,_,_,_,_,_,_,_,_,_,_,_,_,_,_,_,_,_,_,_,_,_,_,_,_,_,_,_,_,_,_,_,_,_,_,rfl,Nat.zero_le _,by omega,by simp,Hm rfl⟩
 case pass0=>
  rintro a' w' ⟨rfl,n,v,u5,u6,u7,u8,u9,u10,u11,u12,u13,u14,u15,u16,u17,u18,u19,u20,u21,u22,u23,u24,u25,u26,u27,u28,u29,u30,u31,u32,u33,u34,u35,u36,u37,u38,u39,u40,u41,u42,u43,u44,u45,rfl,hn,hn9,hv,hd⟩
  by_cases hlt:n<st.l.length
  ·obtain ⟨b,o,rfl,hx⟩:=HC.out n hlt
   have hd2:=hd.out
   have e:st.l.drop n=st.l.getD n 0::st.l.drop (n+1):=by
    rw [List.drop_eq_getElem_cons hlt];simp [List.getD,List.getElem?_eq_getElem hlt]
   rw [e,digs] at hd2
   have hxr:0≤st.l.getD n 0∧st.l.getD n 0<256:=HOK.out.2 _ (by rw [List.getD_eq_getElem?_getD,List.getElem?_eq_getElem hlt];exact List.getElem_mem hlt)
   clear e
   generalize st.l.getD n 0=x at*
   obtain ⟨hx0,hx1⟩:=hxr
   have HD:=Hm hd2
   clear hd2 hd
   have HV:=Hm hv
   clear hv
   by_cases h9:n=9∧1<x
   ·have HO:Hid (digs st.l 0 0=(0,0,5)):=by have:=HD.out;rw [if_pos h9] at this;exact Hm this.symm
    obtain ⟨rfl,h9⟩:=h9
    clear HD
    go_wp2
    go_step3
    exact jumps2_one ⟨rfl,_,_,_,_,_,_,_,_,_,_,_,_,_,_,_,_,_,_,_,_,_,_,_,_,_,_,_,_,_,_,_,_,_,_,_,_,_,_,_,_,_,_,_,_,rfl,HO⟩
   ·have hd3:=HD.out
    rw [if_neg h9] at hd3
    have HD3:=Hm hd3
    clear hd3 HD
    by_cases h128:128≤x
    ·have hn8:n≤8:=by
      rcases Nat.lt_or_ge n 9 with h3|h3
      ·omega
      ·exact absurd ⟨by omega,by omega⟩ h9
     have HB:=Hm (dig_or HV.out hn9 hx0 h9 hx1 (by omega))
     have HL:=Hm (dig_lt (q:=(x%128).toNat) HV.out (by omega))
     have HD4:Hid (digs (st.l.drop (n+1)) (n+1) (v+(x%128).toNat*128 ^ n)=digs st.l 0 0):=by have:=HD3.out;rw [if_pos h128] at this;exact Hm this
     clear h9 HD3
     go_wp2
     go_step3
     exact jumps2_zero ⟨⟨rfl,n+1,v+(x%128).toNat*128 ^ n,_,_,_,_,_,_,_,_,_,_,_,_,_,_,_,_,_,_,_,_,_,_,_,_,_,_,_,_,_,_,_,_,_,_,_,_,_,_,_,_,_,by rw [HB.out];rfl,by omega,by omega,HL.out,HD4⟩,by show 20 - (intOf (.int .i64 ((n:Int)+1))).toNat<20 - (intOf (.int .i64 (n:Int))).toNat;simp [intOf];omega⟩
    ·by_cases h0:1≤n∧x=0
     ·obtain ⟨h0,rfl⟩:=h0
      have HO:Hid (digs st.l 0 0=(0,0,5)):=by have:=HD3.out;rw [if_neg (by decide),if_pos ⟨h0,rfl⟩] at this;exact Hm this.symm
      clear h9 HD3
      have hn1:(1:Int)<(n:Int)+1:=by omega
      go_wp2
      all_goals
       go_step3
       exact jumps2_one ⟨rfl,_,_,_,_,_,_,_,_,_,_,_,_,_,_,_,_,_,_,_,_,_,_,_,_,_,_,_,_,_,_,_,_,_,_,_,_,_,_,_,_,_,_,_,_,rfl,HO⟩
     ·have HB:=Hm (dig_or HV.out hn9 hx0 h9 hx1 (by omega))
      have HO:Hid (digs st.l 0 0=(v+(x%128).toNat*128 ^ n,n+1,0)):=by have:=HD3.out;rw [if_neg h128,if_neg h0] at this;exact Hm this.symm
      have H9:=Hm h9
      clear h9 HD3
      by_cases hn0:n=0
      ·have hn1:(n:Int)+1≤1:=by omega
       clear hn0
       go_wp2
       all_goals
        refine jumps2_ret ?_
        go_ret3
        exact ⟨by rw [HO.out,←HB.out];rfl,rfl⟩
      ·have hn1:(1:Int)<(n:Int)+1:=by omega
       have hx3:0<x:=by omega
       have hx4:(x==0)=false:=by simp;omega
       by_cases hn8:n≤8
       ·clear hn0 hn9
        go_wp2
        refine jumps2_ret ?_
        go_ret3
        exact ⟨by rw [HO.out,←HB.out];rfl,rfl⟩
       ·obtain rfl:n=9:=by omega
        obtain rfl:x=1:=by have h:=H9.out;omega
        have HB2:Hid (bits BinOp.or IntKind.u64 (v:Int) 9223372036854775808=((v+(1%128:Int).toNat*128 ^ 9:Nat):Int)):=Hm HB.out
        clear HB hn0 hn8 hn9
        go_wp2
        refine jumps2_ret ?_
        go_ret3
        exact ⟨by rw [HO.out,←HB2.out];rfl,rfl⟩
  ·have hn2:n=st.l.length:=by omega
   have HD:Hid (digs st.l 0 0=(0,0,1)):=Hm (by rw [←hd.out,hn2,List.drop_length];rfl)
   clear hd
   subst hn2
   go_wp2
   refine jumps2_ret ?_
   go_ret3
   exact ⟨by rw [HD.out];rfl,rfl⟩
 case pass1=>
  rintro a' w' ⟨rfl,u2,u3,u4,u5,u6,u7,u8,u9,u10,u11,u12,u13,u14,u15,u16,u17,u18,u19,u20,u21,u22,u23,u24,u25,u26,u27,u28,u29,u30,u31,u32,u33,u34,u35,u36,u37,u38,u39,u40,u41,u42,u43,u44,u45,rfl,hd⟩
  go_wp2
  refine jumps2_ret ?_
  go_ret3
  exact ⟨by rw [hd.out];rfl,rfl⟩
theorem digs_len:∀(l:List Int) (n v v' m:Nat) (e:Int),digs l n v=(v',m,e)→m≤n+l.length:=by
 intro l
 induction l with
 |nil=>intro n v v' m e h;simp [digs] at h;omega
 |cons x l ih=>
  intro n v v' m e h
  rw [digs] at h
  (repeat' split at h)
  ·simp at h;omega
  ·have:=ih _ _ _ _ _ h;simp;omega
  ·simp at h;omega
  ·simp at h;simp;omega
theorem digs_lt:∀(l:List Int) (n v:Nat),isB l→n≤9→v<128 ^ n→(digs l n v).1<18446744073709551616:=by
 intro l
 induction l with
 |nil=>intro n v _ _ _;simp [digs]
 |cons x l ih=>
  intro n v hb hn hv
  obtain ⟨h0,h1⟩:=hb.head
  have hp:=pow_le9 hn
  rw [digs]
  (repeat' split)
  ·simp
  ·rename_i h9 h128
   exact ih _ _ hb.tail (by rcases Nat.lt_or_ge n 9 with h3|h3;omega;exact absurd ⟨by omega,by omega⟩ h9) (dig_lt hv (by omega))
  ·simp
  ·rename_i h9 h128 _
   have:=dig_room (q:=(x%128).toNat) hn (by omega) (fun h=>by by_cases h1:1<x;exact absurd ⟨h,h1⟩ h9;omega)
   show v+_<_
   by_cases hn9:n=9
   ·have:x≤1:=by by_cases h1:1<x;exact absurd ⟨hn9,h1⟩ h9;omega
    subst hn9
    have h2:(128:Nat) ^ 9=9223372036854775808:=by decide
    have h3:(x%128).toNat*128 ^ 9≤1*128 ^ 9:=Nat.mul_le_mul_right _ (by omega)
    omega
   ·have h5:=dig_lt hv (q:=(x%128).toNat) (by omega)
    have h6:=pow_le9 (n:=n+1) (by omega)
    omega
theorem rbytes_any (g d:Nat) (st:RS) (n:Nat) (w:World) (h:RD w g d st) (hn:n≤9223372036854775807):
 Calls Tryz.prog 79 #[.pointer (some ⟨g,0,none⟩), .int .i64 n] w fun e w' =>∃v,e= .returned v∧SB w' g d v (bytesR n st).1∧RD w' g d (bytesR n st).2∧Tch g w w' :=by
 have H:=Hm h
 obtain ⟨v,hb,⟨a,cap,rfl,hlc,hnc,hs⟩,hok,hlen⟩:=h
 have hc:=hb.cell
 have hf:=hb.frozen
 have hlt:=hb.lt
 have HB:=Hm hb
 have HS:Hid (SB w g d (.slice a st.l.length cap) st.l):=Hm ⟨a,cap,rfl,hlc,hnc,hs⟩
 clear hb
 by_cases hk:st.l.length<n
 ·have hE:Hid (bytesR n st=([],giveS st 1)):=Hm (by unfold bytesR;rw [if_pos hk])
  clear hs hok hlc hnc
  go_enter Tryz.func79,Tryz.ntmps79
  go_wp2_with (go_at_call 81;refine (giveUp_any g d st 1 _ H.out (by decide)).mono ?_;rintro e w1 ⟨rfl,hr,ht⟩;have HR:=Hm hr;have HT:=Hm ht;clear hr ht)
  go_ret
  exact ⟨_,rfl,by rw [hE.out];exact SB.nil _ _ _,by rw [hE.out];exact HR.out,HT.out⟩
 ·have hE:Hid (bytesR n st=(st.l.take n,⟨st.l.drop n,st.e⟩)):=Hm (by unfold bytesR;rw [if_neg hk])
  have HOK:Hid ((⟨st.l.drop n,st.e⟩:RS).ok):=Hm (by have:=bytesR_ok hok n;rw [hE.out] at this;exact this)
  have HLE:Hid ((st.l.drop n).length≤1000000):=Hm (by simp;omega)
  have hnl:n≤st.l.length:=by omega
  have HNC:=Hm hnc
  clear hok hnc hk
  by_cases hcn:cap=n
  ·subst hcn
   have hdl:Hid (st.l.drop cap= []):=Hm (List.drop_eq_nil_of_le (by omega))
   have hls:(st.l.length:Int) - (cap:Int)=0:=by omega
   clear hs
   go_enter Tryz.func79,Tryz.ntmps79
   go_wp2
   go_ret
   have hTT:∀u,Tch g w (w.setCell ⟨g,0,none⟩ u):=fun u=>(Tch.refl g w).set 0 u
   refine ⟨_,rfl, ?_, ?_,hTT _⟩
   ·rw [hE.out];exact (HS.out.take hnl).tch (hTT _) (.inr (Nat.le_refl _))
   ·rw [hE.out]
    refine ⟨_,HB.out.set 0 _, ?_,HOK.out,HLE.out⟩
    rw [hdl.out]
    exact SB.zero _ _ _ _ _ (fun _=>rfl)
  ·rcases hs with h0|⟨b,o,rfl,hb,hne,hcs⟩
   ·have hn0:n=0:=by rw [h0] at hnl;simpa using hnl
    subst hn0
    cases a with
    |none=>exact absurd (HNC.out rfl) hcn
    |some ad=>
     clear h0
     go_enter Tryz.func79,Tryz.ntmps79
     go_wp2
     go_ret
     have hTT:∀u,Tch g w (w.setCell ⟨g,0,none⟩ u):=fun u=>(Tch.refl g w).set 0 u
     refine ⟨_,rfl, ?_, ?_,hTT _⟩
     ·rw [hE.out];exact (HS.out.take hnl).tch (hTT _) (.inr (Nat.le_refl _))
     ·rw [hE.out]
      refine ⟨_,HB.out.set 0 _, ?_,HOK.out,HLE.out⟩
      exact HS.out.tch (hTT _) (.inr (Nat.le_refl _))
   ·clear hcs
    go_enter Tryz.func79,Tryz.ntmps79
    go_wp2
    go_ret
    have hTT:∀u,Tch g w (w.setCell ⟨g,0,none⟩ u):=fun u=>(Tch.refl g w).set 0 u
    refine ⟨_,rfl, ?_, ?_,hTT _⟩
    ·rw [hE.out];exact (HS.out.take hnl).tch (hTT _) (.inr (Nat.le_refl _))
    ·rw [hE.out]
     exact ⟨_,HB.out.set 0 _,(HS.out.drop hnl _ _ rfl rfl).tch (hTT _) (.inr (Nat.le_refl _)),HOK.out,HLE.out⟩
theorem sevens_pos2 (x:Nat):0<(sevens x).length:=by
 by_cases h:x<128
 ·rw [sevens_lt h];simp
 ·rw [sevens_ge h];simp
theorem ruint2_any (g d:Nat) (st:RS) (m:Nat) (w:World) (h:RD w g d st) (_hm:m<18446744073709551616):
 Calls Tryz.prog 50 #[.pointer (some ⟨g,0,none⟩), .int .u64 m] w (RPost g d w (.int .u64 (uintR m st).1) (uintR m st).2):=by
 have H:=Hm h
 obtain ⟨v,hb,⟨a,cap,rfl,hlc,hnc,hs⟩,hok,hlen⟩:=h
 have hc:=hb.cell
 have hf:=hb.frozen
 have hlt:=hb.lt
 have HB:=Hm hb
 have HS:Hid (SB w g d (.slice a st.l.length cap) st.l):=Hm ⟨a,cap,rfl,hlc,hnc,hs⟩
 clear hb
 obtain ⟨D,hD⟩:∃D,D=digs st.l 0 0:=⟨_,rfl⟩
 have HDG:=Hm (fun w h=>digits_any g d st w h)
 rw [←hD] at HDG
 have hv64:=digs_lt st.l 0 0 hok.2 (by omega) (by decide)
 have hnl:D.2.1≤st.l.length:=by
  obtain ⟨d0,d1,d2⟩:=D
  have:=digs_len st.l 0 0 d0 d1 d2 hD.symm
  show d1≤_
  omega
 rw [←hD] at hv64
 obtain ⟨d0,d1,d2⟩:=D
 simp only at*
 by_cases hz:d2=0
 ·subst hz
  by_cases hgt:m<d0
  ·have hE:Hid (uintR m st=(0,giveS st 4)):=Hm (by unfold uintR;simp only [←hD];rw [if_neg (by simp),if_pos hgt])
   clear hs hok hlc hnc hD
   go_enter Tryz.func50,Tryz.ntmps50
   go_wp2_with (first
    |(go_at_call 80;refine (HDG.out _ H.out).mono ?_;rintro e w1 ⟨rfl,rfl⟩)
    |(go_at_call 81;refine (giveUp_any g d st 4 _ H.out (by decide)).mono ?_;rintro e w2 ⟨rfl,hr,ht⟩;have HR:=Hm hr;have HT:=Hm ht;clear hr ht))
   go_ret
   exact ⟨by rw [hE.out];rfl,by rw [hE.out];exact HR.out,HT.out⟩
  ·have hE:Hid (uintR m st=(d0,⟨st.l.drop d1,st.e⟩)):=Hm (by unfold uintR;simp only [←hD];rw [if_neg (by simp),if_neg hgt])
   have HOK:Hid ((⟨st.l.drop d1,st.e⟩:RS).ok):=Hm (by have:=uintR_ok hok m;rw [hE.out] at this;exact this)
   have HLE:Hid ((st.l.drop d1).length≤1000000):=Hm (by simp;omega)
   have hd1:1≤d1:=by
    rcases Nat.eq_zero_or_pos d1 with h0|h0
    ·exfalso
     subst h0
     cases hL:st.l with
     |nil=>rw [hL] at hD;simp [digs] at hD
     |cons x L=>
      obtain ⟨y,_,h2,_⟩:=digs_inv st.l 0 0 _ _ hok.2 (by omega) hD.symm
      have:=sevens_pos2 y
      omega
    ·exact h0
   have hge:d0≤m:=by omega
   clear hok hD hgt
   rcases hs with h0|⟨b,o,rfl,hb,hne,hcs⟩
   ·rw [h0] at hnl;simp at hnl;omega
   clear hcs hnc
   have hTT:∀u,Tch g w (w.setCell ⟨g,0,none⟩ u):=fun u=>(Tch.refl g w).set 0 u
   have HTT:=Hm hTT
   clear hTT
   by_cases hcn:cap=d1
   ·have hdl:Hid (st.l.drop d1= []):=Hm (List.drop_eq_nil_of_le (by omega))
    subst hcn
    go_enter Tryz.func50,Tryz.ntmps50
    go_wp2_with (go_at_call 80;refine (HDG.out _ H.out).mono ?_;rintro e w1 ⟨rfl,rfl⟩)
    go_ret
    refine ⟨by rw [hE.out];rfl, ?_,HTT.out _⟩
    rw [hE.out]
    refine ⟨_,HB.out.set 0 _, ?_,HOK.out,HLE.out⟩
    rw [hdl.out]
    first
     |exact SB.zero _ _ _ _ _ (fun _=>rfl)
     |(rw [show st.l.length - cap=0 by omega];exact SB.zero _ _ _ _ _ (fun _=>rfl))
   ·go_enter Tryz.func50,Tryz.ntmps50
    go_wp2_with (go_at_call 80;refine (HDG.out _ H.out).mono ?_;rintro e w1 ⟨rfl,rfl⟩)
    go_ret
    refine ⟨by rw [hE.out];rfl, ?_,HTT.out _⟩
    rw [hE.out]
    exact ⟨_,HB.out.set 0 _,(HS.out.drop hnl _ _ rfl rfl).tch (HTT.out _) (.inr (Nat.le_refl _)),HOK.out,HLE.out⟩
 ·have hE:Hid (uintR m st=(0,giveS st d2)):=Hm (by unfold uintR;simp only [←hD];rw [if_pos hz])
  have hz1:(d2==0)=false:=by simpa using hz
  have hz2:(d2 !=0)=true:=by simpa using hz
  have HZ:=Hm hz
  clear hs hok hlc hnc hD hz
  go_enter Tryz.func50,Tryz.ntmps50
  go_wp2_with (first
   |(go_at_call 80;refine (HDG.out _ H.out).mono ?_;rintro e w1 ⟨rfl,rfl⟩)
   |(go_at_call 81;refine (giveUp_any g d st d2 _ H.out HZ.out).mono ?_;rintro e w2 ⟨rfl,hr,ht⟩;have HR:=Hm hr;have HT:=Hm ht;clear hr ht))
  go_ret
  exact ⟨by rw [hE.out];rfl,by rw [hE.out];exact HR.out,HT.out⟩
theorem i64_wrap (n:Int):IntKind.i64.wrap n=(n+9223372036854775808)%18446744073709551616 - 9223372036854775808:=by
 simp [IntKind.wrap,IntKind.signed,IntKind.bits];split<;>omega
theorem zag_bits {n:Nat} (h:n≤18446744073709551615):bits BinOp.xor IntKind.i64 ((n:Int) / 2) (wrap64 (-wrap64 (bits BinOp.and IntKind.u64 (n:Int) 1)))=zag n:=by
 have e1:bits BinOp.and IntKind.u64 (n:Int) 1=((n%2:Nat):Int):=by
  have:=bits_and_u64_nat n 1 (by omega) (by decide)
  rw [Nat.and_one_is_mod] at this;exact this
 have ha:(BitVec.ofInt 64 ((n:Int) / 2)).toNat=n / 2:=by
  rw [show ((n:Int) / 2)=((n / 2:Nat):Int) by omega,BitVec.ofInt_natCast,BitVec.toNat_ofNat];exact Nat.mod_eq_of_lt (by omega)
 rw [e1]
 unfold zag
 by_cases hn:n%2=1
 ·rw [if_pos hn,hn]
  have e2:wrap64 (-wrap64 ((1:Nat):Int))= -1:=by unfold wrap64;decide
  rw [e2]
  show IntKind.i64.wrap ((BitVec.ofInt 64 ((n:Int) / 2) ^^^ BitVec.ofInt 64 (-1)).toNat:Int)=_
  have e3:BitVec.ofInt 64 (-1)=BitVec.allOnes 64:=by decide
  rw [e3,BitVec.xor_allOnes,BitVec.toNat_not,ha,i64_wrap]
  omega
 ·rw [if_neg hn,show n%2=0 by omega]
  have e2:wrap64 (-wrap64 ((0:Nat):Int))=0:=by unfold wrap64;decide
  rw [e2]
  show IntKind.i64.wrap ((BitVec.ofInt 64 ((n:Int) / 2) ^^^ BitVec.ofInt 64 0).toNat:Int)=_
  have e3:BitVec.ofInt 64 0=0#64:=by decide
  rw [e3,BitVec.xor_zero,ha,i64_wrap]
  omega
theorem or_eight (v x n:Nat) (hv:v<256 ^ n):v|||x*256 ^ n=v+x*256 ^ n:=by
 have e:x*256 ^ n=2 ^ (8*n)*x:=by rw [Nat.pow_mul,Nat.mul_comm]
 have hv' :v<2 ^ (8*n):=by rw [Nat.pow_mul];exact hv
 rw [e,or_apart (8*n) x v hv',Nat.add_comm]
theorem ofBytes_snoc:∀(l:List Int) (x:Int),ofBytes (l++ [x])=ofBytes l+x.toNat*256 ^ l.length:=by
 intro l
 induction l with
 |nil=>intro x;simp [ofBytes]
 |cons y l ih=>intro x;rw [List.cons_append,ofBytes,ih,ofBytes,List.length_cons,Nat.pow_succ,Nat.mul_add,←Nat.mul_assoc,Nat.mul_comm 256 (x.toNat),Nat.mul_assoc,Nat.mul_comm 256 (256 ^ l.length)];omega
theorem word_or {v n:Nat} {x:Int} (hv:v<256 ^ n) (hn:n<8) (hx:0≤x) (hx1:x<256):
 bits BinOp.or IntKind.u64 (v:Int) (IntKind.u64.wrap (x*2 ^ (8*n)))=((v+x.toNat*256 ^ n:Nat):Int):=by
 have h1:256 ^ n≤256 ^ 7:=Nat.pow_le_pow_right (by decide) (by omega)
 have h2:(256:Nat) ^ 7=72057594037927936:=by decide
 have e:x*2 ^ (8*n)=((x.toNat*256 ^ n:Nat):Int):=by
  have h1:((2:Int) ^ (8*n))=((256 ^ n:Nat):Int):=by rw [show (256:Nat)=2 ^ 8 from rfl,←Nat.pow_mul,Int.natCast_pow];rfl
  rw [h1,Int.natCast_mul];congr 1;omega
 have h3:x.toNat*256 ^ n≤255*256 ^ n:=Nat.mul_le_mul_right _ (by omega)
 rw [e,u64_wrap',Int.emod_eq_of_lt (by omega) (by omega),bits_or_u64_nat _ _ (by omega) (by omega),or_eight _ _ _ hv]
theorem rtxt_any (g d:Nat) (st:RS) (m:Nat) (w:World) (h:RD w g d st) (hm0:0<m) (hm:m≤1000000):
 Calls Tryz.prog 147 #[.pointer (some ⟨g,0,none⟩), .int .i64 m] w (RPost g d w (.string (strOfNums (textR m st).1)) (textR m st).2):=by
 have H:=Hm h
 have HU:=Hm (fun w h=>ruint2_any g d st m w h (by omega))
 have hle:=uintR_le (st:=st) m
 unfold textR
 simp only
 generalize uintR m st=U at*
 obtain ⟨n,st1⟩:=U
 simp only at*
 have hn:n≤1000000:=by omega
 have HB:=Hm (fun w h=>rbytes_any g d st1 n w h (by omega))
 by_cases hk:st1.l.length<n
 ·have hE:Hid (bytesR n st1=([],giveS st1 1)):=Hm (by unfold bytesR;rw [if_pos hk])
  go_enter Tryz.func147,Tryz.ntmps147
  go_wp2_with (first
   |(go_at_call 50;refine (HU.out _ H.out).mono ?_;rintro e w1 ⟨rfl,hr,ht⟩;have HR:=Hm hr;have HT:=Hm ht;obtain ⟨v1,hb1,⟨a1,cap1,rfl, -, -, -⟩, -,hlen1⟩:=hr;have hc1:=hb1.cell;clear ht hb1)
   |(go_at_call 81;refine (giveUp_any g d st1 1 _ HR.out (by decide)).mono ?_;rintro e w2 ⟨rfl,hr2,ht2⟩;have HR2:=Hm hr2;have HT2:=Hm ht2;clear hr2 ht2))
  go_ret
  refine ⟨?_,by rw [hE.out];exact HR2.out,HT.out.trans HT2.out⟩
  rw [hE.out];rfl
 ·have hk' :n≤st1.l.length:=by omega
  go_enter Tryz.func147,Tryz.ntmps147
  go_wp2_with (first
   |(go_at_call 50;refine (HU.out _ H.out).mono ?_;rintro e w1 ⟨rfl,hr,ht⟩;have HR:=Hm hr;have HT:=Hm ht;obtain ⟨v1,hb1,⟨a1,cap1,rfl, -, -, -⟩, -,hlen1⟩:=hr;have hc1:=hb1.cell;clear ht hb1)
   |(go_at_call 79;refine (HB.out _ HR.out).mono ?_;rintro e w2 ⟨v2,rfl,hsb,hr2,ht2⟩;have hcv:=conv_Sl hsb.sl;have HR2:=Hm hr2;have HT2:=Hm ht2;clear hr2 ht2 hsb))
  go_ret
  exact ⟨rfl,HR2.out,HT.out.trans HT2.out⟩
theorem rbyte_any (g d:Nat) (st:RS) (w:World) (h:RD w g d st):
 Calls Tryz.prog 49 #[.pointer (some ⟨g,0,none⟩)] w (RPost g d w (.int .u8 (byteR st).1) (byteR st).2):=by
 have H:=Hm h
 have HB:=Hm (fun w h=>rbytes_any g d st 1 w h (by omega))
 unfold byteR
 simp only
 by_cases hk:st.l.length<1
 ·have hE:bytesR 1 st=([],giveS st 1):=by unfold bytesR;rw [if_pos hk]
  rw [hE] at HB⊢
  clear hE h hk
  go_enter Tryz.func49,Tryz.ntmps49
  go_wp2_with (first
   |(go_at_call 79;refine (HB.out _ H.out).mono ?_;rintro e w2 ⟨v2,rfl,⟨a2,cap2,rfl, -, -, -⟩,hr2,ht2⟩;have HR2:=Hm hr2;have HT2:=Hm ht2;clear hr2 ht2))
  go_ret
  exact ⟨rfl,HR2.out,HT2.out⟩
 ·have hE:bytesR 1 st=(st.l.take 1,⟨st.l.drop 1,st.e⟩):=by unfold bytesR;rw [if_neg hk]
  obtain ⟨x,L,hx⟩:∃x L,st.l=x::L:=by
   cases hL:st.l with
   |nil=>rw [hL] at hk;simp at hk
   |cons x L=>exact ⟨x,L,rfl⟩
  have hE2:bytesR 1 st=([x],⟨L,st.e⟩):=by rw [hE,hx];rfl
  rw [hE2] at HB⊢
  clear hE hE2 h hk hx
  go_enter Tryz.func49,Tryz.ntmps49
  go_wp2_with (first
   |(go_at_call 79;refine (HB.out _ H.out).mono ?_;rintro e w2 ⟨v2,rfl,⟨a2,cap2,rfl, -, -,hs2⟩,hr2,ht2⟩;obtain ⟨b2,o2,rfl,hcx⟩:∃b o,a2=some ⟨b,o,none⟩∧w2.cell? ⟨b,o,none⟩=some (.int .u8 x):=(by rcases hs2 with h0|⟨b,o,ha,hb,hne,hc⟩;(cases h0);exact ⟨b,o,ha,hc 0 Nat.one_pos⟩);have HR2:=Hm hr2;have HT2:=Hm ht2;clear hr2 ht2 hs2))
  go_ret
  exact ⟨rfl,HR2.out,HT2.out⟩
theorem rint_any (g d:Nat) (st:RS) (w:World) (h:RD w g d st):
 Calls Tryz.prog 151 #[.pointer (some ⟨g,0,none⟩)] w (RPost g d w (.int .i64 (intR st).1) (intR st).2):=by
 have H:=Hm h
 have HU:=Hm (fun w h=>ruint2_any g d st 18446744073709551615 w h (by omega))
 have hle:=uintR_le (st:=st) 18446744073709551615
 unfold intR
 simp only
 generalize uintR 18446744073709551615 st=U at*
 obtain ⟨n,st1⟩:=U
 simp only at*
 clear h
 go_enter Tryz.func151,Tryz.ntmps151
 go_wp2_with (go_at_call 50;refine (HU.out _ H.out).mono ?_;rintro e w1 ⟨rfl,hr,ht⟩;have HR:=Hm hr;have HT:=Hm ht;clear hr ht)
 go_ret
 exact ⟨ret_int (zag_bits hle),HR.out,HT.out⟩
theorem rword2_any (g d:Nat) (st:RS) (w:World) (h:RD w g d st):
 Calls Tryz.prog 150 #[.pointer (some ⟨g,0,none⟩)] w (RPost g d w (.int .u64 (wordR st).1) (wordR st).2):=by
 have H:=Hm h
 have HB:=Hm (fun w h=>rbytes_any g d st 8 w h (by omega))
 have hib:isB (bytesR 8 st).1:=by obtain ⟨_,_,_,hok,_⟩:=h;exact bytesR_isB hok 8
 have hl8:(bytesR 8 st).1.length≤8:=by unfold bytesR;split<;>simp<;>omega
 unfold wordR
 simp only
 generalize bytesR 8 st=U at*
 obtain ⟨L,st1⟩:=U
 simp only at*
 have HIB:=Hm hib
 clear h hib
 go_enter Tryz.func150,Tryz.ntmps150
 go_wp2_with (go_at_call 79;refine (HB.out _ H.out).mono ?_;rintro e w2 ⟨v2,rfl,⟨a2,cap2,rfl, -, -,hs2⟩,hr2,ht2⟩;have HCX:Hid (∀k,k<L.length→∃b o,a2=some ⟨b,o,none⟩∧w2.cell? ⟨b,o+k,none⟩=some (.int .u8 (L.getD k 0))):=Hm (fun k hk=>by rcases hs2 with h0|⟨b,o,ha,hb,hne,hc⟩;(subst h0;cases hk);exact ⟨b,o,ha,hc k hk⟩);have HR2:=Hm hr2;have HT2:=Hm ht2;clear hr2 ht2 hs2)
 go_loop [3,9] (fun v i=>∃k:Nat,k≤L.length∧i= .int .i64 k∧v= .int .u64 (ofBytes (L.take k))) (fun _ i=>L.length - (intOf i).toNat)
 case atStart=>exact ⟨0,Nat.zero_le _,rfl,rfl⟩
 case round=>
  obtain ⟨k,hk,rfl,rfl⟩:=hrel
  by_cases hlt:k<L.length
  ·obtain ⟨b,o,rfl,hx⟩:=HCX.out k hlt
   have hxr:0≤L.getD k 0∧L.getD k 0<256:=HIB.out _ (by rw [List.getD_eq_getElem?_getD,List.getElem?_eq_getElem hlt];exact List.getElem_mem hlt)
   have hT:L.take (k+1)=L.take k++ [L.getD k 0]:=by
    rw [List.take_succ_eq_append_getElem hlt];simp [List.getD,List.getElem?_eq_getElem hlt]
   have hlk:(L.take k).length=k:=by simp;omega
   have hO:=ofBytes_snoc (L.take k) (L.getD k 0)
   rw [←hT,hlk] at hO
   have hv:=ofBytes_lt (L.take k) (HIB.out.take k)
   rw [hlk] at hv
   have hW:=word_or (x:=L.getD k 0) hv (by omega) hxr.1 hxr.2
   rw [←hO] at hW
   clear hT hlk hO hv
   generalize L.getD k 0=x at*
   generalize ofBytes (L.take k)=v at*
   generalize hv2:ofBytes (L.take (k+1))=v2 at*
   have HV2:=Hm hv2
   have HW:=Hm hW
   clear hv2 hW
   obtain ⟨hx0,hx1⟩:=hxr
   go_wp2
   go_round
   case rel=>exact ⟨k+1,by omega,by go_num,by rw [HV2.out,←HW.out]⟩
   case measure=>simp [intOf];omega
  ·obtain rfl:k=L.length:=by omega
   have HO:Hid (L.take L.length=L):=Hm (List.take_length)
   go_wp2
   go_ret
   exact ⟨ret_int (by first|rfl|rw [HO.out]),HR2.out,HT2.out⟩
def boolC (b:Bool):List Value:= [.bool b]
theorem boolC_at {w wr:World} {b o:Nat} {l:List Bool} {k:Nat} (hk:k<l.length) (hc:∀j,j<1→w.cell? ⟨b,o+k*1+j,none⟩=((l.map boolC).getD k [])[j]?) (hb:b<w.heap.size) (hE:Ext w wr):
 wr.cell? ⟨b,o+k,none⟩=some (.bool l[k]):=by
 rw [getD_map boolC l hk] at hc
 have:=hc 0 (by omega)
 rw [Nat.mul_one,Nat.add_zero] at this
 exact (hE.cells.1 b _ hb).trans this
theorem counted_yes (n:Nat) (w:World) (h:n≤16):Calls Tryz.prog 145 #[.int .i64 n] w fun e w' =>e= .returned (.bool true)∧w=w' :=by
 go_enter Tryz.func145,Tryz.ntmps145
 go_wp2
 go_ret
 exact ⟨ret_bool (by first|(simp;done)|(simp;omega)),rfl⟩
theorem msize_any (n:Nat) (w:World) (h:n≤16):Calls Tryz.prog 109 #[.int .i64 n] w fun e w' =>e= .returned (.int .i64 (mapSize n:Nat))∧w=w' :=by
 have HC:=Hm (fun w=>counted_yes n w h)
 go_enter Tryz.func109,Tryz.ntmps109
 go_wp2_with (go_at_call 145;refine (HC.out _).mono ?_;rintro e w1 ⟨rfl,rfl⟩)
 go_ret
 exact ⟨ret_int (by unfold mapSize;omega),rfl⟩
theorem rmsize_any (n:Nat) (w:World) (h:n≤16):Calls Tryz.prog 58 #[.int .i64 n] w fun e w' =>e= .returned (.int .i64 (mapSize n:Nat))∧w=w' :=by
 by_cases h0:n=0
 ·subst h0
  go_enter Tryz.func58,Tryz.ntmps58
  go_wp2
  go_ret
  exact ⟨rfl,rfl⟩
 ·have h0' :((n:Int)==0)=false:=by simpa using h0
  go_enter Tryz.func58,Tryz.ntmps58
  go_wp2
  all_goals
   go_ret
   exact ⟨ret_int (by unfold mapSize;omega),rfl⟩
theorem u8_wrap' (n:Int):IntKind.u8.wrap n=n%256:=by
 simp [IntKind.wrap,IntKind.signed,IntKind.bits]
theorem cells_new' (w:World) (cs:Array Value) (t:TypeId) {b:Nat} (h:b=w.heap.size):∀j u,cs.toList[j]? =some u→(w.alloc (.cells cs t)).cell? ((⟨b,0,none⟩:Addr).add j)=some u:=by subst h;exact cells_new w cs t
theorem Tryz.infoBool:(Tryz.prog.info? 4).map (fun i=>(i.zero,i.size,i.bytes))=some (some (.bool false),1,1):=by kernel_rfl
theorem bits_and_u8_nat (a b:Nat) (ha:a<256) (hb:b<256):bits .and .u8 (a:Int) (b:Int)=((a&&&b:Nat):Int):=by
 have hx:a&&&b<2 ^ 8:=Nat.and_lt_two_pow _ (by omega)
 have h1:(BitVec.ofInt 8 (a:Int)).toNat=a:=by
  rw [BitVec.ofInt_natCast,BitVec.toNat_ofNat];exact Nat.mod_eq_of_lt (by omega)
 have h2:(BitVec.ofInt 8 (b:Int)).toNat=b:=by
  rw [BitVec.ofInt_natCast,BitVec.toNat_ofNat];exact Nat.mod_eq_of_lt (by omega)
 show IntKind.u8.wrap ((BitVec.ofInt 8 (a:Int)&&&BitVec.ofInt 8 (b:Int)).toNat:Int)=_
 rw [BitVec.toNat_and,h1,h2,u8_wrap']
 omega
def UnPost (b:List Int) (n:Nat) (w:World) (e:Ending) (w' :World):Prop:=
 ∃a c,e= .returned (.tuple #[.slice a (unmapL b n).1.length c, .int .i64 (unmapL b n).2])∧Sl w' (.slice a (unmapL b n).1.length c) 1 ((unmapL b n).1.map boolC)∧(∀k o,a=some ⟨k,o,none⟩→w.heap.size≤k)∧Ext w w'
theorem owns_at {w:World} {base:Nat} {e:TypeId} {size n m c:Nat} {a:Option Addr} {xs:List Value} (h:w.ownsRow base e size (.slice a m c) n xs):∀k o,a=some ⟨k,o,none⟩→base≤k:=by
 intro k o e
 subst e
 rcases h.2 with ⟨h3,_⟩|⟨g,cap,cur,hv,hb,_⟩
 ·cases h3
 ·simp only [Value.slice.injEq,Option.some.injEq,Addr.mk.injEq] at hv
  rw [hv.1.1];exact hb
theorem UnPost.bad {b:List Int} {n:Nat} {w w' :World} (h:unmapL b n=([],3)) (hE:Ext w w'):UnPost b n w (.returned (.tuple #[.slice none 0 0, .int .i64 3])) w' :=by
 unfold UnPost;rw [h];exact ⟨none,0,rfl,⟨none,0,rfl, .inl rfl⟩,(fun _ _ e=>by cases e),hE⟩
theorem UnPost.ok {b:List Int} {n m:Nat} {l:List Bool} {w w' :World} {a:Option Addr} {c:Nat} (h:unmapL b n=(l,0)) (hm:m=l.length) (hs:Sl w' (.slice a m c) 1 (l.map boolC)) (ha:∀k o,a=some ⟨k,o,none⟩→w.heap.size≤k) (hE:Ext w w'):UnPost b n w (.returned (.tuple #[.slice a m c, .int .i64 0])) w' :=by
 unfold UnPost;rw [h];subst hm;exact ⟨a,c,rfl,hs,ha,hE⟩
theorem boolC_len {l:List Bool} :∀xs∈l.map boolC,xs.length=1:=by intro xs hxs;simp at hxs;rcases hxs with ⟨_,rfl⟩|⟨_,rfl⟩<;>rfl
theorem unbits_flat (v k:Nat):((unbits v (k+1)).map boolC).flatten=((unbits v k).map boolC).flatten++boolC (bitAt v k):=by rw [unbits_snoc];simp
theorem unpack_any (b:List Int) (n:Nat) (a:Option Addr) (cap:Nat) (w:World) (hl:Sl w (.slice a b.length cap) 1 (b.map bcell)) (hb:isB b) (h16:n≤16) (hn:b.length=mapSize n):
 Calls Tryz.prog 110 #[.slice a b.length cap, .int .i64 n] w (UnPost b n w):=by
 obtain ⟨i0,hi,hz0,hz1,hz2⟩:=info_parts Tryz.infoBool
 have HC:=Hm (fun w=>counted_yes n w h16)
 have HZ:=Hm (fun w=>msize_any n w h16)
 rw [←hn] at HZ
 have hb2:b.length≤2:=by rw [hn];unfold mapSize;omega
 have hn8:n≤8*b.length:=by rw [hn];unfold mapSize;omega
 have HL:=Hm hl
 have HB:=Hm hb
 have HN:=Hm hn
 clear hl hb hn
 go_enter Tryz.func110,Tryz.ntmps110
 go_wp2_with (first
  |(go_at_call 145;refine (HC.out _).mono ?_;rintro e w1 ⟨rfl,rfl⟩)
  |(go_at_call 109;refine (HZ.out _).mono ?_;rintro e w1 ⟨rfl,rfl⟩))
 go_loopw [6,28] (fun v i wr=>∃k:Nat,k≤8*b.length∧i= .int .i64 k∧Hid (wr.ownsRow w.heap.size 4 1 v (min k n) (((unbits (ofBytes b) (min k n)).map boolC).flatten))∧Hid (∀j,n≤j→j<k→bitAt (ofBytes b) j=false)∧Hid (Ext w wr)) (fun _ i _=>8*b.length - (intOf i).toNat)
 case atStart=>exact ⟨0,Nat.zero_le _,rfl,Hm (by rw [Nat.zero_min];exact World.ownsRow_nil _ _ _ _),Hm (fun j _ h=>by omega),Hm (by exact eX)⟩
 case round=>
  obtain ⟨k,hk,rfl,hown,hrel,hE⟩:=hrel
  by_cases hlt:k<8*b.length
  ·have hk8:k / 8<b.length:=by omega
   obtain ⟨bb,o,rfl,hbb,hx⟩:=HL.out.at_ (i:=k / 8) (by simpa using hk8)
   have hxv:=HB.out _ (List.getElem_mem hk8)
   obtain ⟨x,hxn⟩:∃x:Nat,b[k / 8]=(x:Int):=⟨b[k / 8].toNat,by omega⟩
   have f0:wr.cell? ⟨bb,o+k / 8,none⟩=some (.int .u8 (x:Int)):=by
    rw [hE.out.cells.1 _ _ hbb]
    have:=hx 0 (by omega)
    rw [Nat.mul_one,Nat.add_zero,getD_map bcell b hk8,hxn] at this
    exact this
   have hbit:=ofBytes_bit b k HB.out hlt
   have hgd:(b.getD (k / 8) 0).toNat=x:=by simp [List.getD,hk8,hxn]
   rw [hgd] at hbit
   have hx256:x<256:=by omega
   have hbw:bb<wr.heap.size:=Nat.lt_of_lt_of_le hbb hE.out.size
   have hy:x / 2 ^ (k%8)<256:=Nat.lt_of_le_of_lt (Nat.div_le_self _ _) hx256
   have hand:bits BinOp.and IntKind.u8 ((x:Int) / 2 ^ (k%8)) 1=((x / 2 ^ (k%8)%2:Nat):Int):=by
    rw [show ((x:Int) / 2 ^ (k%8))=((x / 2 ^ (k%8):Nat):Int) by simp]
    have:=bits_and_u8_nat (x / 2 ^ (k%8)) 1 hy (by decide)
    rw [Nat.and_one_is_mod] at this
    exact this
   obtain ⟨y,hye⟩:∃y:Nat,y=x / 2 ^ (k%8):=⟨_,rfl⟩
   rw [←hye] at hand hbit hy
   have hw8:IntKind.i64.wrap ((k:Int) / 8)=(k:Int) / 8:=by rw [i64_wrap];omega
   have hnn8:((k:Int) / 8).toNat=k / 8:=by omega
   have h08:0≤(k:Int) / 8:=by omega
   have hl8:(k:Int) / 8<((b.length:Nat):Int):=by omega
   have HBIT:=Hm hbit
   clear hx hxv hgd hye hx256 hxn hbit
   by_cases hkn:k<n
   ·have hmin:min (k+1) n=k+1:=by omega
    have hmin0:min k n=k:=by omega
    have HT:=Hm (unbits_flat (ofBytes b) k)
    rw [hmin0] at hown
    obtain ⟨q,hq⟩:∃q,q=bitAt (ofBytes b) k:=⟨_,rfl⟩
    rw [←hq] at HT
    have hdq:(((y%2:Nat):Int)==1)=q:=by
     rw [hq,HBIT.out];by_cases h:y%2=1<;>simp [h]<;>omega
    obtain ⟨z,hz⟩:∃z:Nat,z=y%2:=⟨_,rfl⟩
    rw [←hz] at hand hdq
    clear hq hz
    go_wp2_with (at_builtin;refine wpList_append_own _ rfl _ _ 147 rfl w.heap.size 4 i0 _ 1 1 Tryz.underlying147 hi hz0 hz1 hz2 rfl (by decide) _ _ _ rfl (hown.out.alloc _) ⟨_,0,none⟩ 1 1 (boolC q) rfl rfl ?c1 ?c2 ?c3 ?c4 ?c5 ?_)
    case c1=>exact cells_new' _ #[.bool q] _ (by simp)
    case c2=>intro u hu;simp [boolC] at hu;subst hu;rfl
    case c3=>unfold maxLen;omega
    case c4=>omega
    case c5=>have:=hE.out.size;simp;omega
    intro v' w2 hown' hgrow _
    have HE2:=Hm (Below.grown (hE.out.alloc (.cells #[.bool q] 4)) hgrow (by have:=hE.out.size;simp;omega) (fun g hg=>(hown.out.lt g hg).1))
    have HO2:=Hm hown'
    clear hown' hgrow
    go_wp2
    go_roundw
    case rel=>exact ⟨k+1,by omega,by go_num,Hm (by rw [hmin,HT.out];exact HO2.out),Hm (fun j h1 h2=>by omega),HE2⟩
    case measure=>simp [intOf];omega
   ·have hmin:min (k+1) n=min k n:=by omega
    have hkn' :n≤k:=by omega
    by_cases hbt:bitAt (ofBytes b) k=true
    ·have HR:=Hm (unmap_bad hbt hkn')
     have h1:y%2=1:=by rw [HBIT.out] at hbt;simpa using hbt
     rw [h1] at hand
     clear hbt
     go_wp2
     go_ret2
     exact UnPost.bad HR.out hE.out
    ·have HF:=Hm hbt
     have h1:y%2=0:=by
      have h2:=HF.out;rw [HBIT.out] at h2;simp at h2;omega
     rw [h1] at hand
     clear hbt
     go_wp2
     go_roundw
     case rel=>exact ⟨k+1,by omega,by go_num,Hm (by rw [hmin];exact hown.out),Hm (fun j h1 h2=>by
      by_cases e:j=k
      ·subst e;simpa using HF.out
      ·exact hrel.out j h1 (by omega)),hE⟩
     case measure=>simp [intOf];omega
  ·have hkk:k=8*b.length:=by omega
   subst hkk
   have hmin:min (8*b.length) n=n:=by omega
   rw [hmin] at hown
   have HR:=Hm (unmap_ok HB.out hn8 (fun j h1 h2=>hrel.out j h1 h2))
   obtain ⟨a',c',rfl⟩:=owns_shape hown.out
   go_wp2
   go_ret2
   exact UnPost.ok HR.out (unbits_len _ _).symm (Sl.of_owns (base:=w.heap.size) (e:=4) (xss:=(unbits (ofBytes b) n).map boolC) (by rw [List.length_map,unbits_len];exact hown.out) boolC_len) (owns_at hown.out) hE.out
theorem ofBytes_at {b:List Int} {k:Nat} (hk:k<b.length):ofBytes (b.drop k)=(b[k]).toNat+256*ofBytes (b.drop (k+1)):=by
 rw [List.drop_eq_getElem_cons hk,ofBytes]
theorem bit_div (v k:Nat):bitAt v k=decide (v / 2 ^ k%2=1):=rfl
theorem runpack_any (b:List Int) (n:Nat) (a:Option Addr) (cap:Nat) (w:World) (hl:Sl w (.slice a b.length cap) 1 (b.map bcell)) (hb:isB b) (h16:n≤16) (hn:b.length=mapSize n):
 Calls Tryz.prog 59 #[.slice a b.length cap, .int .i64 n] w (UnPost b n w):=by
 obtain ⟨i0,hi,hz0,hz1,hz2⟩:=info_parts Tryz.infoBool
 have HZ:=Hm (fun w=>rmsize_any n w h16)
 rw [←hn] at HZ
 have hb2:b.length≤2:=by rw [hn];unfold mapSize;omega
 have HUN:Hid (unmapL b n=if ofBytes b / 2 ^ n>0 then ([],3) else (unbits (ofBytes b) n,0)):=Hm rfl
 have HL:=Hm hl
 have HB:=Hm hb
 clear hl hb hn
 go_enter Tryz.func59,Tryz.ntmps59
 go_wp2_with (go_at_call 58;refine (HZ.out _).mono ?_;rintro e w1 ⟨rfl,rfl⟩)
 go_loopw [6,7] (fun v i wr=>∃j:Nat,j≤b.length∧i= .int .i64 ((j:Int) - 1)∧v= .int .i64 (ofBytes (b.drop j):Nat)∧Hid (Ext w wr)) (fun _ i _=>(intOf i+1).toNat)
 case atStart=>exact ⟨b.length,Nat.le_refl _,rfl,by rw [List.drop_length];rfl,Hm (by exact eX)⟩
 case round=>
  obtain ⟨j,hj,rfl,rfl,hE⟩:=hrel
  have hbd:=ofBytes_lt (b.drop j) (HB.out.drop j)
  rw [List.length_drop] at hbd
  have hp:256 ^ (b.length - j)≤65536:=Nat.le_trans (Nat.pow_le_pow_right (by decide) (show b.length - j≤2 by omega)) (by decide)
  by_cases h0:0<j
  ·obtain ⟨k,rfl⟩:∃k,j=k+1:=⟨j - 1,by omega⟩
   have hlt:k<b.length:=by omega
   obtain ⟨bb,o,rfl,hbb,hx⟩:=HL.out.at_ (i:=k) (by simpa using hlt)
   have hxv:=HB.out _ (List.getElem_mem hlt)
   obtain ⟨x,hxn⟩:∃x:Nat,b[k]=(x:Int):=⟨b[k].toNat,by omega⟩
   have f0:wr.cell? ⟨bb,o+k,none⟩=some (.int .u8 (x:Int)):=by
    rw [hE.out.cells.1 _ _ hbb]
    have:=hx 0 (by omega)
    rw [Nat.mul_one,Nat.add_zero,getD_map bcell b hlt,hxn] at this
    exact this
   have hbw:bb<wr.heap.size:=Nat.lt_of_lt_of_le hbb hE.out.size
   have HD:=Hm (ofBytes_at hlt)
   rw [hxn,Int.toNat_natCast] at HD
   have hx256:x<256:=by omega
   have hp2:256 ^ (b.length - (k+1))≤256:=Nat.le_trans (Nat.pow_le_pow_right (by decide) (show b.length - (k+1)≤1 by omega)) (by decide)
   obtain ⟨N,hN⟩:∃N,N=ofBytes (b.drop (k+1)):=⟨_,rfl⟩
   rw [←hN] at hbd HD⊢
   have hN2:N<256:=by omega
   have hki:((k+1:Nat):Int) - 1=(k:Int):=by omega
   rw [hki]
   have hwx:IntKind.i64.wrap (x:Int)=(x:Int):=by rw [i64_wrap];omega
   clear hx hN hp hbd hxv hxn hp2
   go_wp2
   go_roundw
   case rel=>exact ⟨k,by omega,by go_num,by rw [HD.out];congr 1;simp;omega,hE⟩
   case measure=>first|(simp [intOf];done)|(simp [intOf];omega)
  ·obtain rfl:j=0:=by omega
   rw [List.drop_zero] at hbd⊢
   obtain ⟨N,hN⟩:∃N,N=ofBytes b:=⟨_,rfl⟩
   rw [←hN] at hbd HUN⊢
   have hN2:N<65536:=by omega
   have HEw:=hE
   have e0:((0:Nat):Int) - 1= -1:=rfl
   rw [e0]
   clear hN hp hbd HL hE e0
   go_wp2
   rename World=>wq
   go_loopw [6,8,9] (fun v u i wr=>∃k:Nat,k≤n∧i= .int .i64 k∧v= .int .i64 (N / 2 ^ k:Nat)∧Hid (wr.ownsRow w.heap.size 4 1 u k (((unbits N k).map boolC).flatten))∧Hid (Ext w wr)) (fun _ _ i _=>n - (intOf i).toNat)
   case atStart=>exact ⟨0,Nat.zero_le _,rfl,by simp,Hm (World.ownsRow_nil _ _ _ _),HEw⟩
   case round=>
    obtain ⟨k,hk,rfl,rfl,hown,hE⟩:=hrel
    have hMle:N / 2 ^ k<65536:=Nat.lt_of_le_of_lt (Nat.div_le_self _ _) hN2
    by_cases hlt:k<n
    ·have HT:=Hm (unbits_flat N k)
     have HB2:=Hm (bit_div N k)
     have HS:=Hm (show N / 2 ^ (k+1)=N / 2 ^ k / 2 by rw [Nat.pow_succ,Nat.div_div_eq_div_mul])
     obtain ⟨M,hM⟩:∃M,M=N / 2 ^ k:=⟨_,rfl⟩
     rw [←hM] at hMle HB2 HS⊢
     obtain ⟨q,hq⟩:∃q,q=bitAt N k:=⟨_,rfl⟩
     rw [←hq] at HT HB2
     have hdq:((M:Int)%2==1)=q:=by
      rw [HB2.out,show (M:Int)%2=((M%2:Nat):Int) by omega];by_cases h:M%2=1<;>simp [h]<;>omega
     have hw2:IntKind.i64.wrap ((M:Int) / 2)=(M:Int) / 2:=by rw [i64_wrap];omega
     clear hM hq
     go_wp2_with (at_builtin;refine wpList_append_own _ rfl _ _ 147 rfl w.heap.size 4 i0 _ 1 1 Tryz.underlying147 hi hz0 hz1 hz2 rfl (by decide) _ _ _ rfl (hown.out.alloc _) ⟨_,0,none⟩ 1 1 (boolC q) rfl rfl ?c1 ?c2 ?c3 ?c4 ?c5 ?_)
     case c1=>exact cells_new' _ #[.bool q] _ (by simp)
     case c2=>intro u hu;simp [boolC] at hu;subst hu;rfl
     case c3=>unfold maxLen;omega
     case c4=>omega
     case c5=>have:=hE.out.size;simp;omega
     intro v' w2 hown' hgrow _
     have HE2:=Hm (Below.grown (hE.out.alloc (.cells #[.bool q] 4)) hgrow (by have:=hE.out.size;simp;omega) (fun g hg=>(hown.out.lt g hg).1))
     have HO2:=Hm hown'
     clear hown' hgrow
     go_wp2
     go_roundw
     case rel=>exact ⟨k+1,by omega,by go_num,by rw [HS.out];simp,Hm (by rw [HT.out];exact HO2.out),HE2⟩
     case measure=>simp [intOf];omega
    ·obtain rfl:k=n:=by omega
     obtain ⟨a',c',rfl⟩:=owns_shape hown.out
     by_cases hpos:N / 2 ^ k>0
     ·have HR:=Hm (HUN.out.trans (if_pos hpos))
      obtain ⟨M,hM⟩:∃M,M=N / 2 ^ k:=⟨_,rfl⟩
      rw [←hM] at hMle hpos⊢
      clear hM
      go_wp2
      go_ret2
      exact UnPost.bad HR.out hE.out
     ·have HR:=Hm (HUN.out.trans (if_neg hpos))
      have h0:N / 2 ^ k=0:=by generalize N / 2 ^ k=q at hpos;omega
      rw [h0]
      clear hMle hpos h0
      go_wp2
      go_ret2
      exact UnPost.ok HR.out (unbits_len _ _).symm (Sl.of_owns (base:=w.heap.size) (e:=4) (xss:=(unbits N k).map boolC) (by rw [List.length_map,unbits_len];exact hown.out) boolC_len) (owns_at hown.out) hE.out
end Go.Proofs.YtodbhliidbclcaaGreat
