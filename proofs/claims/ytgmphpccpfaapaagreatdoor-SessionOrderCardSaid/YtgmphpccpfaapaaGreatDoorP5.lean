/-
The laws' Own of a relation and of a row, once more: what they give lies in blocks of their own.
-/
import Derived.Deep.RegionHeld
import Derived.Test.YtgmphpccpfaapaaGreatDoorP4
set_option maxRecDepth 100000
set_option maxHeartbeats 16000000
namespace Go.Proofs.YtgmphpccpfaapaaGreatDoor
open Go.RowKit
def Fr (W:World) (N M:Nat) (v:Value) (k:Nat) (xss:List (List Value)):Prop:=Sl W v k xss∧∀b o len cap,v= .slice (some ⟨b,o,none⟩) len cap→N≤b∧(xss≠ []→b<M)
section
variable {W W' : World} {N M k : Nat} {v : Value} {xss : List (List Value)}
theorem Fr.ext (h:Fr W N M v k xss) (he:Ext W W'):Fr W' N M v k xss:=⟨h.1.ext he,h.2⟩
theorem Fr.drew (h:Fr W N M v k xss):Fr W.drew N M v k xss:=h.ext (Ext.refl W).drew
theorem Fr.alloc (h:Fr W N M v k xss) (o:Obj):Fr (W.alloc o) N M v k xss:=h.ext ((Ext.refl W).alloc o)
theorem Fr.set (h:Fr W N M v k xss) {p:Addr} (hp:p.block<N∨M≤p.block) (u:Value):Fr (W.setCell p u) N M v k xss:=by
 obtain ⟨h1,h2⟩:=h
 refine ⟨?_,h2⟩
 obtain ⟨a,cap,rfl,h⟩:=h1
 refine ⟨a,cap,rfl, ?_⟩
 rcases h with h0|⟨b,o,rfl,hb,hx⟩
 ·exact .inl h0
 ·by_cases h0:xss= []
  ·exact .inl h0
  ·have h3:=h2 b o _ _ rfl
   have h4:=h3.2 h0
   have h5:=h3.1
   refine .inr ⟨b,o,rfl,by simpa using hb,fun i hi j hj=> ?_⟩
   rw [←hx i hi j hj]
   exact World.cell?_setCell_far _ _ _ _ (by show p.block≠b;omega)
theorem Fr.sl (h:Fr W N M v k xss):Sl W v k xss:=h.1
theorem Fr.new {a:Option Addr} {n cap:Nat} (h:Sl W (.slice a n cap) k xss) (h2:∀b o,a=some ⟨b,o,none⟩→N≤b):Fr W N W.heap.size (.slice a n cap) k xss:=by
 refine ⟨h,fun b o len c e=> ?_⟩
 simp only [Value.slice.injEq] at e
 obtain ⟨rfl,rfl,rfl⟩:=e
 refine ⟨h2 b o rfl,fun h0=> ?_⟩
 obtain ⟨a,c,hv,h⟩:=h
 simp only [Value.slice.injEq] at hv
 obtain ⟨rfl, -, -⟩:=hv
 rcases h with rfl|⟨b',o',e,hb, -⟩
 ·exact absurd rfl h0
 ·simp only [Option.some.injEq,Addr.mk.injEq] at e
  rw [e.1];exact hb
end
theorem ownK_new (l:List K) (a:Option Addr) (cap:Nat) (w:World) (hl:Sl w (.slice a l.length cap) 6 (l.map K.rc)) (hlen:l.length≤1000):
 Calls Tryz.prog 44 #[.slice a l.length cap] w fun e w' =>∃a' cap',e= .returned (.slice a' l.length cap')∧l.length≤cap'∧Sl w' (.slice a' l.length cap') 5 (l.map K.pc)∧(∀b o,a' =some ⟨b,o,none⟩→w.heap.size≤b)∧Ext w w' :=by
 have HL:=Hm hl
 clear hl
 obtain ⟨i0,hi,hz0,hz1,hz2⟩:=info_parts Tryz.infoCellP
 go_enter Tryz.func44,Tryz.ntmps44
 go_wp2
 go_loopw [3,4] (fun v i wr=>∃k:Nat,k≤l.length∧i= .int .i64 k∧Hid (wr.ownsRow w.heap.size 164 5 v k ((l.map K.pc).take k).flatten)∧Hid (Ext w wr)) (fun _ i _=>l.length - (intOf i).toNat)
 case atStart=>exact ⟨0,Nat.zero_le _,rfl,World.ownsRow_nil _ _ _ _,Ext.refl _⟩
 case round=>
  obtain ⟨k,hk,rfl,hown,hE⟩:=hrel
  by_cases hlt:k<l.length
  ·obtain ⟨b,o,rfl,hb,hx⟩:=HL.out.at_ (i:=k) (by simpa using hlt)
   obtain ⟨f0,f1,f2,f3,f4,f5⟩:=K.rcAt hlt hx hb hE.out
   have hbw:b<wr.heap.size:=Nat.lt_of_lt_of_le hb hE.out.size
   have HT:=Hm (flat_snoc (f:=K.pc) hlt)
   have HC:=Hm (fun w=>cown_any l[k].k l[k].v.ty l[k].v.n l[k].v.x l[k].v.y l[k].v.s w)
   simp only [Int.toNat_natCast] at HC
   obtain ⟨c,hc⟩:∃c,c=l[k]:=⟨_,rfl⟩
   rw [←hc] at f0 f1 f2 f3 f4 f5 HT HC
   clear hc hx
   go_wp2_with (first
    |(go_at_call 76;refine (HC.out _).mono ?_;rintro e w1 ⟨rfl,hb1⟩;have HB1:=Hm hb1;have hz1' :=hb1.size;clear hb1)
    |(at_builtin;refine wpList_append_own _ rfl _ _ 74 rfl w.heap.size 164 i0 _ 5 56 Tryz.underlying74 hi hz0 hz1 hz2 rfl (by decide) _ _ _ rfl ((owns_ext hown.out HB1.out).alloc _) ⟨_,0,none⟩ 1 1 c.pc rfl rfl ?c1 ?c2 ?c3 ?c4 ?c5 ?_))
   case c1=>exact cells_new _ #[.int .u8 c.k, .int .u8 c.v.ty, .int .i64 c.v.n, .complex .f64 c.v.x c.v.y, .string c.v.s] _
   case c2=>intro u hu;simp [K.pc] at hu;rcases hu with rfl|rfl|rfl|rfl|rfl<;>rfl
   case c3=>unfold maxLen;omega
   case c4=>omega
   case c5=>have:=(hE.out.trans HB1.out).size;simp;omega
   ·intro v' w2 hown' hgrow _
    have HE2:=Hm (((hE.out.trans HB1.out).alloc _).grown ((owns_ext hown.out HB1.out).alloc _) hgrow)
    have HO2:=Hm hown'
    clear hown' hgrow
    go_wp2
    go_roundw
    case rel=>exact ⟨k+1,by omega,by go_num,Hm (by rw [HT.out];exact HO2.out),HE2⟩
    case measure=>simp [intOf];omega
  ·have hkk:k=l.length:=by omega
   subst hkk
   rw [show l.length=(l.map K.pc).length by simp,List.take_length] at hown
   rw [List.length_map] at hown
   obtain ⟨a',c',rfl⟩:=owns_shape hown.out
   go_wp2
   go_ret
   refine ⟨a',c',rfl,owns_cap hown.out,Sl.of_owns (base:=w.heap.size) (e:=164) ?_ ?_,fun b o e=>(hown.out.lt b (by rw [e];rfl)).1,hE.out⟩
   ·have e:(l.map K.pc).length=l.length:=by simp
    rw [e];exact hown.out
   ·intro xs hxs;simp at hxs;obtain ⟨a,_,rfl⟩:=hxs;rfl
theorem ownK_fr (l:List K) (a:Option Addr) (cap:Nat) (w:World) (hl:Sl w (.slice a l.length cap) 6 (l.map K.rc)) (hlen:l.length≤1000):
 Calls Tryz.prog 44 #[.slice a l.length cap] w fun e w' =>∃a' cap',e= .returned (.slice a' l.length cap')∧l.length≤cap'∧Fr w' w.heap.size w'.heap.size (.slice a' l.length cap') 5 (l.map K.pc)∧Ext w w' :=by
 refine (ownK_new l a cap w hl hlen).mono fun e w' h=> ?_
 obtain ⟨a',c',h1,h2,h3,h4,h5⟩:=h
 exact ⟨a',c',h1,h2,Fr.new h3 h4,h5⟩
theorem alikeK {c d:K} :alikeB c.k c.v.ty c.v.n c.v.x c.v.y c.v.s d.k d.v.ty d.v.n d.v.x d.v.y d.v.s=true↔c=d:=by
 unfold alikeB
 rw [decide_eq_true_iff]
 constructor
 ·obtain ⟨k,ty,n,x,y,s⟩:=c
  obtain ⟨k',ty',n',x',y',s'⟩:=d
  rintro ⟨rfl,rfl,rfl,rfl,rfl,rfl⟩
  rfl
 ·rintro rfl;simp
noncomputable def rowB (l m:List K):Bool:= @decide (l=m) (Classical.propDecidable _)
theorem rowB_true {l m:List K} :rowB l m=true↔l=m:=by unfold rowB;simp
theorem rowB_false {l m:List K} :rowB l m=false↔l≠m:=by unfold rowB;simp
theorem rowB_at {l m:List K} {k:Nat} (h1:k<l.length) (h2:k<m.length) (h:l[k]≠m[k]):rowB l m=false:=rowB_false.2 (by rintro rfl;exact h rfl)
theorem rowB_len {l m:List K} (h:l.length≠m.length):rowB l m=false:=rowB_false.2 (by rintro rfl;exact h rfl)
theorem rowB_all {l m:List K} (h0:l.length=m.length) (h:∀i (h1:i<l.length) (h2:i<m.length),l[i]=m[i]):rowB l m=true:=rowB_true.2 (List.ext_getElem h0 h)
theorem neq_cell (k ty n:Int) (x y:Nat) (s:ByteArray) (k' ty' n' :Int) (x' y' :Nat) (s' :ByteArray) (w:World):
 (binOp .neq 101 (.agg #[.int .u8 k, .int .u8 ty, .int .i64 n, .int .u64 x, .int .u64 y, .string s]) (.agg #[.int .u8 k', .int .u8 ty', .int .i64 n', .int .u64 x', .int .u64 y', .string s'])).run Tryz.prog w= .ok (.bool (!alikeB k ty n x y s k' ty' n' x' y' s')) w:=by
 by_cases h0:k=k' <;>by_cases h1:ty=ty' <;>by_cases h2:n=n' <;>by_cases h3:x=x' <;>by_cases h4:y=y' <;>by_cases h5:s=s' <;>simp [go_sem,alikeB,h0,h1,h2,h3,h4,h5]
 all_goals first
  |(intro h;exact absurd (toList_inj' h) h5)
  |omega
  |(intros;omega)
  |(intros;intro h;exact absurd (toList_inj' h) h5)
theorem eqf_any (l m:List K) (a b:Option Addr) (ca cb:Nat) (w:World) (hl:Sl w (.slice a l.length ca) 5 (l.map K.pc)) (hm:Sl w (.slice b m.length cb) 5 (m.map K.pc)) (hlen:l.length≤1000) (_hlen2:m.length≤1000):
 Calls Tryz.prog 150 #[.slice a l.length ca, .slice b m.length cb, .func (.func 151) #[] #[]] w fun e w' =>e= .returned (.bool (rowB l m))∧Ext w w' :=by
 have HL:=Hm hl
 have HM:=Hm hm
 clear hl hm
 by_cases hn:l.length=m.length
 case neg=>
  have hn' :(((l.length:Nat):Int) !=((m.length:Nat):Int))=true:=by simp;omega
  have HR:=Hm (rowB_len hn)
  clear hn
  go_enter Tryz.func150,Tryz.ntmps150
  go_wp2
  go_ret
  exact ⟨ret_bool HR.out.symm,by exact eX⟩
 have hn' :(((l.length:Nat):Int) !=((m.length:Nat):Int))=false:=by simp;omega
 have HN:=Hm hn
 clear hn
 go_enter Tryz.func150,Tryz.ntmps150
 go_wp2
 go_loopw [17] (fun i wr=>∃k:Nat,k≤l.length∧i= .int .i64 k∧Hid (∀j (h1:j<l.length) (h2:j<m.length),j<k→l[j]=m[j])∧Hid (Ext w wr)) (fun i _=>l.length - (intOf i).toNat)
 case atStart=>exact ⟨0,Nat.zero_le _,rfl,fun j _ _ h=>by omega,Ext.refl _⟩
 case round=>
  obtain ⟨k,hk,rfl,hrel,hE⟩:=hrel
  by_cases hlt:k<l.length
  ·have hlt2:k<m.length:=by have:=HN.out;omega
   obtain ⟨b1,o1,rfl,hb1,hx1⟩:=HL.out.at_ (i:=k) (by simpa using hlt)
   obtain ⟨f0,f1,f2,f3,f4⟩:=K.pcAt hlt hx1 hb1 hE.out
   obtain ⟨b2,o2,rfl,hb2,hx2⟩:=HM.out.at_ (i:=k) (by simpa using hlt2)
   obtain ⟨p0,p1,p2,p3,p4⟩:=K.pcAt hlt2 hx2 hb2 hE.out
   have hbw:b1<wr.heap.size:=Nat.lt_of_lt_of_le hb1 hE.out.size
   have hbw2:b2<wr.heap.size:=Nat.lt_of_lt_of_le hb2 hE.out.size
   have hbx2:b2<wr.heap.size+1:=by omega
   have HC:=Hm (fun w=>calike_any l[k].k l[k].v.ty l[k].v.n l[k].v.x l[k].v.y l[k].v.s m[k].k m[k].v.ty m[k].v.n m[k].v.x m[k].v.y m[k].v.s w)
   cases hA:alikeB l[k].k l[k].v.ty l[k].v.n l[k].v.x l[k].v.y l[k].v.s m[k].k m[k].v.ty m[k].v.n m[k].v.x m[k].v.y m[k].v.s with
   |true=>
    rw [hA] at HC
    have HA:=Hm (alikeK.1 hA)
    clear hA hx1 hx2
    go_wp2_with (go_at_call 151;refine (HC.out _).mono ?_;rintro e w1 ⟨rfl,hb3⟩)
    go_roundw
    case rel=>exact ⟨k+1,by omega,by go_num,fun j h1 h2 hjk=>by
     by_cases e:j=k
     ·subst e;exact HA.out
     ·exact hrel.out j h1 h2 (by omega),Hm (hE.out.trans (by exact eX))⟩
    case measure=>simp [intOf];omega
   |false=>
    rw [hA] at HC
    have HR:=Hm (rowB_at hlt hlt2 (fun h=>by rw [alikeK.2 h] at hA;cases hA))
    clear hA hx1 hx2
    go_wp2_with (go_at_call 151;refine (HC.out _).mono ?_;rintro e w1 ⟨rfl,hb3⟩)
    go_ret
    exact ⟨ret_bool HR.out.symm,hE.out.trans (by exact eX)⟩
  ·have hkk:k=l.length:=by omega
   have HR:=Hm (rowB_all HN.out (fun i h1 h2=>hrel.out i h1 h2 (by omega)))
   subst hkk
   go_wp2
   go_ret
   exact ⟨ret_bool HR.out.symm,hE.out⟩
theorem alike_any (l m:List K) (a b:Option Addr) (ca cb:Nat) (w:World) (hl:Sl w (.slice a l.length ca) 5 (l.map K.pc)) (hm:Sl w (.slice b m.length cb) 5 (m.map K.pc)) (hlen:l.length≤1000) (hlen2:m.length≤1000):
 Calls Tryz.prog 129 #[.slice a l.length ca, .slice b m.length cb] w fun e w' =>e= .returned (.bool (rowB l m))∧Ext w w' :=by
 have HI:=Hm (eqf_any l m a b ca cb w hl hm hlen hlen2)
 clear hl hm
 go_enter Tryz.func129,Tryz.ntmps129
 go_wp2_with (go_at_call 150;refine HI.out.mono ?_;rintro e w1 ⟨rfl,hb1⟩)
 go_ret
 exact ⟨rfl,hb1⟩
theorem rsame_any (l m:List K) (a b:Option Addr) (ca cb:Nat) (w:World) (hl:Sl w (.slice a l.length ca) 6 (l.map K.rc)) (hm:Sl w (.slice b m.length cb) 6 (m.map K.rc)) (hlen:l.length≤1000) (_hlen2:m.length≤1000):
 Calls Tryz.prog 84 #[.slice a l.length ca, .slice b m.length cb] w fun e w' =>e= .returned (.bool (rowB l m))∧Ext w w' :=by
 have HL:=Hm hl
 have HM:=Hm hm
 clear hl hm
 by_cases hn:l.length=m.length
 case neg=>
  have hn' :(((l.length:Nat):Int) !=((m.length:Nat):Int))=true:=by simp;omega
  have HR:=Hm (rowB_len hn)
  clear hn
  go_enter Tryz.func84,Tryz.ntmps84
  go_wp2
  go_ret
  exact ⟨ret_bool HR.out.symm,by exact eX⟩
 have hn' :(((l.length:Nat):Int) !=((m.length:Nat):Int))=false:=by simp;omega
 have HN:=Hm hn
 clear hn
 go_enter Tryz.func84,Tryz.ntmps84
 go_wp2
 go_loopw [5] (fun i wr=>∃k:Nat,k≤l.length∧i= .int .i64 k∧Hid (∀j (h1:j<l.length) (h2:j<m.length),j<k→l[j]=m[j])∧Hid (Ext w wr)) (fun i _=>l.length - (intOf i).toNat)
 case atStart=>exact ⟨0,Nat.zero_le _,rfl,fun j _ _ h=>by omega,Ext.refl _⟩
 case round=>
  obtain ⟨k,hk,rfl,hrel,hE⟩:=hrel
  by_cases hlt:k<l.length
  ·have hlt2:k<m.length:=by have:=HN.out;omega
   obtain ⟨b1,o1,rfl,hb1,hx1⟩:=HL.out.at_ (i:=k) (by simpa using hlt)
   obtain ⟨f0,f1,f2,f3,f4,f5⟩:=K.rcAt hlt hx1 hb1 hE.out
   obtain ⟨b2,o2,rfl,hb2,hx2⟩:=HM.out.at_ (i:=k) (by simpa using hlt2)
   obtain ⟨p0,p1,p2,p3,p4,p5⟩:=K.rcAt hlt2 hx2 hb2 hE.out
   have hbw:b1<wr.heap.size:=Nat.lt_of_lt_of_le hb1 hE.out.size
   have hbw2:b2<wr.heap.size:=Nat.lt_of_lt_of_le hb2 hE.out.size
   have hNq:=fun w=>neq_cell l[k].k l[k].v.ty l[k].v.n l[k].v.x l[k].v.y l[k].v.s m[k].k m[k].v.ty m[k].v.n m[k].v.x m[k].v.y m[k].v.s w
   cases hA:alikeB l[k].k l[k].v.ty l[k].v.n l[k].v.x l[k].v.y l[k].v.s m[k].k m[k].v.ty m[k].v.n m[k].v.x m[k].v.y m[k].v.s with
   |true=>
    rw [hA] at hNq
    have HA:=Hm (alikeK.1 hA)
    clear hA hx1 hx2
    go_wp2
    go_region_held3 (fun w' =>Ext (wr) w'∧(∀b o,b<(wr).heap.size→w'.cell? ⟨b,o,none⟩=(wr).cell? ⟨b,o,none⟩)∧(∀b o,b<(wr).heap.size→w'.frozen? ⟨b,o,none⟩=(wr).frozen? ⟨b,o,none⟩)) ((exact held_of (by exact eX))) (fail)
    go_wp2
    go_roundw
    case rel=>exact ⟨k+1,by omega,by go_num,fun j h1 h2 hjk=>by
     by_cases e:j=k
     ·subst e;exact HA.out
     ·exact hrel.out j h1 h2 (by omega),Hm (hE.out.trans (by exact eX))⟩
    case measure=>simp [intOf];omega
   |false=>
    rw [hA] at hNq
    have HR:=Hm (rowB_at hlt hlt2 (fun h=>by rw [alikeK.2 h] at hA;cases hA))
    clear hA hx1 hx2
    go_wp2
    go_region_held3 (fun w' =>Ext (wr) w'∧(∀b o,b<(wr).heap.size→w'.cell? ⟨b,o,none⟩=(wr).cell? ⟨b,o,none⟩)∧(∀b o,b<(wr).heap.size→w'.frozen? ⟨b,o,none⟩=(wr).frozen? ⟨b,o,none⟩)) ((exact held_of (by exact eX))) (fail)
    go_wp2
    go_ret
    exact ⟨ret_bool HR.out.symm,hE.out.trans (by exact eX)⟩
  ·have hkk:k=l.length:=by omega
   have HR:=Hm (rowB_all HN.out (fun i h1 h2=>hrel.out i h1 h2 (by omega)))
   subst hkk
   go_wp2
   go_ret
   exact ⟨ret_bool HR.out.symm,hE.out⟩
structure Ev where
 kind:Int
 ao:Int
 av:Int
 old:Int
 b:List K
 a:List K
 rs:List Rf
 fl:Int
theorem Blk.eight {W:World} {b:Nat} {u0 u1 u2 u3 u4 u5 u6 u7 v0 v1 v2 v3 v4 v5 v6 v7:Value} {T:TypeId} (h:Blk W b #[u0,u1,u2,u3,u4,u5,u6,u7] T):
 Blk ((((((((W.setCell ⟨b,0,none⟩ v0).setCell ⟨b,1,none⟩ v1).setCell ⟨b,2,none⟩ v2).setCell ⟨b,3,none⟩ v3).setCell ⟨b,4,none⟩ v4).setCell ⟨b,5,none⟩ v5).setCell ⟨b,6,none⟩ v6).setCell ⟨b,7,none⟩ v7) b #[v0,v1,v2,v3,v4,v5,v6,v7] T:=by
 have h1:=(((((((h.set 0 v0).set 1 v1).set 2 v2).set 3 v3).set 4 v4).set 5 v5).set 6 v6).set 7 v7
 simpa only [List.setIfInBounds_toArray,List.set_cons_zero,List.set_cons_succ] using h1
theorem Fr.eight {W:World} {N M k X:Nat} {v:Value} {xss:List (List Value)} {v0 v1 v2 v3 v4 v5 v6 v7:Value} (h:Fr W N M v k xss) (hp:X<N∨M≤X):
 Fr ((((((((W.setCell ⟨X,0,none⟩ v0).setCell ⟨X,1,none⟩ v1).setCell ⟨X,2,none⟩ v2).setCell ⟨X,3,none⟩ v3).setCell ⟨X,4,none⟩ v4).setCell ⟨X,5,none⟩ v5).setCell ⟨X,6,none⟩ v6).setCell ⟨X,7,none⟩ v7) N M v k xss:=by
 repeat refine Fr.set ?_ hp _
 exact h
theorem Fr.ne {W:World} {N M k X:Nat} {a:Option Addr} {n c:Nat} {xss:List (List Value)} (h:Fr W N M (.slice a n c) k xss) (hp:X<N∨M≤X) (h0:xss≠ []):∀b o,a=some ⟨b,o,none⟩→b≠X:=fun b o e=>by
 have h1:=h.2 b o n c (by rw [e])
 have h2:=h1.2 h0
 omega
theorem Fr.ne2 {W:World} {N M k X m:Nat} {a:Option Addr} {n c:Nat} {xss:List (List Value)} (h:Fr W N M (.slice a n c) k xss) (hp:X<N∨M≤X) (hm:m<N) (h0:xss≠ []):∀b o,a=some ⟨b,o,none⟩→b≠X∧m<b:=fun b o e=>by
 have h1:=h.2 b o n c (by rw [e])
 have h2:=h1.2 h0
 omega
theorem Kp.eight {W:World} {X:Nat} {v0 v1 v2 v3 v4 v5 v6 v7:Value} :
 Kp (fun x=>x=X) W ((((((((W.setCell ⟨X,0,none⟩ v0).setCell ⟨X,1,none⟩ v1).setCell ⟨X,2,none⟩ v2).setCell ⟨X,3,none⟩ v3).setCell ⟨X,4,none⟩ v4).setCell ⟨X,5,none⟩ v5).setCell ⟨X,6,none⟩ v6).setCell ⟨X,7,none⟩ v7):=by
 have hs:∀(W:World) i v,Kp (fun x=>x=X) W (W.setCell ⟨X,i,none⟩ v):=fun W i v=>Kp.set (S:=fun x=>x=X) ⟨X,i,none⟩ v rfl
 have ht:∀ {A B C:World},Kp (fun x=>x=X) A B→Kp (fun x=>x=X) B C→Kp (fun x=>x=X) A C:=fun h k=>h.trans k (fun x hx _=>hx)
 exact ht (ht (ht (ht (ht (ht (ht (hs _ _ _) (hs _ _ _)) (hs _ _ _)) (hs _ _ _)) (hs _ _ _)) (hs _ _ _)) (hs _ _ _)) (hs _ _ _)
end Go.Proofs.YtgmphpccpfaapaaGreatDoor
