/-
Numbers by sevens, one behind the other: the payload of a begin, of a commit, a ref.
-/
import Derived.Deep.RegionHeld
import Derived.Test.YtodbhliidbclcaaGreatP4
set_option maxRecDepth 100000
set_option maxHeartbeats 16000000
namespace Go.Proofs.YtodbhliidbclcaaGreat
open Go.RowKit
def nums (xs:List Nat):List Int:=(xs.map sevens).flatten
theorem nums_snoc (xs:List Nat) (x:Nat):nums (xs++ [x])=nums xs++sevens x:=by unfold nums;simp
theorem nums_one (x:Nat):nums [x]=sevens x:=by unfold nums;simp
theorem nums_two (x y:Nat):nums [x,y]=sevens x++sevens y:=by unfold nums;simp
theorem nums_len {xs:List Nat} (h:∀x∈xs,x<2 ^ 64):(nums xs).length≤xs.length*10:=by
 induction xs with
 |nil=>simp [nums]
 |cons x xs ih=>
  have h1:=ih (fun y hy=>h y (List.mem_cons_of_mem _ hy))
  have h2:=sevens_len10 (h x (by simp))
  have e:nums (x::xs)=sevens x++nums xs:=by unfold nums;simp
  rw [e,List.length_append,List.length_cons];omega
theorem numbers_any (v:Value) (l:List Int) (xs:List Nat) (b c:Nat) (w:World) (hl:Sl w v 1 (l.map bcell)) (hlen:l.length≤900000) (hx:∀x∈xs,x<2 ^ 64) (hn:xs.length≤100) (h0:xs≠ []) (hb:b<w.heap.size) (hc:∀i (h:i<xs.length),w.cell? ⟨b,i,none⟩=some (.int .u64 xs[i])):
 Calls Tryz.prog 69 #[v, .slice (some ⟨b,0,none⟩) xs.length c] w fun e w' =>∃v',e= .returned v'∧OB w' w.heap.size v' (l++nums xs)∧Ext w w' :=by
 have HC:=Hm hc
 have HX:=Hm hx
 have HL:=Hm hl
 have H0:=Hm (List.length_pos_iff.2 h0)
 have HNL:Hid (∀k,(nums (xs.take k)).length≤1000):=Hm (fun k=>by
  have h:=nums_len (xs:=xs.take k) (fun x hx' =>hx x (List.mem_of_mem_take hx'))
  rw [List.length_take] at h
  omega)
 clear hc hx hl h0
 go_enter Tryz.func69,Tryz.ntmps69
 go_wp2
 go_loopg [0,9] xs.length (fun z a i wr=>∃k:Nat,z+k=xs.length∧i= .int .i64 k∧Hid (Sl wr a 1 ((l++nums (xs.take k)).map bcell))∧Hid (0<k→OB wr w.heap.size a (l++nums (xs.take k)))∧Hid (Ext w wr))
 case atStart=>exact ⟨0,by omega,rfl,Hm (by simpa [nums] using HL.out),Hm (fun h=>absurd h (Nat.lt_irrefl 0)),Hm (Ext.refl _)⟩
 case round=>
  obtain ⟨k,hzk,rfl,hsl,hob,hE⟩:=hrel
  by_cases hlt:k<xs.length
  ·have f0:=(hE.out.cells.1 b k hb).trans (HC.out k hlt)
   have hbw:b<wr.heap.size:=Nat.lt_of_lt_of_le hb hE.out.size
   have HP:=Hm (fun a' (h:Sl wr a' 1 ((l++nums (xs.take k)).map bcell))=>putUint_any a' (l++nums (xs.take k)) xs[k] wr h (HX.out _ (List.getElem_mem hlt)) (by rw [List.length_append];have:=HNL.out k;omega))
   have HTK:Hid (l++nums (xs.take (k+1))=l++nums (xs.take k)++sevens xs[k]):=Hm (by rw [List.take_succ_eq_append_getElem hlt,nums_snoc,List.append_assoc])
   rw [←HTK.out] at HP
   obtain ⟨x,hxx⟩:∃x,x=xs[k]:=⟨_,rfl⟩
   rw [←hxx] at f0 HP
   have HLT:=Hm hlt
   clear hxx HTK
   go_wp2_with (go_at_call 95;refine (HP.out _ hsl.out).mono ?_;rintro e w1 ⟨v1,rfl,ho1,hb1⟩;have HO1:=Hm (ho1.base hE.out.size);have HB1:=Hm (hE.out.trans hb1);clear ho1 hb1)
   go_roundg (xs.length - (k+1))
   case measure=>have:=HLT.out;omega
   case rel=>exact ⟨k+1,Nat.sub_add_cancel HLT.out,by go_num,Hm HO1.out.sl,Hm (fun _=>HO1.out),HB1⟩
  ·obtain rfl:k=xs.length:=by omega
   have HO:=Hm (hob.out H0.out)
   rw [List.take_length] at HO
   obtain ⟨a',c',rfl⟩:=HO.out.shape
   clear hsl hob
   go_wp2
   go_ret
   exact ⟨_,rfl,HO.out,hE.out⟩
theorem two_cells (w:World) (x y:Nat) (i:Nat) (h:i< [x,y].length):(w.alloc (.cells #[.int .u64 x, .int .u64 y] 70)).cell? ⟨w.heap.size,i,none⟩=some (.int .u64 [x,y][i]):=by
 rw [(Blk.new w _ _).cell]
 match i,h with
 |0,_=>rfl
 |1,_=>rfl
theorem numbers2_any (v:Value) (l:List Int) (x y:Nat) (w:World) (hl:Sl w v 1 (l.map bcell)) (hlen:l.length≤900000) (hx:x<2 ^ 64) (hy:y<2 ^ 64):
 Calls Tryz.prog 69 #[v, .slice (some ⟨w.heap.size,0,none⟩) 2 2] (w.alloc (.cells #[.int .u64 x, .int .u64 y] 70)) fun e w' =>∃v',e= .returned v'∧OB w' w.heap.size v' (l++(sevens x++sevens y))∧Ext w w' :=by
 have hE:Ext w (w.alloc (.cells #[.int .u64 x, .int .u64 y] 70)):=(Ext.refl w).alloc _
 refine (numbers_any v l [x,y] w.heap.size 2 (w.alloc (.cells #[.int .u64 x, .int .u64 y] 70)) (hl.ext hE) hlen (fun z hz=> ?_) (by simp) (by simp) (by simp) (two_cells w x y)).mono ?_
 ·simp only [List.mem_cons,List.not_mem_nil,or_false] at hz
  rcases hz with rfl|rfl
  ·exact hx
  ·exact hy
 ·rintro e w' ⟨v',he,ho,hb⟩
  rw [nums_two] at ho
  exact ⟨v',he,ho.base (by simp),hE.trans hb⟩
theorem putBegin_any (x y:Nat) (w:World) (hx:x<2 ^ 64) (hy:y<2 ^ 64):
 Calls Tryz.prog 43 #[.int .u32 x, .int .u64 y] w fun e w' =>∃v',e= .returned v'∧OB w' w.heap.size v' (sevens x++sevens y)∧Ext w w' :=by
 have HN:=Hm (numbers2_any (.slice none 0 0) [] x y w ⟨none,0,rfl, .inl rfl⟩ (by simp) hx hy)
 rw [List.nil_append] at HN
 have hx' :(x:Int)<18446744073709551616:=by
  have:(2:Nat) ^ 64=18446744073709551616:=by decide
  omega
 go_enter Tryz.func43,Tryz.ntmps43
 go_wp2_with (go_at_call 69;refine HN.out.mono ?_;rintro e w1 ⟨v1,rfl,ho1,hb1⟩;have HO1:=Hm ho1;have HB1:=Hm hb1;clear ho1 hb1)
 obtain ⟨a',c',rfl⟩:=HO1.out.shape
 go_ret
 exact ⟨_,rfl,HO1.out,HB1.out⟩
theorem putRef_any (v:Value) (l:List Int) (x y:Nat) (w:World) (hl:Sl w v 1 (l.map bcell)) (hlen:l.length≤900000) (hx:x<2 ^ 32) (hy:y<2 ^ 32):
 Calls Tryz.prog 70 #[v, .agg #[.int .u32 x, .int .u32 y]] w fun e w' =>∃v',e= .returned v'∧OB w' w.heap.size v' (l++(sevens x++sevens y))∧Ext w w' :=by
 have hx1:x<2 ^ 64:=Nat.lt_of_lt_of_le hx (by decide)
 have hy1:y<2 ^ 64:=Nat.lt_of_lt_of_le hy (by decide)
 have hx' :(x:Int)<18446744073709551616:=by
  have:(2:Nat) ^ 32=4294967296:=by decide
  omega
 have hy' :(y:Int)<18446744073709551616:=by
  have:(2:Nat) ^ 32=4294967296:=by decide
  omega
 have hl0:=hl
 obtain ⟨a0,cp0,rfl, -⟩:=hl0
 rw [List.length_map] at hl⊢
 have HN:=Hm (numbers2_any (.slice a0 l.length cp0) l x y (w.alloc (.cells #[.int .u32 x, .int .u32 y] 34)) (hl.ext ((Ext.refl w).alloc _)) hlen hx1 hy1)
 rw [World.size_alloc] at HN
 go_enter Tryz.func70,Tryz.ntmps70
 go_wp2_with (go_at_call 69;refine HN.out.mono ?_;rintro e w1 ⟨v1,rfl,ho1,hb1⟩;have HO1:=Hm ho1;have HB1:=Hm hb1;clear ho1 hb1)
 obtain ⟨a',c',rfl⟩:=HO1.out.shape
 go_ret
 exact ⟨_,rfl,HO1.out.base (by omega),((Ext.refl w).alloc _).trans HB1.out⟩
def Fr (W:World) (N M:Nat) (v:Value) (k:Nat) (xss:List (List Value)):Prop:=Sl W v k xss∧∀b o len cap,v= .slice (some ⟨b,o,none⟩) len cap→N≤b∧(xss≠ []→b<M)
section
variable {W W' : World} {N M k : Nat} {v : Value} {xss : List (List Value)}
theorem Fr.ext (h:Fr W N M v k xss) (he:Ext W W'):Fr W' N M v k xss:=⟨h.1.ext he,h.2⟩
theorem Fr.set (h:Fr W N M v k xss) {p:Addr} (hp:p.block<N∨M≤p.block) (u:Value):Fr (W.setCell p u) N M v k xss:=by
 obtain ⟨h1,h2⟩:=h
 refine ⟨?_,h2⟩
 obtain ⟨a,cap,rfl,h⟩:=h1
 refine ⟨a,cap,rfl, ?_⟩
 rcases h with h0|⟨b,o,rfl,hb,hx⟩
 ·exact .inl h0
 ·by_cases h0:xss= []
  ·exact .inl h0
  ·have h3:=h2 b o _ _ rfl
   have h4:=h3.2 h0
   have h5:=h3.1
   refine .inr ⟨b,o,rfl,by simpa using hb,fun i hi j hj=> ?_⟩
   rw [←hx i hi j hj]
   exact World.cell?_setCell_far _ _ _ _ (by show p.block≠b;omega)
theorem Fr.sl (h:Fr W N M v k xss):Sl W v k xss:=h.1
theorem Fr.new {a:Option Addr} {n cap:Nat} (h:Sl W (.slice a n cap) k xss) (h2:∀b o,a=some ⟨b,o,none⟩→N≤b):Fr W N W.heap.size (.slice a n cap) k xss:=by
 refine ⟨h,fun b o len c e=> ?_⟩
 simp only [Value.slice.injEq] at e
 obtain ⟨rfl,rfl,rfl⟩:=e
 refine ⟨h2 b o rfl,fun h0=> ?_⟩
 obtain ⟨a,c,hv,h⟩:=h
 simp only [Value.slice.injEq] at hv
 obtain ⟨rfl, -, -⟩:=hv
 rcases h with rfl|⟨b',o',e,hb, -⟩
 ·exact absurd rfl h0
 ·simp only [Option.some.injEq,Addr.mk.injEq] at e
  rw [e.1];exact hb
end
def aheadP (o1 v1 o2 v2:Int):Prop:=o1<o2∨(o1=o2∧v1<v2)
instance (o1 v1 o2 v2:Int):Decidable (aheadP o1 v1 o2 v2):=by unfold aheadP;infer_instance
def aheadB (o1 v1 o2 v2:Int):Bool:=decide (aheadP o1 v1 o2 v2)
def cmpI (a b:Int):Int:=if a<b then -1 else if b<a then 1 else 0
def cmpR (o1 v1 o2 v2:Int):Int:=if cmpI o1 o2≠0 then cmpI o1 o2 else cmpI v1 v2
theorem cmpR_neg {o1 v1 o2 v2:Int} :cmpR o1 v1 o2 v2<0↔aheadP o1 v1 o2 v2:=by
 unfold cmpR cmpI aheadP
 (repeat' split)<;>omega
theorem cmpR_zero {o1 v1 o2 v2:Int} :cmpR o1 v1 o2 v2=0↔o1=o2∧v1=v2:=by
 unfold cmpR cmpI
 (repeat' split)<;>omega
theorem cmpR_cases (o1 v1 o2 v2:Int):cmpR o1 v1 o2 v2= -1∨cmpR o1 v1 o2 v2=0∨cmpR o1 v1 o2 v2=1:=by
 unfold cmpR cmpI
 (repeat' split)<;>omega
theorem ahead_trans {a b c d e f:Int} (h:aheadP a b c d) (k:aheadP c d e f):aheadP a b e f:=by unfold aheadP at*;omega
theorem ahead_irr {a b:Int} : ¬ aheadP a b a b:=by unfold aheadP;omega
theorem ahead_tri (a b c d:Int):aheadP a b c d∨(a=c∧b=d)∨aheadP c d a b:=by unfold aheadP;omega
def Rl.lt (a b:Rl):Prop:=aheadP a.oid a.ver b.oid b.ver
def Srt (l:List Rl):Prop:=l.Pairwise Rl.lt
theorem Srt.at_ {l:List Rl} (h:Srt l) {i j:Nat} (hi:i<l.length) (hj:j<l.length) (hij:i<j):l[i].lt l[j]:=List.pairwise_iff_getElem.1 h i j hi hj hij
theorem Srt.take {l:List Rl} (h:Srt l) (k:Nat):Srt (l.take k):=List.Pairwise.sublist (List.take_sublist k l) h
theorem Srt.nil:Srt []:=List.Pairwise.nil
def posR (o v:Int):List Rl→Nat
 | []=>0
 |r::l=>if aheadP r.oid r.ver o v then posR o v l+1 else 0
theorem posR_le (o v:Int):∀l,posR o v l≤l.length
 | []=>Nat.le_refl _
 |r::l=>by
  have:=posR_le o v l
  unfold posR
  split
  ·rw [List.length_cons];omega
  ·exact Nat.zero_le _
theorem posR_lt (o v:Int):∀(l:List Rl) (i:Nat) (h:i<l.length),i<posR o v l→aheadP l[i].oid l[i].ver o v
 | [],i,h,_=>absurd h (Nat.not_lt_zero _)
 |r::l,i,h,hi=>by
  unfold posR at hi
  split at hi
  ·rename_i hr
   cases i with
   |zero=>exact hr
   |succ i=>exact posR_lt o v l i (by simpa using h) (by omega)
  ·omega
theorem posR_at (o v:Int):∀(l:List Rl) (h:posR o v l<l.length),¬ aheadP (l[posR o v l]'h).oid (l[posR o v l]'h).ver o v
 | [],h=>absurd h (Nat.not_lt_zero _)
 |r::l,h=>by
  by_cases hr:aheadP r.oid r.ver o v
  ·have e:posR o v (r::l)=posR o v l+1:=if_pos hr
   have h2:posR o v l<l.length:=by rw [e] at h;simpa using h
   have:=posR_at o v l h2
   simp only [e,List.getElem_cons_succ]
   exact this
  ·have e:posR o v (r::l)=0:=if_neg hr
   simp only [e,List.getElem_cons_zero]
   exact hr
theorem posR_of {o v:Int} {l:List Rl} {i:Nat} (hi:i≤l.length) (h1:∀j (h:j<l.length),j<i→aheadP l[j].oid l[j].ver o v) (h2:∀h:i<l.length,¬ aheadP l[i].oid l[i].ver o v):posR o v l=i:=by
 have hle:=posR_le o v l
 rcases Nat.lt_trichotomy (posR o v l) i with h|h|h
 ·exact absurd (h1 _ (by omega) h) (posR_at o v l (by omega))
 ·exact h
 ·exact absurd (posR_lt o v l i (by omega) h) (h2 (by omega))
theorem Srt.not_ahead {l:List Rl} (h:Srt l) {o v:Int} {i:Nat} (hi:i<l.length) (hp:posR o v l≤i): ¬ aheadP l[i].oid l[i].ver o v:=by
 rcases Nat.eq_or_lt_of_le hp with e|hlt
 ·subst e;exact posR_at o v l hi
 ·intro hq
  have h1:=h.at_ (i:=posR o v l) (by omega) hi hlt
  exact posR_at o v l (by omega) (ahead_trans h1 hq)
def isR (o v:Int) (r:Rl):Bool:=decide (r.oid=o∧r.ver=v)
def hasR (o v:Int) (l:List Rl):Bool:=l.any (isR o v)
def getR (o v:Int) (l:List Rl):Option Rl:=l.find? (isR o v)
theorem hasR_at {o v:Int} {l:List Rl} {i:Nat} (hi:i<l.length) (h:l[i].oid=o∧l[i].ver=v):hasR o v l=true:=List.any_eq_true.2 ⟨l[i],List.getElem_mem hi,by unfold isR;simpa using h⟩
theorem hasR_no {o v:Int} {l:List Rl} (h:∀i (hi:i<l.length),¬ (l[i].oid=o∧l[i].ver=v)):hasR o v l=false:=by
 unfold hasR
 rw [List.any_eq_false]
 intro x hx
 obtain ⟨i,hi,rfl⟩:=List.getElem_of_mem hx
 unfold isR
 simpa using h i hi
theorem Srt.has {l:List Rl} (h:Srt l) (o v:Int):hasR o v l=decide (∃hi:posR o v l<l.length,(l[posR o v l]'hi).oid=o∧(l[posR o v l]'hi).ver=v):=by
 by_cases hp:∃hi:posR o v l<l.length,(l[posR o v l]'hi).oid=o∧(l[posR o v l]'hi).ver=v
 ·obtain ⟨hi,hq⟩:=hp
  rw [hasR_at hi hq]
  exact (decide_eq_true ⟨hi,hq⟩).symm
 ·rw [hasR_no]
  ·exact (decide_eq_false hp).symm
  ·rintro i hi ⟨h1,h2⟩
   have hge:posR o v l≤i:=by
    rcases Nat.lt_or_ge i (posR o v l) with hlt|hge
    ·have:=posR_lt o v l i hi hlt
     rw [h1,h2] at this
     exact absurd this ahead_irr
    ·exact hge
   rcases Nat.eq_or_lt_of_le hge with e|hlt
   ·subst e;exact hp ⟨hi,h1,h2⟩
   ·have h3:=h.at_ (i:=posR o v l) (by omega) hi hlt
    unfold Rl.lt at h3
    rw [h1,h2] at h3
    exact posR_at o v l (by omega) h3
theorem getR_some {o v:Int} {l:List Rl} {r:Rl} (h:getR o v l=some r):r∈l∧r.oid=o∧r.ver=v:=by
 unfold getR at h
 have h1:=List.find?_some h
 unfold isR at h1
 exact ⟨List.mem_of_find?_eq_some h,by simpa using h1⟩
theorem getR_none {o v:Int} {l:List Rl} :getR o v l=none↔hasR o v l=false:=by
 unfold getR hasR
 rw [List.find?_eq_none,List.any_eq_false]
def insR (l:List Rl) (r:Rl):List Rl:=l.take (posR r.oid r.ver l)++r::l.drop (posR r.oid r.ver l)
theorem insR_len (l:List Rl) (r:Rl):(insR l r).length=l.length+1:=by
 have:=posR_le r.oid r.ver l
 unfold insR
 rw [List.length_append,List.length_take,List.length_cons,List.length_drop];omega
theorem insR_mem {l:List Rl} {r x:Rl} :x∈insR l r↔x=r∨x∈l:=by
 unfold insR
 rw [List.mem_append,List.mem_cons]
 have h:x∈l↔x∈l.take (posR r.oid r.ver l)∨x∈l.drop (posR r.oid r.ver l):=by rw [←List.mem_append,List.take_append_drop]
 rw [h]
 constructor
 ·rintro (h|h|h)
  ·exact .inr (.inl h)
  ·exact .inl h
  ·exact .inr (.inr h)
 ·rintro (h|h|h)
  ·exact .inr (.inl h)
  ·exact .inl h
  ·exact .inr (.inr h)
theorem Srt.ins {l:List Rl} (h:Srt l) {r:Rl} (hn:hasR r.oid r.ver l=false):Srt (insR l r):=by
 have hx:∀x∈l,¬ (x.oid=r.oid∧x.ver=r.ver):=fun x hx hq=>by
  obtain ⟨i,hi,rfl⟩:=List.getElem_of_mem hx
  rw [hasR_at hi hq] at hn;cases hn
 unfold insR Srt
 rw [List.pairwise_append]
 refine ⟨h.take _, ?_, ?_⟩
 ·rw [List.pairwise_cons]
  refine ⟨fun x hxd=> ?_,List.Pairwise.sublist (List.drop_sublist _ _) h⟩
  obtain ⟨i,hi,rfl⟩:=List.getElem_of_mem hxd
  rw [List.length_drop] at hi
  rw [List.getElem_drop]
  have h1:=h.not_ahead (o:=r.oid) (v:=r.ver) (i:=posR r.oid r.ver l+i) (by omega) (by omega)
  rcases ahead_tri r.oid r.ver (l[posR r.oid r.ver l+i]'(by omega)).oid (l[posR r.oid r.ver l+i]'(by omega)).ver with q|q|q
  ·exact q
  ·exact absurd ⟨q.1.symm,q.2.symm⟩ (hx _ (List.getElem_mem _))
  ·exact absurd q h1
 ·intro x hxt y hyd
  have hxr:x.lt r:=by
   obtain ⟨i,hi,rfl⟩:=List.getElem_of_mem hxt
   rw [List.length_take] at hi
   rw [List.getElem_take]
   exact posR_lt _ _ l i (by omega) (by omega)
  rcases List.mem_cons.1 hyd with rfl|hy
  ·exact hxr
  ·have hxl:=List.mem_of_mem_take hxt
   obtain ⟨i,hi,rfl⟩:=List.getElem_of_mem hxt
   obtain ⟨j,hj,rfl⟩:=List.getElem_of_mem hy
   rw [List.length_take] at hi
   rw [List.length_drop] at hj
   rw [List.getElem_take,List.getElem_drop]
   exact h.at_ (by omega) (by omega) (by omega)
def addE (l:List Rl) (r:Rl):Int:=if r.right≠0 then r.right else if hasR r.oid r.ver l=true then 9 else if 64≤l.length then 8 else 0
def addL (l:List Rl) (r:Rl):List Rl:=if addE l r=0 then insR l r else l
theorem addE_zero {l:List Rl} {r:Rl} (h:addE l r=0):r.right=0∧hasR r.oid r.ver l=false∧l.length<64:=by
 unfold addE at h
 by_cases h0:r.right=0
 ·rw [if_neg (by simpa using h0)] at h
  cases hb:hasR r.oid r.ver l with
  |true=>rw [hb,if_pos rfl] at h;cases h
  |false=>
   rw [hb,if_neg (by simp)] at h
   split at h
   ·cases h
   ·exact ⟨h0,rfl,by omega⟩
 ·rw [if_pos h0] at h;exact absurd h h0
structure CatOk (l:List Rl):Prop where
 srt:Srt l
 right:∀r∈l,r.right=0
 n64:l.length≤64
theorem CatOk.nil:CatOk []:=⟨Srt.nil,(fun r h=>by cases h),Nat.zero_le _⟩
theorem CatOk.add {l:List Rl} (h:CatOk l) (r:Rl):CatOk (addL l r):=by
 unfold addL
 split
 ·rename_i h0
  obtain ⟨h1,h2,h3⟩:=addE_zero h0
  refine ⟨h.srt.ins h2,fun x hx=> ?_,by rw [insR_len];omega⟩
  rcases insR_mem.1 hx with rfl|hx
  ·exact h1
  ·exact h.right x hx
 ·exact h
def ofUp (l:List Rl):Nat→List Rl
 |0=> []
 |k+1=>if h:k<l.length then addL (ofUp l k) l[k] else ofUp l k
theorem ofUp_succ {l:List Rl} {k:Nat} (h:k<l.length):ofUp l (k+1)=addL (ofUp l k) l[k]:=by
 conv=>lhs;unfold ofUp
 rw [dif_pos h]
theorem ofUp_ok (l:List Rl):∀k,CatOk (ofUp l k)
 |0=>CatOk.nil
 |k+1=>by
  unfold ofUp
  split
  ·exact (ofUp_ok l k).add _
  ·exact ofUp_ok l k
def ofAt (l:List Rl) (k:Nat):Int:=if h:k<l.length then addE (ofUp l k) l[k] else 0
structure Kp (S:Nat→Prop) (w w' :World):Prop where
 os:w'.os=w.os
 tape:w'.tape=w.tape
 output:w'.output=w.output
 size:w.heap.size≤w'.heap.size
 block:∀k,k<w.heap.size→¬ S k→w'.heap[k]? =w.heap[k]?
section
variable {S T : Nat → Prop} {a b c w w' : World}
theorem Kp.refl:Kp S w w:=⟨rfl,rfl,rfl,Nat.le_refl _,fun _ _ _=>rfl⟩
theorem Kp.trans (h:Kp S a b) (k:Kp T b c) (hT:∀x,T x→x<a.heap.size→S x):Kp S a c:=
 ⟨k.os.trans h.os,k.tape.trans h.tape,k.output.trans h.output,Nat.le_trans h.size k.size,fun i hi hs=>(k.block i (Nat.lt_of_lt_of_le hi h.size) (fun ht=>hs (hT i ht hi))).trans (h.block i hi hs)⟩
theorem Kp.of_ext (h:Ext w w'):Kp S w w' :=⟨h.os,h.tape,h.output,h.size,fun k hk _=>h.block k hk⟩
theorem Kp.ext (hE:Ext w a) (hS:∀x,S x→x<a.heap.size→w.heap.size≤x) (h:Kp S a b):Ext w b:=
 Below.trans hE ⟨h.os,h.tape,h.output,h.size,fun k hk=>h.block k (Nat.lt_of_lt_of_le hk hE.size) (fun hs=>by have:=hS k hs (Nat.lt_of_lt_of_le hk hE.size);omega)⟩
theorem Kp.of_grown {row:Option Nat} (h:w.grownBy w' row):Kp (fun k=>row=some k) w w' :=⟨h.os,h.tape,h.output,h.size,fun k hk hs=>h.block k hk (fun e=>hs e.symm)⟩
theorem Kp.mono (h:Kp S w w') (hs:∀x,S x→x<w.heap.size→T x):Kp T w w' :=⟨h.os,h.tape,h.output,h.size,fun k hk ht=>h.block k hk (fun q=>ht (hs k q hk))⟩
theorem Kp.set (p:Addr) (u:Value) (h:S p.block):Kp S w (w.setCell p u):=⟨rfl,rfl,rfl,by simp [World.setCell],fun k _ hs=>Below.heap_setCell _ _ _ _ (fun e=>hs (e ▸ h))⟩
theorem Kp.cell (h:Kp S w w') {b:Nat} (hb:b<w.heap.size) (hs: ¬ S b) (o:Nat):w'.cell? ⟨b,o,none⟩=w.cell? ⟨b,o,none⟩:=World.cell?_of_block (w:=w) (h.block b hb hs)
theorem Blk.kp {g:Nat} {cs:Array Value} {t:TypeId} (h:Blk w g cs t) (k:Kp S w w') (hs: ¬ S g):Blk w' g cs t:=(k.block g h.lt hs).trans h
theorem Sl.kp {x:Option Addr} {n c k:Nat} {xss:List (List Value)} (h:Sl w (.slice x n c) k xss) (hk:Kp S w w') (hs:xss≠ []→∀b o,x=some ⟨b,o,none⟩→¬ S b):Sl w' (.slice x n c) k xss:=by
 obtain ⟨x',c',hv,h⟩:=h
 simp only [Value.slice.injEq] at hv
 obtain ⟨rfl,rfl,rfl⟩:=hv
 rcases h with h|⟨b,o,rfl,hb,hc⟩
 ·exact ⟨_,_,rfl, .inl h⟩
 ·by_cases h0:xss= []
  ·exact ⟨_,_,rfl, .inl h0⟩
  ·refine ⟨_,_,rfl, .inr ⟨b,o,rfl,Nat.lt_of_lt_of_le hb hk.size,fun i hi j hj=> ?_⟩⟩
   rw [←hc i hi j hj]
   exact hk.cell hb (hs h0 b o rfl) _
theorem owns_kp {base n size:Nat} {e:TypeId} {v:Value} {xs:List Value} (h:w.ownsRow base e size v n xs) (hk:Kp S w w') (hs:∀b,v.ownBlock=some b→¬ S b):w'.ownsRow base e size v n xs:=by
 obtain ⟨h1,h2⟩:=h
 refine ⟨h1, ?_⟩
 rcases h2 with h2|⟨g,cap,cur,rfl,hg,hh,hr⟩
 ·exact .inl h2
 ·exact .inr ⟨g,cap,cur,rfl,hg,Blk.kp (g:=g) hh hk (hs g rfl),hr⟩
theorem owns_lt3 {base n size:Nat} {e:TypeId} {v:Value} {xs:List Value} (h:w.ownsRow base e size v n xs) {g:Nat} (hg:v.ownBlock=some g):base≤g∧g<w.heap.size:=h.lt g hg
end
structure Rl.wb (r:Rl):Prop where
 nm:r.nm.size≤9223372036854775807
 cs:∀c∈r.cols,c.nm.size≤9223372036854775807
 n:r.cols.length≤5864062014634
 idn:0≤r.id
theorem Rl.cols_le {r:Rl} (h:r.right=0):r.cols.length≤16:=by
 unfold Rl.right at h
 repeat' split at h
 all_goals first|omega|cases h
structure RR where
 r:Rl
 a:Option Addr
 c:Nat
def RR.cells (p:RR):List Value:= [.int .u32 p.r.oid, .int .u32 p.r.ver, .string p.r.nm, .int .u8 p.r.id, .slice p.a p.r.cols.length p.c]
def RR.agg (p:RR):Value:= .agg #[.int .u32 p.r.oid, .int .u32 p.r.ver, .string p.r.nm, .int .u8 p.r.id, .slice p.a p.r.cols.length p.c]
def RR.in (W:World) (p:RR):Prop:=Sl W (.slice p.a p.r.cols.length p.c) 3 (p.r.cols.map Col.cells)
theorem RR.in.ext {w w' :World} {p:RR} (h:p.in w) (he:Ext w w'):p.in w' :=Sl.ext h he
theorem RR.at_ {w wr:World} {b o:Nat} {l:List RR} {k:Nat} (hk:k<l.length) (hc:∀j,j<5→w.cell? ⟨b,o+k*5+j,none⟩=((l.map RR.cells).getD k [])[j]?) (hb:b<w.heap.size) (hE:Ext w wr):
 wr.cell? ⟨b,o+k*5,none⟩=some (.int .u32 l[k].r.oid)∧wr.cell? ⟨b,o+k*5+1,none⟩=some (.int .u32 l[k].r.ver)∧wr.cell? ⟨b,o+k*5+2,none⟩=some (.string l[k].r.nm)∧wr.cell? ⟨b,o+k*5+3,none⟩=some (.int .u8 l[k].r.id)∧
  wr.cell? ⟨b,o+k*5+4,none⟩=some (.slice l[k].a l[k].r.cols.length l[k].c):=by
 rw [getD_map RR.cells l hk] at hc
 have c:=hE.cells.1 b
 exact ⟨(c _ hb).trans (hc 0 (by omega)),(c _ hb).trans (hc 1 (by omega)),(c _ hb).trans (hc 2 (by omega)),(c _ hb).trans (hc 3 (by omega)),(c _ hb).trans (hc 4 (by omega))⟩
theorem RR.len (l:List RR):∀xs∈l.map RR.cells,xs.length=5:=by
 intro xs hxs
 rw [List.mem_map] at hxs
 obtain ⟨p,_,rfl⟩:=hxs
 rfl
theorem RR.flat_len (l:List RR):(l.map RR.cells).flatten.length=l.length*5:=by
 have:=flat_length 5 (l.map RR.cells) (RR.len l)
 rwa [List.length_map] at this
theorem RR.one (l:List RR):∀u∈(l.map RR.cells).flatten,u.oneCell' =true:=by
 intro u hu
 rw [List.mem_flatten] at hu
 obtain ⟨xs,hxs,hu⟩:=hu
 rw [List.mem_map] at hxs
 obtain ⟨p,_,rfl⟩:=hxs
 simp [RR.cells] at hu
 rcases hu with rfl|rfl|rfl|rfl|rfl<;>rfl
structure RL (W:World) (v:Value) (ps:List RR):Prop where
 row:Sl W v 5 (ps.map RR.cells)
 sl:∀p∈ps,p.in W
theorem RL.ext {w w' :World} {v:Value} {ps:List RR} (h:RL w v ps) (he:Ext w w'):RL w' v ps:=⟨h.row.ext he,fun p hp=>(h.sl p hp).ext he⟩
theorem RL.nil (w:World):RL w (.slice none 0 0) []:=⟨⟨none,0,rfl, .inl rfl⟩,fun p h=>by cases h⟩
def insP (ps:List RR) (q:RR):List RR:=ps.take (posR q.r.oid q.r.ver (ps.map RR.r))++q::ps.drop (posR q.r.oid q.r.ver (ps.map RR.r))
theorem insP_r (ps:List RR) (q:RR):(insP ps q).map RR.r=insR (ps.map RR.r) q.r:=by
 unfold insP insR
 rw [List.map_append,List.map_cons,List.map_take,List.map_drop]
theorem insP_len (ps:List RR) (q:RR):(insP ps q).length=ps.length+1:=by
 have:=insR_len (ps.map RR.r) q.r
 rw [←insP_r,List.length_map,List.length_map] at this
 exact this
theorem insP_mem {ps:List RR} {q x:RR} (h:x∈insP ps q):x=q∨x∈ps:=by
 unfold insP at h
 rw [List.mem_append,List.mem_cons] at h
 rcases h with h|h|h
 ·exact .inr (List.mem_of_mem_take h)
 ·exact .inl h
 ·exact .inr (List.mem_of_mem_drop h)
theorem insP_flat (ps:List RR) (q:RR):((insP ps q).map RR.cells).flatten=((ps.map RR.cells).flatten).take (posR q.r.oid q.r.ver (ps.map RR.r)*5)++(q.cells++((ps.map RR.cells).flatten).drop (posR q.r.oid q.r.ver (ps.map RR.r)*5)):=by
 have hk:=posR_le q.r.oid q.r.ver (ps.map RR.r)
 rw [List.length_map] at hk
 unfold insP
 generalize posR q.r.oid q.r.ver (ps.map RR.r)=k at hk⊢
 have e:(ps.map RR.cells).flatten=((ps.take k).map RR.cells).flatten++((ps.drop k).map RR.cells).flatten:=by
  rw [←List.flatten_append,←List.map_append,List.take_append_drop]
 have hl:((ps.take k).map RR.cells).flatten.length=k*5:=by rw [RR.flat_len,List.length_take];congr 1;omega
 rw [e,List.take_left' hl,List.drop_left' hl,List.map_append,List.map_cons,List.flatten_append,List.flatten_cons]
structure Ca (W:World) (N g:Nat) (v:Value) (ps:List RR):Prop where
 ptr:Blk W g #[v] 177
 own:W.ownsRow N 120 5 v ps.length (ps.map RR.cells).flatten
 gN:N≤g
 gv:v.ownBlock≠some g
 sl:∀p∈ps,p.in W
 ne:∀p∈ps,p.r.cols≠ []→∀b o,p.a=some ⟨b,o,none⟩→b≠g∧v.ownBlock≠some b∧N≤b∧b<W.heap.size
 ok:CatOk (ps.map RR.r)
 wb:∀p∈ps,p.r.wb
def Ca.S (g:Nat) (v:Value) (k:Nat):Prop:=k=g∨v.ownBlock=some k
section
variable {W W' : World} {N g : Nat} {v : Value} {ps : List RR}
theorem Ca.kp {S:Nat→Prop} (h:Ca W N g v ps) (hk:Kp S W W') (h1: ¬ S g) (h2:∀b,v.ownBlock=some b→¬ S b) (h3:∀p∈ps,p.r.cols≠ []→∀b o,p.a=some ⟨b,o,none⟩→¬ S b):Ca W' N g v ps:=
 ⟨h.ptr.kp hk h1,owns_kp h.own hk h2,h.gN,h.gv,fun p hp=>Sl.kp (h.sl p hp) hk (fun h0=>h3 p hp (fun q=>h0 (by rw [q];rfl))),fun p hp h0 b o e=>by
  obtain ⟨q1,q2,q3,q4⟩:=h.ne p hp h0 b o e
  exact ⟨q1,q2,q3,Nat.lt_of_lt_of_le q4 hk.size⟩,h.ok,h.wb⟩
theorem Ca.ext (h:Ca W N g v ps) (he:Ext W W'):Ca W' N g v ps:=
 h.kp (S:=fun _=>False) (Kp.of_ext he) (fun h=>h) (fun _ _ h=>h) (fun _ _ _ _ _ _ h=>h)
theorem Ca.rl (h:Ca W N g v ps):RL W v ps:=⟨Sl.of_owns (base:=N) (e:=120) (by rw [List.length_map];exact h.own) (RR.len ps),h.sl⟩
theorem Ca.shape (h:Ca W N g v ps):∃a c,v= .slice a ps.length c:=owns_shape h.own
theorem Ca.n64 (h:Ca W N g v ps):ps.length≤64:=by have:=h.ok.n64;rwa [List.length_map] at this
theorem Ca.n16 (h:Ca W N g v ps) {p:RR} (hp:p∈ps):p.r.cols.length≤16:=Rl.cols_le (h.ok.right _ (List.mem_map_of_mem hp))
end
def getP (o v:Int) (ps:List RR):Option RR:=ps.find? (fun p=>isR o v p.r)
def RR.zero:RR:=⟨⟨0,0,⟨#[]⟩,0, []⟩,none,0⟩
theorem getP_map (o v:Int) (ps:List RR):(getP o v ps).map RR.r=getR o v (ps.map RR.r):=by
 unfold getP getR
 rw [List.find?_map];rfl
theorem getP_at {o v:Int} {ps:List RR} {k:Nat} (hk:k<ps.length) (h:ps[k].r.oid=o∧ps[k].r.ver=v) (hp:∀j (hj:j<ps.length),j<k→¬ (ps[j].r.oid=o∧ps[j].r.ver=v)):getP o v ps=some ps[k]:=by
 unfold getP
 rw [List.find?_eq_some_iff_getElem]
 refine ⟨by unfold isR;simpa using h,k,hk,rfl,fun j hj=> ?_⟩
 have:=hp j (by omega) hj
 unfold isR
 simp only [Bool.not_eq_true',decide_eq_false_iff_not]
 exact this
theorem getP_none {o v:Int} {ps:List RR} (hp:∀j (hj:j<ps.length),¬ (ps[j].r.oid=o∧ps[j].r.ver=v)):getP o v ps=none:=by
 unfold getP
 rw [List.find?_eq_none]
 intro x hx
 obtain ⟨j,hj,rfl⟩:=List.getElem_of_mem hx
 have:=hp j hj
 unfold isR
 simpa using this
theorem getP_some {o v:Int} {ps:List RR} {p:RR} (h:getP o v ps=some p):p∈ps∧p.r.oid=o∧p.r.ver=v:=by
 unfold getP at h
 have h1:=List.find?_some h
 unfold isR at h1
 exact ⟨List.mem_of_find?_eq_some h,by simpa using h1⟩
theorem getP_is (o v:Int) (ps:List RR):(getP o v ps).isSome=hasR o v (ps.map RR.r):=by
 rw [←Option.isSome_map,getP_map]
 cases h:getR o v (ps.map RR.r) with
 |none=>rw [getR_none.1 h];rfl
 |some r=>
  cases hh:hasR o v (ps.map RR.r) with
  |true=>rfl
  |false=>rw [getR_none.2 hh] at h;cases h
def outs (ps:List RR) (q:RR) (i:Nat):List RR:=if i≤posR q.r.oid q.r.ver (ps.map RR.r) then ps.take i else (insP ps q).take (i+1)
theorem insP_get (ps:List RR) (q:RR) {i:Nat} (hi:i<ps.length) (h:posR q.r.oid q.r.ver (ps.map RR.r)≤i):(insP ps q)[i+1]'(by rw [insP_len];omega)=ps[i]:=by
 have hk:=posR_le q.r.oid q.r.ver (ps.map RR.r)
 rw [List.length_map] at hk
 have e2:(insP ps q)[i+1]? =some ps[i]:=by
  unfold insP
  generalize posR q.r.oid q.r.ver (ps.map RR.r)=k at h hk⊢
  rw [List.getElem?_append_right (by rw [List.length_take];omega),show i+1 - (ps.take k).length=(i - k)+1 by rw [List.length_take];omega,List.getElem?_cons_succ,List.getElem?_drop,show k+(i - k)=i by omega,List.getElem?_eq_getElem hi]
 have h3:i+1<(insP ps q).length:=by rw [insP_len];omega
 rw [List.getElem?_eq_getElem h3] at e2
 exact Option.some.inj e2
theorem outs_zero (ps:List RR) (q:RR):outs ps q 0= []:=by unfold outs;rw [if_pos (Nat.zero_le _)];rfl
theorem outs_lt {ps:List RR} {q:RR} {i:Nat} (hi:i<ps.length) (h:i<posR q.r.oid q.r.ver (ps.map RR.r)):outs ps q (i+1)=outs ps q i++ [ps[i]]:=by
 unfold outs
 rw [if_pos (by omega),if_pos (by omega),List.take_succ_eq_append_getElem hi]
theorem outs_eq {ps:List RR} {q:RR} {i:Nat} (hi:i<ps.length) (h:i=posR q.r.oid q.r.ver (ps.map RR.r)):outs ps q (i+1)=outs ps q i++ [q]++ [ps[i]]:=by
 have hg:=insP_get ps q hi (by omega)
 unfold outs
 rw [if_neg (by omega),if_pos (by omega),List.take_succ_eq_append_getElem (by rw [insP_len];omega),hg]
 congr 1
 unfold insP
 rw [←h,List.take_append,List.take_of_length_le (by rw [List.length_take];omega),List.length_take,show i+1 - min i ps.length=1 by omega]
 rfl
theorem outs_gt {ps:List RR} {q:RR} {i:Nat} (hi:i<ps.length) (h:posR q.r.oid q.r.ver (ps.map RR.r)<i):outs ps q (i+1)=outs ps q i++ [ps[i]]:=by
 have hg:=insP_get ps q hi (by omega)
 unfold outs
 rw [if_neg (by omega),if_neg (by omega),List.take_succ_eq_append_getElem (by rw [insP_len];omega),hg]
theorem outs_end {ps:List RR} {q:RR} (h:posR q.r.oid q.r.ver (ps.map RR.r)<ps.length):outs ps q ps.length=insP ps q:=by
 unfold outs
 rw [if_neg (by omega),List.take_of_length_le (by rw [insP_len];omega)]
theorem outs_last {ps:List RR} {q:RR} (h:posR q.r.oid q.r.ver (ps.map RR.r)=ps.length):outs ps q ps.length++ [q]=insP ps q:=by
 unfold outs insP
 rw [if_pos (by omega),h,List.drop_eq_nil_of_le (Nat.le_refl _)]
structure Rf where
 o:Int
 v:Int
def Rf.cells (r:Rf):List Value:= [.int .u32 r.o, .int .u32 r.v]
theorem Rf.at_ {w wr:World} {b o:Nat} {l:List Rf} {k:Nat} (hk:k<l.length) (hc:∀j,j<2→w.cell? ⟨b,o+k*2+j,none⟩=((l.map Rf.cells).getD k [])[j]?) (hb:b<w.heap.size) (hE:Ext w wr):
 wr.cell? ⟨b,o+k*2,none⟩=some (.int .u32 l[k].o)∧wr.cell? ⟨b,o+k*2+1,none⟩=some (.int .u32 l[k].v):=by
 rw [getD_map Rf.cells l hk] at hc
 have c:=hE.cells.1 b
 exact ⟨(c _ hb).trans (hc 0 (by omega)),(c _ hb).trans (hc 1 (by omega))⟩
theorem alikeK {c d:K} :alikeB c.k c.v.ty c.v.n c.v.x c.v.y c.v.s d.k d.v.ty d.v.n d.v.x d.v.y d.v.s=true↔c=d:=by
 unfold alikeB
 rw [decide_eq_true_iff]
 constructor
 ·obtain ⟨k,ty,n,x,y,s⟩:=c
  obtain ⟨k',ty',n',x',y',s'⟩:=d
  rintro ⟨rfl,rfl,rfl,rfl,rfl,rfl⟩
  rfl
 ·rintro rfl;simp
noncomputable def rowB (l m:List K):Bool:= @decide (l=m) (Classical.propDecidable _)
theorem rowB_true {l m:List K} :rowB l m=true↔l=m:=by unfold rowB;simp
theorem rowB_false {l m:List K} :rowB l m=false↔l≠m:=by unfold rowB;simp
theorem rowB_at {l m:List K} {k:Nat} (h1:k<l.length) (h2:k<m.length) (h:l[k]≠m[k]):rowB l m=false:=rowB_false.2 (by rintro rfl;exact h rfl)
theorem rowB_len {l m:List K} (h:l.length≠m.length):rowB l m=false:=rowB_false.2 (by rintro rfl;exact h rfl)
theorem rowB_all {l m:List K} (h0:l.length=m.length) (h:∀i (h1:i<l.length) (h2:i<m.length),l[i]=m[i]):rowB l m=true:=rowB_true.2 (List.ext_getElem h0 h)
theorem neq_cell (k ty n:Int) (x y:Nat) (s:ByteArray) (k' ty' n' :Int) (x' y' :Nat) (s' :ByteArray) (w:World):
 (binOp .neq 127 (.agg #[.int .u8 k, .int .u8 ty, .int .i64 n, .int .u64 x, .int .u64 y, .string s]) (.agg #[.int .u8 k', .int .u8 ty', .int .i64 n', .int .u64 x', .int .u64 y', .string s'])).run Tryz.prog w= .ok (.bool (!alikeB k ty n x y s k' ty' n' x' y' s')) w:=by
 by_cases h0:k=k' <;>by_cases h1:ty=ty' <;>by_cases h2:n=n' <;>by_cases h3:x=x' <;>by_cases h4:y=y' <;>by_cases h5:s=s' <;>simp [go_sem,alikeB,h0,h1,h2,h3,h4,h5]
 all_goals first
  |(intro h;exact absurd (toList_inj' h) h5)
  |omega
  |(intros;omega)
  |(intros;intro h;exact absurd (toList_inj' h) h5)
theorem eqf_any (l m:List K) (a b:Option Addr) (ca cb:Nat) (w:World) (hl:Sl w (.slice a l.length ca) 5 (l.map K.pc)) (hm:Sl w (.slice b m.length cb) 5 (m.map K.pc)) (hlen:l.length≤1000) (_hlen2:m.length≤1000):
 Calls Tryz.prog 164 #[.slice a l.length ca, .slice b m.length cb, .func (.func 165) #[] #[]] w fun e w' =>e= .returned (.bool (rowB l m))∧Ext w w' :=by
 have HL:=Hm hl
 have HM:=Hm hm
 clear hl hm
 by_cases hn:l.length=m.length
 case neg=>
  have hn' :(((l.length:Nat):Int) !=((m.length:Nat):Int))=true:=by simp;omega
  have HR:=Hm (rowB_len hn)
  clear hn
  go_enter Tryz.func164,Tryz.ntmps164
  go_wp2
  go_ret
  exact ⟨ret_bool HR.out.symm,by exact eX⟩
 have hn' :(((l.length:Nat):Int) !=((m.length:Nat):Int))=false:=by simp;omega
 have HN:=Hm hn
 clear hn
 go_enter Tryz.func164,Tryz.ntmps164
 go_wp2
 go_loopw [17] (fun i wr=>∃k:Nat,k≤l.length∧i= .int .i64 k∧Hid (∀j (h1:j<l.length) (h2:j<m.length),j<k→l[j]=m[j])∧Hid (Ext w wr)) (fun i _=>l.length - (intOf i).toNat)
 case atStart=>exact ⟨0,Nat.zero_le _,rfl,fun j _ _ h=>by omega,Ext.refl _⟩
 case round=>
  obtain ⟨k,hk,rfl,hrel,hE⟩:=hrel
  by_cases hlt:k<l.length
  ·have hlt2:k<m.length:=by have:=HN.out;omega
   obtain ⟨b1,o1,rfl,hb1,hx1⟩:=HL.out.at_ (i:=k) (by simpa using hlt)
   obtain ⟨f0,f1,f2,f3,f4⟩:=K.pcAt hlt hx1 hb1 hE.out
   obtain ⟨b2,o2,rfl,hb2,hx2⟩:=HM.out.at_ (i:=k) (by simpa using hlt2)
   obtain ⟨p0,p1,p2,p3,p4⟩:=K.pcAt hlt2 hx2 hb2 hE.out
   have hbw:b1<wr.heap.size:=Nat.lt_of_lt_of_le hb1 hE.out.size
   have hbw2:b2<wr.heap.size:=Nat.lt_of_lt_of_le hb2 hE.out.size
   have hbx2:b2<wr.heap.size+1:=by omega
   have HC:=Hm (fun w=>calike_any l[k].k l[k].v.ty l[k].v.n l[k].v.x l[k].v.y l[k].v.s m[k].k m[k].v.ty m[k].v.n m[k].v.x m[k].v.y m[k].v.s w)
   cases hA:alikeB l[k].k l[k].v.ty l[k].v.n l[k].v.x l[k].v.y l[k].v.s m[k].k m[k].v.ty m[k].v.n m[k].v.x m[k].v.y m[k].v.s with
   |true=>
    rw [hA] at HC
    have HA:=Hm (alikeK.1 hA)
    clear hA hx1 hx2
    go_wp2_with (go_at_call 165;refine (HC.out _).mono ?_;rintro e w1 ⟨rfl,hb3⟩)
    go_roundw
    case rel=>exact ⟨k+1,by omega,by go_num,fun j h1 h2 hjk=>by
     by_cases e:j=k
     ·subst e;exact HA.out
     ·exact hrel.out j h1 h2 (by omega),Hm (hE.out.trans (by exact eX))⟩
    case measure=>simp [intOf];omega
   |false=>
    rw [hA] at HC
    have HR:=Hm (rowB_at hlt hlt2 (fun h=>by rw [alikeK.2 h] at hA;cases hA))
    clear hA hx1 hx2
    go_wp2_with (go_at_call 165;refine (HC.out _).mono ?_;rintro e w1 ⟨rfl,hb3⟩)
    go_ret
    exact ⟨ret_bool HR.out.symm,hE.out.trans (by exact eX)⟩
  ·have hkk:k=l.length:=by omega
   have HR:=Hm (rowB_all HN.out (fun i h1 h2=>hrel.out i h1 h2 (by omega)))
   subst hkk
   go_wp2
   go_ret
   exact ⟨ret_bool HR.out.symm,hE.out⟩
theorem alike_any (l m:List K) (a b:Option Addr) (ca cb:Nat) (w:World) (hl:Sl w (.slice a l.length ca) 5 (l.map K.pc)) (hm:Sl w (.slice b m.length cb) 5 (m.map K.pc)) (hlen:l.length≤1000) (hlen2:m.length≤1000):
 Calls Tryz.prog 130 #[.slice a l.length ca, .slice b m.length cb] w fun e w' =>e= .returned (.bool (rowB l m))∧Ext w w' :=by
 have HI:=Hm (eqf_any l m a b ca cb w hl hm hlen hlen2)
 clear hl hm
 go_enter Tryz.func130,Tryz.ntmps130
 go_wp2_with (go_at_call 164;refine HI.out.mono ?_;rintro e w1 ⟨rfl,hb1⟩)
 go_ret
 exact ⟨rfl,hb1⟩
theorem rsame_any (l m:List K) (a b:Option Addr) (ca cb:Nat) (w:World) (hl:Sl w (.slice a l.length ca) 6 (l.map K.rc)) (hm:Sl w (.slice b m.length cb) 6 (m.map K.rc)) (hlen:l.length≤1000) (_hlen2:m.length≤1000):
 Calls Tryz.prog 33 #[.slice a l.length ca, .slice b m.length cb] w fun e w' =>e= .returned (.bool (rowB l m))∧Ext w w' :=by
 have HL:=Hm hl
 have HM:=Hm hm
 clear hl hm
 by_cases hn:l.length=m.length
 case neg=>
  have hn' :(((l.length:Nat):Int) !=((m.length:Nat):Int))=true:=by simp;omega
  have HR:=Hm (rowB_len hn)
  clear hn
  go_enter Tryz.func33,Tryz.ntmps33
  go_wp2
  go_ret
  exact ⟨ret_bool HR.out.symm,by exact eX⟩
 have hn' :(((l.length:Nat):Int) !=((m.length:Nat):Int))=false:=by simp;omega
 have HN:=Hm hn
 clear hn
 go_enter Tryz.func33,Tryz.ntmps33
 go_wp2
 go_loopw [5] (fun i wr=>∃k:Nat,k≤l.length∧i= .int .i64 k∧Hid (∀j (h1:j<l.length) (h2:j<m.length),j<k→l[j]=m[j])∧Hid (Ext w wr)) (fun i _=>l.length - (intOf i).toNat)
 case atStart=>exact ⟨0,Nat.zero_le _,rfl,fun j _ _ h=>by omega,Ext.refl _⟩
 case round=>
  obtain ⟨k,hk,rfl,hrel,hE⟩:=hrel
  by_cases hlt:k<l.length
  ·have hlt2:k<m.length:=by have:=HN.out;omega
   obtain ⟨b1,o1,rfl,hb1,hx1⟩:=HL.out.at_ (i:=k) (by simpa using hlt)
   obtain ⟨f0,f1,f2,f3,f4,f5⟩:=K.rcAt hlt hx1 hb1 hE.out
   obtain ⟨b2,o2,rfl,hb2,hx2⟩:=HM.out.at_ (i:=k) (by simpa using hlt2)
   obtain ⟨p0,p1,p2,p3,p4,p5⟩:=K.rcAt hlt2 hx2 hb2 hE.out
   have hbw:b1<wr.heap.size:=Nat.lt_of_lt_of_le hb1 hE.out.size
   have hbw2:b2<wr.heap.size:=Nat.lt_of_lt_of_le hb2 hE.out.size
   have hNq:=fun w=>neq_cell l[k].k l[k].v.ty l[k].v.n l[k].v.x l[k].v.y l[k].v.s m[k].k m[k].v.ty m[k].v.n m[k].v.x m[k].v.y m[k].v.s w
   cases hA:alikeB l[k].k l[k].v.ty l[k].v.n l[k].v.x l[k].v.y l[k].v.s m[k].k m[k].v.ty m[k].v.n m[k].v.x m[k].v.y m[k].v.s with
   |true=>
    rw [hA] at hNq
    have HA:=Hm (alikeK.1 hA)
    clear hA hx1 hx2
    go_wp2
    go_region_held3 (fun w' =>Ext (wr) w'∧(∀b o,b<(wr).heap.size→w'.cell? ⟨b,o,none⟩=(wr).cell? ⟨b,o,none⟩)∧(∀b o,b<(wr).heap.size→w'.frozen? ⟨b,o,none⟩=(wr).frozen? ⟨b,o,none⟩)) ((exact held_of (by exact eX))) (fail)
    go_wp2
    go_roundw
    case rel=>exact ⟨k+1,by omega,by go_num,fun j h1 h2 hjk=>by
     by_cases e:j=k
     ·subst e;exact HA.out
     ·exact hrel.out j h1 h2 (by omega),Hm (hE.out.trans (by exact eX))⟩
    case measure=>simp [intOf];omega
   |false=>
    rw [hA] at hNq
    have HR:=Hm (rowB_at hlt hlt2 (fun h=>by rw [alikeK.2 h] at hA;cases hA))
    clear hA hx1 hx2
    go_wp2
    go_region_held3 (fun w' =>Ext (wr) w'∧(∀b o,b<(wr).heap.size→w'.cell? ⟨b,o,none⟩=(wr).cell? ⟨b,o,none⟩)∧(∀b o,b<(wr).heap.size→w'.frozen? ⟨b,o,none⟩=(wr).frozen? ⟨b,o,none⟩)) ((exact held_of (by exact eX))) (fail)
    go_wp2
    go_ret
    exact ⟨ret_bool HR.out.symm,hE.out.trans (by exact eX)⟩
  ·have hkk:k=l.length:=by omega
   have HR:=Hm (rowB_all HN.out (fun i h1 h2=>hrel.out i h1 h2 (by omega)))
   subst hkk
   go_wp2
   go_ret
   exact ⟨ret_bool HR.out.symm,hE.out⟩
structure Ev where
 kind:Int
 ao:Int
 av:Int
 old:Int
 b:List K
 a:List K
 rs:List Rf
 fl:Int
theorem Blk.eight {W:World} {b:Nat} {u0 u1 u2 u3 u4 u5 u6 u7 v0 v1 v2 v3 v4 v5 v6 v7:Value} {T:TypeId} (h:Blk W b #[u0,u1,u2,u3,u4,u5,u6,u7] T):
 Blk ((((((((W.setCell ⟨b,0,none⟩ v0).setCell ⟨b,1,none⟩ v1).setCell ⟨b,2,none⟩ v2).setCell ⟨b,3,none⟩ v3).setCell ⟨b,4,none⟩ v4).setCell ⟨b,5,none⟩ v5).setCell ⟨b,6,none⟩ v6).setCell ⟨b,7,none⟩ v7) b #[v0,v1,v2,v3,v4,v5,v6,v7] T:=by
 have h1:=(((((((h.set 0 v0).set 1 v1).set 2 v2).set 3 v3).set 4 v4).set 5 v5).set 6 v6).set 7 v7
 simpa only [List.setIfInBounds_toArray,List.set_cons_zero,List.set_cons_succ] using h1
theorem Fr.eight {W:World} {N M k X:Nat} {v:Value} {xss:List (List Value)} {v0 v1 v2 v3 v4 v5 v6 v7:Value} (h:Fr W N M v k xss) (hp:X<N∨M≤X):
 Fr ((((((((W.setCell ⟨X,0,none⟩ v0).setCell ⟨X,1,none⟩ v1).setCell ⟨X,2,none⟩ v2).setCell ⟨X,3,none⟩ v3).setCell ⟨X,4,none⟩ v4).setCell ⟨X,5,none⟩ v5).setCell ⟨X,6,none⟩ v6).setCell ⟨X,7,none⟩ v7) N M v k xss:=by
 repeat refine Fr.set ?_ hp _
 exact h
theorem Fr.ne2 {W:World} {N M k X m:Nat} {a:Option Addr} {n c:Nat} {xss:List (List Value)} (h:Fr W N M (.slice a n c) k xss) (hp:X<N∨M≤X) (hm:m<N) (h0:xss≠ []):∀b o,a=some ⟨b,o,none⟩→b≠X∧m<b:=fun b o e=>by
 have h1:=h.2 b o n c (by rw [e])
 have h2:=h1.2 h0
 omega
theorem Kp.eight {W:World} {X:Nat} {v0 v1 v2 v3 v4 v5 v6 v7:Value} :
 Kp (fun x=>x=X) W ((((((((W.setCell ⟨X,0,none⟩ v0).setCell ⟨X,1,none⟩ v1).setCell ⟨X,2,none⟩ v2).setCell ⟨X,3,none⟩ v3).setCell ⟨X,4,none⟩ v4).setCell ⟨X,5,none⟩ v5).setCell ⟨X,6,none⟩ v6).setCell ⟨X,7,none⟩ v7):=by
 have hs:∀(W:World) i v,Kp (fun x=>x=X) W (W.setCell ⟨X,i,none⟩ v):=fun W i v=>Kp.set (S:=fun x=>x=X) ⟨X,i,none⟩ v rfl
 have ht:∀ {A B C:World},Kp (fun x=>x=X) A B→Kp (fun x=>x=X) B C→Kp (fun x=>x=X) A C:=fun h k=>h.trans k (fun x hx _=>hx)
 exact ht (ht (ht (ht (ht (ht (ht (hs _ _ _) (hs _ _ _)) (hs _ _ _)) (hs _ _ _)) (hs _ _ _)) (hs _ _ _)) (hs _ _ _)) (hs _ _ _)
end Go.Proofs.YtodbhliidbclcaaGreat
