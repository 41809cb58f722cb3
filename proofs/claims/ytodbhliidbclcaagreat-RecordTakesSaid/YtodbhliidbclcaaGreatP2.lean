/-
Reading: what a reader answers, in plain words: numbers by sevens, words, texts, values; and what is put is read back.
-/
import Derived.OrdersHeld
import Derived.StillTail
import Derived.Deep.AppendLies
import Derived.Test.YtodbhliidbclcaaGreatP1
set_option maxRecDepth 100000
set_option maxHeartbeats 16000000
namespace Go.Proofs.YtodbhliidbclcaaGreat
open Go.RowKit
structure RS where
 l:List Int
 e:Int
def isB (l:List Int):Prop:=∀x∈l,0≤x∧x<256
theorem isB.drop {l:List Int} (h:isB l) (n:Nat):isB (l.drop n):=fun x hx=>h x (List.mem_of_mem_drop hx)
theorem isB.take {l:List Int} (h:isB l) (n:Nat):isB (l.take n):=fun x hx=>h x (List.mem_of_mem_take hx)
theorem isB.nil:isB []:=fun x hx=>by cases hx
theorem isB.append {l m:List Int} (h:isB l) (k:isB m):isB (l++m):=fun x hx=>by rcases List.mem_append.1 hx with h1|h1;exact h x h1;exact k x h1
theorem isB.tail {x:Int} {l:List Int} (h:isB (x::l)):isB l:=fun y hy=>h y (List.mem_cons_of_mem _ hy)
theorem isB.head {x:Int} {l:List Int} (h:isB (x::l)):0≤x∧x<256:=h x (by simp)
def giveS (st:RS) (e:Int):RS:=if st.e=0 then ⟨[],e⟩ else st
def digs:List Int→Nat→Nat→Nat×Nat×Int
 | [],_,_=>(0,0,1)
 |x::l,n,v=>
  if n=9∧1<x then (0,0,5)
  else if 128≤x then digs l (n+1) (v+(x%128).toNat*128 ^ n)
  else if 1≤n∧x=0 then (0,0,5)
  else (v+(x%128).toNat*128 ^ n,n+1,0)
theorem sev_room (x b K:Nat) (hb:b<128) (hK:K ∣ 72057594037927936) (h:x*(128*K)<18446744073709551616):x*(128*K)+b*K<18446744073709551616:=by
 obtain ⟨c,hc⟩:=hK
 have e:(18446744073709551616:Nat)=(2*c)*(128*K):=by
  have:(18446744073709551616:Nat)=256*72057594037927936:=rfl
  rw [this,hc,Nat.mul_comm K c,←Nat.mul_assoc,←Nat.mul_assoc,Nat.mul_right_comm 2 c 128]
 rw [e] at h⊢
 have h2:x<2*c:=Nat.lt_of_mul_lt_mul_right h
 have h3:b*K≤127*K:=Nat.mul_le_mul_right K (by omega)
 have h4:(x+1)*(128*K)≤2*c*(128*K):=Nat.mul_le_mul_right _ h2
 have hk:0<K:=by
  rcases Nat.eq_zero_or_pos K with h|h
  ·subst h;simp at hc
  ·exact h
 have h5:127*K<128*K:=Nat.mul_lt_mul_of_pos_right (by decide) hk
 have h6:(x+1)*(128*K)=x*(128*K)+128*K:=by rw [Nat.add_mul,Nat.one_mul]
 omega
theorem sev_dvd (n:Nat) (h:n≤8):128 ^ n ∣ 72057594037927936:=by
 have e:(72057594037927936:Nat)=128 ^ 8:=by decide
 rw [e];exact Nat.pow_dvd_pow 128 h
theorem digs_inv:∀(l:List Int) (n v v' m:Nat),isB l→n≤9→digs l n v=(v',m,0)→
 ∃x,v' =v+x*128 ^ n∧m=n+(sevens x).length∧l=sevens x++l.drop (sevens x).length∧x*128 ^ n<2 ^ 64∧(1≤n→1≤x):=by
 intro l
 induction l with
 |nil=>intro n v v' m _ _ h;simp [digs] at h
 |cons b l ih=>
  intro n v v' m hb hn h
  obtain ⟨hb0,hb1⟩:=hb.head
  rw [digs] at h
  by_cases h1:n=9∧1<b
  ·rw [if_pos h1] at h;simp at h
  rw [if_neg h1] at h
  by_cases h2:128≤b
  ·rw [if_pos h2] at h
   have hn8:n≤8:=by
    rcases Nat.lt_or_ge n 9 with h3|h3
    ·omega
    ·exact absurd ⟨by omega,by omega⟩ h1
   obtain ⟨x,hv,hm,hl,hx,hp⟩:=ih (n+1) _ _ _ hb.tail (by omega) h
   have hx1:=hp (by omega)
   have ep:128 ^ (n+1)=128*128 ^ n:=by rw [Nat.pow_succ,Nat.mul_comm]
   rw [ep] at hv hx
   refine ⟨128*x+(b%128).toNat, ?_, ?_, ?_, ?_,fun _=>by omega⟩
   ·rw [hv,Nat.add_mul,Nat.mul_comm 128 x,Nat.mul_assoc];omega
   ·rw [sevens_ge (by omega),List.length_cons,hm]
    rw [show (128*x+(b%128).toNat) / 128=x by omega];omega
   ·rw [sevens_ge (by omega),List.length_cons,show (128*x+(b%128).toNat) / 128=x by omega,List.drop_succ_cons,List.cons_append,←hl]
    congr 1;omega
   ·rw [Nat.add_mul,Nat.mul_comm 128 x,Nat.mul_assoc]
    exact sev_room x _ _ (by omega) (sev_dvd n hn8) hx
  ·rw [if_neg h2] at h
   by_cases h3:1≤n∧b=0
   ·rw [if_pos h3] at h;simp at h
   rw [if_neg h3] at h
   simp only [Prod.mk.injEq] at h
   obtain ⟨rfl,rfl, -⟩:=h
   have e:(b%128).toNat=b.toNat:=by omega
   refine ⟨b.toNat,by rw [e], ?_, ?_, ?_,fun _=>by omega⟩
   ·rw [sevens_lt (by omega)];rfl
   ·rw [sevens_lt (by omega)]
    show b::l=((b.toNat:Nat):Int)::l
    congr 1;omega
   ·have hc:n=0∨n=1∨n=2∨n=3∨n=4∨n=5∨n=6∨n=7∨n=8∨n=9:=by omega
    rcases hc with rfl|rfl|rfl|rfl|rfl|rfl|rfl|rfl|rfl|rfl<;>omega
def uintR (most:Nat) (st:RS):Nat×RS:=
 let d:=digs st.l 0 0
 if d.2.2≠0 then (0,giveS st d.2.2) else if most<d.1 then (0,giveS st 4) else (d.1,⟨st.l.drop d.2.1,st.e⟩)
def zag (v:Nat):Int:=if v%2=1 then -((v / 2:Nat):Int) - 1 else ((v / 2:Nat):Int)
def intR (st:RS):Int×RS:=let r:=uintR 18446744073709551615 st;(zag r.1,r.2)
def bytesR (n:Nat) (st:RS):List Int×RS:=if st.l.length<n then ([],giveS st 1) else (st.l.take n,⟨st.l.drop n,st.e⟩)
def textR (most:Nat) (st:RS):List Int×RS:=let r:=uintR most st;bytesR r.1 r.2
def byteR (st:RS):Int×RS:=let r:=bytesR 1 st;(r.1.headD 0,r.2)
def ofBytes:List Int→Nat
 | []=>0
 |x::l=>x.toNat+256*ofBytes l
def wordR (st:RS):Nat×RS:=let r:=bytesR 8 st;(ofBytes r.1,r.2)
def endE (st:RS):Int:=if st.e=0∧st.l≠ [] then 2 else st.e
def RS.ok (st:RS):Prop:=(st.e≠0→st.l= [])∧isB st.l
theorem giveS_ok {st:RS} (h:st.ok) (e:Int):(giveS st e).ok:=by unfold giveS;split;exact ⟨fun _=>rfl,isB.nil⟩;exact h
theorem giveS_gave {st:RS} (e:Int) (h:st.e≠0):giveS st e=st:=by unfold giveS;rw [if_neg h]
theorem uintR_ok {st:RS} (h:st.ok) (m:Nat):(uintR m st).2.ok:=by
 unfold uintR;simp only;(repeat' split)
 ·exact giveS_ok h _
 ·exact giveS_ok h _
 ·exact ⟨fun he=>by have:=h.1 he;simp [this],h.2.drop _⟩
theorem bytesR_ok {st:RS} (h:st.ok) (n:Nat):(bytesR n st).2.ok:=by
 unfold bytesR;split
 ·exact giveS_ok h _
 ·exact ⟨fun he=>by have:=h.1 he;simp [this],h.2.drop _⟩
theorem bytesR_isB {st:RS} (h:st.ok) (n:Nat):isB (bytesR n st).1:=by
 unfold bytesR;split
 ·exact isB.nil
 ·exact h.2.take _
theorem uintR_le {st:RS} (m:Nat):(uintR m st).1≤m:=by
 unfold uintR;simp only;(repeat' split)<;>simp;omega
def toI64 (w:Nat):Int:=if w<9223372036854775808 then (w:Int) else (w:Int) - 18446744073709551616
def floatR (ver:Int) (st:RS):Nat×RS:=if ver=1 then wordR st else let r:=uintR 18446744073709551615 st;(rev r.1,r.2)
def failS (st:RS) (e:Int):RS:=if e≠0 then giveS st e else st
def partR (there:Bool) (st:RS):Nat×RS:=if there then let r:=floatR 2 st;(r.1,if r.1=0 then giveS r.2 3 else r.2) else (0,st)
def complexR (ver:Int) (st:RS):(Nat×Nat)×RS:=
 if ver=1 then let a:=wordR st;let b:=wordR a.2;((a.1,b.1),b.2)
 else let m:=byteR st;let a:=partR (decide (m.1%2=1)) (if 3<m.1 then giveS m.2 4 else m.2);let b:=partR (decide (m.1 / 2%2=1)) a.2;((a.1,b.1),b.2)
def bodyR (kind ver:Int) (st:RS):V×RS:=
 if kind=1 then let r:=byteR st;(⟨kind,r.1,0,0,ByteArray.empty⟩,r.2)
 else if kind=2 then (if ver=1 then let r:=wordR st;(⟨kind,toI64 r.1,0,0,ByteArray.empty⟩,r.2) else let r:=intR st;(⟨kind,r.1,0,0,ByteArray.empty⟩,r.2))
 else if kind=3 then let r:=floatR ver st;(⟨kind,0,r.1,0,ByteArray.empty⟩,r.2)
 else if kind=4 then let r:=complexR ver st;(⟨kind,0,r.1.1,r.1.2,ByteArray.empty⟩,r.2)
 else if kind=5∨kind=6 then let r:=textR 2048 st;(⟨kind,0,0,0,strOfNums r.1⟩,r.2)
 else (⟨kind,0,0,0,ByteArray.empty⟩,st)
def takeV (kind ver:Int) (st:RS):V×RS:=
 if ver=1∨ver=2 then
  let r:=bodyR kind ver st
  let st2:=failS r.2 r.1.right
  if st2.e≠0 then (V.zero,st2) else (r.1,st2)
 else (V.zero,giveS st 18)
theorem byteR_ok {st:RS} (h:st.ok):(byteR st).2.ok:=bytesR_ok h 1
theorem ofBytes_lt:∀l,isB l→ofBytes l<256 ^ l.length:=by
 intro l
 induction l with
 |nil=>intro _;simp [ofBytes]
 |cons x l ih=>
  intro h
  have h1:=h.head
  have h2:=ih h.tail
  rw [ofBytes,List.length_cons,Nat.pow_succ,Nat.mul_comm (256 ^ l.length)]
  have:x.toNat<256:=by omega
  omega
theorem ofBytes_lt64 {l:List Int} (h:isB l) (h8:l.length≤8):ofBytes l<2 ^ 64:=by
 have:=ofBytes_lt l h
 have h2:256 ^ l.length≤256 ^ 8:=Nat.pow_le_pow_right (by decide) h8
 have h3:(256:Nat) ^ 8=2 ^ 64:=by decide
 omega
theorem strL_strOf {l:List Int} (h:isB l):strL (strOfNums l)=l:=by
 simp only [strL,strOfNums,List.map_map]
 conv=>rhs;rw [←List.map_id l]
 refine List.map_congr_left fun x hx=> ?_
 have:=h x hx
 simp only [Function.comp,id,UInt8.toNat_ofNat']
 omega
def mapSize (n:Nat):Nat:=(n+7) / 8
def bitAt (v k:Nat):Bool:=decide (v / 2 ^ k%2=1)
def unbits (v n:Nat):List Bool:=(List.range n).map (bitAt v)
def unmapL (b:List Int) (n:Nat):List Bool×Int:=if ofBytes b / 2 ^ n>0 then ([],3) else (unbits (ofBytes b) n,0)
theorem unbits_snoc (v n:Nat):unbits v (n+1)=unbits v n++ [bitAt v n]:=by
 unfold unbits;rw [List.range_succ,List.map_append];rfl
theorem unbits_len (v n:Nat):(unbits v n).length=n:=by simp [unbits]
theorem ofBytes_bit:∀(b:List Int) (k:Nat),isB b→k<8*b.length→bitAt (ofBytes b) k=decide ((b.getD (k / 8) 0).toNat / 2 ^ (k%8)%2=1)
 | [],k,_,h=>by simp at h
 |x::b,k,hb,h=>by
  have hx:=hb.head
  rw [ofBytes]
  by_cases h8:k<8
  ·have h0:k / 8=0:=by omega
   have h1:k%8=k:=by omega
   rw [h0,h1,List.getD_cons_zero]
   unfold bitAt
   congr 2
   have e:256*ofBytes b=2 ^ k*(2*(2 ^ (7 - k)*ofBytes b)):=by
    have:(256:Nat)=2 ^ k*(2*2 ^ (7 - k)):=by
     rw [←Nat.pow_succ',←Nat.pow_add,show k+(7 - k+1)=8 by omega]
    rw [this];simp only [Nat.mul_assoc]
   rw [e,Nat.add_mul_div_left _ _ (Nat.pow_pos (by decide)),Nat.add_mul_mod_self_left]
  ·have ih:=ofBytes_bit b (k - 8) hb.tail (by rw [List.length_cons] at h;omega)
   have h0:k / 8=(k - 8) / 8+1:=by omega
   have h1:k%8=(k - 8)%8:=by omega
   rw [h0,h1,List.getD_cons_succ,←ih]
   unfold bitAt
   congr 2
   have e:2 ^ k=256*2 ^ (k - 8):=by
    rw [show (256:Nat)=2 ^ 8 by decide,←Nat.pow_add,show 8+(k - 8)=k by omega]
   have e2:(x.toNat+256*ofBytes b) / 256=ofBytes b:=by omega
   rw [e,←Nat.div_div_eq_div_mul,e2]
theorem bitAt_pos {v k n:Nat} (h:bitAt v k=true) (hn:n≤k):v / 2 ^ n>0:=by
 unfold bitAt at h
 rw [decide_eq_true_iff] at h
 have h1:0<v / 2 ^ k:=by
  rcases Nat.eq_zero_or_pos (v / 2 ^ k) with h0|h0
  ·rw [h0] at h;cases h
  ·exact h0
 have h2:2 ^ k≤v:=by
  rcases Nat.lt_or_ge v (2 ^ k) with h3|h3
  ·rw [Nat.div_eq_of_lt h3] at h1;omega
  ·exact h3
 exact Nat.div_pos (Nat.le_trans (Nat.pow_le_pow_right (by decide) hn) h2) (Nat.pow_pos (by decide))
theorem bits_none:∀(m v n:Nat),v<2 ^ (n+m)→(∀k,n≤k→k<n+m→bitAt v k=false)→v<2 ^ n
 |0,v,n,h,_=>by simpa using h
 |m+1,v,n,h,hk=>by
  refine bits_none m v n ?_ (fun k h1 h2=>hk k h1 (by omega))
  have hb:=hk (n+m) (by omega) (by omega)
  unfold bitAt at hb
  rw [decide_eq_false_iff_not] at hb
  have h1:v / 2 ^ (n+m)<2:=by
   rw [Nat.div_lt_iff_lt_mul (Nat.pow_pos (by decide)),←Nat.pow_succ'];exact h
  have h2:v / 2 ^ (n+m)=0:=by
   generalize v / 2 ^ (n+m)=q at h1 hb
   omega
  rcases Nat.lt_or_ge v (2 ^ (n+m)) with h3|h3
  ·exact h3
  ·have:=Nat.div_pos h3 (Nat.pow_pos (by decide));omega
theorem unmap_bad {b:List Int} {n k:Nat} (h:bitAt (ofBytes b) k=true) (hn:n≤k):unmapL b n=([],3):=by
 unfold unmapL;rw [if_pos (bitAt_pos h hn)]
theorem unmap_ok {b:List Int} {n:Nat} (hb:isB b) (hn:n≤8*b.length) (h:∀k,n≤k→k<8*b.length→bitAt (ofBytes b) k=false):unmapL b n=(unbits (ofBytes b) n,0):=by
 unfold unmapL
 have h1:ofBytes b<2 ^ (n+(8*b.length - n)):=by
  have:=ofBytes_lt b hb
  rw [show (256:Nat)=2 ^ 8 by decide,←Nat.pow_mul] at this
  rwa [show n+(8*b.length - n)=8*b.length by omega]
 have:=bits_none _ _ n h1 (fun k h2 h3=>h k h2 (by omega))
 rw [if_neg (by rw [Nat.div_eq_of_lt this];omega)]
theorem Sl.at_ {w:World} {a:Option Addr} {n cap k:Nat} {xss:List (List Value)} (h:Sl w (.slice a n cap) k xss) {i:Nat} (hi:i<xss.length):
 ∃b o,a=some ⟨b,o,none⟩∧b<w.heap.size∧∀j,j<k→w.cell? ⟨b,o+i*k+j,none⟩=(xss.getD i [])[j]? :=by
 obtain ⟨a',cap',hv,hs⟩:=h
 simp only [Value.slice.injEq] at hv
 obtain ⟨rfl, -, -⟩:=hv
 rcases hs with rfl|⟨b,o,rfl,hb,hc⟩
 ·simp at hi
 ·exact ⟨b,o,rfl,hb,hc i hi⟩
theorem getD_map {α β:Type} (f:α→List β) (l:List α) {i:Nat} (hi:i<l.length):(l.map f).getD i []=f l[i]:=by simp [hi]
structure Col where
 nm:ByteArray
 ty:Int
 key:Bool
def Col.cells (c:Col):List Value:= [.string c.nm, .int .u8 c.ty, .bool c.key]
theorem Col.at_ {w wr:World} {b o:Nat} {l:List Col} {k:Nat} (hk:k<l.length) (hc:∀j,j<3→w.cell? ⟨b,o+k*3+j,none⟩=((l.map Col.cells).getD k [])[j]?) (hb:b<w.heap.size) (hE:Ext w wr):
 wr.cell? ⟨b,o+k*3,none⟩=some (.string l[k].nm)∧wr.cell? ⟨b,o+k*3+1,none⟩=some (.int .u8 l[k].ty)∧wr.cell? ⟨b,o+k*3+2,none⟩=some (.bool l[k].key):=by
 rw [getD_map Col.cells l hk] at hc
 have c:=hE.cells.1 b
 exact ⟨(c _ hb).trans (hc 0 (by omega)),(c _ hb).trans (hc 1 (by omega)),(c _ hb).trans (hc 2 (by omega))⟩
structure Rl where
 oid:Int
 ver:Int
 nm:ByteArray
 id:Int
 cols:List Col
def firstE (f:Nat→Int):Nat→Int
 |0=>0
 |n+1=>if firstE f n≠0 then firstE f n else f n
theorem firstE_zero {f:Nat→Int} {n:Nat} (h:∀i,i<n→f i=0):firstE f n=0:=by
 induction n with
 |zero=>rfl
 |succ n ih=>
  have h1:=ih (fun i hi=>h i (by omega))
  unfold firstE
  rw [h1,if_neg (by simp)]
  exact h n (by omega)
theorem firstE_all {f:Nat→Int} {n:Nat} (h:firstE f n=0):∀i,i<n→f i=0:=by
 induction n with
 |zero=>intro i hi;omega
 |succ n ih=>
  unfold firstE at h
  by_cases h1:firstE f n=0
  ·rw [if_neg (by simpa using h1)] at h
   intro i hi
   by_cases e:i=n
   ·subst e;exact h
   ·exact ih h1 i (by omega)
  ·rw [if_pos h1] at h;exact absurd h h1
theorem firstE_at {f:Nat→Int} {n k:Nat} (h:∀i,i<k→f i=0) (hk:k<n) (h0:f k≠0):firstE f n=f k:=by
 induction n with
 |zero=>omega
 |succ n ih=>
  unfold firstE
  by_cases e:k=n
  ·subst e
   rw [if_neg (by rw [firstE_zero h];simp)]
  ·have:=ih (by omega)
   rw [if_pos (by rw [this];exact h0),this]
theorem firstE_get {f:Nat→Int} {n:Nat} (h:firstE f n≠0):∃k,k<n∧(∀i,i<k→f i=0)∧firstE f n=f k:=by
 induction n with
 |zero=>exact absurd rfl h
 |succ n ih=>
  unfold firstE at h⊢
  by_cases h1:firstE f n=0
  ·rw [if_neg (by simpa using h1)]
   exact ⟨n,by omega,firstE_all h1,rfl⟩
  ·rw [if_pos h1]
   obtain ⟨k,hk,h2,h3⟩:=ih h1
   exact ⟨k,by omega,h2,h3⟩
def chr (s:ByteArray) (i:Nat):Int:=if h:i<s.size then (s[i].toNat:Int) else 0
theorem chr_lt {s:ByteArray} {i:Nat} (h:i<s.size):chr s i=(s[i].toNat:Int):=by unfold chr;rw [dif_pos h]
def nameAt (s:ByteArray) (i:Nat):Bool:=decide ((97≤chr s i∧chr s i≤122)∨(0<i∧((48≤chr s i∧chr s i≤57)∨chr s i=95)))
def namedB (s:ByteArray):Bool:=decide (1≤s.size∧s.size≤31)&&(List.range s.size).all (nameAt s)
theorem named_no {s:ByteArray} {k:Nat} (hk:k<s.size) (h:nameAt s k=false):namedB s=false:=by
 unfold namedB
 rw [Bool.and_eq_false_iff]
 right
 rw [List.all_eq_false]
 exact ⟨k,List.mem_range.2 hk,by simp [h]⟩
theorem named_yes {s:ByteArray} (h:∀j,j<s.size→nameAt s j=true):namedB s=decide (1≤s.size∧s.size≤31):=by
 unfold namedB
 have:(List.range s.size).all (nameAt s)=true:=List.all_eq_true.2 fun x hx=>h x (List.mem_range.1 hx)
 rw [this,Bool.and_true]
theorem named_len {s:ByteArray} (h: ¬ (1≤s.size∧s.size≤31)):namedB s=false:=by
 unfold namedB;rw [decide_eq_false h];rfl
theorem name_cases {s:ByteArray} {k:Nat} (h:k<s.size):
 (nameAt s k=true∧((97≤(s[k].toNat:Int)∧(s[k].toNat:Int)≤122)∨(0<k∧48≤(s[k].toNat:Int)∧(s[k].toNat:Int)≤57)∨(0<k∧(s[k].toNat:Int)=95)))∨
 (nameAt s k=false∧((k=0∧(s[k].toNat:Int)<97)∨(k=0∧122<(s[k].toNat:Int))∨(0<k∧(s[k].toNat:Int)<48)∨(0<k∧57<(s[k].toNat:Int)∧(s[k].toNat:Int)<95)∨(0<k∧95<(s[k].toNat:Int)∧(s[k].toNat:Int)<97)∨(0<k∧122<(s[k].toNat:Int)))):=by
 unfold nameAt
 rw [decide_eq_true_iff,decide_eq_false_iff_not,chr_lt h]
 omega
def colE (c:Col) (ahead:List Col):Int:=if namedB c.nm=false then 3 else if ahead.any (fun o=>decide (o.nm=c.nm))=true then 9 else if c.ty<1∨6<c.ty then 11 else 0
def colAt (cols:List Col) (i:Nat):Int:=if h:i<cols.length then colE cols[i] (cols.take i) else 0
theorem colAt_lt {cols:List Col} {i:Nat} (h:i<cols.length):colAt cols i=colE cols[i] (cols.take i):=by unfold colAt;rw [dif_pos h]
def Rl.right (r:Rl):Int:=
 if r.oid=0∨r.ver=0 then 4 else if namedB r.nm=false then 3 else if 2<r.id then 7 else if r.cols.length<1∨16<r.cols.length then 17
 else if firstE (colAt r.cols) r.cols.length≠0 then firstE (colAt r.cols) r.cols.length
 else if r.id=1∧r.cols.any Col.key=false then 13 else 0
section
variable {P : Program} {ops : Array Oper} {Q : Exit → Act → World → Prop} {md : Region.Mode} {S : World → Prop}
def wpHd (P:Program) (md:Region.Mode) (ops:Array Oper) (Q:Exit→Act→World→Prop) (S:World→Prop) (n:Nat):Nat→Array Bool→Act→World→Prop
 |0,listed,a,w=>Region.seqB md ops (ops.size - n) n listed=true∧wpList P ops Q (ops.toList.drop n) a w
 |f+1,listed,a,w=>Region.ready md ops listed≠ []∧∀i∈Region.ready md ops listed,i<n∧wpOp P ops Q i (fun a' w' =>S w'∧wpHd P md ops Q S n f (listed.setIfInBounds i true) a' w') a w
theorem wpAny_of_hd {n:Nat} :∀(f:Nat) (listed:Array Bool) (a:Act) (w:World),wpHd P md ops Q S n f listed a w→wpAny P md ops Q (f+(ops.size - n)) listed a w
 |0,listed,a,w,h=>by
  rw [Nat.zero_add]
  obtain ⟨hB,h⟩:=h
  have hl:(ops.toList.drop n).length=ops.size - n:=by simp
  have:=wpAny_of_seq (P:=P) (md:=md) (ops:=ops) (Q' :=Q) (ops.toList.drop n) n listed a w (fun j=>by rw [List.getElem?_drop,Array.getElem?_toList]) (by rw [hl];exact hB) h
  rw [hl] at this
  exact this
 |f+1,listed,a,w,h=>by
  rw [show f+1+(ops.size - n)=(f+(ops.size - n))+1 by omega]
  exact ⟨fun h0=>absurd h0 h.1,fun i hi=>wpOp_mono (fun a' w' h' =>wpAny_of_hd f _ a' w' h'.2) (h.2 i hi).2⟩
theorem wpHd_first {n i:Nat} {oi:Oper} {v:Value} (hi:ops[i]? =some oi) (hsel:∀(j:Nat) (o:Oper) cs b,ops[j]? =some o→o.op≠ .select cs b)
 (hs:Region.sinkB md ops n=true) (hc:Region.chainB md ops n=true) (hn:n<ops.size) (hin:i<n)
 (hQ:∀c a w,Q (.panic c) (a.put oi.dst v) w→Q (.panic c) a w):
 ∀(f:Nat) (listed:Array Bool) (a:Act) (w:World),HeadInv md ops n listed→
  (∀j oj,ops[j]? =some oj→j≠i→listed.getD j true=false→(∀e∈oj.after,Region.binds md e=true→e.on≠i)→oi.apart ops oj=true)→
  i∈Region.ready md ops listed→YieldsIf P ops S oi v a→S w→
  wpHd P md ops Q S n f (listed.setIfInBounds i true) (a.put oi.dst v) w→wpHd P md ops Q S n (f+1) listed a w:=by
 intro f
 induction f with
 |zero=>
  intro listed a w inv _ hr hy hS H
  have hun:=(mem_ready.1 hr).1
  refine ⟨fun h=>(by rw [h] at hr;cases hr),fun j hj=> ?_⟩
  have hjn:j<n:=by
   rcases Nat.lt_or_ge j n with h|h
   ·exact h
   ·exact absurd hj (tail_waits hs hc hn inv _ i rfl hin hun j h)
  refine ⟨hjn, ?_⟩
  by_cases hji:j=i
  ·subst hji;exact hy.wpOp hi hS ⟨hS,H⟩
  ·have:=seqB_ready H.1 j (ready_mono hj hji)
   omega
 |succ f ih=>
  intro listed a w inv hfree hr hy hS H
  have hun:=(mem_ready.1 hr).1
  refine ⟨fun h=>(by rw [h] at hr;cases hr),fun j hj=> ?_⟩
  have hjn:j<n:=by
   rcases Nat.lt_or_ge j n with h|h
   ·exact h
   ·exact absurd hj (tail_waits hs hc hn inv _ i rfl hin hun j h)
  refine ⟨hjn, ?_⟩
  by_cases hji:j=i
  ·subst hji;exact hy.wpOp hi hS ⟨hS,H⟩
  ·have h1:=(H.2 j (ready_mono hj hji)).2
   obtain ⟨hjun,oj,hoj,hall⟩:=mem_ready.1 hj
   have hnot:∀e∈oj.after,Region.binds md e=true→e.on≠i:=fun e he hb heq=>by
    have h1:=hall e he hb
    rw [heq,getD_both hun] at h1
    cases h1
   have h2:=wpOp_putIf hoj (hfree j oj hoj hji hjun hnot) (fun cs b=>hsel i oi cs b hi) (fun cs b=>hsel j oj cs b hoj) hQ hy h1
   have hfree' :∀k ok,ops[k]? =some ok→k≠i→(listed.setIfInBounds j true).getD k true=false→
    (∀e∈ok.after,Region.binds md e=true→e.on≠i)→oi.apart ops ok=true:=fun k ok hk hki hun hno=>by
    refine hfree k ok hk hki ?_ hno
    by_cases hjk:j=k
    ·subst hjk;exact hjun
    ·rw [getD_set_ne true hjk] at hun;exact hun
   refine wpOp_mono (fun a' w' h3=>⟨h3.2.1,ih (listed.setIfInBounds j true) a' w' (inv.set hj hjn) hfree' (ready_mono hr (Ne.symm hji)) h3.1 h3.2.1 ?_⟩) h2
   rw [Array.setIfInBounds_comm _ _ hji]
   exact h3.2.2
def headB (md:Region.Mode) (ops:Array Oper) (n:Nat) (listed:Array Bool):Bool:=
 decide (listed.size=ops.size)&&decide (n<ops.size)&&Region.noSelect ops&&Region.sinkB md ops n&&Region.chainB md ops n&&
 ((List.range ops.size).all fun j=> !(listed.getD j false)||((ops[j]?).map (·.after.all fun e=> !Region.binds md e||listed.getD e.on false)).getD true)&&
 ((List.range ops.size).all fun t=>decide (t<n)|| !(listed.getD t true))
theorem headB_spec {n:Nat} {listed:Array Bool} (h:headB md ops n listed=true):
 n<ops.size∧Region.noSelect ops=true∧Region.sinkB md ops n=true∧Region.chainB md ops n=true∧HeadInv md ops n listed:=by
 unfold headB at h
 simp only [Bool.and_eq_true,decide_eq_true_eq] at h
 obtain ⟨⟨⟨⟨⟨⟨h1,h2⟩,h3⟩,h4⟩,h5⟩,h6⟩,h7⟩:=h
 refine ⟨h2,h3,h4,h5,h1, ?_, ?_⟩
 ·intro j oj hj hl e he hb
  have hjl:j<ops.size:=(Array.getElem?_eq_some_iff.1 hj).1
  have:=List.all_eq_true.1 h6 j (List.mem_range.2 hjl)
  rw [hl,hj] at this
  simp only [Bool.not_true,Bool.false_or,Option.map_some,Option.getD_some] at this
  have h8:=Array.all_eq_true'.1 this e he
  rw [hb] at h8
  simpa using h8
 ·intro t ht htl
  have:=List.all_eq_true.1 h7 t (List.mem_range.2 htl)
  rw [decide_eq_false (by omega)] at this
  simpa using this
theorem wpHd_take {n i:Nat} {oi:Oper} {v:Value} {f:Nat} {listed:Array Bool} {a:Act} {w:World} (hi:ops[i]? =some oi)
 (hB:headB md ops n listed=true) (hf:Region.free md ops listed i=true) (hr:((Region.ready md ops listed).contains i&&decide (i<n))=true)
 (hQ:∀c a w,Q (.panic c) (a.put oi.dst v) w→Q (.panic c) a w) (hy:YieldsIf P ops S oi v a) (hS:S w)
 (h:wpHd P md ops Q S n f (listed.setIfInBounds i true) (a.put oi.dst v) w):wpHd P md ops Q S n (f+1) listed a w:=by
 obtain ⟨hn,hsel,hs,hc,inv⟩:=headB_spec hB
 simp only [Bool.and_eq_true,decide_eq_true_eq] at hr
 exact wpHd_first hi (Region.noSelect_spec hsel) hs hc hn hr.2 hQ f listed a w inv (Region.free_spec hi hf) (by simpa using hr.1) hy hS h
theorem wpHd_one {n i:Nat} {o:Oper} {f:Nat} {listed:Array Bool} {a:Act} {w:World} (hi:ops[i]? =some o) (hg:o.guard=none)
 (hr:(decide (Region.ready md ops listed= [i])&&decide (i<n))=true)
 (h:∀K:Act→World→Prop,Hid (∀a' w',S w'→(S w'→wpHd P md ops Q S n f (listed.setIfInBounds i true) a' w')→K a' w')→o.wp P a w K Q):wpHd P md ops Q S n (f+1) listed a w:=by
 simp only [Bool.and_eq_true,decide_eq_true_eq] at hr
 refine ⟨by rw [hr.1];simp,fun j hj=> ?_⟩
 rw [hr.1] at hj
 have hji:j=i:=by simpa using hj
 subst hji
 refine ⟨hr.2, ?_⟩
 unfold wpOp
 simp only [hi]
 rw [if_pos (by simp [Region.wanted,hg])]
 exact .inl (h _ (fun a' w' hs hk=>⟨hs,hk hs⟩))
theorem wpHd_tail {n:Nat} {listed:Array Bool} {a:Act} {w:World} (hB:Region.seqB md ops (ops.size - n) n listed=true) (h:wpList P ops Q (ops.toList.drop n) a w):wpHd P md ops Q S n 0 listed a w:=⟨hB,h⟩
theorem wp_region_head (n:Nat) (S:World→Prop) {id:Nat} {a:Act} {w:World} (hm:P.follows .mixedOrders=true) (hn:n<ops.size)
 (h:wpHd P .any ops Q S n n (Array.replicate ops.size false) a w.drew):(Code.region id ops true).wp P Q a w:=by
 have h2:=wpAny_of_hd n _ _ _ h
 rw [show n+(ops.size - n)=ops.size by omega] at h2
 exact wp_region_any hm h2
end
theorem HG.on {P:Program} {ops:Array Oper} {Q:Exit→Act→World→Prop} {md:Region.Mode} {S:World→Prop} {n:Nat} (i:Nat) (d:Tmp) {oi:Oper} {v:Value} {f:Nat} {listed:Array Bool} {a:Act} {w:World} (hS:S w)
 (h:wpHd P md ops Q S n f (listed.setIfInBounds i true) (a.put (some d) v) w)
 (hi:ops[i]? =some oi:=by rfl) (hd:oi.dst=some d:=by rfl)
 (hB:headB md ops n listed=true:=by kernel_rfl) (hf:Region.free md ops listed i=true:=by kernel_rfl) (hr:((Region.ready md ops listed).contains i&&decide (i<n))=true:=by kernel_rfl)
 (hQ:∀c a w,Q (.panic c) (a.put (some d) v) w→Q (.panic c) a w:=by exact fun _ _ _ h=>h) (hy:YieldsIf P ops S oi v a:=by exact Or.inl ⟨by rfl,by (intro w' hS';(obtain ⟨hEs',hcs',hfs'⟩:=hS');go_simp;try with_reducible rfl)⟩):wpHd P md ops Q S n (f+1) listed a w:=by
 subst_vars
 rw [←hd] at h hQ
 exact wpHd_take hi hB hf hr hQ hy hS h
theorem Blk.grown {w w1:World} {row:Option Nat} {g:Nat} {cs:Array Value} {t:TypeId} (h:Blk w g cs t) (hg:w.grownBy w1 row) (hne:row≠some g):Blk w1 g cs t:=
 (hg.block g h.lt (fun e=>hne e.symm)).trans h
theorem owns_set {w:World} {base:Nat} {e:TypeId} {size n:Nat} {v:Value} {xs:List Value} (h:w.ownsRow base e size v n xs) {p:Addr} (hp:p.block<base) (u:Value):(w.setCell p u).ownsRow base e size v n xs:=by
 obtain ⟨h1,h2⟩:=h
 refine ⟨h1, ?_⟩
 rcases h2 with h2|⟨g,cap,cur,hv,hg,hh,hr⟩
 ·exact .inl h2
 ·exact .inr ⟨g,cap,cur,hv,hg,Blk.other (b:=g) hh p u (by omega),hr⟩
theorem owns_ne {w:World} {base g:Nat} {e:TypeId} {size n:Nat} {v:Value} {xs:List Value} (h:w.ownsRow base e size v n xs) (hg:g<base):v.ownBlock≠some g:=fun he=>by
 have:=(h.lt _ he).1;omega
theorem Tryz.infoCol:(Tryz.prog.info? 117).map (fun i=>(i.zero,i.size,i.bytes))=some (some (.agg #[.string ByteArray.empty, .int .u8 0, .bool false]),3,24):=by kernel_rfl
theorem flat_snoc {α β:Type} {f:α→List β} {l:List α} {k:Nat} (h:k<l.length):((l.map f).take (k+1)).flatten=((l.map f).take k).flatten++f l[k]:=by
 rw [List.take_succ_eq_append_getElem (by simpa using h),List.flatten_append];simp
theorem owns_cap {w:World} {base:Nat} {e:TypeId} {size n m c:Nat} {a:Option Addr} {xs:List Value} (h:w.ownsRow base e size (.slice a m c) n xs):m≤c:=by
 rcases h.2 with ⟨h1,h0⟩|⟨g,cap,cur,hv,_,_,hn,_⟩
 ·simp at h1;omega
 ·simp at hv;omega
theorem owns_shape {w:World} {base:Nat} {e:TypeId} {size n:Nat} {v:Value} {xs:List Value} (h:w.ownsRow base e size v n xs):∃a cap,v= .slice a n cap:=by
 rcases h.2 with ⟨rfl,h0⟩|⟨g,cap,cur,hv,_⟩
 ·exact ⟨none,0,by rw [h0]⟩
 ·exact ⟨_,cap,hv⟩
def rightC (k ty n x y:Int) (s:ByteArray) (kind:Int):Int:=
 if kind<1∨6<kind then 11 else if 2<k then 7
 else if k<2 then (if ty=0∧n=0∧x=0∧y=0∧s.size=0 then (if k=1∧kind≠5∧kind≠6 then 11 else 0) else 3)
 else if rightV ty n x y s≠0 then rightV ty n x y s else if ty≠kind then 11 else 0
def largeB (k ty:Int) (s:ByteArray):Bool:=decide (k=2∧(ty=5∨ty=6)∧64<s.size)
structure K where
 k:Int
 v:V
def K.zero:K:=⟨0,V.zero⟩
def K.right (c:K) (kind:Int):Int:=rightC c.k c.v.ty c.v.n c.v.x c.v.y c.v.s kind
theorem right_same {k ty n x y:Int} {s:ByteArray} {kind:Int} (hk:k<2) (h:rightC k ty n x y s kind=0):ty=0∧n=0∧x=0∧y=0∧s.size=0∧(k=1→kind=5∨kind=6):=by
 unfold rightC at h
 (repeat' split at h)<;>first|omega|(exfalso;omega)
theorem right_mk {ty n x y:Int} {s:ByteArray} {kind:Int} (h:rightV ty n x y s=0) (hk:ty=kind):rightC 2 ty n x y s kind=0:=by
 have:=right_zero h
 unfold rightC
 (repeat' split)<;>first|rfl|omega|(exfalso;omega)
theorem texty_yes (kind:Int) (w:World) (h:kind=5∨kind=6):Calls Tryz.prog 113 #[.int .u8 kind] w fun e w' =>e= .returned (.bool true)∧w=w' :=by
 rcases h with rfl|rfl
 all_goals
  go_enter Tryz.func113,Tryz.ntmps113
  go_wp2
  go_ret
  exact ⟨rfl,rfl⟩
theorem texty_no (kind:Int) (w:World) (h:kind≠5∧kind≠6):Calls Tryz.prog 113 #[.int .u8 kind] w fun e w' =>e= .returned (.bool false)∧w=w' :=by
 have h5:(kind==5)=false:=by simpa using h.1
 have h6:(kind==6)=false:=by simpa using h.2
 clear h
 go_enter Tryz.func113,Tryz.ntmps113
 go_wp2
 go_ret
 exact ⟨rfl,rfl⟩
theorem typed_yes (kind:Int) (w:World) (h1:1≤kind) (h2:kind≤6):Calls Tryz.prog 111 #[.int .u8 kind] w fun e w' =>e= .returned (.bool true)∧w=w' :=by
 go_enter Tryz.func111,Tryz.ntmps111
 go_wp2
 go_ret
 exact ⟨ret_bool (by first|(simp;done)|(simp;omega)),rfl⟩
theorem typed_no (kind:Int) (w:World) (h:kind<1∨6<kind):Calls Tryz.prog 111 #[.int .u8 kind] w fun e w' =>e= .returned (.bool false)∧w=w' :=by
 go_enter Tryz.func111,Tryz.ntmps111
 go_wp2
 all_goals
  go_ret
  exact ⟨ret_bool (by first|(simp;done)|(simp;omega)),rfl⟩
def alikeB (k ty n:Int) (x y:Nat) (s:ByteArray) (k' ty' n' :Int) (x' y' :Nat) (s' :ByteArray):Bool:=decide (k=k'∧ty=ty'∧n=n'∧x=x'∧y=y'∧s=s')
theorem alike_same {k ty n:Int} {x y:Nat} {s:ByteArray} {ty' n' :Int} {x' y' :Nat} {s' :ByteArray} :alikeB k ty n x y s k ty' n' x' y' s' =sameB ty n x y s ty' n' x' y' s' :=by
 unfold alikeB sameB;exact decide_eq_decide.2 ⟨fun h=>h.2,fun h=>⟨rfl,h⟩⟩
theorem calike_any (k ty n:Int) (x y:Nat) (s:ByteArray) (k' ty' n' :Int) (x' y' :Nat) (s' :ByteArray) (w:World):
 Calls Tryz.prog 165 #[.agg #[.int .u8 k, .int .u8 ty, .int .i64 n, .complex .f64 x y, .string s], .agg #[.int .u8 k', .int .u8 ty', .int .i64 n', .complex .f64 x' y', .string s']] w fun e w' =>
  e= .returned (.bool (alikeB k ty n x y s k' ty' n' x' y' s'))∧Ext w w' :=by
 by_cases hk:k=k'
 ·subst hk
  have HS:=Hm (fun w=>vsame_any ty n x y s ty' n' x' y' s' w)
  go_enter Tryz.func165,Tryz.ntmps165
  go_wp2_with (go_at_call 173;refine (HS.out _).mono ?_;rintro e w1 ⟨rfl,hb1⟩)
  go_ret
  exact ⟨ret_bool (by rw [alike_same]),by exact eX⟩
 ·have hL:Hid (alikeB k ty n x y s k' ty' n' x' y' s' =false):=Hm (by unfold alikeB;rw [decide_eq_false_iff_not];exact fun h=>hk h.1)
  have hk2:(k==k')=false:=by simpa using hk
  clear hk
  go_enter Tryz.func165,Tryz.ntmps165
  go_wp2
  go_ret
  exact ⟨ret_bool hL.out.symm,by exact eX⟩
theorem same_zero {ty n:Int} {x y:Nat} {s:ByteArray} :sameB ty n x y s 0 0 0 0 ByteArray.empty=decide (ty=0∧n=0∧(x:Int)=0∧(y:Int)=0∧s.size=0):=by
 unfold sameB;exact decide_eq_decide.2 ⟨fun h=>⟨h.1,h.2.1,by omega,by omega,(size_zero s).1 h.2.2.2.2⟩,fun h=>⟨h.1,h.2.1,by omega,by omega,(size_zero s).2 h.2.2.2.2⟩⟩
theorem cright_any (k ty n:Int) (x y:Nat) (s:ByteArray) (kind:Int) (w:World) (hk0:0≤k) (hs:s.size≤9223372036854775807):
 Calls Tryz.prog 166 #[.agg #[.int .u8 k, .int .u8 ty, .int .i64 n, .complex .f64 x y, .string s], .int .u8 kind] w fun e w' =>e= .returned (.int .i64 (rightC k ty n x y s kind))∧Ext w w' :=by
 have HV:=Hm (fun w=>vright_any ty n x y s w hs)
 have HSa:=Hm (fun w=>vsame_any ty n x y s 0 0 0 0 ByteArray.empty w)
 rw [same_zero] at HSa
 by_cases hkd:kind<1∨6<kind
 ·have HR:Hid (rightC k ty n x y s kind=11):=Hm (by unfold rightC;rw [if_pos hkd])
  have HT:=Hm (fun w=>typed_no kind w hkd)
  clear hkd
  go_enter Tryz.func166,Tryz.ntmps166
  go_wp2_with (go_at_call 111;refine (HT.out _).mono ?_;rintro e w1 ⟨rfl,rfl⟩)
  go_ret
  exact ⟨ret_int HR.out.symm,by exact eX⟩
 have HT:=Hm (fun w=>typed_yes kind w (by omega) (by omega))
 by_cases hk2:2<k
 ·have HR:Hid (rightC k ty n x y s kind=7):=Hm (by unfold rightC;rw [if_neg hkd,if_pos hk2])
  clear hkd
  go_enter Tryz.func166,Tryz.ntmps166
  go_wp2_with (go_at_call 111;refine (HT.out _).mono ?_;rintro e w1 ⟨rfl,rfl⟩)
  go_ret
  exact ⟨ret_int HR.out.symm,by exact eX⟩
 by_cases hk3:k<2
 ·by_cases hz:ty=0∧n=0∧(x:Int)=0∧(y:Int)=0∧s.size=0
  ·rw [decide_eq_true hz] at HSa
   by_cases h1:k=1
   ·subst h1
    by_cases ht:kind=5∨kind=6
    ·have HR:Hid (rightC 1 ty n x y s kind=0):=Hm (by unfold rightC;rw [if_neg hkd,if_neg hk2,if_pos hk3,if_pos hz,if_neg (by omega)])
     have HX:=Hm (fun w=>texty_yes kind w ht)
     clear hkd hz ht
     go_enter Tryz.func166,Tryz.ntmps166
     go_wp2_with (first
      |(go_at_call 111;refine (HT.out _).mono ?_;rintro e w1 ⟨rfl,rfl⟩)
      |(go_at_call 173;refine (HSa.out _).mono ?_;rintro e w1 ⟨rfl,hb1⟩;have h1:=(Blk.new w #[.int .u8 1, .int .u8 ty, .int .i64 n, .complex .f64 x y, .string s] 157).ext hb1;have k1:=h1.cell;have z1:=h1.lt)
      |(go_at_call 113;refine (HX.out _).mono ?_;rintro e w1 ⟨rfl,rfl⟩))
     go_ret
     exact ⟨ret_int HR.out.symm,by exact eX⟩
    ·have HR:Hid (rightC 1 ty n x y s kind=11):=Hm (by unfold rightC;rw [if_neg hkd,if_neg hk2,if_pos hk3,if_pos hz,if_pos (by omega)])
     have HX:=Hm (fun w=>texty_no kind w (by omega))
     clear hkd hz ht
     go_enter Tryz.func166,Tryz.ntmps166
     go_wp2_with (first
      |(go_at_call 111;refine (HT.out _).mono ?_;rintro e w1 ⟨rfl,rfl⟩)
      |(go_at_call 173;refine (HSa.out _).mono ?_;rintro e w1 ⟨rfl,hb1⟩;have h1:=(Blk.new w #[.int .u8 1, .int .u8 ty, .int .i64 n, .complex .f64 x y, .string s] 157).ext hb1;have k1:=h1.cell;have z1:=h1.lt)
      |(go_at_call 113;refine (HX.out _).mono ?_;rintro e w1 ⟨rfl,rfl⟩))
     go_ret
     exact ⟨ret_int HR.out.symm,by exact eX⟩
   ·obtain rfl:k=0:=by omega
    have HR:Hid (rightC 0 ty n x y s kind=0):=Hm (by unfold rightC;rw [if_neg hkd,if_neg hk2,if_pos hk3,if_pos hz,if_neg (by omega)])
    clear hkd hz h1
    go_enter Tryz.func166,Tryz.ntmps166
    go_wp2_with (first
     |(go_at_call 111;refine (HT.out _).mono ?_;rintro e w1 ⟨rfl,rfl⟩)
     |(go_at_call 173;refine (HSa.out _).mono ?_;rintro e w1 ⟨rfl,hb1⟩;have h1:=(Blk.new w #[.int .u8 0, .int .u8 ty, .int .i64 n, .complex .f64 x y, .string s] 157).ext hb1;have k1:=h1.cell;have z1:=h1.lt))
    go_ret
    exact ⟨ret_int HR.out.symm,by exact eX⟩
  ·rw [decide_eq_false hz] at HSa
   have HR:Hid (rightC k ty n x y s kind=3):=Hm (by unfold rightC;rw [if_neg hkd,if_neg hk2,if_pos hk3,if_neg hz])
   have hkn:(k==2)=false:=by simp;omega
   have hkm:(k !=2)=true:=by simp;omega
   clear hkd hz
   go_enter Tryz.func166,Tryz.ntmps166
   go_wp2_with (first
    |(go_at_call 111;refine (HT.out _).mono ?_;rintro e w1 ⟨rfl,rfl⟩)
    |(go_at_call 173;refine (HSa.out _).mono ?_;rintro e w1 ⟨rfl,hb1⟩;have h1:=(Blk.new w #[.int .u8 k, .int .u8 ty, .int .i64 n, .complex .f64 x y, .string s] 157).ext hb1;have k1:=h1.cell;have z1:=h1.lt))
   go_ret
   exact ⟨ret_int HR.out.symm,by exact eX⟩
 ·obtain rfl:k=2:=by omega
  obtain ⟨R,hR⟩:∃R,R=rightV ty n x y s:=⟨_,rfl⟩
  rw [←hR] at HV
  by_cases h0:R=0
  ·subst h0
   by_cases ht:ty=kind
   ·have HR:Hid (rightC 2 ty n x y s kind=0):=Hm (right_mk hR.symm ht)
    subst ht
    clear hkd hR
    go_enter Tryz.func166,Tryz.ntmps166
    go_wp2_with (first
     |(go_at_call 111;refine (HT.out _).mono ?_;rintro e w1 ⟨rfl,rfl⟩)
     |(go_at_call 148;refine (HV.out _).mono ?_;rintro e w1 ⟨rfl,hb1⟩;have h1:=(Blk.new w #[.int .u8 2, .int .u8 ty, .int .i64 n, .complex .f64 x y, .string s] 157).ext hb1;have k1:=h1.cell;have z1:=h1.lt))
    go_ret
    exact ⟨ret_int HR.out.symm,by exact eX⟩
   ·have HR:Hid (rightC 2 ty n x y s kind=11):=Hm (by unfold rightC;rw [if_neg hkd,if_neg hk2,if_neg hk3,if_neg (by rw [←hR];decide),if_pos ht])
    have ht2:(ty !=kind)=true:=by simpa using ht
    clear hkd hR ht
    go_enter Tryz.func166,Tryz.ntmps166
    go_wp2_with (first
     |(go_at_call 111;refine (HT.out _).mono ?_;rintro e w1 ⟨rfl,rfl⟩)
     |(go_at_call 148;refine (HV.out _).mono ?_;rintro e w1 ⟨rfl,hb1⟩;have h1:=(Blk.new w #[.int .u8 2, .int .u8 ty, .int .i64 n, .complex .f64 x y, .string s] 157).ext hb1;have k1:=h1.cell;have z1:=h1.lt))
    go_ret
    exact ⟨ret_int HR.out.symm,by exact eX⟩
  ·have HR:Hid (rightC 2 ty n x y s kind=R):=Hm (by unfold rightC;rw [if_neg hkd,if_neg hk2,if_neg hk3,if_pos (by rw [←hR];exact h0),hR])
   have h02:(R !=0)=true:=by simpa using h0
   clear hkd hR h0
   go_enter Tryz.func166,Tryz.ntmps166
   go_wp2_with (first
    |(go_at_call 111;refine (HT.out _).mono ?_;rintro e w1 ⟨rfl,rfl⟩)
    |(go_at_call 148;refine (HV.out _).mono ?_;rintro e w1 ⟨rfl,hb1⟩;have h1:=(Blk.new w #[.int .u8 2, .int .u8 ty, .int .i64 n, .complex .f64 x y, .string s] 157).ext hb1;have k1:=h1.cell;have z1:=h1.lt))
   go_ret
   exact ⟨ret_int HR.out.symm,by exact eX⟩
theorem toList_inj' {s t:ByteArray} (h:s.toList=t.toList):s=t:=by
 have:=str_beq s t
 rw [h,beq_self_eq_true] at this
 exact of_decide_eq_true this.symm
theorem vback_any (ty n:Int) (x y:Nat) (s:ByteArray) (w:World):
 Calls Tryz.prog 88 #[.agg #[.int .u8 ty, .int .i64 n, .complex .f64 x y, .string s]] w fun e w' =>
  e= .returned (.agg #[.int .u8 ty, .int .i64 n, .int .u64 x, .int .u64 y, .string s])∧Ext w w' :=by
 go_enter Tryz.func88,Tryz.ntmps88
 go_wp2_with (go_at_call 122;refine (vbits_any x y _).mono ?_;rintro e w1 ⟨rfl,rfl⟩)
 refine bodyPost_ret (v:= .agg #[.int .u8 ty, .int .i64 n, .int .u64 x, .int .u64 y, .string s]) (by simp [results,Tryz.results88,go_sem]) rfl ⟨rfl,by exact eX⟩
theorem cback_any (k ty n:Int) (x y:Nat) (s:ByteArray) (w:World):
 Calls Tryz.prog 61 #[.agg #[.int .u8 k, .int .u8 ty, .int .i64 n, .complex .f64 x y, .string s]] w fun e w' =>
  e= .returned (.agg #[.int .u8 k, .int .u8 ty, .int .i64 n, .int .u64 x, .int .u64 y, .string s])∧Ext w w' :=by
 go_enter Tryz.func61,Tryz.ntmps61
 go_wp2
 go_region_held3 (fun w' =>Ext (w.alloc (.cells #[.int .u8 k, .int .u8 ty, .int .i64 n, .complex .f64 x y, .string s] 157)) w'∧(∀b o,b<(w.alloc (.cells #[.int .u8 k, .int .u8 ty, .int .i64 n, .complex .f64 x y, .string s] 157)).heap.size→w'.cell? ⟨b,o,none⟩=(w.alloc (.cells #[.int .u8 k, .int .u8 ty, .int .i64 n, .complex .f64 x y, .string s] 157)).cell? ⟨b,o,none⟩)∧(∀b o,b<(w.alloc (.cells #[.int .u8 k, .int .u8 ty, .int .i64 n, .complex .f64 x y, .string s] 157)).heap.size→w'.frozen? ⟨b,o,none⟩=(w.alloc (.cells #[.int .u8 k, .int .u8 ty, .int .i64 n, .complex .f64 x y, .string s] 157)).frozen? ⟨b,o,none⟩)) ((exact held_of (by exact eX)))
  (first
   |(go_at_call 88;refine (vback_any ty n x y s _).mono ?_;rintro e w' ⟨rfl,hb⟩;obtain ⟨hc,hf⟩:=hb.cells))
 go_wp2
 simp [bodyPost,results,Tryz.results61,go_sem, *]
 exact eX
def K.pc (c:K):List Value:= [.int .u8 c.k, .int .u8 c.v.ty, .int .i64 c.v.n, .complex .f64 c.v.x c.v.y, .string c.v.s]
def K.rc (c:K):List Value:= [.int .u8 c.k, .int .u8 c.v.ty, .int .i64 c.v.n, .int .u64 c.v.x, .int .u64 c.v.y, .string c.v.s]
theorem K.pcAt {w wr:World} {b o:Nat} {l:List K} {k:Nat} (hk:k<l.length) (hc:∀j,j<5→w.cell? ⟨b,o+k*5+j,none⟩=((l.map K.pc).getD k [])[j]?) (hb:b<w.heap.size) (hE:Ext w wr):
 wr.cell? ⟨b,o+k*5,none⟩=some (.int .u8 l[k].k)∧wr.cell? ⟨b,o+k*5+1,none⟩=some (.int .u8 l[k].v.ty)∧wr.cell? ⟨b,o+k*5+2,none⟩=some (.int .i64 l[k].v.n)∧
 wr.cell? ⟨b,o+k*5+3,none⟩=some (.complex .f64 l[k].v.x l[k].v.y)∧wr.cell? ⟨b,o+k*5+4,none⟩=some (.string l[k].v.s):=by
 rw [getD_map K.pc l hk] at hc
 have c:=hE.cells.1 b
 exact ⟨(c _ hb).trans (hc 0 (by omega)),(c _ hb).trans (hc 1 (by omega)),(c _ hb).trans (hc 2 (by omega)),(c _ hb).trans (hc 3 (by omega)),(c _ hb).trans (hc 4 (by omega))⟩
theorem K.rcAt {w wr:World} {b o:Nat} {l:List K} {k:Nat} (hk:k<l.length) (hc:∀j,j<6→w.cell? ⟨b,o+k*6+j,none⟩=((l.map K.rc).getD k [])[j]?) (hb:b<w.heap.size) (hE:Ext w wr):
 wr.cell? ⟨b,o+k*6,none⟩=some (.int .u8 l[k].k)∧wr.cell? ⟨b,o+k*6+1,none⟩=some (.int .u8 l[k].v.ty)∧wr.cell? ⟨b,o+k*6+2,none⟩=some (.int .i64 l[k].v.n)∧
 wr.cell? ⟨b,o+k*6+3,none⟩=some (.int .u64 l[k].v.x)∧wr.cell? ⟨b,o+k*6+4,none⟩=some (.int .u64 l[k].v.y)∧wr.cell? ⟨b,o+k*6+5,none⟩=some (.string l[k].v.s):=by
 rw [getD_map K.rc l hk] at hc
 have c:=hE.cells.1 b
 exact ⟨(c _ hb).trans (hc 0 (by omega)),(c _ hb).trans (hc 1 (by omega)),(c _ hb).trans (hc 2 (by omega)),(c _ hb).trans (hc 3 (by omega)),(c _ hb).trans (hc 4 (by omega)),(c _ hb).trans (hc 5 (by omega))⟩
theorem Tryz.infoCellP:(Tryz.prog.info? 157).map (fun i=>(i.zero,i.size,i.bytes))=some (some (.agg #[.int .u8 0, .int .u8 0, .int .i64 0, .complex .f64 0 0, .string ByteArray.empty]),5,56):=by kernel_rfl
theorem Tryz.infoCellR:(Tryz.prog.info? 127).map (fun i=>(i.zero,i.size,i.bytes))=some (some (.agg #[.int .u8 0, .int .u8 0, .int .i64 0, .int .u64 0, .int .u64 0, .string ByteArray.empty]),6,56):=by kernel_rfl
end Go.Proofs.YtodbhliidbclcaaGreat
