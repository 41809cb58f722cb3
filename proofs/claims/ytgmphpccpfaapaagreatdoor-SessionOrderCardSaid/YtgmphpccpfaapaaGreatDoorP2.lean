import Derived.OrdersHeld
import Derived.StillTail
import Derived.Test.YtgmphpccpfaapaaGreatDoorP1
set_option maxRecDepth 100000
set_option maxHeartbeats 16000000

namespace Go.Proofs.YtgmphpccpfaapaaGreatDoor
open Go.RowKit
def rev (x:Nat):Nat:=
 256*(256*(256*(256*(256*(256*(256*(x%256)+x / 256%256)+x / 65536%256)+x / 16777216%256)+x / 4294967296%256)+x / 1099511627776%256)+x / 281474976710656%256)+x / 72057594037927936%256
def floatL (x:Nat) (ver:Int):List Int:=if ver=1 then wordL x else sevens (rev x)
def markOf (x y:Nat):Int:=(if x=0 then 0 else 1)+(if y=0 then 0 else 2)
def complexL (x y:Nat) (ver:Int):List Int:=
 if ver=2 then [markOf x y]++(if x=0 then [] else floatL x 2)++(if y=0 then [] else floatL y 2) else floatL x ver++floatL y ver
def putL (ty n:Int) (x y:Nat) (s:ByteArray) (ver:Int):List Int:=
 if ty=1 then [n] else if ty=2 then (if ver=1 then wordL (n%18446744073709551616) else sevens (zig n)) else if ty=3 then floatL x ver else if ty=4 then complexL x y ver else sevens s.size++strL s
theorem conv_Sl {w:World} {v:Value} {l:List Int} (h:Sl w v 1 (l.map bcell)):(convert 28 9 v).run Tryz.prog w= .ok (.string (strOfNums l)) w:=by
 have h0:=h
 obtain ⟨a,cap,rfl,hs⟩:=h
 rcases hs with hn|⟨b,o,rfl,hb,hc⟩
 ·have hl:l= []:=by simpa using hn
  subst hl
  cases a with
  |none=>exact run_convert_bytes_nil w _ _ Tryz.underlying28 Tryz.underlying5 _ _ _ Tryz.underlying9
  |some ad=>
   rw [run_convert_bytes_string w _ _ _ _ _ _ Tryz.underlying28 Tryz.underlying5 Tryz.underlying9]
   have hl:(loadCells ad 0).run Tryz.prog w= .ok (([]:List Int).map (Value.int .u8)).toArray w:=by
    have:=run_loadCells_list (P:=Tryz.prog) w ad [] (fun j v hj=>by simp at hj)
    simpa using this
   exact run_bytesToString w ad 0 cap [] hl
 ·simp only [List.length_map] at*
  refine run_convert_bytes_arg w _ _ Tryz.underlying28 Tryz.underlying5 b o _ cap l rfl (fun i hi=> ?_) _ Tryz.underlying9
  exact (Sl.bytes h0 (by omega)).2.2 i hi
theorem Sl.at_ {w:World} {a:Option Addr} {n cap k:Nat} {xss:List (List Value)} (h:Sl w (.slice a n cap) k xss) {i:Nat} (hi:i<xss.length):
 ∃b o,a=some ⟨b,o,none⟩∧b<w.heap.size∧∀j,j<k→w.cell? ⟨b,o+i*k+j,none⟩=(xss.getD i [])[j]? :=by
 obtain ⟨a',cap',hv,hs⟩:=h
 simp only [Value.slice.injEq] at hv
 obtain ⟨rfl, -, -⟩:=hv
 rcases hs with rfl|⟨b,o,rfl,hb,hc⟩
 ·simp at hi
 ·exact ⟨b,o,rfl,hb,hc i hi⟩
theorem getD_map {α β:Type} (f:α→List β) (l:List α) {i:Nat} (hi:i<l.length):(l.map f).getD i []=f l[i]:=by simp [hi]
structure Col where
 nm:ByteArray
 ty:Int
 key:Bool
def Col.cells (c:Col):List Value:= [.string c.nm, .int .u8 c.ty, .bool c.key]
theorem Col.at_ {w wr:World} {b o:Nat} {l:List Col} {k:Nat} (hk:k<l.length) (hc:∀j,j<3→w.cell? ⟨b,o+k*3+j,none⟩=((l.map Col.cells).getD k [])[j]?) (hb:b<w.heap.size) (hE:Ext w wr):
 wr.cell? ⟨b,o+k*3,none⟩=some (.string l[k].nm)∧wr.cell? ⟨b,o+k*3+1,none⟩=some (.int .u8 l[k].ty)∧wr.cell? ⟨b,o+k*3+2,none⟩=some (.bool l[k].key):=by
 rw [getD_map Col.cells l hk] at hc
 have c:=hE.cells.1 b
 exact ⟨(c _ hb).trans (hc 0 (by omega)),(c _ hb).trans (hc 1 (by omega)),(c _ hb).trans (hc 2 (by omega))⟩
structure Rl where
 oid:Int
 ver:Int
 nm:ByteArray
 id:Int
 cols:List Col
def Rl.arr (r:Rl) (v:Value):Array Value:= #[.int .u32 r.oid, .int .u32 r.ver, .string r.nm, .int .u8 r.id,v]
def firstE (f:Nat→Int):Nat→Int
 |0=>0
 |n+1=>if firstE f n≠0 then firstE f n else f n
theorem firstE_zero {f:Nat→Int} {n:Nat} (h:∀i,i<n→f i=0):firstE f n=0:=by
 induction n with
 |zero=>rfl
 |succ n ih=>
  have h1:=ih (fun i hi=>h i (by omega))
  unfold firstE
  rw [h1,if_neg (by simp)]
  exact h n (by omega)
theorem firstE_all {f:Nat→Int} {n:Nat} (h:firstE f n=0):∀i,i<n→f i=0:=by
 induction n with
 |zero=>intro i hi;omega
 |succ n ih=>
  unfold firstE at h
  by_cases h1:firstE f n=0
  ·rw [if_neg (by simpa using h1)] at h
   intro i hi
   by_cases e:i=n
   ·subst e;exact h
   ·exact ih h1 i (by omega)
  ·rw [if_pos h1] at h;exact absurd h h1
theorem firstE_at {f:Nat→Int} {n k:Nat} (h:∀i,i<k→f i=0) (hk:k<n) (h0:f k≠0):firstE f n=f k:=by
 induction n with
 |zero=>omega
 |succ n ih=>
  unfold firstE
  by_cases e:k=n
  ·subst e
   rw [if_neg (by rw [firstE_zero h];simp)]
  ·have:=ih (by omega)
   rw [if_pos (by rw [this];exact h0),this]
theorem firstE_get {f:Nat→Int} {n:Nat} (h:firstE f n≠0):∃k,k<n∧(∀i,i<k→f i=0)∧firstE f n=f k:=by
 induction n with
 |zero=>exact absurd rfl h
 |succ n ih=>
  unfold firstE at h⊢
  by_cases h1:firstE f n=0
  ·rw [if_neg (by simpa using h1)]
   exact ⟨n,by omega,firstE_all h1,rfl⟩
  ·rw [if_pos h1]
   obtain ⟨k,hk,h2,h3⟩:=ih h1
   exact ⟨k,by omega,h2,h3⟩
def chr (s:ByteArray) (i:Nat):Int:=if h:i<s.size then (s[i].toNat:Int) else 0
theorem chr_lt {s:ByteArray} {i:Nat} (h:i<s.size):chr s i=(s[i].toNat:Int):=by unfold chr;rw [dif_pos h]
def nameAt (s:ByteArray) (i:Nat):Bool:=decide ((97≤chr s i∧chr s i≤122)∨(0<i∧((48≤chr s i∧chr s i≤57)∨chr s i=95)))
def namedB (s:ByteArray):Bool:=decide (1≤s.size∧s.size≤31)&&(List.range s.size).all (nameAt s)
theorem named_no {s:ByteArray} {k:Nat} (hk:k<s.size) (h:nameAt s k=false):namedB s=false:=by
 unfold namedB
 rw [Bool.and_eq_false_iff]
 right
 rw [List.all_eq_false]
 exact ⟨k,List.mem_range.2 hk,by simp [h]⟩
theorem named_yes {s:ByteArray} (h:∀j,j<s.size→nameAt s j=true):namedB s=decide (1≤s.size∧s.size≤31):=by
 unfold namedB
 have:(List.range s.size).all (nameAt s)=true:=List.all_eq_true.2 fun x hx=>h x (List.mem_range.1 hx)
 rw [this,Bool.and_true]
theorem named_len {s:ByteArray} (h: ¬ (1≤s.size∧s.size≤31)):namedB s=false:=by
 unfold namedB;rw [decide_eq_false h];rfl
theorem name_cases {s:ByteArray} {k:Nat} (h:k<s.size):
 (nameAt s k=true∧((97≤(s[k].toNat:Int)∧(s[k].toNat:Int)≤122)∨(0<k∧48≤(s[k].toNat:Int)∧(s[k].toNat:Int)≤57)∨(0<k∧(s[k].toNat:Int)=95)))∨
 (nameAt s k=false∧((k=0∧(s[k].toNat:Int)<97)∨(k=0∧122<(s[k].toNat:Int))∨(0<k∧(s[k].toNat:Int)<48)∨(0<k∧57<(s[k].toNat:Int)∧(s[k].toNat:Int)<95)∨(0<k∧95<(s[k].toNat:Int)∧(s[k].toNat:Int)<97)∨(0<k∧122<(s[k].toNat:Int)))):=by
 unfold nameAt
 rw [decide_eq_true_iff,decide_eq_false_iff_not,chr_lt h]
 omega
def colE (c:Col) (ahead:List Col):Int:=if namedB c.nm=false then 3 else if ahead.any (fun o=>decide (o.nm=c.nm))=true then 9 else if c.ty<1∨6<c.ty then 11 else 0
def colAt (cols:List Col) (i:Nat):Int:=if h:i<cols.length then colE cols[i] (cols.take i) else 0
theorem colAt_lt {cols:List Col} {i:Nat} (h:i<cols.length):colAt cols i=colE cols[i] (cols.take i):=by unfold colAt;rw [dif_pos h]
def Rl.right (r:Rl):Int:=
 if r.oid=0∨r.ver=0 then 4 else if namedB r.nm=false then 3 else if 2<r.id then 7 else if r.cols.length<1∨16<r.cols.length then 17
 else if firstE (colAt r.cols) r.cols.length≠0 then firstE (colAt r.cols) r.cols.length
 else if r.id=1∧r.cols.any Col.key=false then 13 else 0
structure Rl.wf (r:Rl):Prop where
 nm:r.nm.size≤9223372036854775807
 cols:∀c∈r.cols,c.nm.size≤9223372036854775807
def aheadP (o1 v1 o2 v2:Int):Prop:=o1<o2∨(o1=o2∧v1<v2)
instance (o1 v1 o2 v2:Int):Decidable (aheadP o1 v1 o2 v2):=by unfold aheadP;infer_instance
def aheadB (o1 v1 o2 v2:Int):Bool:=decide (aheadP o1 v1 o2 v2)
def cmpI (a b:Int):Int:=if a<b then -1 else if b<a then 1 else 0
def cmpR (o1 v1 o2 v2:Int):Int:=if cmpI o1 o2≠0 then cmpI o1 o2 else cmpI v1 v2
theorem cmpR_neg {o1 v1 o2 v2:Int} :cmpR o1 v1 o2 v2<0↔aheadP o1 v1 o2 v2:=by
 unfold cmpR cmpI aheadP
 (repeat' split)<;>omega
theorem cmpR_zero {o1 v1 o2 v2:Int} :cmpR o1 v1 o2 v2=0↔o1=o2∧v1=v2:=by
 unfold cmpR cmpI
 (repeat' split)<;>omega
theorem cmpR_cases (o1 v1 o2 v2:Int):cmpR o1 v1 o2 v2= -1∨cmpR o1 v1 o2 v2=0∨cmpR o1 v1 o2 v2=1:=by
 unfold cmpR cmpI
 (repeat' split)<;>omega
theorem ahead_trans {a b c d e f:Int} (h:aheadP a b c d) (k:aheadP c d e f):aheadP a b e f:=by unfold aheadP at*;omega
theorem ahead_irr {a b:Int} : ¬ aheadP a b a b:=by unfold aheadP;omega
theorem ahead_tri (a b c d:Int):aheadP a b c d∨(a=c∧b=d)∨aheadP c d a b:=by unfold aheadP;omega
def Rl.lt (a b:Rl):Prop:=aheadP a.oid a.ver b.oid b.ver
def Srt (l:List Rl):Prop:=l.Pairwise Rl.lt
theorem Srt.at_ {l:List Rl} (h:Srt l) {i j:Nat} (hi:i<l.length) (hj:j<l.length) (hij:i<j):l[i].lt l[j]:=List.pairwise_iff_getElem.1 h i j hi hj hij
theorem Srt.take {l:List Rl} (h:Srt l) (k:Nat):Srt (l.take k):=List.Pairwise.sublist (List.take_sublist k l) h
theorem Srt.nil:Srt []:=List.Pairwise.nil
def posR (o v:Int):List Rl→Nat
 | []=>0
 |r::l=>if aheadP r.oid r.ver o v then posR o v l+1 else 0
theorem posR_le (o v:Int):∀l,posR o v l≤l.length
 | []=>Nat.le_refl _
 |r::l=>by
  have:=posR_le o v l
  unfold posR
  split
  ·rw [List.length_cons];omega
  ·exact Nat.zero_le _
theorem posR_lt (o v:Int):∀(l:List Rl) (i:Nat) (h:i<l.length),i<posR o v l→aheadP l[i].oid l[i].ver o v
 | [],i,h,_=>absurd h (Nat.not_lt_zero _)
 |r::l,i,h,hi=>by
  unfold posR at hi
  split at hi
  ·rename_i hr
   cases i with
   |zero=>exact hr
   |succ i=>exact posR_lt o v l i (by simpa using h) (by omega)
  ·omega
theorem posR_at (o v:Int):∀(l:List Rl) (h:posR o v l<l.length),¬ aheadP (l[posR o v l]'h).oid (l[posR o v l]'h).ver o v
 | [],h=>absurd h (Nat.not_lt_zero _)
 |r::l,h=>by
  by_cases hr:aheadP r.oid r.ver o v
  ·have e:posR o v (r::l)=posR o v l+1:=if_pos hr
   have h2:posR o v l<l.length:=by rw [e] at h;simpa using h
   have:=posR_at o v l h2
   simp only [e,List.getElem_cons_succ]
   exact this
  ·have e:posR o v (r::l)=0:=if_neg hr
   simp only [e,List.getElem_cons_zero]
   exact hr
theorem posR_of {o v:Int} {l:List Rl} {i:Nat} (hi:i≤l.length) (h1:∀j (h:j<l.length),j<i→aheadP l[j].oid l[j].ver o v) (h2:∀h:i<l.length,¬ aheadP l[i].oid l[i].ver o v):posR o v l=i:=by
 have hle:=posR_le o v l
 rcases Nat.lt_trichotomy (posR o v l) i with h|h|h
 ·exact absurd (h1 _ (by omega) h) (posR_at o v l (by omega))
 ·exact h
 ·exact absurd (posR_lt o v l i (by omega) h) (h2 (by omega))
theorem Srt.not_ahead {l:List Rl} (h:Srt l) {o v:Int} {i:Nat} (hi:i<l.length) (hp:posR o v l≤i): ¬ aheadP l[i].oid l[i].ver o v:=by
 rcases Nat.eq_or_lt_of_le hp with e|hlt
 ·subst e;exact posR_at o v l hi
 ·intro hq
  have h1:=h.at_ (i:=posR o v l) (by omega) hi hlt
  exact posR_at o v l (by omega) (ahead_trans h1 hq)
def isR (o v:Int) (r:Rl):Bool:=decide (r.oid=o∧r.ver=v)
def hasR (o v:Int) (l:List Rl):Bool:=l.any (isR o v)
def getR (o v:Int) (l:List Rl):Option Rl:=l.find? (isR o v)
theorem hasR_at {o v:Int} {l:List Rl} {i:Nat} (hi:i<l.length) (h:l[i].oid=o∧l[i].ver=v):hasR o v l=true:=List.any_eq_true.2 ⟨l[i],List.getElem_mem hi,by unfold isR;simpa using h⟩
theorem hasR_no {o v:Int} {l:List Rl} (h:∀i (hi:i<l.length),¬ (l[i].oid=o∧l[i].ver=v)):hasR o v l=false:=by
 unfold hasR
 rw [List.any_eq_false]
 intro x hx
 obtain ⟨i,hi,rfl⟩:=List.getElem_of_mem hx
 unfold isR
 simpa using h i hi
theorem Srt.has {l:List Rl} (h:Srt l) (o v:Int):hasR o v l=decide (∃hi:posR o v l<l.length,(l[posR o v l]'hi).oid=o∧(l[posR o v l]'hi).ver=v):=by
 by_cases hp:∃hi:posR o v l<l.length,(l[posR o v l]'hi).oid=o∧(l[posR o v l]'hi).ver=v
 ·obtain ⟨hi,hq⟩:=hp
  rw [hasR_at hi hq]
  exact (decide_eq_true ⟨hi,hq⟩).symm
 ·rw [hasR_no]
  ·exact (decide_eq_false hp).symm
  ·rintro i hi ⟨h1,h2⟩
   have hge:posR o v l≤i:=by
    rcases Nat.lt_or_ge i (posR o v l) with hlt|hge
    ·have:=posR_lt o v l i hi hlt
     rw [h1,h2] at this
     exact absurd this ahead_irr
    ·exact hge
   rcases Nat.eq_or_lt_of_le hge with e|hlt
   ·subst e;exact hp ⟨hi,h1,h2⟩
   ·have h3:=h.at_ (i:=posR o v l) (by omega) hi hlt
    unfold Rl.lt at h3
    rw [h1,h2] at h3
    exact posR_at o v l (by omega) h3
theorem getR_some {o v:Int} {l:List Rl} {r:Rl} (h:getR o v l=some r):r∈l∧r.oid=o∧r.ver=v:=by
 unfold getR at h
 have h1:=List.find?_some h
 unfold isR at h1
 exact ⟨List.mem_of_find?_eq_some h,by simpa using h1⟩
theorem getR_none {o v:Int} {l:List Rl} :getR o v l=none↔hasR o v l=false:=by
 unfold getR hasR
 rw [List.find?_eq_none,List.any_eq_false]
theorem Srt.uniq {l:List Rl} (h:Srt l) {a b:Rl} (ha:a∈l) (hb:b∈l) (h1:a.oid=b.oid) (h2:a.ver=b.ver):a=b:=by
 obtain ⟨i,hi,rfl⟩:=List.getElem_of_mem ha
 obtain ⟨j,hj,rfl⟩:=List.getElem_of_mem hb
 rcases Nat.lt_trichotomy i j with hij|rfl|hij
 ·have:=h.at_ hi hj hij
  unfold Rl.lt at this
  rw [h1,h2] at this
  exact absurd this ahead_irr
 ·rfl
 ·have:=h.at_ hj hi hij
  unfold Rl.lt at this
  rw [h1,h2] at this
  exact absurd this ahead_irr
theorem Srt.get_at {l:List Rl} (h:Srt l) {o v:Int} {i:Nat} (hi:i<l.length) (hq:l[i].oid=o∧l[i].ver=v):getR o v l=some l[i]:=by
 cases hg:getR o v l with
 |none=>rw [getR_none,hasR_at hi hq] at hg;cases hg
 |some r=>
  obtain ⟨h1,h2,h3⟩:=getR_some hg
  rw [h.uniq h1 (List.getElem_mem hi) (by rw [h2,hq.1]) (by rw [h3,hq.2])]
def insR (l:List Rl) (r:Rl):List Rl:=l.take (posR r.oid r.ver l)++r::l.drop (posR r.oid r.ver l)
theorem insR_len (l:List Rl) (r:Rl):(insR l r).length=l.length+1:=by
 have:=posR_le r.oid r.ver l
 unfold insR
 rw [List.length_append,List.length_take,List.length_cons,List.length_drop];omega
theorem insR_mem {l:List Rl} {r x:Rl} :x∈insR l r↔x=r∨x∈l:=by
 unfold insR
 rw [List.mem_append,List.mem_cons]
 have h:x∈l↔x∈l.take (posR r.oid r.ver l)∨x∈l.drop (posR r.oid r.ver l):=by rw [←List.mem_append,List.take_append_drop]
 rw [h]
 constructor
 ·rintro (h|h|h)
  ·exact .inr (.inl h)
  ·exact .inl h
  ·exact .inr (.inr h)
 ·rintro (h|h|h)
  ·exact .inr (.inl h)
  ·exact .inl h
  ·exact .inr (.inr h)
theorem Srt.ins {l:List Rl} (h:Srt l) {r:Rl} (hn:hasR r.oid r.ver l=false):Srt (insR l r):=by
 have hx:∀x∈l,¬ (x.oid=r.oid∧x.ver=r.ver):=fun x hx hq=>by
  obtain ⟨i,hi,rfl⟩:=List.getElem_of_mem hx
  rw [hasR_at hi hq] at hn;cases hn
 unfold insR Srt
 rw [List.pairwise_append]
 refine ⟨h.take _, ?_, ?_⟩
 ·rw [List.pairwise_cons]
  refine ⟨fun x hxd=> ?_,List.Pairwise.sublist (List.drop_sublist _ _) h⟩
  obtain ⟨i,hi,rfl⟩:=List.getElem_of_mem hxd
  rw [List.length_drop] at hi
  rw [List.getElem_drop]
  have h1:=h.not_ahead (o:=r.oid) (v:=r.ver) (i:=posR r.oid r.ver l+i) (by omega) (by omega)
  rcases ahead_tri r.oid r.ver (l[posR r.oid r.ver l+i]'(by omega)).oid (l[posR r.oid r.ver l+i]'(by omega)).ver with q|q|q
  ·exact q
  ·exact absurd ⟨q.1.symm,q.2.symm⟩ (hx _ (List.getElem_mem _))
  ·exact absurd q h1
 ·intro x hxt y hyd
  have hxr:x.lt r:=by
   obtain ⟨i,hi,rfl⟩:=List.getElem_of_mem hxt
   rw [List.length_take] at hi
   rw [List.getElem_take]
   exact posR_lt _ _ l i (by omega) (by omega)
  rcases List.mem_cons.1 hyd with rfl|hy
  ·exact hxr
  ·have hxl:=List.mem_of_mem_take hxt
   obtain ⟨i,hi,rfl⟩:=List.getElem_of_mem hxt
   obtain ⟨j,hj,rfl⟩:=List.getElem_of_mem hy
   rw [List.length_take] at hi
   rw [List.length_drop] at hj
   rw [List.getElem_take,List.getElem_drop]
   exact h.at_ (by omega) (by omega) (by omega)
def addE (l:List Rl) (r:Rl):Int:=if r.right≠0 then r.right else if hasR r.oid r.ver l=true then 9 else if 64≤l.length then 8 else 0
def addL (l:List Rl) (r:Rl):List Rl:=if addE l r=0 then insR l r else l
theorem addE_zero {l:List Rl} {r:Rl} (h:addE l r=0):r.right=0∧hasR r.oid r.ver l=false∧l.length<64:=by
 unfold addE at h
 by_cases h0:r.right=0
 ·rw [if_neg (by simpa using h0)] at h
  cases hb:hasR r.oid r.ver l with
  |true=>rw [hb,if_pos rfl] at h;cases h
  |false=>
   rw [hb,if_neg (by simp)] at h
   split at h
   ·cases h
   ·exact ⟨h0,rfl,by omega⟩
 ·rw [if_pos h0] at h;exact absurd h h0
structure CatOk (l:List Rl):Prop where
 srt:Srt l
 right:∀r∈l,r.right=0
 n64:l.length≤64
theorem CatOk.nil:CatOk []:=⟨Srt.nil,(fun r h=>by cases h),Nat.zero_le _⟩
theorem CatOk.add {l:List Rl} (h:CatOk l) (r:Rl):CatOk (addL l r):=by
 unfold addL
 split
 ·rename_i h0
  obtain ⟨h1,h2,h3⟩:=addE_zero h0
  refine ⟨h.srt.ins h2,fun x hx=> ?_,by rw [insR_len];omega⟩
  rcases insR_mem.1 hx with rfl|hx
  ·exact h1
  ·exact h.right x hx
 ·exact h
def ofUp (l:List Rl):Nat→List Rl
 |0=> []
 |k+1=>if h:k<l.length then addL (ofUp l k) l[k] else ofUp l k
theorem ofUp_succ {l:List Rl} {k:Nat} (h:k<l.length):ofUp l (k+1)=addL (ofUp l k) l[k]:=by
 conv=>lhs;unfold ofUp
 rw [dif_pos h]
theorem ofUp_ok (l:List Rl):∀k,CatOk (ofUp l k)
 |0=>CatOk.nil
 |k+1=>by
  unfold ofUp
  split
  ·exact (ofUp_ok l k).add _
  ·exact ofUp_ok l k
def ofAt (l:List Rl) (k:Nat):Int:=if h:k<l.length then addE (ofUp l k) l[k] else 0
theorem Srt.ext {a b:List Rl} (ha:Srt a) (hb:Srt b) (h:∀x,x∈a↔x∈b):a=b:=by
 induction a generalizing b with
 |nil=>
  cases b with
  |nil=>rfl
  |cons y b=>exact absurd ((h y).2 (by simp)) (by simp)
 |cons x a ih=>
  cases b with
  |nil=>exact absurd ((h x).1 (by simp)) (by simp)
  |cons y b=>
   obtain ⟨hx,ha'⟩:=List.pairwise_cons.1 ha
   obtain ⟨hy,hb'⟩:=List.pairwise_cons.1 hb
   have exy:x=y:=by
    rcases List.mem_cons.1 ((h x).1 (by simp)) with e|hxb
    ·exact e
    ·rcases List.mem_cons.1 ((h y).2 (by simp)) with e|hya
     ·exact e.symm
     ·exact absurd (ahead_trans (hx y hya) (hy x hxb)) ahead_irr
   subst exy
   congr 1
   refine ih ha' hb' fun z=>⟨fun hz=> ?_,fun hz=> ?_⟩
   ·rcases List.mem_cons.1 ((h z).1 (List.mem_cons_of_mem _ hz)) with rfl|h2
    ·exact absurd (hx z hz) ahead_irr
    ·exact h2
   ·rcases List.mem_cons.1 ((h z).2 (List.mem_cons_of_mem _ hz)) with rfl|h2
    ·exact absurd (hy z hz) ahead_irr
    ·exact h2
section
variable {P : Program} {ops : Array Oper} {Q : Exit → Act → World → Prop} {md : Region.Mode} {S : World → Prop}
def wpHd (P:Program) (md:Region.Mode) (ops:Array Oper) (Q:Exit→Act→World→Prop) (S:World→Prop) (n:Nat):Nat→Array Bool→Act→World→Prop
 |0,listed,a,w=>Region.seqB md ops (ops.size - n) n listed=true∧wpList P ops Q (ops.toList.drop n) a w
 |f+1,listed,a,w=>Region.ready md ops listed≠ []∧∀i∈Region.ready md ops listed,i<n∧wpOp P ops Q i (fun a' w' =>S w'∧wpHd P md ops Q S n f (listed.setIfInBounds i true) a' w') a w
theorem wpAny_of_hd {n:Nat} :∀(f:Nat) (listed:Array Bool) (a:Act) (w:World),wpHd P md ops Q S n f listed a w→wpAny P md ops Q (f+(ops.size - n)) listed a w
 |0,listed,a,w,h=>by
  rw [Nat.zero_add]
  obtain ⟨hB,h⟩:=h
  have hl:(ops.toList.drop n).length=ops.size - n:=by simp
  have:=wpAny_of_seq (P:=P) (md:=md) (ops:=ops) (Q' :=Q) (ops.toList.drop n) n listed a w (fun j=>by rw [List.getElem?_drop,Array.getElem?_toList]) (by rw [hl];exact hB) h
  rw [hl] at this
  exact this
 |f+1,listed,a,w,h=>by
  rw [show f+1+(ops.size - n)=(f+(ops.size - n))+1 by omega]
  exact ⟨fun h0=>absurd h0 h.1,fun i hi=>wpOp_mono (fun a' w' h' =>wpAny_of_hd f _ a' w' h'.2) (h.2 i hi).2⟩
theorem wpHd_first {n i:Nat} {oi:Oper} {v:Value} (hi:ops[i]? =some oi) (hsel:∀(j:Nat) (o:Oper) cs b,ops[j]? =some o→o.op≠ .select cs b)
 (hs:Region.sinkB md ops n=true) (hc:Region.chainB md ops n=true) (hn:n<ops.size) (hin:i<n)
 (hQ:∀c a w,Q (.panic c) (a.put oi.dst v) w→Q (.panic c) a w):
 ∀(f:Nat) (listed:Array Bool) (a:Act) (w:World),HeadInv md ops n listed→
  (∀j oj,ops[j]? =some oj→j≠i→listed.getD j true=false→(∀e∈oj.after,Region.binds md e=true→e.on≠i)→oi.apart ops oj=true)→
  i∈Region.ready md ops listed→YieldsIf P ops S oi v a→S w→
  wpHd P md ops Q S n f (listed.setIfInBounds i true) (a.put oi.dst v) w→wpHd P md ops Q S n (f+1) listed a w:=by
 intro f
 induction f with
 |zero=>
  intro listed a w inv _ hr hy hS H
  have hun:=(mem_ready.1 hr).1
  refine ⟨fun h=>(by rw [h] at hr;cases hr),fun j hj=> ?_⟩
  have hjn:j<n:=by
   rcases Nat.lt_or_ge j n with h|h
   ·exact h
   ·exact absurd hj (tail_waits hs hc hn inv _ i rfl hin hun j h)
  refine ⟨hjn, ?_⟩
  by_cases hji:j=i
  ·subst hji;exact hy.wpOp hi hS ⟨hS,H⟩
  ·have:=seqB_ready H.1 j (ready_mono hj hji)
   omega
 |succ f ih=>
  intro listed a w inv hfree hr hy hS H
  have hun:=(mem_ready.1 hr).1
  refine ⟨fun h=>(by rw [h] at hr;cases hr),fun j hj=> ?_⟩
  have hjn:j<n:=by
   rcases Nat.lt_or_ge j n with h|h
   ·exact h
   ·exact absurd hj (tail_waits hs hc hn inv _ i rfl hin hun j h)
  refine ⟨hjn, ?_⟩
  by_cases hji:j=i
  ·subst hji;exact hy.wpOp hi hS ⟨hS,H⟩
  ·have h1:=(H.2 j (ready_mono hj hji)).2
   obtain ⟨hjun,oj,hoj,hall⟩:=mem_ready.1 hj
   have hnot:∀e∈oj.after,Region.binds md e=true→e.on≠i:=fun e he hb heq=>by
    have h1:=hall e he hb
    rw [heq,getD_both hun] at h1
    cases h1
   have h2:=wpOp_putIf hoj (hfree j oj hoj hji hjun hnot) (fun cs b=>hsel i oi cs b hi) (fun cs b=>hsel j oj cs b hoj) hQ hy h1
   have hfree' :∀k ok,ops[k]? =some ok→k≠i→(listed.setIfInBounds j true).getD k true=false→
    (∀e∈ok.after,Region.binds md e=true→e.on≠i)→oi.apart ops ok=true:=fun k ok hk hki hun hno=>by
    refine hfree k ok hk hki ?_ hno
    by_cases hjk:j=k
    ·subst hjk;exact hjun
    ·rw [getD_set_ne true hjk] at hun;exact hun
   refine wpOp_mono (fun a' w' h3=>⟨h3.2.1,ih (listed.setIfInBounds j true) a' w' (inv.set hj hjn) hfree' (ready_mono hr (Ne.symm hji)) h3.1 h3.2.1 ?_⟩) h2
   rw [Array.setIfInBounds_comm _ _ hji]
   exact h3.2.2
def headB (md:Region.Mode) (ops:Array Oper) (n:Nat) (listed:Array Bool):Bool:=
 decide (listed.size=ops.size)&&decide (n<ops.size)&&Region.noSelect ops&&Region.sinkB md ops n&&Region.chainB md ops n&&
 ((List.range ops.size).all fun j=> !(listed.getD j false)||((ops[j]?).map (·.after.all fun e=> !Region.binds md e||listed.getD e.on false)).getD true)&&
 ((List.range ops.size).all fun t=>decide (t<n)|| !(listed.getD t true))
theorem headB_spec {n:Nat} {listed:Array Bool} (h:headB md ops n listed=true):
 n<ops.size∧Region.noSelect ops=true∧Region.sinkB md ops n=true∧Region.chainB md ops n=true∧HeadInv md ops n listed:=by
 unfold headB at h
 simp only [Bool.and_eq_true,decide_eq_true_eq] at h
 obtain ⟨⟨⟨⟨⟨⟨h1,h2⟩,h3⟩,h4⟩,h5⟩,h6⟩,h7⟩:=h
 refine ⟨h2,h3,h4,h5,h1, ?_, ?_⟩
 ·intro j oj hj hl e he hb
  have hjl:j<ops.size:=(Array.getElem?_eq_some_iff.1 hj).1
  have:=List.all_eq_true.1 h6 j (List.mem_range.2 hjl)
  rw [hl,hj] at this
  simp only [Bool.not_true,Bool.false_or,Option.map_some,Option.getD_some] at this
  have h8:=Array.all_eq_true'.1 this e he
  rw [hb] at h8
  simpa using h8
 ·intro t ht htl
  have:=List.all_eq_true.1 h7 t (List.mem_range.2 htl)
  rw [decide_eq_false (by omega)] at this
  simpa using this
theorem wpHd_take {n i:Nat} {oi:Oper} {v:Value} {f:Nat} {listed:Array Bool} {a:Act} {w:World} (hi:ops[i]? =some oi)
 (hB:headB md ops n listed=true) (hf:Region.free md ops listed i=true) (hr:((Region.ready md ops listed).contains i&&decide (i<n))=true)
 (hQ:∀c a w,Q (.panic c) (a.put oi.dst v) w→Q (.panic c) a w) (hy:YieldsIf P ops S oi v a) (hS:S w)
 (h:wpHd P md ops Q S n f (listed.setIfInBounds i true) (a.put oi.dst v) w):wpHd P md ops Q S n (f+1) listed a w:=by
 obtain ⟨hn,hsel,hs,hc,inv⟩:=headB_spec hB
 simp only [Bool.and_eq_true,decide_eq_true_eq] at hr
 exact wpHd_first hi (Region.noSelect_spec hsel) hs hc hn hr.2 hQ f listed a w inv (Region.free_spec hi hf) (by simpa using hr.1) hy hS h
theorem wpHd_one {n i:Nat} {o:Oper} {f:Nat} {listed:Array Bool} {a:Act} {w:World} (hi:ops[i]? =some o) (hg:o.guard=none)
 (hr:(decide (Region.ready md ops listed= [i])&&decide (i<n))=true)
 (h:∀K:Act→World→Prop,Hid (∀a' w',S w'→(S w'→wpHd P md ops Q S n f (listed.setIfInBounds i true) a' w')→K a' w')→o.wp P a w K Q):wpHd P md ops Q S n (f+1) listed a w:=by
 simp only [Bool.and_eq_true,decide_eq_true_eq] at hr
 refine ⟨by rw [hr.1];simp,fun j hj=> ?_⟩
 rw [hr.1] at hj
 have hji:j=i:=by simpa using hj
 subst hji
 refine ⟨hr.2, ?_⟩
 unfold wpOp
 simp only [hi]
 rw [if_pos (by simp [Region.wanted,hg])]
 exact .inl (h _ (fun a' w' hs hk=>⟨hs,hk hs⟩))
theorem wpHd_tail {n:Nat} {listed:Array Bool} {a:Act} {w:World} (hB:Region.seqB md ops (ops.size - n) n listed=true) (h:wpList P ops Q (ops.toList.drop n) a w):wpHd P md ops Q S n 0 listed a w:=⟨hB,h⟩
theorem wp_region_head (n:Nat) (S:World→Prop) {id:Nat} {a:Act} {w:World} (hm:P.follows .mixedOrders=true) (hn:n<ops.size)
 (h:wpHd P .any ops Q S n n (Array.replicate ops.size false) a w.drew):(Code.region id ops true).wp P Q a w:=by
 have h2:=wpAny_of_hd n _ _ _ h
 rw [show n+(ops.size - n)=ops.size by omega] at h2
 exact wp_region_any hm h2
end
theorem HG.on {P:Program} {ops:Array Oper} {Q:Exit→Act→World→Prop} {md:Region.Mode} {S:World→Prop} {n:Nat} (i:Nat) (d:Tmp) {oi:Oper} {v:Value} {f:Nat} {listed:Array Bool} {a:Act} {w:World} (hS:S w)
 (h:wpHd P md ops Q S n f (listed.setIfInBounds i true) (a.put (some d) v) w)
 (hi:ops[i]? =some oi:=by rfl) (hd:oi.dst=some d:=by rfl)
 (hB:headB md ops n listed=true:=by kernel_rfl) (hf:Region.free md ops listed i=true:=by kernel_rfl) (hr:((Region.ready md ops listed).contains i&&decide (i<n))=true:=by kernel_rfl)
 (hQ:∀c a w,Q (.panic c) (a.put (some d) v) w→Q (.panic c) a w:=by exact fun _ _ _ h=>h) (hy:YieldsIf P ops S oi v a:=by exact Or.inl ⟨by rfl,by (intro w' hS';(obtain ⟨hEs',hcs',hfs'⟩:=hS');go_simp;try with_reducible rfl)⟩):wpHd P md ops Q S n (f+1) listed a w:=by
 subst_vars
 rw [←hd] at h hQ
 exact wpHd_take hi hB hf hr hQ hy hS h
end Go.Proofs.YtgmphpccpfaapaaGreatDoor
