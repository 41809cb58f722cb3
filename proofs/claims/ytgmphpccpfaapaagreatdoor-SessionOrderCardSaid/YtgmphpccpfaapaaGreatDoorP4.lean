/-
Catalogs in plain words: what is found, the youngest, some of them; whatever order they come in.
-/
import Derived.Lib.ItoaNum
import Derived.Test.YtgmphpccpfaapaaGreatDoorP3
import Derived.Test.YtgmphpccpfaapaaGreatDoorP1
set_option maxRecDepth 100000
set_option maxHeartbeats 16000000
namespace Go.Proofs.YtgmphpccpfaapaaGreatDoor
open Go.RowKit
def getP (o v:Int) (ps:List RR):Option RR:=ps.find? (fun p=>isR o v p.r)
def RR.zero:RR:=⟨⟨0,0,⟨#[]⟩,0, []⟩,none,0⟩
theorem getP_map (o v:Int) (ps:List RR):(getP o v ps).map RR.r=getR o v (ps.map RR.r):=by
 unfold getP getR
 rw [List.find?_map];rfl
theorem getP_at {o v:Int} {ps:List RR} {k:Nat} (hk:k<ps.length) (h:ps[k].r.oid=o∧ps[k].r.ver=v) (hp:∀j (hj:j<ps.length),j<k→¬ (ps[j].r.oid=o∧ps[j].r.ver=v)):getP o v ps=some ps[k]:=by
 unfold getP
 rw [List.find?_eq_some_iff_getElem]
 refine ⟨by unfold isR;simpa using h,k,hk,rfl,fun j hj=> ?_⟩
 have:=hp j (by omega) hj
 unfold isR
 simp only [Bool.not_eq_true',decide_eq_false_iff_not]
 exact this
theorem getP_none {o v:Int} {ps:List RR} (hp:∀j (hj:j<ps.length),¬ (ps[j].r.oid=o∧ps[j].r.ver=v)):getP o v ps=none:=by
 unfold getP
 rw [List.find?_eq_none]
 intro x hx
 obtain ⟨j,hj,rfl⟩:=List.getElem_of_mem hx
 have:=hp j hj
 unfold isR
 simpa using this
theorem getP_some {o v:Int} {ps:List RR} {p:RR} (h:getP o v ps=some p):p∈ps∧p.r.oid=o∧p.r.ver=v:=by
 unfold getP at h
 have h1:=List.find?_some h
 unfold isR at h1
 exact ⟨List.mem_of_find?_eq_some h,by simpa using h1⟩
theorem getP_is (o v:Int) (ps:List RR):(getP o v ps).isSome=hasR o v (ps.map RR.r):=by
 rw [←Option.isSome_map,getP_map]
 cases h:getR o v (ps.map RR.r) with
 |none=>rw [getR_none.1 h];rfl
 |some r=>
  cases hh:hasR o v (ps.map RR.r) with
  |true=>rfl
  |false=>rw [getR_none.2 hh] at h;cases h
def outs (ps:List RR) (q:RR) (i:Nat):List RR:=if i≤posR q.r.oid q.r.ver (ps.map RR.r) then ps.take i else (insP ps q).take (i+1)
theorem insP_get (ps:List RR) (q:RR) {i:Nat} (hi:i<ps.length) (h:posR q.r.oid q.r.ver (ps.map RR.r)≤i):(insP ps q)[i+1]'(by rw [insP_len];omega)=ps[i]:=by
 have hk:=posR_le q.r.oid q.r.ver (ps.map RR.r)
 rw [List.length_map] at hk
 have e2:(insP ps q)[i+1]? =some ps[i]:=by
  unfold insP
  generalize posR q.r.oid q.r.ver (ps.map RR.r)=k at h hk⊢
  rw [List.getElem?_append_right (by rw [List.length_take];omega),show i+1 - (ps.take k).length=(i - k)+1 by rw [List.length_take];omega,List.getElem?_cons_succ,List.getElem?_drop,show k+(i - k)=i by omega,List.getElem?_eq_getElem hi]
 have h3:i+1<(insP ps q).length:=by rw [insP_len];omega
 rw [List.getElem?_eq_getElem h3] at e2
 exact Option.some.inj e2
theorem outs_zero (ps:List RR) (q:RR):outs ps q 0= []:=by unfold outs;rw [if_pos (Nat.zero_le _)];rfl
theorem outs_lt {ps:List RR} {q:RR} {i:Nat} (hi:i<ps.length) (h:i<posR q.r.oid q.r.ver (ps.map RR.r)):outs ps q (i+1)=outs ps q i++ [ps[i]]:=by
 unfold outs
 rw [if_pos (by omega),if_pos (by omega),List.take_succ_eq_append_getElem hi]
theorem outs_eq {ps:List RR} {q:RR} {i:Nat} (hi:i<ps.length) (h:i=posR q.r.oid q.r.ver (ps.map RR.r)):outs ps q (i+1)=outs ps q i++ [q]++ [ps[i]]:=by
 have hg:=insP_get ps q hi (by omega)
 unfold outs
 rw [if_neg (by omega),if_pos (by omega),List.take_succ_eq_append_getElem (by rw [insP_len];omega),hg]
 congr 1
 unfold insP
 rw [←h,List.take_append,List.take_of_length_le (by rw [List.length_take];omega),List.length_take,show i+1 - min i ps.length=1 by omega]
 rfl
theorem outs_gt {ps:List RR} {q:RR} {i:Nat} (hi:i<ps.length) (h:posR q.r.oid q.r.ver (ps.map RR.r)<i):outs ps q (i+1)=outs ps q i++ [ps[i]]:=by
 have hg:=insP_get ps q hi (by omega)
 unfold outs
 rw [if_neg (by omega),if_neg (by omega),List.take_succ_eq_append_getElem (by rw [insP_len];omega),hg]
theorem outs_end {ps:List RR} {q:RR} (h:posR q.r.oid q.r.ver (ps.map RR.r)<ps.length):outs ps q ps.length=insP ps q:=by
 unfold outs
 rw [if_neg (by omega),List.take_of_length_le (by rw [insP_len];omega)]
theorem outs_last {ps:List RR} {q:RR} (h:posR q.r.oid q.r.ver (ps.map RR.r)=ps.length):outs ps q ps.length++ [q]=insP ps q:=by
 unfold outs insP
 rw [if_pos (by omega),h,List.drop_eq_nil_of_le (Nat.le_refl _)]
structure Rf where
 o:Int
 v:Int
def Rf.cells (r:Rf):List Value:= [.int .u32 r.o, .int .u32 r.v]
theorem Rf.at_ {w wr:World} {b o:Nat} {l:List Rf} {k:Nat} (hk:k<l.length) (hc:∀j,j<2→w.cell? ⟨b,o+k*2+j,none⟩=((l.map Rf.cells).getD k [])[j]?) (hb:b<w.heap.size) (hE:Ext w wr):
 wr.cell? ⟨b,o+k*2,none⟩=some (.int .u32 l[k].o)∧wr.cell? ⟨b,o+k*2+1,none⟩=some (.int .u32 l[k].v):=by
 rw [getD_map Rf.cells l hk] at hc
 have c:=hE.cells.1 b
 exact ⟨(c _ hb).trans (hc 0 (by omega)),(c _ hb).trans (hc 1 (by omega))⟩
structure Fine (l:List Rl):Prop where
 right:∀r∈l,r.right=0
 one:l.Pairwise (fun a b=> ¬ (a.oid=b.oid∧a.ver=b.ver))
 n:l.length≤64
theorem ofUp_mem {l:List Rl} (h:∀j,j<l.length→ofAt l j=0):∀k,k≤l.length→(∀x,x∈ofUp l k↔x∈l.take k)∧(ofUp l k).length=k
 |0,_=>⟨fun x=>by simp [ofUp],rfl⟩
 |k+1,hk=>by
  obtain ⟨h1,h2⟩:=ofUp_mem h k (by omega)
  have h0:=h k (by omega)
  unfold ofAt at h0
  rw [dif_pos (by omega)] at h0
  rw [ofUp_succ (by omega)]
  unfold addL
  rw [if_pos h0,insR_len,h2]
  refine ⟨fun x=> ?_,rfl⟩
  rw [insR_mem,h1,List.take_succ_eq_append_getElem (by omega),List.mem_append,List.mem_singleton,or_comm]
theorem Fine.at_ {l:List Rl} (h:Fine l):∀k,k≤l.length→∀j,j<k→ofAt l j=0
 |0,_,j,hj=>absurd hj (Nat.not_lt_zero _)
 |k+1,hk,j,hj=>by
  have ih:=h.at_ k (by omega)
  by_cases e:j<k
  ·exact ih j e
  ·obtain rfl:j=k:=by omega
   have hm:∀m,m≤j→(∀x,x∈ofUp l m↔x∈l.take m)∧(ofUp l m).length=m:=by
    intro m
    induction m with
    |zero=>intro _;exact ⟨fun x=>by simp [ofUp],rfl⟩
    |succ m ihm=>
     intro hmj
     obtain ⟨h1,h2⟩:=ihm (by omega)
     have h0:=ih m (by omega)
     unfold ofAt at h0
     rw [dif_pos (by omega)] at h0
     rw [ofUp_succ (by omega)]
     unfold addL
     rw [if_pos h0,insR_len,h2]
     refine ⟨fun x=> ?_,rfl⟩
     rw [insR_mem,h1,List.take_succ_eq_append_getElem (by omega),List.mem_append,List.mem_singleton,or_comm]
   obtain ⟨h1,h2⟩:=hm j (Nat.le_refl _)
   unfold ofAt
   rw [dif_pos (by omega)]
   unfold addE
   rw [if_neg (by simpa using h.right _ (List.getElem_mem (by omega)))]
   have hh:hasR (l[j]'(by omega)).oid (l[j]'(by omega)).ver (ofUp l j)=false:=by
    refine hasR_no fun i hi hq=> ?_
    have h3:=(h1 (ofUp l j)[i]).1 (List.getElem_mem hi)
    obtain ⟨m,hm1,hm2⟩:=List.mem_take_iff_getElem.1 h3
    have:=List.pairwise_iff_getElem.1 h.one m j (by omega) (by omega) (by omega)
    rw [←hm2] at hq
    exact this hq
   rw [if_neg (by rw [hh];simp),if_neg (by have:=h.n;omega)]
theorem Fine.same {a b:List Rl} (ha:Fine a) (hb:Fine b) (h:∀x,x∈a↔x∈b):ofUp a a.length=ofUp b b.length:=by
 refine (ofUp_ok a _).srt.ext (ofUp_ok b _).srt fun x=> ?_
 rw [((ofUp_mem (ha.at_ _ (Nat.le_refl _)) _ (Nat.le_refl _)).1 x),((ofUp_mem (hb.at_ _ (Nat.le_refl _)) _ (Nat.le_refl _)).1 x),List.take_length,List.take_length]
 exact h x
def rightC (k ty n x y:Int) (s:ByteArray) (kind:Int):Int:=
 if kind<1∨6<kind then 11 else if 2<k then 7
 else if k<2 then (if ty=0∧n=0∧x=0∧y=0∧s.size=0 then (if k=1∧kind≠5∧kind≠6 then 11 else 0) else 3)
 else if rightV ty n x y s≠0 then rightV ty n x y s else if ty≠kind then 11 else 0
structure K where
 k:Int
 v:V
def K.zero:K:=⟨0,V.zero⟩
def K.right (c:K) (kind:Int):Int:=rightC c.k c.v.ty c.v.n c.v.x c.v.y c.v.s kind
theorem right_same {k ty n x y:Int} {s:ByteArray} {kind:Int} (hk:k<2) (h:rightC k ty n x y s kind=0):ty=0∧n=0∧x=0∧y=0∧s.size=0∧(k=1→kind=5∨kind=6):=by
 unfold rightC at h
 (repeat' split at h)<;>first|omega|(exfalso;omega)
theorem right_full {ty n x y:Int} {s:ByteArray} {kind:Int} (h:rightC 2 ty n x y s kind=0):rightV ty n x y s=0∧ty=kind:=by
 unfold rightC at h
 (repeat' split at h)<;>first|omega|(exfalso;omega)
theorem right_mk {ty n x y:Int} {s:ByteArray} {kind:Int} (h:rightV ty n x y s=0) (hk:ty=kind):rightC 2 ty n x y s kind=0:=by
 have:=right_zero h
 unfold rightC
 (repeat' split)<;>first|rfl|omega|(exfalso;omega)
theorem texty_yes (kind:Int) (w:World) (h:kind=5∨kind=6):Calls Tryz.prog 181 #[.int .u8 kind] w fun e w' =>e= .returned (.bool true)∧w=w' :=by
 rcases h with rfl|rfl
 all_goals
  go_enter Tryz.func181,Tryz.ntmps181
  go_wp2
  go_ret
  exact ⟨rfl,rfl⟩
theorem texty_no (kind:Int) (w:World) (h:kind≠5∧kind≠6):Calls Tryz.prog 181 #[.int .u8 kind] w fun e w' =>e= .returned (.bool false)∧w=w' :=by
 have h5:(kind==5)=false:=by simpa using h.1
 have h6:(kind==6)=false:=by simpa using h.2
 clear h
 go_enter Tryz.func181,Tryz.ntmps181
 go_wp2
 go_ret
 exact ⟨rfl,rfl⟩
theorem typed_yes (kind:Int) (w:World) (h1:1≤kind) (h2:kind≤6):Calls Tryz.prog 180 #[.int .u8 kind] w fun e w' =>e= .returned (.bool true)∧w=w' :=by
 go_enter Tryz.func180,Tryz.ntmps180
 go_wp2
 go_ret
 exact ⟨ret_bool (by first|(simp;done)|(simp;omega)),rfl⟩
theorem typed_no (kind:Int) (w:World) (h:kind<1∨6<kind):Calls Tryz.prog 180 #[.int .u8 kind] w fun e w' =>e= .returned (.bool false)∧w=w' :=by
 go_enter Tryz.func180,Tryz.ntmps180
 go_wp2
 all_goals
  go_ret
  exact ⟨ret_bool (by first|(simp;done)|(simp;omega)),rfl⟩
def alikeB (k ty n:Int) (x y:Nat) (s:ByteArray) (k' ty' n' :Int) (x' y' :Nat) (s' :ByteArray):Bool:=decide (k=k'∧ty=ty'∧n=n'∧x=x'∧y=y'∧s=s')
theorem alike_same {k ty n:Int} {x y:Nat} {s:ByteArray} {ty' n' :Int} {x' y' :Nat} {s' :ByteArray} :alikeB k ty n x y s k ty' n' x' y' s' =sameB ty n x y s ty' n' x' y' s' :=by
 unfold alikeB sameB;exact decide_eq_decide.2 ⟨fun h=>h.2,fun h=>⟨rfl,h⟩⟩
theorem calike_any (k ty n:Int) (x y:Nat) (s:ByteArray) (k' ty' n' :Int) (x' y' :Nat) (s' :ByteArray) (w:World):
 Calls Tryz.prog 151 #[.agg #[.int .u8 k, .int .u8 ty, .int .i64 n, .complex .f64 x y, .string s], .agg #[.int .u8 k', .int .u8 ty', .int .i64 n', .complex .f64 x' y', .string s']] w fun e w' =>
  e= .returned (.bool (alikeB k ty n x y s k' ty' n' x' y' s'))∧Ext w w' :=by
 by_cases hk:k=k'
 ·subst hk
  have HS:=Hm (fun w=>vsame_any ty n x y s ty' n' x' y' s' w)
  go_enter Tryz.func151,Tryz.ntmps151
  go_wp2_with (go_at_call 169;refine (HS.out _).mono ?_;rintro e w1 ⟨rfl,hb1⟩)
  go_ret
  exact ⟨ret_bool (by rw [alike_same]),by exact eX⟩
 ·have hL:Hid (alikeB k ty n x y s k' ty' n' x' y' s' =false):=Hm (by unfold alikeB;rw [decide_eq_false_iff_not];exact fun h=>hk h.1)
  have hk2:(k==k')=false:=by simpa using hk
  clear hk
  go_enter Tryz.func151,Tryz.ntmps151
  go_wp2
  go_ret
  exact ⟨ret_bool hL.out.symm,by exact eX⟩
theorem same_zero {ty n:Int} {x y:Nat} {s:ByteArray} :sameB ty n x y s 0 0 0 0 ByteArray.empty=decide (ty=0∧n=0∧(x:Int)=0∧(y:Int)=0∧s.size=0):=by
 unfold sameB;exact decide_eq_decide.2 ⟨fun h=>⟨h.1,h.2.1,by omega,by omega,(size_zero s).1 h.2.2.2.2⟩,fun h=>⟨h.1,h.2.1,by omega,by omega,(size_zero s).2 h.2.2.2.2⟩⟩
theorem cright_any (k ty n:Int) (x y:Nat) (s:ByteArray) (kind:Int) (w:World) (hk0:0≤k) (hs:s.size≤9223372036854775807):
 Calls Tryz.prog 168 #[.agg #[.int .u8 k, .int .u8 ty, .int .i64 n, .complex .f64 x y, .string s], .int .u8 kind] w fun e w' =>e= .returned (.int .i64 (rightC k ty n x y s kind))∧Ext w w' :=by
 have HV:=Hm (fun w=>vright_any ty n x y s w hs)
 have HSa:=Hm (fun w=>vsame_any ty n x y s 0 0 0 0 ByteArray.empty w)
 rw [same_zero] at HSa
 by_cases hkd:kind<1∨6<kind
 ·have HR:Hid (rightC k ty n x y s kind=11):=Hm (by unfold rightC;rw [if_pos hkd])
  have HT:=Hm (fun w=>typed_no kind w hkd)
  clear hkd
  go_enter Tryz.func168,Tryz.ntmps168
  go_wp2_with (go_at_call 180;refine (HT.out _).mono ?_;rintro e w1 ⟨rfl,rfl⟩)
  go_ret
  exact ⟨ret_int HR.out.symm,by exact eX⟩
 have HT:=Hm (fun w=>typed_yes kind w (by omega) (by omega))
 by_cases hk2:2<k
 ·have HR:Hid (rightC k ty n x y s kind=7):=Hm (by unfold rightC;rw [if_neg hkd,if_pos hk2])
  clear hkd
  go_enter Tryz.func168,Tryz.ntmps168
  go_wp2_with (go_at_call 180;refine (HT.out _).mono ?_;rintro e w1 ⟨rfl,rfl⟩)
  go_ret
  exact ⟨ret_int HR.out.symm,by exact eX⟩
 by_cases hk3:k<2
 ·by_cases hz:ty=0∧n=0∧(x:Int)=0∧(y:Int)=0∧s.size=0
  ·rw [decide_eq_true hz] at HSa
   by_cases h1:k=1
   ·subst h1
    by_cases ht:kind=5∨kind=6
    ·have HR:Hid (rightC 1 ty n x y s kind=0):=Hm (by unfold rightC;rw [if_neg hkd,if_neg hk2,if_pos hk3,if_pos hz,if_neg (by omega)])
     have HX:=Hm (fun w=>texty_yes kind w ht)
     clear hkd hz ht
     go_enter Tryz.func168,Tryz.ntmps168
     go_wp2_with (first
      |(go_at_call 180;refine (HT.out _).mono ?_;rintro e w1 ⟨rfl,rfl⟩)
      |(go_at_call 169;refine (HSa.out _).mono ?_;rintro e w1 ⟨rfl,hb1⟩;have h1:=(Blk.new w #[.int .u8 1, .int .u8 ty, .int .i64 n, .complex .f64 x y, .string s] 164).ext hb1;have k1:=h1.cell;have z1:=h1.lt)
      |(go_at_call 181;refine (HX.out _).mono ?_;rintro e w1 ⟨rfl,rfl⟩))
     go_ret
     exact ⟨ret_int HR.out.symm,by exact eX⟩
    ·have HR:Hid (rightC 1 ty n x y s kind=11):=Hm (by unfold rightC;rw [if_neg hkd,if_neg hk2,if_pos hk3,if_pos hz,if_pos (by omega)])
     have HX:=Hm (fun w=>texty_no kind w (by omega))
     clear hkd hz ht
     go_enter Tryz.func168,Tryz.ntmps168
     go_wp2_with (first
      |(go_at_call 180;refine (HT.out _).mono ?_;rintro e w1 ⟨rfl,rfl⟩)
      |(go_at_call 169;refine (HSa.out _).mono ?_;rintro e w1 ⟨rfl,hb1⟩;have h1:=(Blk.new w #[.int .u8 1, .int .u8 ty, .int .i64 n, .complex .f64 x y, .string s] 164).ext hb1;have k1:=h1.cell;have z1:=h1.lt)
      |(go_at_call 181;refine (HX.out _).mono ?_;rintro e w1 ⟨rfl,rfl⟩))
     go_ret
     exact ⟨ret_int HR.out.symm,by exact eX⟩
   ·obtain rfl:k=0:=by omega
    have HR:Hid (rightC 0 ty n x y s kind=0):=Hm (by unfold rightC;rw [if_neg hkd,if_neg hk2,if_pos hk3,if_pos hz,if_neg (by omega)])
    clear hkd hz h1
    go_enter Tryz.func168,Tryz.ntmps168
    go_wp2_with (first
     |(go_at_call 180;refine (HT.out _).mono ?_;rintro e w1 ⟨rfl,rfl⟩)
     |(go_at_call 169;refine (HSa.out _).mono ?_;rintro e w1 ⟨rfl,hb1⟩;have h1:=(Blk.new w #[.int .u8 0, .int .u8 ty, .int .i64 n, .complex .f64 x y, .string s] 164).ext hb1;have k1:=h1.cell;have z1:=h1.lt))
    go_ret
    exact ⟨ret_int HR.out.symm,by exact eX⟩
  ·rw [decide_eq_false hz] at HSa
   have HR:Hid (rightC k ty n x y s kind=3):=Hm (by unfold rightC;rw [if_neg hkd,if_neg hk2,if_pos hk3,if_neg hz])
   have hkn:(k==2)=false:=by simp;omega
   have hkm:(k !=2)=true:=by simp;omega
   clear hkd hz
   go_enter Tryz.func168,Tryz.ntmps168
   go_wp2_with (first
    |(go_at_call 180;refine (HT.out _).mono ?_;rintro e w1 ⟨rfl,rfl⟩)
    |(go_at_call 169;refine (HSa.out _).mono ?_;rintro e w1 ⟨rfl,hb1⟩;have h1:=(Blk.new w #[.int .u8 k, .int .u8 ty, .int .i64 n, .complex .f64 x y, .string s] 164).ext hb1;have k1:=h1.cell;have z1:=h1.lt))
   go_ret
   exact ⟨ret_int HR.out.symm,by exact eX⟩
 ·obtain rfl:k=2:=by omega
  obtain ⟨R,hR⟩:∃R,R=rightV ty n x y s:=⟨_,rfl⟩
  rw [←hR] at HV
  by_cases h0:R=0
  ·subst h0
   by_cases ht:ty=kind
   ·have HR:Hid (rightC 2 ty n x y s kind=0):=Hm (right_mk hR.symm ht)
    subst ht
    clear hkd hR
    go_enter Tryz.func168,Tryz.ntmps168
    go_wp2_with (first
     |(go_at_call 180;refine (HT.out _).mono ?_;rintro e w1 ⟨rfl,rfl⟩)
     |(go_at_call 153;refine (HV.out _).mono ?_;rintro e w1 ⟨rfl,hb1⟩;have h1:=(Blk.new w #[.int .u8 2, .int .u8 ty, .int .i64 n, .complex .f64 x y, .string s] 164).ext hb1;have k1:=h1.cell;have z1:=h1.lt))
    go_ret
    exact ⟨ret_int HR.out.symm,by exact eX⟩
   ·have HR:Hid (rightC 2 ty n x y s kind=11):=Hm (by unfold rightC;rw [if_neg hkd,if_neg hk2,if_neg hk3,if_neg (by rw [←hR];decide),if_pos ht])
    have ht2:(ty !=kind)=true:=by simpa using ht
    clear hkd hR ht
    go_enter Tryz.func168,Tryz.ntmps168
    go_wp2_with (first
     |(go_at_call 180;refine (HT.out _).mono ?_;rintro e w1 ⟨rfl,rfl⟩)
     |(go_at_call 153;refine (HV.out _).mono ?_;rintro e w1 ⟨rfl,hb1⟩;have h1:=(Blk.new w #[.int .u8 2, .int .u8 ty, .int .i64 n, .complex .f64 x y, .string s] 164).ext hb1;have k1:=h1.cell;have z1:=h1.lt))
    go_ret
    exact ⟨ret_int HR.out.symm,by exact eX⟩
  ·have HR:Hid (rightC 2 ty n x y s kind=R):=Hm (by unfold rightC;rw [if_neg hkd,if_neg hk2,if_neg hk3,if_pos (by rw [←hR];exact h0),hR])
   have h02:(R !=0)=true:=by simpa using h0
   clear hkd hR h0
   go_enter Tryz.func168,Tryz.ntmps168
   go_wp2_with (first
    |(go_at_call 180;refine (HT.out _).mono ?_;rintro e w1 ⟨rfl,rfl⟩)
    |(go_at_call 153;refine (HV.out _).mono ?_;rintro e w1 ⟨rfl,hb1⟩;have h1:=(Blk.new w #[.int .u8 2, .int .u8 ty, .int .i64 n, .complex .f64 x y, .string s] 164).ext hb1;have k1:=h1.cell;have z1:=h1.lt))
   go_ret
   exact ⟨ret_int HR.out.symm,by exact eX⟩
theorem toList_inj' {s t:ByteArray} (h:s.toList=t.toList):s=t:=by
 have:=str_beq s t
 rw [h,beq_self_eq_true] at this
 exact of_decide_eq_true this.symm
def K.pc (c:K):List Value:= [.int .u8 c.k, .int .u8 c.v.ty, .int .i64 c.v.n, .complex .f64 c.v.x c.v.y, .string c.v.s]
def K.rc (c:K):List Value:= [.int .u8 c.k, .int .u8 c.v.ty, .int .i64 c.v.n, .int .u64 c.v.x, .int .u64 c.v.y, .string c.v.s]
theorem K.pcAt {w wr:World} {b o:Nat} {l:List K} {k:Nat} (hk:k<l.length) (hc:∀j,j<5→w.cell? ⟨b,o+k*5+j,none⟩=((l.map K.pc).getD k [])[j]?) (hb:b<w.heap.size) (hE:Ext w wr):
 wr.cell? ⟨b,o+k*5,none⟩=some (.int .u8 l[k].k)∧wr.cell? ⟨b,o+k*5+1,none⟩=some (.int .u8 l[k].v.ty)∧wr.cell? ⟨b,o+k*5+2,none⟩=some (.int .i64 l[k].v.n)∧
 wr.cell? ⟨b,o+k*5+3,none⟩=some (.complex .f64 l[k].v.x l[k].v.y)∧wr.cell? ⟨b,o+k*5+4,none⟩=some (.string l[k].v.s):=by
 rw [getD_map K.pc l hk] at hc
 have c:=hE.cells.1 b
 exact ⟨(c _ hb).trans (hc 0 (by omega)),(c _ hb).trans (hc 1 (by omega)),(c _ hb).trans (hc 2 (by omega)),(c _ hb).trans (hc 3 (by omega)),(c _ hb).trans (hc 4 (by omega))⟩
theorem K.rcAt {w wr:World} {b o:Nat} {l:List K} {k:Nat} (hk:k<l.length) (hc:∀j,j<6→w.cell? ⟨b,o+k*6+j,none⟩=((l.map K.rc).getD k [])[j]?) (hb:b<w.heap.size) (hE:Ext w wr):
 wr.cell? ⟨b,o+k*6,none⟩=some (.int .u8 l[k].k)∧wr.cell? ⟨b,o+k*6+1,none⟩=some (.int .u8 l[k].v.ty)∧wr.cell? ⟨b,o+k*6+2,none⟩=some (.int .i64 l[k].v.n)∧
 wr.cell? ⟨b,o+k*6+3,none⟩=some (.int .u64 l[k].v.x)∧wr.cell? ⟨b,o+k*6+4,none⟩=some (.int .u64 l[k].v.y)∧wr.cell? ⟨b,o+k*6+5,none⟩=some (.string l[k].v.s):=by
 rw [getD_map K.rc l hk] at hc
 have c:=hE.cells.1 b
 exact ⟨(c _ hb).trans (hc 0 (by omega)),(c _ hb).trans (hc 1 (by omega)),(c _ hb).trans (hc 2 (by omega)),(c _ hb).trans (hc 3 (by omega)),(c _ hb).trans (hc 4 (by omega)),(c _ hb).trans (hc 5 (by omega))⟩
theorem Tryz.infoCellP:(Tryz.prog.info? 164).map (fun i=>(i.zero,i.size,i.bytes))=some (some (.agg #[.int .u8 0, .int .u8 0, .int .i64 0, .complex .f64 0 0, .string ByteArray.empty]),5,56):=by kernel_rfl
theorem Tryz.infoCellR:(Tryz.prog.info? 101).map (fun i=>(i.zero,i.size,i.bytes))=some (some (.agg #[.int .u8 0, .int .u8 0, .int .i64 0, .int .u64 0, .int .u64 0, .string ByteArray.empty]),6,56):=by kernel_rfl
def octs (x:Int):Nat→List Int
 |0=> []
 |n+1=>byteAt x n::octs x n
theorem octs_succ (x:Int) (n:Nat):octs x (n+1)=byteAt x n::octs x n:=rfl
theorem octs_len (x:Int):∀n,(octs x n).length=n
 |0=>rfl
 |n+1=>by unfold octs;rw [List.length_cons,octs_len x n]
theorem octs_drop (x:Int):∀(n j:Nat),j≤n→(octs x n).drop j=octs x (n - j)
 |n,0,_=>by rw [List.drop_zero,Nat.sub_zero]
 |0,j+1,h=>by omega
 |n+1,j+1,h=>by
  rw [octs_succ,List.drop_succ_cons,octs_drop x n j (by omega),Nat.add_sub_add_right]
theorem octs_take (x:Int) {n j:Nat} (h:j<n):(octs x n).take (j+1)=(octs x n).take j++ [byteAt x (n - 1 - j)]:=by
 have h1:j<(octs x n).length:=by rw [octs_len];exact h
 rw [List.take_succ_eq_append_getElem h1]
 congr 2
 have h2:(octs x n).drop j=octs x (n - j):=octs_drop x n j (by omega)
 rw [List.drop_eq_getElem_cons h1] at h2
 obtain ⟨m,hm⟩:∃m,n - j=m+1:=⟨n - j - 1,by omega⟩
 rw [hm,octs_succ] at h2
 injection h2 with h3 _
 rw [h3,show n - 1 - j=m by omega]
theorem byteAt_bd (x:Int) (k:Nat):0≤byteAt x k∧byteAt x k<256:=by unfold byteAt;omega
theorem octs_isB (x:Int):∀n,∀b∈octs x n,0≤b∧b<256
 |0,b,h=>by cases h
 |n+1,b,h=>by
  unfold octs at h
  rcases List.mem_cons.1 h with rfl|h
  ·exact byteAt_bd x n
  ·exact octs_isB x n b h
def litL (l:List UInt8):List Int:=l.map fun b=>(b.toNat:Int)
def formI (ty:Int):Int:=if ty=1∨ty=2∨ty=5 then 116 else if ty=3∨ty=4∨ty=6 then 98 else 0
def spellT (ty n:Int) (x y:Nat) (s:ByteArray):List Int:=if ty=1 then [if n=1 then 116 else 102] else if ty=2 then litL (Lib.itoa n) else if ty=3 then octs x 8 else if ty=4 then octs x 8++octs y 8 else strL s
def spellL (ty n:Int) (x y:Nat) (s:ByteArray):List Int:=if rightV ty n x y s≠0 then [] else spellT ty n x y s
def cellW (c:K):List Int:=if c.k=0 then [110] else if c.k=1 then [117] else formI c.v.ty::(octs (spellL c.v.ty c.v.n c.v.x c.v.y c.v.s).length 4++spellL c.v.ty c.v.n c.v.x c.v.y c.v.s)
def cellsW:List K→List Int
 | []=> []
 |c::l=>cellW c++cellsW l
theorem cellsW_snoc (l:List K) (c:K):cellsW (l++ [c])=cellsW l++cellW c:=by
 induction l with
 |nil=>simp [cellsW]
 |cons a l ih=>simp [cellsW,ih]
def imgW (letter:Int) (l:List K):List Int:=letter::(octs l.length 1++cellsW l)
def refW (o v:Int):List Int:=octs o 4++octs v 4
def nameW (s:ByteArray):List Int:=octs s.size 1++strL s
def colW (c:Col):List Int:=(if c.key=true then 1 else 0)::(nameW c.nm++octs c.ty 1)
def colsW:List Col→List Int
 | []=> []
 |c::l=>colW c++colsW l
theorem colsW_snoc (l:List Col) (c:Col):colsW (l++ [c])=colsW l++colW c:=by
 induction l with
 |nil=>simp [colsW]
 |cons a l ih=>simp [colsW,ih]
def relW (r:Rl):List Int:=refW r.oid r.ver++(nameW r.nm++(octs r.id 1++(octs r.cols.length 1++colsW r.cols)))
def refsW:List Rf→List Int
 | []=> []
 |r::l=>refW r.o r.v++refsW l
theorem refsW_snoc (l:List Rf) (r:Rf):refsW (l++ [r])=refsW l++refW r.o r.v:=by
 induction l with
 |nil=>simp [refsW]
 |cons a l ih=>simp [refsW,ih]
end Go.Proofs.YtgmphpccpfaapaaGreatDoor
