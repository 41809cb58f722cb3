/-
slices.Insert of one relation into a row of the call's own.
-/
import Derived.Laws.CopyOwn
import Derived.Lib.Overlaps
import Derived.Lib.AppendZerosOnto
import Derived.Maps.AppendAt
import Derived.Shelf.Spec.SlicesInsert
import Derived.Test.YtgmphpccpfaapaaGreatDoorP3
set_option maxRecDepth 100000
set_option maxHeartbeats 16000000
namespace Go.Proofs.YtgmphpccpfaapaaGreatDoor
open Go.RowKit Go.Lib Go.Shelf
theorem Tryz.infoRel:(Tryz.prog.info? 72).map (fun i=>(i.zero,i.size,i.bytes))=some (some (.agg #[.int .u32 0, .int .u32 0, .string ByteArray.empty, .int .u8 0, .slice none 0 0]),5,56):=by kernel_rfl
theorem run_copy_rowK {P:Program} (w:World) (dT sT ty elem:TypeId) (k g o dLen dCap:Nat) (a:Addr) (sLen sCap m:Nat) (cur:Array Value) (t:TypeId) (cs:List Value)
 (hu:P.underlying dT=some (.slice elem)) (hs:(P.info? elem).map (·.size)=some k)
 (hg:w.heap[g]? =some (.cells cur t (0,0))) (hm:Nat.min sLen dLen=m) (hn:cs.length=m*k)
 (hsrc:∀j v,cs[j]? =some v→w.cell? (a.add j)=some v) (hfit:o+cs.length≤cur.size) (h1:∀v∈cs,v.oneCell' =true):
 (Builtin.copy_ #[dT,sT] ty #[.slice (some ⟨g,o,none⟩) dLen dCap, .slice (some a) sLen sCap]).run P w= .ok (goInt m) (w.setRow g (splice cur.toList o cs).toArray):=by
 have hl:=run_loadCells_list (P:=P) w a cs hsrc
 rw [hn] at hl
 have hst:=run_storeCells_at P g o t cs 0 cur w hg (by simpa using hfit) h1
 cases hq:P.info? elem with
 |none=>simp [hq] at hs
 |some i=>
  have hi:i.size=k:=by simpa [hq] using hs
  simp [Builtin.copy_,run_underlying hu,Builtin.lenOf,Builtin.firstCells,sizeOf,typeInfo,hq,hi,hm,hl,hst,splice]
theorem owns_parts {w:World} {N n cap:Nat} {g o:Nat} {sp:Option _} {xs:List Value} (h:w.ownsRow N 72 5 (.slice (some ⟨g,o,sp⟩) n cap) n xs):
 o=0∧sp=none∧xs.length=n*5∧N≤g∧n≤cap∧cap≤maxLen∧∃cur:Array Value,Blk w g cur 72∧cur.size=cap*5∧cur.toList.take (n*5)=xs:=by
 obtain ⟨h1,h2|⟨g',cap',cur,hv,hg,hh,hn,hm,hs,ht⟩⟩:=h
 ·cases h2.1
 ·simp only [Value.slice.injEq,Option.some.injEq,Addr.mk.injEq] at hv
  obtain ⟨⟨rfl,rfl,rfl⟩, -,rfl⟩:=hv
  exact ⟨rfl,rfl,h1,hg,hn,hm,cur,hh,hs,ht⟩
theorem own_slice (a:Option Addr) (n c:Nat):(Value.slice a n c).ownBlock=a.map Addr.block:=by cases a<;>rfl
def InsPost (N n:Nat) (v:Value) (zs:List Value) (w:World) (e:Ending) (w' :World):Prop:=
 ∃v',e= .returned v'∧w'.ownsRow N 72 5 v' (n+1) zs∧w.grownBy w' v.ownBlock∧(v'.ownBlock=v.ownBlock∨∃b,v'.ownBlock=some b∧w.heap.size≤b)
theorem ins_end (N n:Nat) (a:Option Addr) (cap vb:Nat) (xs ys:List Value) (w:World) (hown:w.ownsRow N 72 5 (.slice a n cap) n xs) (hyl:ys.length=5) (hy:∀j u,ys[j]? =some u→w.cell? ((⟨vb,0,none⟩:Addr).add j)=some u) (h1:∀u∈ys,u.oneCell' =true) (hn:n≤1000) (hN:N≤w.heap.size):
 Calls Tryz.prog 65 #[.slice a n cap, .int .i64 n, .slice (some ⟨vb,0,none⟩) 1 1] w (InsPost N n (.slice a n cap) (xs++ys) w):=by
 obtain ⟨i0,hi,hz0,hz1,hz2⟩:=info_parts Tryz.infoRel
 have HO:=Hm hown
 have hcap:n≤cap:=owns_cap hown
 clear hown
 go_enter Tryz.func65,Tryz.ntmps65
 go_wp2_with (at_builtin;refine wpList_append_own_at _ rfl _ _ 63 rfl N 72 i0 _ 5 56 Tryz.underlying63 hi hz0 hz1 hz2 rfl (by decide) (.slice a n cap) n xs rfl HO.out _ 1 1 ys rfl (by simpa using hyl) hy h1 (by unfold maxLen;omega) (by omega) hN ?_)
 all_goals
  intro v' w2 hown' hgrow _ hat
  rw [own_slice] at hgrow hat
  have H1:=Hm hown'
  have H2:=Hm hgrow
  have H3:=Hm hat
  clear hown' hgrow hat
  go_wp2
  go_ret
  exact ⟨v',rfl,H1.out,by rw [own_slice];exact H2.out,by rw [own_slice];exact H3.out.imp id (fun h=>⟨_,h,Nat.le_refl _⟩)⟩
theorem splice_ins (cur:Array Value) (xs ys:List Value) (i n cap:Nat) (hc:cur.size=cap*5) (hx:cur.toList.take (n*5)=xs) (hyl:ys.length=5) (hi:i<n) (hr:n+1≤cap):
 (splice (splice cur.toList ((i+1)*5) (xs.drop (i*5))) (i*5) ys).take ((n+1)*5)=xs.take (i*5)++(ys++xs.drop (i*5))∧(splice (splice cur.toList ((i+1)*5) (xs.drop (i*5))) (i*5) ys).length=cap*5:=by
 have hcl:cur.toList.length=cap*5:=by simpa using hc
 have hxl:xs.length=n*5:=by rw [←hx,List.length_take,hcl];omega
 have hdl:(xs.drop (i*5)).length=(n - i)*5:=by rw [List.length_drop,hxl];omega
 have h1:(splice cur.toList ((i+1)*5) (xs.drop (i*5))).length=cap*5:=by rw [length_splice _ _ _ (by rw [hdl,hcl];omega),hcl]
 refine ⟨?_,by rw [length_splice _ _ _ (by rw [hyl,h1];omega),h1]⟩
 have e1:splice cur.toList ((i+1)*5) (xs.drop (i*5))=cur.toList.take ((i+1)*5)++(xs.drop (i*5)++cur.toList.drop ((n+1)*5)):=by
  unfold splice;rw [hdl];congr 3;omega
 have e2:(cur.toList.take ((i+1)*5)++(xs.drop (i*5)++cur.toList.drop ((n+1)*5))).take (i*5)=xs.take (i*5):=by
  rw [List.take_append_of_le_length (by rw [List.length_take];omega),List.take_take,←hx,List.take_take]
  congr 1;omega
 have e3:(cur.toList.take ((i+1)*5)++(xs.drop (i*5)++cur.toList.drop ((n+1)*5))).drop (i*5+ys.length)=xs.drop (i*5)++cur.toList.drop ((n+1)*5):=by
  have:(cur.toList.take ((i+1)*5)).length=i*5+ys.length:=by rw [List.length_take];omega
  exact List.drop_left' this
 rw [e1]
 unfold splice
 rw [e2,e3,←List.append_assoc,←List.append_assoc,List.append_assoc (xs.take (i*5)) ys,List.take_append_of_le_length (by simp only [List.length_append,List.length_take,hdl,hyl];omega),List.take_of_length_le (by simp only [List.length_append,List.length_take,hdl,hyl];omega)]
theorem ins_mid (N n i g cap vb:Nat) (xs ys:List Value) (w:World) (hown:w.ownsRow N 72 5 (.slice (some ⟨g,0,none⟩) n cap) n xs) (hyl:ys.length=5) (hvb:Blk w vb ys.toArray 72) (h1:∀u∈ys,u.oneCell' =true) (h1x:∀u∈xs,u.oneCell' =true)
 (hn:n≤1000) (hi:i<n) (hne:vb≠g) (hr:n+1≤cap):
 Calls Tryz.prog 65 #[.slice (some ⟨g,0,none⟩) n cap, .int .i64 i, .slice (some ⟨vb,0,none⟩) 1 1] w (InsPost N n (.slice (some ⟨g,0,none⟩) n cap) (xs.take (i*5)++(ys++xs.drop (i*5))) w):=by
 obtain ⟨-, -,hxl,hNg,hnc,hcm,cur,hB,hcs,hct⟩:=owns_parts hown
 have hsz:(Tryz.prog.info? 72).map (·.size)=some 5:=by
  obtain ⟨i0,hi,hz0,hz1,hz2⟩:=info_parts Tryz.infoRel
  rw [hi];simp [hz1]
 have hcap:cap≤9223372036854775807:=by unfold maxLen at hcm;omega
 have hov:∀lb cb W o,Blk W g cur 72→Blk W vb ys.toArray 72→(callFunc 93 #[.slice (some ⟨vb,0,none⟩) 1 1, .slice (some ⟨g,o,none⟩) lb cb]).run Tryz.prog W= .ok (.value (.bool false)) W:=fun lb cb W o q1 q2=>by
  rw [run_callFunc_extern Tryz.func93 (by kernel_rfl) (by kernel_rfl) (by kernel_rfl) (e:=Extern.SlicesOverlaps.overlaps #[63,63] #[4]) (by kernel_rfl),
   Lib.run_overlaps_apart W 63 4 72 Tryz.underlying63 5 (fun w=>by obtain ⟨i0,hi,hz0,hz1,hz2⟩:=info_parts Tryz.infoRel;simp [sizeOf,typeInfo,hi,hz1]) ⟨vb,0,none⟩ ⟨g,o,none⟩ 1 1 lb cb hne 72 72 ys.toArray.size cur.size (by unfold World.shape?;rw [show W.heap[vb]? =_ from q2]) (by unfold World.shape?;rw [show W.heap[g]? =_ from q1]) (by omega) (q2.frozen _) (q2.frozen _)]
  rfl
 have hz1: ¬ ((1:Int)=0):=by omega
 have hz2:((i:Int)==(n:Int))=false:=by simp;omega
 have hw1:IntKind.i64.wrap ((i:Int)+1)=(i:Int)+1:=by rw [IntKind.wrap_i64];omega
 have hw2:IntKind.i64.wrap ((n:Int)+1)=(n:Int)+1:=by rw [IntKind.wrap_i64];omega
 have hin:i≤n:=by omega
 have htn:((i:Int)+1).toNat=i+1:=by omega
 have htn2:((n:Int)+1).toNat=n+1:=by omega
 have hb1:(0:Int)≤(i:Int)+1:=by omega
 have hb3:(i:Int)≤(n:Int)+1:=by omega
 have hb5:(0:Int)≤(n:Int)+1:=by omega
 have hb2: ¬ (cap=i+1):=by omega
 have hb4: ¬ (cap=i):=by omega
 have HB:=Hm hB
 have HV:=Hm hvb
 have HOV:=Hm hov
 clear hB hvb hov hown
 have mixed:Tryz.prog.follows .mixedOrders=true:=by kernel_rfl
 have hcl:cur.toList.length=cap*5:=by simpa using hcs
 have hdl:(xs.drop (i*5)).length=(n - i)*5:=by rw [List.length_drop,hxl];omega
 have HCP1:Hid (∀ty dc sc,(Builtin.copy_ #[63,63] ty #[.slice (some ⟨g,(i+1)*5,none⟩) (n - i) dc, .slice (some ⟨g,i*5,none⟩) (n+1 - i) sc]).run Tryz.prog w.drew= .ok (goInt ((n - i:Nat):Int)) (w.drew.setRow g (splice cur.toList ((i+1)*5) (xs.drop (i*5))).toArray)):=Hm (fun ty dc sc=>
  run_copy_rowK w.drew 63 63 ty 72 5 g ((i+1)*5) (n - i) dc ⟨g,i*5,none⟩ (n+1 - i) sc (n - i) cur 72 (xs.drop (i*5)) Tryz.underlying63 hsz HB.out.drew (by simp only [Nat.min_def];split<;>omega) hdl
   (fun j v hj=>by
    rw [Addr.add_lit]
    rw [List.getElem?_drop,←hct,List.getElem?_take] at hj
    split at hj
    ·rw [HB.out.drew.cell];simpa using hj
    ·cases hj)
   (by rw [hdl,hcs];omega) (fun v hv=>h1x v (List.mem_of_mem_drop hv)))
 go_enter Tryz.func65,Tryz.ntmps65
 go_upto_region 15 with (simp only [HOV.out _ _ _ _ HB.out HV.out])
 go_region_law_o (refine step_copy_runI rfl _ _ 63 63 rfl _ _ (by simp [Act.eval,Act.put]) (by simp [Act.eval,Act.put]) (HCP1.out _ (cap - (i+1)) (cap - i)) ?_)
 obtain ⟨W1,hW1⟩:∃W1,W1=w.drew.setRow g (splice cur.toList ((i+1)*5) (xs.drop (i*5))).toArray:=⟨_,rfl⟩
 rw [←hW1]
 obtain ⟨hsp1,hsp2⟩:=splice_ins cur xs ys i n cap hcs hct hyl hi hr
 have hl1:(splice cur.toList ((i+1)*5) (xs.drop (i*5))).length=cap*5:=by rw [length_splice _ _ _ (by rw [hdl,hcl];omega),hcl]
 have hl1s:(splice cur.toList ((i+1)*5) (xs.drop (i*5))).toArray.size=cap*5:=by simpa using hl1
 have hB1:Blk W1 g (splice cur.toList ((i+1)*5) (xs.drop (i*5))).toArray 72:=by rw [hW1];exact setRow_heap w.drew g _ _ _ _ HB.out.drew
 have hV1:Blk W1 vb ys.toArray 72:=by rw [hW1];exact (setRow_other w.drew g vb _ hne).trans HV.out.drew
 have HK1:Hid (w.grownBy W1 (some g)):=Hm ⟨by rw [hW1];rfl,by rw [hW1];rfl,by rw [hW1];rfl,by rw [hW1];simp,fun k hk hkg=>by rw [hW1];exact setRow_other w.drew g k _ (fun e=>hkg (by rw [e]))⟩
 have HCP2:Hid (∀ty dc,(Builtin.copy_ #[63,63] ty #[.slice (some ⟨g,i*5,none⟩) (n+1 - i) dc, .slice (some ⟨vb,0,none⟩) 1 1]).run Tryz.prog W1= .ok (goInt ((1:Nat):Int)) (W1.setRow g (splice (splice cur.toList ((i+1)*5) (xs.drop (i*5))) (i*5) ys).toArray)):=Hm (fun ty dc=>
  run_copy_rowK W1 63 63 ty 72 5 g (i*5) (n+1 - i) dc ⟨vb,0,none⟩ 1 1 1 (splice cur.toList ((i+1)*5) (xs.drop (i*5))).toArray 72 ys Tryz.underlying63 hsz hB1 (by simp only [Nat.min_def];split<;>omega) (by rw [hyl])
   (fun j v hj=>by rw [Addr.add_lit,hV1.cell];simpa using hj) (by rw [hl1s,hyl];omega) h1)
 obtain ⟨L2,hL2⟩:∃L2,L2=splice (splice cur.toList ((i+1)*5) (xs.drop (i*5))) (i*5) ys:=⟨_,rfl⟩
 rw [←hL2] at hsp1 hsp2 HCP2
 have HS1:=Hm hsp1
 have HS2:=Hm hsp2
 have HB1:=Hm hB1
 clear hW1 hB1 hV1 hsp1 hsp2 HCP1 hl1 hL2
 obtain ⟨W2,hW2⟩:∃W2,W2=W1.setRow g L2.toArray:=⟨_,rfl⟩
 have hcp2:=HCP2.out 3 (cap - i)
 rw [←hW2] at hcp2
 have HB2:Hid (Blk W2 g L2.toArray 72):=Hm (by rw [hW2];exact setRow_heap W1 g _ _ _ _ HB1.out)
 have HK2:Hid (w.grownBy W2 (some g)):=Hm ⟨by rw [hW2];exact HK1.out.os,by rw [hW2];exact HK1.out.tape,by rw [hW2];exact HK1.out.output,by rw [hW2];simp;exact HK1.out.size,fun k hk hkg=>by rw [hW2,setRow_other W1 g k _ (fun e=>hkg (by rw [e]))];exact HK1.out.block k hk hkg⟩
 clear hW2 HCP2
 go_wp2
 go_ret
 refine ⟨_,rfl,⟨?_, .inr ⟨g,cap,L2.toArray,rfl,hNg,HB2.out,hr,hcm,by simpa using HS2.out,by simpa using HS1.out⟩⟩,HK2.out, .inl rfl⟩
 rw [List.length_append,List.length_append,List.length_take,List.length_drop,hxl,hyl];omega
theorem splice_new (R xs ys:List Value) (i n G:Nat) (hR:R.length=G*5) (hx:R.take (i*5)=xs.take (i*5)) (hxl:xs.length=n*5) (hyl:ys.length=5) (hi:i<n) (hr:n+1≤G):
 (splice (splice R (i*5) ys) ((i+1)*5) (xs.drop (i*5))).take ((n+1)*5)=xs.take (i*5)++(ys++xs.drop (i*5))∧(splice (splice R (i*5) ys) ((i+1)*5) (xs.drop (i*5))).length=G*5∧(splice R (i*5) ys).length=G*5:=by
 have hdl:(xs.drop (i*5)).length=(n - i)*5:=by rw [List.length_drop,hxl];omega
 have h1:(splice R (i*5) ys).length=G*5:=by rw [length_splice _ _ _ (by rw [hyl,hR];omega),hR]
 refine ⟨?_,by rw [length_splice _ _ _ (by rw [hdl,h1];omega),h1],h1⟩
 have e1:(splice R (i*5) ys).take ((i+1)*5)=xs.take (i*5)++ys:=by
  unfold splice
  rw [hx,←List.append_assoc]
  have:(xs.take (i*5)++ys).length=(i+1)*5:=by rw [List.length_append,List.length_take,hyl];omega
  exact List.take_left' this
 unfold splice at e1⊢
 rw [e1,←List.append_assoc,List.take_append_of_le_length (by simp only [List.length_append,List.length_take,hdl,hyl];omega),List.take_of_length_le (by simp only [List.length_append,List.length_take,hdl,hyl];omega),List.append_assoc]
theorem ins_grow (N n i g cap vb:Nat) (xs ys:List Value) (w:World) (hown:w.ownsRow N 72 5 (.slice (some ⟨g,0,none⟩) n cap) n xs) (hyl:ys.length=5) (hvb:Blk w vb ys.toArray 72) (h1:∀u∈ys,u.oneCell' =true) (h1x:∀u∈xs,u.oneCell' =true)
 (hn:n≤1000) (hi:i<n) (hr:cap<n+1) (hN:N≤w.heap.size):
 Calls Tryz.prog 65 #[.slice (some ⟨g,0,none⟩) n cap, .int .i64 i, .slice (some ⟨vb,0,none⟩) 1 1] w (InsPost N n (.slice (some ⟨g,0,none⟩) n cap) (xs.take (i*5)++(ys++xs.drop (i*5))) w):=by
 obtain ⟨-, -,hxl,hNg,hnc,hcm,cur,hB,hcs,hct⟩:=owns_parts hown
 obtain ⟨i0,hi0,hz0,hzs,hzb⟩:=info_parts Tryz.infoRel
 have hsz:(Tryz.prog.info? 72).map (·.size)=some 5:=by rw [hi0];simp [hzs]
 have hcn:cap=n:=by omega
 subst hcn
 have hbw:=hB.lt
 have hvw:=hvb.lt
 have hz1: ¬ ((1:Int)=0):=by omega
 have hz2:((i:Int)==(cap:Int))=false:=by simp;omega
 have hw1:IntKind.i64.wrap ((i:Int)+1)=(i:Int)+1:=by rw [IntKind.wrap_i64];omega
 have hw2:IntKind.i64.wrap ((cap:Int)+1)=(cap:Int)+1:=by rw [IntKind.wrap_i64];omega
 have hw3:IntKind.i64.wrap ((cap:Int)+1 - (i:Int))=((cap+1 - i:Nat):Int):=by rw [IntKind.wrap_i64];omega
 have hin:i≤cap:=by omega
 have htn:((i:Int)+1).toNat=i+1:=by omega
 have hb1:(0:Int)≤(i:Int)+1:=by omega
 have hb3:(i:Int)≤(cap:Int)+1:=by omega
 have hb4: ¬ (cap=i):=by omega
 have hik:i+(cap+1 - i)=cap+1:=by omega
 have mixed:Tryz.prog.follows .mixedOrders=true:=by kernel_rfl
 have hold:(Builtin.firstCells i0.size i (.slice (some ⟨g,0,none⟩) i cap)).run Tryz.prog w.drew= .ok (xs.take (i*5)).toArray w.drew:=by
  rw [hzs]
  exact run_firstCells_some w.drew 5 i ⟨g,0,none⟩ i cap (xs.take (i*5)) (by rw [List.length_take];omega) (fun j v hj=>by
   rw [Addr.add_lit,hB.drew.cell]
   rw [List.getElem?_take] at hj
   split at hj
   ·rw [←hct,List.getElem?_take] at hj
    split at hj
    ·simpa using hj
    ·cases hj
   ·cases hj)
 have hrz:∀ty,(Builtin.append_ #[63,3] ty #[.slice (some ⟨g,0,none⟩) i cap, .int .i64 ((cap+1 - i:Nat):Int)]).run Tryz.prog w=
  .ok (.slice (some ⟨w.heap.size,0,none⟩) (cap+1) (grownCap w (cap+1) cap 72)) _:=fun ty=>by
  have h:=Lib.run_append_grow_zeros w 63 3 ty 72 i0 _ .i64 .i64 Tryz.underlying63 Tryz.underlying3 hi0 hz0 (some ⟨g,0,none⟩) i cap (xs.take (i*5)) hold (cap+1 - i) (by omega) (by omega) (by omega) (by omega) (by rw [hzb];omega) (by rw [hzb,hik];exact growslice_fits hr (by omega))
  rw [hik] at h
  exact h
 obtain ⟨G,hG⟩:∃G,G=grownCap w (cap+1) cap 72:=⟨_,rfl⟩
 have hG1:cap+1≤G:=by rw [hG];exact grownCap_ge _ _ _ _
 have hG2:G≤maxLen:=by rw [hG];exact grownCap_le_maxLen _ _ _ _ (by unfold maxLen;omega)
 have hG63:G≤9223372036854775807:=by unfold maxLen at hG2;omega
 rw [←hG] at hrz
 obtain ⟨ROW,hROW⟩:∃ROW:Array Value,ROW=(xs.take (i*5)).toArray++Builtin.zeroCells (Value.agg #[.int .u32 0, .int .u32 0, .string ByteArray.empty, .int .u8 0, .slice none 0 0]).cells (cap+1 - i)++Builtin.zeroCells (Value.agg #[.int .u32 0, .int .u32 0, .string ByteArray.empty, .int .u8 0, .slice none 0 0]).cells (G - (cap+1)):=⟨_,rfl⟩
 rw [←hROW] at hrz
 have hRl:ROW.toList.length=G*5:=by
  rw [hROW]
  simp [Builtin.zeroCells,Value.cells]
  omega
 have hRt:ROW.toList.take (i*5)=xs.take (i*5):=by
  rw [hROW]
  have e:(xs.take (i*5)).length=i*5:=by rw [List.length_take];omega
  simp only [Array.toList_append,List.append_assoc]
  exact List.take_left' e
 obtain ⟨hsp1,hsp2,hsp3⟩:=splice_new ROW.toList xs ys i cap G hRl hRt hxl hyl hi hG1
 obtain ⟨W1,hW1⟩:∃W1,W1=w.drew.alloc (.cells ROW 72):=⟨_,rfl⟩
 rw [←hW1] at hrz
 have hB1:Blk W1 w.heap.size ROW 72:=by rw [hW1];exact Blk.new' _ _ rfl
 have hV1:Blk W1 vb ys.toArray 72:=by rw [hW1];exact hvb.drew.alloc _
 have hG1B:Blk W1 g cur 72:=by rw [hW1];exact hB.drew.alloc _
 have HX1:Hid (Ext w W1):=Hm (by rw [hW1];exact eX)
 obtain ⟨L1,hL1⟩:∃L1,L1=splice ROW.toList (i*5) ys:=⟨_,rfl⟩
 obtain ⟨L2,hL2⟩:∃L2,L2=splice (splice ROW.toList (i*5) ys) ((i+1)*5) (xs.drop (i*5)):=⟨_,rfl⟩
 rw [←hL2] at hsp1 hsp2
 rw [←hL1] at hsp3 hL2
 obtain ⟨W2,hW2⟩:∃W2,W2=W1.setRow w.heap.size L1.toArray:=⟨_,rfl⟩
 have hcpA:(Builtin.copy_ #[63,63] 3 #[.slice (some ⟨w.heap.size,i*5,none⟩) (cap+1 - i) (G - i), .slice (some ⟨vb,0,none⟩) 1 1]).run Tryz.prog W1= .ok (goInt ((1:Nat):Int)) W2:=by
  rw [hW2,hL1]
  exact run_copy_rowK W1 63 63 _ 72 5 w.heap.size (i*5) (cap+1 - i) _ ⟨vb,0,none⟩ 1 1 1 ROW 72 ys Tryz.underlying63 hsz hB1 (by simp only [Nat.min_def];split<;>omega) (by rw [hyl])
   (fun j v hj=>by rw [Addr.add_lit,hV1.cell];simpa using hj) (by have h9:ROW.size=G*5:=(by simpa using hRl);rw [hyl];omega) h1
 have hB2:Blk W2 w.heap.size L1.toArray 72:=by rw [hW2];exact setRow_heap W1 w.heap.size _ _ _ _ hB1
 have hG2B:Blk W2 g cur 72:=by rw [hW2];exact (setRow_other W1 w.heap.size g _ (by omega)).trans hG1B
 have HX2:Hid (Ext w W2):=Hm (by rw [hW2];exact below_setRow HX1.out (Nat.le_refl _) _)
 obtain ⟨W3,hW3⟩:∃W3,W3=W2.drew.setRow w.heap.size L2.toArray:=⟨_,rfl⟩
 have hdl:(xs.drop (i*5)).length=(cap - i)*5:=by rw [List.length_drop,hxl];omega
 have HCPB:Hid ((Builtin.copy_ #[63,63] 3 #[.slice (some ⟨w.heap.size,(i+1)*5,none⟩) (cap - i) (G - (i+1)), .slice (some ⟨g,i*5,none⟩) (cap - i) (cap - i)]).run Tryz.prog W2.drew= .ok (goInt ((cap - i:Nat):Int)) W3):=Hm (by
  rw [hW3,hL2]
  exact run_copy_rowK W2.drew 63 63 _ 72 5 w.heap.size ((i+1)*5) (cap - i) _ ⟨g,i*5,none⟩ (cap - i) _ (cap - i) L1.toArray 72 (xs.drop (i*5)) Tryz.underlying63 hsz hB2.drew (by simp only [Nat.min_def];split<;>omega) hdl
   (fun j v hj=>by
    rw [Addr.add_lit]
    rw [List.getElem?_drop,←hct,List.getElem?_take] at hj
    split at hj
    ·rw [hG2B.drew.cell];simpa using hj
    ·cases hj)
   (by
    rw [hdl];have:L1.toArray.size=G*5:=by simpa using hsp3
    omega) (fun v hv=>h1x v (List.mem_of_mem_drop hv)))
 have hB3:Blk W3 w.heap.size L2.toArray 72:=by rw [hW3];exact setRow_heap W2.drew w.heap.size _ _ _ _ hB2.drew
 have HX3:Hid (Ext w W3):=Hm (by rw [hW3];exact below_setRow HX2.out.drew (Nat.le_refl _) _)
 have HR:Hid (w.grownBy W3 (some g)):=Hm ⟨HX3.out.os,HX3.out.tape,HX3.out.output,HX3.out.size,fun k hk _=>HX3.out.block k hk⟩
 have HB3:=Hm hB3
 have HS1:=Hm hsp1
 have HS2:=Hm hsp2
 have HRZ:=Hm hrz
 have HCPA:=Hm hcpA
 have hGi: ¬ (G=i):=by omega
 have hGim: ¬ (G=i+1):=by omega
 clear hrz hW1 hW2 hW3 hL1 hL2 hROW hRl hRt hsp1 hsp2 hsp3 hB1 hB2 hB3 hV1 hG1B hG2B hold hvb hB hG hown hct hcs hcpA hik hi0 hz0 hzs hzb
 go_enter Tryz.func65,Tryz.ntmps65
 go_upto_region 10 with (at_builtin;refine Lib.wpList_append_run _ rfl _ _ _ _ rfl _ _ rfl rfl _ _ (HRZ.out _) ?_)
 have hcpA:=HCPA.out
 go_upto_region 11 with (fail)
 clear hcpA
 go_region_law_o (refine step_copy_runI rfl _ _ 63 63 rfl (.slice (some ⟨w.heap.size,(i+1)*5,none⟩) (cap - i) (G - (i+1))) (.slice (some ⟨g,i*5,none⟩) (cap - i) (cap - i)) (by simp [Act.eval,Act.put]) (by simp [Act.eval,Act.put]) HCPB.out ?_)
 go_wp2
 go_ret
 refine ⟨_,rfl,⟨?_, .inr ⟨w.heap.size,G,L2.toArray,rfl,hN,HB3.out,hG1,hG2,by simpa using HS2.out,by simpa using HS1.out⟩⟩,HR.out, .inr ⟨_,rfl,Nat.le_refl _⟩⟩
 rw [List.length_append,List.length_append,List.length_take,List.length_drop,hxl,hyl];omega
theorem ins_any (N n i cap vb:Nat) (a:Option Addr) (xs ys:List Value) (w:World) (hown:w.ownsRow N 72 5 (.slice a n cap) n xs) (hyl:ys.length=5) (hvb:Blk w vb ys.toArray 72) (h1:∀u∈ys,u.oneCell' =true) (h1x:∀u∈xs,u.oneCell' =true)
 (hn:n≤1000) (hi:i≤n) (hne:(Value.slice a n cap).ownBlock≠some vb) (hN:N≤w.heap.size):
 Calls Tryz.prog 65 #[.slice a n cap, .int .i64 i, .slice (some ⟨vb,0,none⟩) 1 1] w (InsPost N n (.slice a n cap) (xs.take (i*5)++(ys++xs.drop (i*5))) w):=by
 have hy:∀j u,ys[j]? =some u→w.cell? ((⟨vb,0,none⟩:Addr).add j)=some u:=fun j u hj=>by
  have e:(⟨vb,0,none⟩:Addr).add j=⟨vb,j,none⟩:=by rw [Addr.add_lit,Nat.zero_add]
  rw [e,hvb.cell]
  simpa using hj
 have hxl:xs.length=n*5:=hown.1
 rcases Nat.eq_or_lt_of_le hi with e|hlt
 ·subst e
  have:=ins_end N i a cap vb xs ys w hown hyl hy h1 hn hN
  rw [List.take_of_length_le (by omega),List.drop_eq_nil_of_le (by omega),List.append_nil]
  exact this
 ·rcases hown.2 with ⟨-,h0⟩|⟨g,cap',cur,hv,hrest⟩
  ·omega
  ·simp only [Value.slice.injEq] at hv
   obtain ⟨rfl, -,rfl⟩:=hv
   by_cases hr:n+1≤cap
   ·exact ins_mid N n i g cap vb xs ys w hown hyl hvb h1 h1x hn hlt (fun e=>hne (by rw [e];rfl)) hr
   ·exact ins_grow N n i g cap vb xs ys w hown hyl hvb h1 h1x hn hlt (by omega) hN
end Go.Proofs.YtgmphpccpfaapaaGreatDoor
