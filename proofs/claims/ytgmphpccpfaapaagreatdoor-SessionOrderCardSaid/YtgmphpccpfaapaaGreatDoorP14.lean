/-
What is wrong with the key of a row: the program's image.keyed.
-/
import Derived.Test.YtgmphpccpfaapaaGreatDoorP13
set_option maxRecDepth 100000
set_option maxHeartbeats 16000000
namespace Go.Proofs.YtgmphpccpfaapaaGreatDoor
open Go.RowKit Go.Shelf
attribute [local go_sem] Oper.semAt_some
def kindAt (l:List K) (i:Nat):Int:=if h:i<l.length then l[i].k else 2
theorem kindAt_lt {l:List K} {i:Nat} (h:i<l.length):kindAt l i=l[i].k:=by unfold kindAt;rw [dif_pos h]
def kindE (k:Int):Int:=if k=0 then 12 else if k=1 then 13 else 0
def keyE (cols:List Col) (l:List K) (i:Nat):Int:=if isKeyAt cols i=true then kindE (kindAt l i) else 0
def keyedE (l:List K) (r:Rl):Int:=if fitsE l r≠0 then fitsE l r else firstE (keyE r.cols l) l.length
theorem isKey_x {cols:List Col} (x:KX cols):isKeyAt cols x.1.1=true:=by
 obtain ⟨⟨j,c⟩,hj,hc,hk⟩:=x
 unfold isKeyAt;simp only at hc hk;rw [hc];simpa using hk
theorem fits_zero {l:List K} {r:Rl} (h:fitsE l r=0):r.right=0∧l.length=r.cols.length∧∀i (h1:i<l.length) (h2:i<r.cols.length),l[i].right r.cols[i].ty=0:=by
 unfold fitsE at h
 split at h
 ·rename_i h1;exact absurd h h1
 ·rename_i h1
  split at h
  ·cases h
  ·rename_i h2
   refine ⟨by simpa using h1,by simpa using h2,fun i h3 h4=> ?_⟩
   have:=firstE_all h i h3
   rwa [fitAt_lt h3 h4] at this
theorem keyE_first {cols:List Col} {l:List K} {k:Nat} {pre:List (KX cols)} {x:KX cols} (he:keysUp cols k=pre++ [x]) (hl:l.length=cols.length) (h0:∀y∈pre,keyE cols l y.1.1=0) (h1:keyE cols l x.1.1≠0):
 firstE (keyE cols l) l.length=keyE cols l x.1.1:=by
 have hx:x∈keysUp cols k:=by rw [he];simp
 have hxk:=(keysUp_mem k x).1 hx
 refine firstE_at ?_ (by omega) h1
 intro i hi
 by_cases hq:isKeyAt cols i=true
 ·have hic:i<cols.length:=by omega
  have hkey:cols[i].key=true:=by unfold isKeyAt at hq;rw [List.getElem?_eq_getElem hic] at hq;simpa using hq
  have hm:(⟨(i,cols[i]),hic,List.getElem?_eq_getElem hic,hkey⟩:KX cols)∈keysUp cols k:=(keysUp_mem k _).2 (by simp only;omega)
  rw [he,List.mem_append] at hm
  rcases hm with hm|hm
  ·exact h0 _ hm
  ·rw [List.mem_singleton] at hm
   have:=congrArg (fun y:KX cols=>y.1.1) hm
   simp only at this
   omega
 ·unfold keyE;rw [if_neg hq]
theorem keyE_none {cols:List Col} {l:List K} (hl:l.length=cols.length) (h0:∀y∈keysUp cols cols.length,keyE cols l y.1.1=0):firstE (keyE cols l) l.length=0:=by
 refine firstE_zero fun i hi=> ?_
 by_cases hq:isKeyAt cols i=true
 ·have hic:i<cols.length:=by omega
  have hkey:cols[i].key=true:=by unfold isKeyAt at hq;rw [List.getElem?_eq_getElem hic] at hq;simpa using hq
  exact h0 ⟨(i,cols[i]),hic,List.getElem?_eq_getElem hic,hkey⟩ ((keysUp_mem _ _).2 hic)
 ·unfold keyE;rw [if_neg hq]
theorem keyedI_in (F:Fence) (n:Nat) (hFe:F=Fence.wide) (h1F:F.fn 144) (hKF:F.fn 120) (hFF:F.fn 149) (hDF:F.fn 128) (hro:F.round=none) (hn:3≤n) (oid ver:Int) (nm:ByteArray) (id:Int) (cols:List Col) (a2:Option Addr) (cap2:Nat) (l:List K) (a:Option Addr) (cap:Nat) (w:World)
 (hl2:Sl w (.slice a2 cols.length cap2) 3 (cols.map Col.cells)) (hcap2:cols.length≤cap2) (hlen2:cols.length≤1000) (hl:Sl w (.slice a l.length cap) 5 (l.map K.pc)) (hlen:l.length≤1000)
 (hs:∀c∈l,c.wk) (hs2:∀c∈cols,c.nm.size≤9223372036854775807) (hnm:nm.size≤9223372036854775807):
 CallsIn F n Tryz.prog 128 #[.agg #[.int .u32 oid, .int .u32 ver, .string nm, .int .u8 id, .slice a2 cols.length cap2], .slice a l.length cap] w fun e w' =>e= .returned (.int .i64 (keyedE l (⟨oid,ver,nm,id,cols⟩:Rl)))∧Ext w w' :=by
 have h1:1≤n:=by omega
 have HFT:=Hm (fun m W (h:Ext w W)=>(show CallsIn F m Tryz.prog 149 #[.slice a l.length cap, .agg #[.int .u32 oid, .int .u32 ver, .string nm, .int .u8 id, .slice a2 cols.length cap2]] W _ from by rw [hFe];exact callsIn_wide.2 (fits_any l a cap oid ver nm id cols a2 cap2 W (hl.ext h) (hl2.ext h) hcap2 hlen hlen2 hs hs2 hnm)))
 have HL:=Hm hl
 have HL2:=Hm hl2
 have HKE:Hid (keyedE l (⟨oid,ver,nm,id,cols⟩:Rl)=if fitsE l (⟨oid,ver,nm,id,cols⟩:Rl)≠0 then fitsE l (⟨oid,ver,nm,id,cols⟩:Rl) else firstE (keyE cols l) l.length):=Hm rfl
 obtain ⟨E,hE⟩:∃E,E=fitsE l (⟨oid,ver,nm,id,cols⟩:Rl):=⟨_,rfl⟩
 rw [←hE] at HFT HKE
 have HEQ:=Hm hE
 clear hl hl2 hs hs2 hFe hE
 by_cases h0:E=0
 case neg=>
  have HKE2:=Hm (HKE.out.trans (if_pos h0))
  have h0' :(E !=0)=true:=by simpa using h0
  clear h0 HKE HEQ
  refine callsIn_of_wp_marks Tryz.func128 rfl hDF ?_ hro
  simp only [Tryz.ntmps128,List.size_toArray,List.length_cons,List.length_nil,Nat.reduceAdd,Nat.reduceSub,Array.replicate_succ,Array.replicate_zero,List.push_toArray,List.append_toArray,List.nil_append,List.cons_append]
  gi_wp2_with (gi_at_call 149;refine (HFT.out _ _ (by exact eX)).mono ?_;rintro e w' ⟨rfl,hb1⟩;have hE1:Ext w w' :=(by exact eX);have g2:=((Blk.new' (w:=(w.alloc (.cells #[.int .u32 oid, .int .u32 ver, .string nm, .int .u8 id, .slice a2 cols.length cap2] 72)).alloc (.cells #[.slice a l.length cap] 74)) (b:=w.heap.size+1+1) #[.int .i64 0] 29 (by simp)).ext hb1);have g2c:=g2.cell;have g2f:=g2.frozen;have g2z:=g2.lt)
  refine ⟨.int .i64 E, ?_,by rw [HKE2.out],hE1.setCell (p:=⟨w.heap.size+1+1,0,none⟩) (by show w.heap.size≤w.heap.size+1+1;omega) _⟩
  simp [results,Tryz.f128,go_sem,g2c]
 subst h0
 have HKE2:=Hm (HKE.out.trans (if_neg (by simp)))
 have hfz:=fits_zero HEQ.out.symm
 have hll:l.length=cols.length:=hfz.2.1
 have HLL:=Hm hll
 have hle:cols.length≤l.length:=by omega
 clear HKE HEQ hfz hll
 refine callsIn_of_wp_marks Tryz.func128 rfl hDF ?_ hro
 simp only [Tryz.ntmps128,List.size_toArray,List.length_cons,List.length_nil,Nat.reduceAdd,Nat.reduceSub,Array.replicate_succ,Array.replicate_zero,List.push_toArray,List.append_toArray,List.nil_append,List.cons_append]
 gi_wp2_with (first
  |(gi_at_call 149;refine (HFT.out _ _ (by exact eX)).mono ?_;rintro e w4 ⟨rfl,hb4⟩;have HE4:=Hm hb4;have g0:=(((Blk.new w #[.int .u32 oid, .int .u32 ver, .string nm, .int .u8 id, .slice a2 cols.length cap2] 72).alloc _).alloc _).ext hb4;have g0c:=g0.cell;have g1:=((Blk.new' (w:=w.alloc (.cells #[.int .u32 oid, .int .u32 ver, .string nm, .int .u8 id, .slice a2 cols.length cap2] 72)) (b:=w.heap.size+1) #[.slice a l.length cap] 74 (by simp)).alloc (.cells #[.int .i64 0] 29)).ext hb4;have g1c:=g1.cell;have g2:=((Blk.new' (w:=(w.alloc (.cells #[.int .u32 oid, .int .u32 ver, .string nm, .int .u8 id, .slice a2 cols.length cap2] 72)).alloc (.cells #[.slice a l.length cap] 74)) (b:=w.heap.size+1+1) #[.int .i64 0] 29 (by simp)).ext hb4);have g2c:=g2.cell;have g2f:=g2.frozen;have g2z:=g2.lt;have HG1:=Hm g1;have HG2:=Hm g2;clear g0 g1 g2 hb4)
  |(gi_at_call 120;refine (keys_in F (n - 1) hKF hro _ _ _ _ _ _).mono ?_;rintro e w' ⟨rfl,rfl⟩))
 have hE5:Ext w (w4.alloc (.cells #[.int .u32 oid, .int .u32 ver, .string nm, .int .u8 id, .slice a2 cols.length cap2] 72)):=((((Ext.refl w).alloc _).alloc _).alloc _|>.trans HE4.out).alloc _
 have hB1:=HG1.out.alloc (.cells #[.int .u32 oid, .int .u32 ver, .string nm, .int .u8 id, .slice a2 cols.length cap2] 72)
 have hB2:=HG2.out.alloc (.cells #[.int .u32 oid, .int .u32 ver, .string nm, .int .u8 id, .slice a2 cols.length cap2] 72)
 have hB4:Blk (w4.alloc (.cells #[.int .u32 oid, .int .u32 ver, .string nm, .int .u8 id, .slice a2 cols.length cap2] 72)) w4.heap.size #[.int .u32 oid, .int .u32 ver, .string nm, .int .u8 id, .slice a2 cols.length cap2] 72:=Blk.new _ _ _
 have hw4:w.heap.size+1+1<w4.heap.size:=g2z
 clear g0c g1c g2c g2f g2z
 refine wpIn_rangeFunc_ownG hro h1 (gf:=144) (lb:= #[.pointer (some ⟨w4.heap.size,0,none⟩)]) rfl h1F (enters_of Tryz.func144 (by kernel_rfl) rfl)
  (keys_stops F (n - 1) h1F hro (by omega) w4.heap.size w a2 cap2 cols hlen2 HL2.out _ hE5 (hB4.cell 4) hB4.lt) belowK_t (belowK_b (by simp;omega)) (Below.refl _ _) (fun _=>rfl)
  (fun pre W=>(Hid (∀y∈pre,keyE cols l y.1.1=0)∧W.cell? ⟨w.heap.size+1+1,0,none⟩=some (.int .i64 0)∧W.frozen? ⟨w.heap.size+1+1,0,none⟩=false∧W.cell? ⟨w.heap.size+1,0,none⟩=some (.slice a l.length cap))∧Below w.heap.size w W)
  (fun c pre W=>(c= .ret∧∃ini last,pre=ini++ [last]∧(∀y∈ini,keyE cols l y.1.1=0)∧keyE cols l last.1.1≠0∧W.cell? ⟨w.heap.size+1+1,0,none⟩=some (.int .i64 (keyE cols l last.1.1)))∧Below w.heap.size w W)
  (OwnFrom.and (Own.from (fun s A B row hs hg hr=>⟨hs.1,cell_kept hs.2.1 hg hr,(frozen_kept hs.2.1 hg hr).trans hs.2.2.1,cell_kept hs.2.2.2 hg hr⟩) _) (ownFrom_below (Nat.le_refl _) (by simp;omega)))
  (fun c=>OwnFrom.and (Own.from (fun s A B row hs hg hr=>by obtain ⟨hc,ini,last,e1,e2,e3,e4⟩:=hs;exact ⟨hc,ini,last,e1,e2,e3,cell_kept e4 hg hr⟩) _) (ownFrom_below (Nat.le_refl _) (by simp;omega)))
  ⟨⟨(fun y hy=>by cases hy),hB2.cell 0,hB2.frozen 0,hB1.cell 0⟩,hE5⟩
  (fun x=> { tmps:= #[.agg #[.int .u32 oid, .int .u32 ver, .string nm, .int .u8 id, .slice a2 cols.length cap2], .slice a l.length cap, .pointer (some ⟨w.heap.size,0,none⟩), .pointer (some ⟨w.heap.size+1,0,none⟩), .pointer (some ⟨w.heap.size+1+1,0,none⟩), .int .i64 0, .int .i64 (x.1.1:Int), .slice a l.length cap, .agg #[.int .u32 oid, .int .u32 ver, .string nm, .int .u8 id, .slice a2 cols.length cap2], .int .i64 0, .int .i64 0, .bool false,undef, .agg #[.int .u32 oid, .int .u32 ver, .string nm, .int .u8 id, .slice a2 cols.length cap2], .func (.func 144) #[] #[.pointer (some ⟨w4.heap.size,0,none⟩)], .int .i64 (x.1.1:Int), .agg #[.string x.1.2.nm, .int .u8 x.1.2.ty, .bool x.1.2.key],undef,undef,undef,undef,undef,undef,undef,undef,undef],defers:= [] }) ?assign ?body ?done ?stop
 case assign=>
  intro l x W K hK
  unfold encK
  rw [fold_two]
  gi_wp2
  exact hK
 case body=>
  rintro lr pre x W ⟨⟨hpre,hc,hf,hcw⟩,hB⟩ _
  have HB:=Hm hB
  clear hB
  have hx:x.1.1<cols.length:=x.2.1
  have hlt:x.1.1<l.length:=by omega
  obtain ⟨b,o,rfl,hb,hc2⟩:=HL.out.at_ (i:=x.1.1) (by simpa using hlt)
  obtain ⟨f0,f1,f2,f3,f4⟩:=K.pcAt hlt hc2 hb HB.out
  have HKX:Hid (keyE cols l x.1.1=kindE l[x.1.1].k):=Hm (by unfold keyE;rw [if_pos (isKey_x x),kindAt_lt hlt])
  clear hc2
  by_cases hk0:l[x.1.1].k=0
  ·rw [hk0] at f0 HKX
   clear hk0
   gi_wp2
   exact ⟨(KeepsOthers.setCell _ _ _).from _,⟨rfl,pre,x,rfl,hpre.out,by rw [HKX.out];decide,by rw [HKX.out];exact World.cell?_setCell_same' _ _ _ (by rw [hc];rfl)⟩,HB.out.setCell (p:=⟨w.heap.size+1+1,0,none⟩) (by show w.heap.size≤w.heap.size+1+1;omega) _⟩
  ·by_cases hk1:l[x.1.1].k=1
   ·rw [hk1] at f0 HKX
    clear hk0 hk1
    gi_wp2
    exact ⟨(KeepsOthers.setCell _ _ _).from _,⟨rfl,pre,x,rfl,hpre.out,by rw [HKX.out];decide,by rw [HKX.out];exact World.cell?_setCell_same' _ _ _ (by rw [hc];rfl)⟩,HB.out.setCell (p:=⟨w.heap.size+1+1,0,none⟩) (by show w.heap.size≤w.heap.size+1+1;omega) _⟩
   ·have e0:(l[x.1.1].k==0)=false:=by simpa using hk0
    have e1:(l[x.1.1].k==1)=false:=by simpa using hk1
    have HZ:Hid (keyE cols l x.1.1=0):=Hm (by rw [HKX.out];unfold kindE;rw [if_neg hk0,if_neg hk1])
    clear hk0 hk1
    gi_wp2
    exact ⟨KeepsFrom.refl _ _,Below.refl _ _,⟨fun y hy=>(List.mem_append.1 hy).elim (hpre.out y) (fun e=>by simp at e;subst e;exact HZ.out),hc,hf,hcw⟩,HB.out⟩
 case done=>
  rintro D ys W hD rfl ⟨⟨hpre,hc,hf,hcw⟩,hB⟩ hK
  have HK0:=Hm (HKE2.out.trans (keyE_none HLL.out hpre.out))
  gi_wp2
  have hK' :=(KeepsOthers.setCell W ⟨w.heap.size+1+1,0,none⟩ (.int .i64 0)).same D _ hK rfl
  refine ⟨by simp, .inl ⟨_,_,rfl,run_takeDeferred hK', ?_⟩⟩
  have hc5:=cell_kept (World.cell?_setCell_same' W ⟨w.heap.size+1+1,0,none⟩ (.int .i64 0) (by rw [hc];rfl)) (grownBy_putObj' _ D (.deferred none)) (fun r e=>by cases e;exact ⟨_,hK',rfl⟩)
  refine ⟨.int .i64 0, ?_,by rw [HK0.out],(hB.setCell (p:=⟨w.heap.size+1+1,0,none⟩) (by show w.heap.size≤w.heap.size+1+1;omega) _).trans (belowK_b (w:=w) (Nat.le_refl _) _ D _ _ (by simp at hD;omega) hK' rfl rfl)⟩
  simp [results,Tryz.f128,go_sem,hc5]
 case stop=>
  rintro D c pre W hD ⟨k,hk,hpk⟩ ⟨⟨rfl,ini,last,e1,e2,e3,hc⟩,hB⟩ hK
  have HK0:=Hm (HKE2.out.trans (keyE_first (hpk.symm.trans e1) HLL.out e2 e3))
  gi_wp2
  refine ⟨by simp, .inl ⟨_,_,rfl,run_takeDeferred hK, ?_⟩⟩
  have hc5:=cell_kept hc (grownBy_putObj' _ D (.deferred none)) (fun r e=>by cases e;exact ⟨_,hK,rfl⟩)
  refine ⟨_, ?_,by rw [HK0.out],hB.trans (belowK_b (w:=w) (Nat.le_refl _) W D _ _ (by simp at hD;omega) hK rfl rfl)⟩
  simp [results,Tryz.f128,go_sem,hc5]
theorem keyedI_any (oid ver:Int) (nm:ByteArray) (id:Int) (cols:List Col) (a2:Option Addr) (cap2:Nat) (l:List K) (a:Option Addr) (cap:Nat) (w:World)
 (hl2:Sl w (.slice a2 cols.length cap2) 3 (cols.map Col.cells)) (hcap2:cols.length≤cap2) (hlen2:cols.length≤1000) (hl:Sl w (.slice a l.length cap) 5 (l.map K.pc)) (hlen:l.length≤1000)
 (hs:∀c∈l,c.wk) (hs2:∀c∈cols,c.nm.size≤9223372036854775807) (hnm:nm.size≤9223372036854775807):
 Calls Tryz.prog 128 #[.agg #[.int .u32 oid, .int .u32 ver, .string nm, .int .u8 id, .slice a2 cols.length cap2], .slice a l.length cap] w fun e w' =>e= .returned (.int .i64 (keyedE l (⟨oid,ver,nm,id,cols⟩:Rl)))∧Ext w w' :=
 callsIn_wide.1 (keyedI_in Fence.wide 3 rfl trivial trivial trivial trivial rfl (Nat.le_refl _) oid ver nm id cols a2 cap2 l a cap w hl2 hcap2 hlen2 hl hlen hs hs2 hnm)
end Go.Proofs.YtgmphpccpfaapaaGreatDoor
namespace Go.Proofs.YtgmphpccpfaapaaGreatDoor
open Go.RowKit
theorem keyOf_len {cols:List Col} {l:List K} :(keyOf cols l).length=l.length:=by simp [keyOf]
theorem keyOf_get {cols:List Col} {l:List K} {i:Nat} (h:i<(keyOf cols l).length):(keyOf cols l)[i]=if isKeyAt cols i=true then l[i]'(by rw [keyOf_len] at h;exact h) else K.zero:=by simp [keyOf]
theorem isKeyAt_lt {cols:List Col} {i:Nat} (h:i<cols.length):isKeyAt cols i=cols[i].key:=by unfold isKeyAt;rw [List.getElem?_eq_getElem h];rfl
theorem isKeyAt_ge {cols:List Col} {i:Nat} (h:cols.length≤i):isKeyAt cols i=false:=by unfold isKeyAt;rw [List.getElem?_eq_none h];rfl
def nonE (cols:List Col) (l:List K) (i:Nat):Int:=if isKeyAt cols i=false∧kindAt l i≠0 then 14 else 0
def isKeyE (l:List K) (r:Rl):Int:=if keyedE l r≠0 then keyedE l r else firstE (nonE r.cols l) l.length
def sameE (l:List K) (i:Nat):Int:=if kindAt l i=1 then 14 else 0
def isFullE (l:List K) (r:Rl):Int:=if keyedE l r≠0 then keyedE l r else firstE (sameE l) l.length
theorem keyed_fits {l:List K} {r:Rl} (h:keyedE l r=0):fitsE l r=0:=by
 unfold keyedE at h
 split at h
 ·rename_i h1;exact absurd h h1
 ·rename_i h1;simpa using h1
theorem rkeyOf_any (l:List K) (a:Option Addr) (cap:Nat) (oid ver:Int) (nm:ByteArray) (id:Int) (cols:List Col) (a2:Option Addr) (cap2:Nat) (w:World) (hl:Sl w (.slice a l.length cap) 6 (l.map K.rc)) (hl2:Sl w (.slice a2 cols.length cap2) 3 (cols.map Col.cells)) (hlen:l.length≤1000) (_hlen2:cols.length≤1000):
 Calls Tryz.prog 117 #[.agg #[.int .u32 oid, .int .u32 ver, .string nm, .int .u8 id, .slice a2 cols.length cap2], .slice a l.length cap] w fun e w' =>∃a' cap',e= .returned (.slice a' l.length cap')∧Sl w' (.slice a' l.length cap') 6 ((keyOf cols l).map K.rc)∧Ext w w' :=by
 have HL:=Hm hl
 have HL2:=Hm hl2
 clear hl hl2
 obtain ⟨i0,hi,hz0,hz1,hz2⟩:=info_parts Tryz.infoCellR
 go_enter Tryz.func117,Tryz.ntmps117
 go_wp2
 go_loopw [5,6] (fun v i wr=>∃k:Nat,k≤l.length∧i= .int .i64 k∧Hid (wr.ownsRow (w.heap.size+1) 101 6 v k (((keyOf cols l).map K.rc).take k).flatten)∧Hid (Ext (w.alloc (.cells #[.int .u32 oid, .int .u32 ver, .string nm, .int .u8 id, .slice a2 cols.length cap2] 44)) wr)) (fun _ i _=>l.length - (intOf i).toNat)
 case atStart=>exact ⟨0,Nat.zero_le _,rfl,World.ownsRow_nil _ _ _ _,Ext.refl _⟩
 case round=>
  obtain ⟨k,hk,rfl,hown,hE⟩:=hrel
  have hEw:Hid (Ext w wr):=Hm (((Ext.refl w).alloc _).trans hE.out)
  by_cases hlt:k<l.length
  ·have hBx:=(Blk.new w #[.int .u32 oid, .int .u32 ver, .string nm, .int .u8 id, .slice a2 cols.length cap2] 44).ext hE.out
   have g0:=hBx.cell
   have z0:=hBx.lt
   obtain ⟨b,o,rfl,hb,hx⟩:=HL.out.at_ (i:=k) (by simpa using hlt)
   obtain ⟨f0,f1,f2,f3,f4,f5⟩:=K.rcAt hlt hx hb hEw.out
   have hbw:b<wr.heap.size:=Nat.lt_of_lt_of_le hb hEw.out.size
   have hkl:k<(keyOf cols l).length:=by rw [keyOf_len];exact hlt
   have HT:=Hm (flat_snoc (f:=K.rc) hkl)
   rw [keyOf_get] at HT
   clear hx hBx
   cases hq:isKeyAt cols k with
   |true=>
    have hkc:k<cols.length:=by
     rcases Nat.lt_or_ge k cols.length with h|h
     ·exact h
     ·rw [isKeyAt_ge h] at hq;cases hq
    obtain ⟨b2,o2,rfl,hb2,hx2⟩:=HL2.out.at_ (i:=k) (by simpa using hkc)
    obtain ⟨p0,p1,p2⟩:=Col.at_ hkc hx2 hb2 hEw.out
    have hbw2:b2<wr.heap.size:=Nat.lt_of_lt_of_le hb2 hEw.out.size
    rw [isKeyAt_lt hkc] at hq
    rw [hq] at p2
    rw [if_pos (by rw [isKeyAt_lt hkc];exact hq)] at HT
    obtain ⟨c,hc⟩:∃c,c=l[k]:=⟨_,rfl⟩
    rw [←hc] at f0 f1 f2 f3 f4 f5 HT
    clear hx2 hq hc
    go_wp2_with (at_builtin;refine wpList_append_own _ rfl _ _ 45 rfl (w.heap.size+1) 101 i0 _ 6 56 Tryz.underlying45 hi hz0 hz1 hz2 rfl (by decide) _ _ _ rfl (hown.out.alloc _) ⟨_,0,none⟩ 1 1 c.rc rfl rfl ?c1 ?c2 ?c3 ?c4 ?c5 ?_)
    case c1=>exact cells_new _ #[.int .u8 c.k, .int .u8 c.v.ty, .int .i64 c.v.n, .int .u64 c.v.x, .int .u64 c.v.y, .string c.v.s] _
    case c2=>intro u hu;simp [K.rc] at hu;rcases hu with rfl|rfl|rfl|rfl|rfl|rfl<;>rfl
    case c3=>unfold maxLen;omega
    case c4=>omega
    case c5=>simp;omega
    intro v' w2 hown' hgrow _
    have HE2:=Hm (Below.grown (hE.out.alloc _) hgrow (by have:=hE.out.size;rw [World.size_alloc] at this⊢;rw [World.size_alloc];omega) (fun g hg=>by have h9:=(hown.out.lt g hg).1;rw [World.size_alloc];exact h9))
    have HO2:=Hm hown'
    clear hown' hgrow
    go_wp2
    go_roundw
    case rel=>exact ⟨k+1,by omega,by go_num,Hm (by rw [HT.out];exact HO2.out),HE2⟩
    case measure=>simp [intOf];omega
   |false=>
    rw [if_neg (by rw [hq];simp)] at HT
    by_cases hkc:k<cols.length
    ·obtain ⟨b2,o2,rfl,hb2,hx2⟩:=HL2.out.at_ (i:=k) (by simpa using hkc)
     obtain ⟨p0,p1,p2⟩:=Col.at_ hkc hx2 hb2 hEw.out
     have hbw2:b2<wr.heap.size:=Nat.lt_of_lt_of_le hb2 hEw.out.size
     rw [isKeyAt_lt hkc] at hq
     rw [hq] at p2
     clear hx2 hq
     go_wp2_with (at_builtin;refine wpList_append_own _ rfl _ _ 45 rfl (w.heap.size+1) 101 i0 _ 6 56 Tryz.underlying45 hi hz0 hz1 hz2 rfl (by decide) _ _ _ rfl (hown.out.alloc _) ⟨_,0,none⟩ 1 1 K.zero.rc rfl rfl ?c1 ?c2 ?c3 ?c4 ?c5 ?_)
     case c1=>exact cells_new _ #[.int .u8 0, .int .u8 0, .int .i64 0, .int .u64 0, .int .u64 0, .string ByteArray.empty] _
     case c2=>intro u hu;simp [K.rc] at hu;rcases hu with rfl|rfl|rfl|rfl|rfl|rfl<;>rfl
     case c3=>unfold maxLen;omega
     case c4=>omega
     case c5=>simp;omega
     intro v' w2 hown' hgrow _
     have HE2:=Hm (Below.grown (hE.out.alloc _) hgrow (by have:=hE.out.size;rw [World.size_alloc] at this⊢;rw [World.size_alloc];omega) (fun g hg=>by have h9:=(hown.out.lt g hg).1;rw [World.size_alloc];exact h9))
     have HO2:=Hm hown'
     clear hown' hgrow
     go_wp2
     go_roundw
     case rel=>exact ⟨k+1,by omega,by go_num,Hm (by rw [HT.out];exact HO2.out),HE2⟩
     case measure=>simp [intOf];omega
    ·have hkc' :cols.length≤k:=by omega
     clear hq hkc
     go_wp2_with (at_builtin;refine wpList_append_own _ rfl _ _ 45 rfl (w.heap.size+1) 101 i0 _ 6 56 Tryz.underlying45 hi hz0 hz1 hz2 rfl (by decide) _ _ _ rfl (hown.out.alloc _) ⟨_,0,none⟩ 1 1 K.zero.rc rfl rfl ?c1 ?c2 ?c3 ?c4 ?c5 ?_)
     case c1=>exact cells_new _ #[.int .u8 0, .int .u8 0, .int .i64 0, .int .u64 0, .int .u64 0, .string ByteArray.empty] _
     case c2=>intro u hu;simp [K.rc] at hu;rcases hu with rfl|rfl|rfl|rfl|rfl|rfl<;>rfl
     case c3=>unfold maxLen;omega
     case c4=>omega
     case c5=>simp;omega
     intro v' w2 hown' hgrow _
     have HE2:=Hm (Below.grown (hE.out.alloc _) hgrow (by have:=hE.out.size;rw [World.size_alloc] at this⊢;rw [World.size_alloc];omega) (fun g hg=>by have h9:=(hown.out.lt g hg).1;rw [World.size_alloc];exact h9))
     have HO2:=Hm hown'
     clear hown' hgrow
     go_wp2
     go_roundw
     case rel=>exact ⟨k+1,by omega,by go_num,Hm (by rw [HT.out];exact HO2.out),HE2⟩
     case measure=>simp [intOf];omega
  ·have hkk:k=l.length:=by omega
   subst hkk
   rw [show l.length=((keyOf cols l).map K.rc).length by rw [List.length_map,keyOf_len],List.take_length] at hown
   rw [List.length_map,keyOf_len] at hown
   obtain ⟨a',c',rfl⟩:=owns_shape hown.out
   go_wp2
   go_ret
   refine ⟨a',c',rfl,Sl.of_owns (base:=w.heap.size+1) (e:=101) ?_ ?_,hEw.out⟩
   ·rw [List.length_map,keyOf_len];exact hown.out
   ·intro xs hxs;simp at hxs;obtain ⟨a,_,rfl⟩:=hxs;rfl
theorem rkeyed_any (l:List K) (a:Option Addr) (cap:Nat) (oid ver:Int) (nm:ByteArray) (id:Int) (cols:List Col) (a2:Option Addr) (cap2:Nat) (w:World) (hl:Sl w (.slice a l.length cap) 6 (l.map K.rc)) (hl2:Sl w (.slice a2 cols.length cap2) 3 (cols.map Col.cells)) (hlen:l.length≤1000) (hlen2:cols.length≤1000) (hs:∀c∈l,c.wk) (hs2:∀c∈cols,c.nm.size≤9223372036854775807) (hnm:nm.size≤9223372036854775807):
 Calls Tryz.prog 116 #[.agg #[.int .u32 oid, .int .u32 ver, .string nm, .int .u8 id, .slice a2 cols.length cap2], .slice a l.length cap] w fun e w' =>e= .returned (.int .i64 (keyedE l (⟨oid,ver,nm,id,cols⟩:Rl)))∧Ext w w' :=by
 have HFT:=Hm (fun W (h:Ext w W)=>rfits_any l a cap oid ver nm id cols a2 cap2 W (hl.ext h) (hl2.ext h) hlen hlen2 hs hs2 hnm)
 have HL:=Hm hl
 have HL2:=Hm hl2
 have HKE:Hid (keyedE l (⟨oid,ver,nm,id,cols⟩:Rl)=if fitsE l (⟨oid,ver,nm,id,cols⟩:Rl)≠0 then fitsE l (⟨oid,ver,nm,id,cols⟩:Rl) else firstE (keyE cols l) l.length):=Hm rfl
 obtain ⟨E,hE⟩:∃E,E=fitsE l (⟨oid,ver,nm,id,cols⟩:Rl):=⟨_,rfl⟩
 rw [←hE] at HFT HKE
 have HEQ:=Hm hE
 clear hl hl2 hs hs2 hE
 by_cases h0:E=0
 case neg=>
  have HKE2:=Hm (HKE.out.trans (if_pos h0))
  have h0' :(E !=0)=true:=by simpa using h0
  clear h0 HKE HEQ
  go_enter Tryz.func116,Tryz.ntmps116
  go_wp2_with (go_at_call 142;refine (HFT.out _ (by exact eX)).mono ?_;rintro e w1 ⟨rfl,hb1⟩;have hE1:Ext w w1:=(by exact eX))
  go_ret
  exact ⟨ret_int HKE2.out.symm,hE1⟩
 subst h0
 have HKE2:=Hm (HKE.out.trans (if_neg (by simp)))
 have hfz:=fits_zero HEQ.out.symm
 have hll:l.length=cols.length:=hfz.2.1
 have hle:l.length≤cols.length:=by omega
 clear HKE HEQ hfz hll
 go_enter Tryz.func116,Tryz.ntmps116
 go_wp2_with (go_at_call 142;refine (HFT.out _ (by exact eX)).mono ?_;rintro e w1 ⟨rfl,hb1⟩;have hE1:=Hm hb1;clear hb1)
 go_loopw [6] (fun i wr=>∃k:Nat,k≤l.length∧i= .int .i64 k∧Hid (∀j,j<k→keyE cols l j=0)∧Hid (Ext (w.alloc (.cells #[.int .u32 oid, .int .u32 ver, .string nm, .int .u8 id, .slice a2 cols.length cap2] 44)) wr)) (fun i _=>l.length - (intOf i).toNat)
 case atStart=>exact ⟨0,Nat.zero_le _,rfl,fun j h=>by omega,hE1⟩
 case round=>
  obtain ⟨k,hk,rfl,hrel,hE⟩:=hrel
  have hEw:Hid (Ext w wr):=Hm (((Ext.refl w).alloc _).trans hE.out)
  by_cases hlt:k<l.length
  ·have hlt2:k<cols.length:=by omega
   have hBx:=(Blk.new w #[.int .u32 oid, .int .u32 ver, .string nm, .int .u8 id, .slice a2 cols.length cap2] 44).ext hE.out
   have g0:=hBx.cell
   have z0:=hBx.lt
   obtain ⟨b,o,rfl,hb,hx⟩:=HL.out.at_ (i:=k) (by simpa using hlt)
   obtain ⟨f0,f1,f2,f3,f4,f5⟩:=K.rcAt hlt hx hb hEw.out
   obtain ⟨b2,o2,rfl,hb2,hx2⟩:=HL2.out.at_ (i:=k) (by simpa using hlt2)
   obtain ⟨p0,p1,p2⟩:=Col.at_ hlt2 hx2 hb2 hEw.out
   have hbw:b<wr.heap.size:=Nat.lt_of_lt_of_le hb hEw.out.size
   have hbw2:b2<wr.heap.size:=Nat.lt_of_lt_of_le hb2 hEw.out.size
   have hKX:keyE cols l k=if cols[k].key=true then kindE l[k].k else 0:=by unfold keyE;rw [isKeyAt_lt hlt2,kindAt_lt hlt]
   clear hx hx2 hBx
   cases hq:cols[k].key with
   |false=>
    have HZ:=Hm (hKX.trans (if_neg (by rw [hq];simp)))
    rw [hq] at p2
    clear hq hKX
    go_wp2
    go_roundw
    case rel=>exact ⟨k+1,by omega,by go_num,fun j hj=>by
     by_cases e:j=k
     ·subst e;exact HZ.out
     ·exact hrel.out j (by omega),hE⟩
    case measure=>simp [intOf];omega
   |true=>
    have HZ:=Hm (hKX.trans (if_pos hq))
    rw [hq] at p2
    clear hq hKX
    by_cases hk0:l[k].k=0
    ·have HR:=Hm (HKE2.out.trans (show firstE (keyE cols l) l.length=12 by rw [firstE_at hrel.out hlt (by rw [HZ.out,hk0];decide),HZ.out,hk0];rfl))
     rw [hk0] at f0
     clear hk0
     go_wp2
     go_ret
     exact ⟨ret_int HR.out.symm,hEw.out⟩
    ·by_cases hk1:l[k].k=1
     ·have HR:=Hm (HKE2.out.trans (show firstE (keyE cols l) l.length=13 by rw [firstE_at hrel.out hlt (by rw [HZ.out,hk1];decide),HZ.out,hk1];rfl))
      rw [hk1] at f0
      clear hk0 hk1
      go_wp2
      go_ret
      exact ⟨ret_int HR.out.symm,hEw.out⟩
     ·have e0:(l[k].k==0)=false:=by simpa using hk0
      have e1:(l[k].k==1)=false:=by simpa using hk1
      have HZ2:=Hm (HZ.out.trans (show kindE l[k].k=0 by unfold kindE;rw [if_neg hk0,if_neg hk1]))
      clear hk0 hk1
      go_wp2
      go_roundw
      case rel=>exact ⟨k+1,by omega,by go_num,fun j hj=>by
       by_cases e:j=k
       ·subst e;exact HZ2.out
       ·exact hrel.out j (by omega),hE⟩
      case measure=>simp [intOf];omega
  ·have hkk:k=l.length:=by omega
   have HR:=Hm (HKE2.out.trans (firstE_zero (fun i hi=>hrel.out i (by omega))))
   subst hkk
   go_wp2
   go_ret
   exact ⟨ret_int HR.out.symm,hEw.out⟩
theorem risKey_any (l:List K) (a:Option Addr) (cap:Nat) (oid ver:Int) (nm:ByteArray) (id:Int) (cols:List Col) (a2:Option Addr) (cap2:Nat) (w:World) (hl:Sl w (.slice a l.length cap) 6 (l.map K.rc)) (hl2:Sl w (.slice a2 cols.length cap2) 3 (cols.map Col.cells)) (hlen:l.length≤1000) (hlen2:cols.length≤1000) (hs:∀c∈l,c.wk) (hs2:∀c∈cols,c.nm.size≤9223372036854775807) (hnm:nm.size≤9223372036854775807):
 Calls Tryz.prog 114 #[.agg #[.int .u32 oid, .int .u32 ver, .string nm, .int .u8 id, .slice a2 cols.length cap2], .slice a l.length cap] w fun e w' =>e= .returned (.int .i64 (isKeyE l (⟨oid,ver,nm,id,cols⟩:Rl)))∧Ext w w' :=by
 have HFT:=Hm (fun W (h:Ext w W)=>rkeyed_any l a cap oid ver nm id cols a2 cap2 W (hl.ext h) (hl2.ext h) hlen hlen2 hs hs2 hnm)
 have HL:=Hm hl
 have HL2:=Hm hl2
 have HKE:Hid (isKeyE l (⟨oid,ver,nm,id,cols⟩:Rl)=if keyedE l (⟨oid,ver,nm,id,cols⟩:Rl)≠0 then keyedE l (⟨oid,ver,nm,id,cols⟩:Rl) else firstE (nonE cols l) l.length):=Hm rfl
 obtain ⟨E,hE⟩:∃E,E=keyedE l (⟨oid,ver,nm,id,cols⟩:Rl):=⟨_,rfl⟩
 rw [←hE] at HFT HKE
 have HEQ:=Hm hE
 clear hl hl2 hs hs2 hE
 by_cases h0:E=0
 case neg=>
  have HKE2:=Hm (HKE.out.trans (if_pos h0))
  have h0' :(E !=0)=true:=by simpa using h0
  clear h0 HKE HEQ
  go_enter Tryz.func114,Tryz.ntmps114
  go_wp2_with (go_at_call 116;refine (HFT.out _ (by exact eX)).mono ?_;rintro e w1 ⟨rfl,hb1⟩;have hE1:Ext w w1:=(by exact eX))
  go_ret
  exact ⟨ret_int HKE2.out.symm,hE1⟩
 subst h0
 have HKE2:=Hm (HKE.out.trans (if_neg (by simp)))
 have hfz:=fits_zero (keyed_fits HEQ.out.symm)
 have hll:l.length=cols.length:=hfz.2.1
 have hle:l.length≤cols.length:=by omega
 clear HKE HEQ hfz hll
 go_enter Tryz.func114,Tryz.ntmps114
 go_wp2_with (go_at_call 116;refine (HFT.out _ (by exact eX)).mono ?_;rintro e w1 ⟨rfl,hb1⟩;have hE1:=Hm hb1;clear hb1)
 go_loopw [6] (fun i wr=>∃k:Nat,k≤l.length∧i= .int .i64 k∧Hid (∀j,j<k→nonE cols l j=0)∧Hid (Ext (w.alloc (.cells #[.int .u32 oid, .int .u32 ver, .string nm, .int .u8 id, .slice a2 cols.length cap2] 44)) wr)) (fun i _=>l.length - (intOf i).toNat)
 case atStart=>exact ⟨0,Nat.zero_le _,rfl,fun j h=>by omega,hE1⟩
 case round=>
  obtain ⟨k,hk,rfl,hrel,hE⟩:=hrel
  have hEw:Hid (Ext w wr):=Hm (((Ext.refl w).alloc _).trans hE.out)
  by_cases hlt:k<l.length
  ·have hlt2:k<cols.length:=by omega
   have hBx:=(Blk.new w #[.int .u32 oid, .int .u32 ver, .string nm, .int .u8 id, .slice a2 cols.length cap2] 44).ext hE.out
   have g0:=hBx.cell
   have z0:=hBx.lt
   obtain ⟨b,o,rfl,hb,hx⟩:=HL.out.at_ (i:=k) (by simpa using hlt)
   obtain ⟨f0,f1,f2,f3,f4,f5⟩:=K.rcAt hlt hx hb hEw.out
   obtain ⟨b2,o2,rfl,hb2,hx2⟩:=HL2.out.at_ (i:=k) (by simpa using hlt2)
   obtain ⟨p0,p1,p2⟩:=Col.at_ hlt2 hx2 hb2 hEw.out
   have hbw:b<wr.heap.size:=Nat.lt_of_lt_of_le hb hEw.out.size
   have hbw2:b2<wr.heap.size:=Nat.lt_of_lt_of_le hb2 hEw.out.size
   have hKX:nonE cols l k=if cols[k].key=false∧l[k].k≠0 then 14 else 0:=by unfold nonE;rw [isKeyAt_lt hlt2,kindAt_lt hlt]
   clear hx hx2 hBx
   cases hq:cols[k].key with
   |true=>
    have HZ:=Hm (hKX.trans (if_neg (by rw [hq];simp)))
    rw [hq] at p2
    clear hq hKX
    go_wp2
    go_roundw
    case rel=>exact ⟨k+1,by omega,by go_num,fun j hj=>by
     by_cases e:j=k
     ·subst e;exact HZ.out
     ·exact hrel.out j (by omega),hE⟩
    case measure=>simp [intOf];omega
   |false=>
    by_cases hk0:l[k].k=0
    ·have HZ:=Hm (hKX.trans (if_neg (by rw [hk0];simp)))
     rw [hq] at p2
     rw [hk0] at f0
     clear hk0 hq hKX
     go_wp2
     go_roundw
     case rel=>exact ⟨k+1,by omega,by go_num,fun j hj=>by
      by_cases e:j=k
      ·subst e;exact HZ.out
      ·exact hrel.out j (by omega),hE⟩
     case measure=>simp [intOf];omega
    ·have e0:(l[k].k !=0)=true:=by simpa using hk0
     have HZ:=hKX.trans (if_pos ⟨hq,hk0⟩)
     have HR:=Hm (HKE2.out.trans (show firstE (nonE cols l) l.length=14 by rw [firstE_at hrel.out hlt (by rw [HZ];decide),HZ]))
     rw [hq] at p2
     clear hk0 hq hKX HZ
     go_wp2
     go_ret
     exact ⟨ret_int HR.out.symm,hEw.out⟩
  ·have hkk:k=l.length:=by omega
   have HR:=Hm (HKE2.out.trans (firstE_zero (fun i hi=>hrel.out i (by omega))))
   subst hkk
   go_wp2
   go_ret
   exact ⟨ret_int HR.out.symm,hEw.out⟩
theorem risFull_any (l:List K) (a:Option Addr) (cap:Nat) (oid ver:Int) (nm:ByteArray) (id:Int) (cols:List Col) (a2:Option Addr) (cap2:Nat) (w:World) (hl:Sl w (.slice a l.length cap) 6 (l.map K.rc)) (hl2:Sl w (.slice a2 cols.length cap2) 3 (cols.map Col.cells)) (hlen:l.length≤1000) (hlen2:cols.length≤1000) (hs:∀c∈l,c.wk) (hs2:∀c∈cols,c.nm.size≤9223372036854775807) (hnm:nm.size≤9223372036854775807):
 Calls Tryz.prog 115 #[.agg #[.int .u32 oid, .int .u32 ver, .string nm, .int .u8 id, .slice a2 cols.length cap2], .slice a l.length cap] w fun e w' =>e= .returned (.int .i64 (isFullE l (⟨oid,ver,nm,id,cols⟩:Rl)))∧Ext w w' :=by
 have HFT:=Hm (fun W (h:Ext w W)=>rkeyed_any l a cap oid ver nm id cols a2 cap2 W (hl.ext h) (hl2.ext h) hlen hlen2 hs hs2 hnm)
 have HL:=Hm hl
 have HKE:Hid (isFullE l (⟨oid,ver,nm,id,cols⟩:Rl)=if keyedE l (⟨oid,ver,nm,id,cols⟩:Rl)≠0 then keyedE l (⟨oid,ver,nm,id,cols⟩:Rl) else firstE (sameE l) l.length):=Hm rfl
 obtain ⟨E,hE⟩:∃E,E=keyedE l (⟨oid,ver,nm,id,cols⟩:Rl):=⟨_,rfl⟩
 rw [←hE] at HFT HKE
 clear hl hl2 hs hs2 hE
 by_cases h0:E=0
 case neg=>
  have HKE2:=Hm (HKE.out.trans (if_pos h0))
  have h0' :(E !=0)=true:=by simpa using h0
  clear h0 HKE
  go_enter Tryz.func115,Tryz.ntmps115
  go_wp2_with (go_at_call 116;refine (HFT.out _ (by exact eX)).mono ?_;rintro e w1 ⟨rfl,hb1⟩;have hE1:Ext w w1:=(by exact eX))
  go_ret
  exact ⟨ret_int HKE2.out.symm,hE1⟩
 subst h0
 have HKE2:=Hm (HKE.out.trans (if_neg (by simp)))
 clear HKE
 go_enter Tryz.func115,Tryz.ntmps115
 go_wp2_with (go_at_call 116;refine (HFT.out _ (by exact eX)).mono ?_;rintro e w1 ⟨rfl,hb1⟩;have hE1:=Hm hb1;clear hb1)
 go_loopw [6] (fun i wr=>∃k:Nat,k≤l.length∧i= .int .i64 k∧Hid (∀j,j<k→sameE l j=0)∧Hid (Ext (w.alloc (.cells #[.int .u32 oid, .int .u32 ver, .string nm, .int .u8 id, .slice a2 cols.length cap2] 44)) wr)) (fun i _=>l.length - (intOf i).toNat)
 case atStart=>exact ⟨0,Nat.zero_le _,rfl,fun j h=>by omega,hE1⟩
 case round=>
  obtain ⟨k,hk,rfl,hrel,hE⟩:=hrel
  have hEw:Hid (Ext w wr):=Hm (((Ext.refl w).alloc _).trans hE.out)
  by_cases hlt:k<l.length
  ·obtain ⟨b,o,rfl,hb,hx⟩:=HL.out.at_ (i:=k) (by simpa using hlt)
   obtain ⟨f0,f1,f2,f3,f4,f5⟩:=K.rcAt hlt hx hb hEw.out
   have hbw:b<wr.heap.size:=Nat.lt_of_lt_of_le hb hEw.out.size
   have hKX:sameE l k=if l[k].k=1 then 14 else 0:=by unfold sameE;rw [kindAt_lt hlt]
   clear hx
   by_cases hk0:l[k].k=1
   ·have HZ:=hKX.trans (if_pos hk0)
    have HR:=Hm (HKE2.out.trans (show firstE (sameE l) l.length=14 by rw [firstE_at hrel.out hlt (by rw [HZ];decide),HZ]))
    rw [hk0] at f0
    clear hk0 hKX HZ
    go_wp2
    go_ret
    exact ⟨ret_int HR.out.symm,hEw.out⟩
   ·have e0:(l[k].k==1)=false:=by simpa using hk0
    have HZ:=Hm (hKX.trans (if_neg hk0))
    clear hk0 hKX
    go_wp2
    go_roundw
    case rel=>exact ⟨k+1,by omega,by go_num,fun j hj=>by
     by_cases e:j=k
     ·subst e;exact HZ.out
     ·exact hrel.out j (by omega),hE⟩
    case measure=>simp [intOf];omega
  ·have hkk:k=l.length:=by omega
   have HR:=Hm (HKE2.out.trans (firstE_zero (fun i hi=>hrel.out i (by omega))))
   subst hkk
   go_wp2
   go_ret
   exact ⟨ret_int HR.out.symm,hEw.out⟩
end Go.Proofs.YtgmphpccpfaapaaGreatDoor
