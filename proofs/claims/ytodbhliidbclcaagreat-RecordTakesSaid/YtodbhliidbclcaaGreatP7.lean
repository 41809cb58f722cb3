/-
The place of a ref in a catalog.
-/
import Derived.Laws.CopyOwn
import Derived.Lib.Overlaps
import Derived.Lib.AppendZerosOnto
import Derived.Maps.AppendAt
import Derived.Shelf.Spec.SlicesInsert
import Derived.Test.YtodbhliidbclcaaGreatP6
set_option maxRecDepth 100000
set_option maxHeartbeats 16000000
namespace Go.Proofs.YtodbhliidbclcaaGreat
open Go.RowKit
theorem posR_in {ro rv:Int} {ps:List RR} {i:Nat} (hi:i≤ps.length) (h1:∀m (h:m<ps.length),m<i→aheadP ps[m].r.oid ps[m].r.ver ro rv) (h2:∀m (h:m<ps.length),i≤m→¬ aheadP ps[m].r.oid ps[m].r.ver ro rv):posR ro rv (ps.map RR.r)=i:=by
 refine posR_of (by rw [List.length_map];exact hi) (fun j hj hji=> ?_) (fun hj=> ?_)
 ·rw [List.getElem_map];exact h1 j (by rwa [List.length_map] at hj) hji
 ·rw [List.getElem_map];exact h2 i (by rwa [List.length_map] at hj) (Nat.le_refl _)
theorem bs_any (ps:List RR) (a:Option Addr) (cap:Nat) (ro rv:Int) (w:World) (hl:RL w (.slice a ps.length cap) ps) (hlen:ps.length≤1000) (hs:Srt (ps.map RR.r)):
 Calls Tryz.prog 102 #[.slice a ps.length cap, .agg #[.int .u32 ro, .int .u32 rv], .func (.func 103) #[] #[]] w fun e w' =>e= .returned (.tuple #[.int .i64 (posR ro rv (ps.map RR.r):Nat), .bool (hasR ro rv (ps.map RR.r))])∧Ext w w' :=by
 have HL:=Hm hl.row
 have HS:=Hm hs
 have HF:=Hm (fun p W=>find1_any p ro rv W)
 unfold RR.agg at HF
 clear hl hs
 go_enter Tryz.func102,Tryz.ntmps102
 go_wp2
 go_loopw [9,10] (fun i j wr=>∃x y:Nat,x≤y∧y≤ps.length∧i= .int .i64 x∧j= .int .i64 y∧Hid (∀m (h:m<ps.length),m<x→aheadP ps[m].r.oid ps[m].r.ver ro rv)∧Hid (∀m (h:m<ps.length),y≤m→¬ aheadP ps[m].r.oid ps[m].r.ver ro rv)∧Hid (Ext (w.alloc (.cells #[.int .u32 ro, .int .u32 rv] 34)) wr)) (fun i j _=>(intOf j).toNat - (intOf i).toNat)
 case atStart=>exact ⟨0,ps.length,Nat.zero_le _,Nat.le_refl _,rfl,rfl,Hm (fun m h h2=>by omega),Hm (fun m h h2=>by omega),Hm (Ext.refl _)⟩
 case round=>
  obtain ⟨x,y,hxy,hy,rfl,rfl,hlo,hhi,hE⟩:=hrel
  have hEw:Ext w wr:=((Ext.refl w).alloc _).trans hE.out
  have HB0:=Hm ((Blk.new w #[.int .u32 ro, .int .u32 rv] 34).ext hE.out)
  have g0:=HB0.out.cell
  have z0:=HB0.out.lt
  have HEW:=Hm hEw
  by_cases hlt:x<y
  ·obtain ⟨h,hh⟩:∃h:Nat,h=(x+y) / 2:=⟨_,rfl⟩
   have hhp:h<ps.length:=by omega
   obtain ⟨b,q,rfl,hb,hx⟩:=HL.out.at_ (i:=h) (by simpa using hhp)
   obtain ⟨f0,f1,f2,f3,f4⟩:=RR.at_ hhp hx hb hEw
   have hbw:b<wr.heap.size:=Nat.lt_of_lt_of_le hb hEw.size
   have HHI:=Hm (hhi.out)
   have HLO:=Hm (hlo.out)
   have hsx:∀m (hm:m<ps.length),m≤h→aheadP ps[h].r.oid ps[h].r.ver ro rv→aheadP ps[m].r.oid ps[m].r.ver ro rv:=fun m hm hmh hq=>by
    rcases Nat.eq_or_lt_of_le hmh with e|e
    ·subst e;exact hq
    ·have:=HS.out.at_ (i:=m) (j:=h) (by simpa using hm) (by simpa using hhp) e
     unfold Rl.lt at this
     simp only [List.getElem_map] at this
     exact ahead_trans this hq
   have hsy:∀m (hm:m<ps.length),h≤m→¬ aheadP ps[h].r.oid ps[h].r.ver ro rv→¬ aheadP ps[m].r.oid ps[m].r.ver ro rv:=fun m hm hmh hq hq2=>by
    rcases Nat.eq_or_lt_of_le hmh with e|e
    ·subst e;exact hq hq2
    ·have:=HS.out.at_ (i:=h) (j:=m) (by simpa using hhp) (by simpa using hm) e
     unfold Rl.lt at this
     simp only [List.getElem_map] at this
     exact hq (ahead_trans this hq2)
   have HSX:=Hm hsx
   have HSY:=Hm hsy
   have HCN:=Hm (cmpR_neg (o1:=ps[h].r.oid) (v1:=ps[h].r.ver) (o2:=ro) (v2:=rv))
   have HFW:=Hm (fun W=>HF.out ps[h] W)
   obtain ⟨p,hp⟩:∃p,p=ps[h]:=⟨_,rfl⟩
   rw [←hp] at f0 f1 f2 f3 f4 HSX HSY HCN HFW
   obtain ⟨A,hA⟩:∃A,A=cmpR p.r.oid p.r.ver ro rv:=⟨_,rfl⟩
   rw [←hA] at HCN HFW
   have e1:IntKind.i64.wrap ((x:Int)+(y:Int))=(x:Int)+(y:Int):=by rw [IntKind.wrap_i64];omega
   have e2:IntKind.u64.wrap ((x:Int)+(y:Int))=(x:Int)+(y:Int):=by rw [IntKind.wrap_u64];omega
   have e3:((x:Int)+(y:Int)) / 2=(h:Int):=by omega
   have HH:=Hm hh
   clear hx hp hA hsx hsy hhi hlo hEw hh
   by_cases hA:A<0
   ·have HA:=Hm (HCN.out.1 hA)
    go_wp2
    go_region_held3 (fun w' =>Ext (wr) w'∧(∀b o,b<(wr).heap.size→w'.cell? ⟨b,o,none⟩=(wr).cell? ⟨b,o,none⟩)∧(∀b o,b<(wr).heap.size→w'.frozen? ⟨b,o,none⟩=(wr).frozen? ⟨b,o,none⟩)) ((exact held_of (by exact eX))) (first|(go_at_call 103;refine (HFW.out _).mono ?_;rintro e w2 ⟨rfl,hb2⟩;have HE2:=Hm (show Ext wr w2 by exact eX)))
    clear hb2
    go_wp2
    go_roundw
    case rel=>exact ⟨h+1,y,by have:=HH.out;omega,hy,by go_num,rfl,Hm (fun m hm hmh=>HSX.out m hm (by omega) HA.out),HHI,Hm (hE.out.trans (by have:=HE2.out;exact eX))⟩
    case measure=>have:=HH.out;simp [intOf];omega
   ·have HA:=Hm (fun q=>hA (HCN.out.2 q))
    go_wp2
    go_region_held3 (fun w' =>Ext (wr) w'∧(∀b o,b<(wr).heap.size→w'.cell? ⟨b,o,none⟩=(wr).cell? ⟨b,o,none⟩)∧(∀b o,b<(wr).heap.size→w'.frozen? ⟨b,o,none⟩=(wr).frozen? ⟨b,o,none⟩)) ((exact held_of (by exact eX))) (first|(go_at_call 103;refine (HFW.out _).mono ?_;rintro e w2 ⟨rfl,hb2⟩;have HE2:=Hm (show Ext wr w2 by exact eX)))
    clear hb2
    go_wp2
    go_roundw
    case rel=>exact ⟨x,h,by have:=HH.out;omega,by omega,rfl,rfl,HLO,Hm (fun m hm hmh=>HSY.out m hm hmh HA.out),Hm (hE.out.trans (by have:=HE2.out;exact eX))⟩
    case measure=>have:=HH.out;simp [intOf];omega
  ·obtain rfl:x=y:=by omega
   have HP:=Hm (posR_in (ro:=ro) (rv:=rv) hy hlo.out hhi.out)
   have HHS:=Hm (HS.out.has ro rv)
   by_cases hlt2:x<ps.length
   ·obtain ⟨b,q,rfl,hb,hx⟩:=HL.out.at_ (i:=x) (by simpa using hlt2)
    obtain ⟨f0,f1,f2,f3,f4⟩:=RR.at_ hlt2 hx hb hEw
    have hbw:b<wr.heap.size:=Nat.lt_of_lt_of_le hb hEw.size
    have HH2:Hid (hasR ro rv (ps.map RR.r)=decide (cmpR ps[x].r.oid ps[x].r.ver ro rv=0)):=Hm (by
     rw [HHS.out]
     have hp:=HP.out
     apply decide_eq_decide.2
     rw [cmpR_zero]
     constructor
     ·rintro ⟨h1,h2⟩
      simp only [hp,List.getElem_map] at h2
      exact h2
     ·intro h2
      refine ⟨by rw [hp,List.length_map];exact hlt2, ?_⟩
      simp only [hp,List.getElem_map]
      exact h2)
    have HFW:=Hm (fun W=>HF.out ps[x] W)
    obtain ⟨p,hp⟩:∃p,p=ps[x]:=⟨_,rfl⟩
    rw [←hp] at f0 f1 f2 f3 f4 HFW HH2
    obtain ⟨A,hA⟩:∃A,A=cmpR p.r.oid p.r.ver ro rv:=⟨_,rfl⟩
    rw [←hA] at HFW HH2
    clear hx hp hA hEw hhi hlo hlt
    by_cases hA:A=0
    ·subst hA
     go_wp2
     go_region_held3 (fun w' =>Ext (wr) w'∧(∀b o,b<(wr).heap.size→w'.cell? ⟨b,o,none⟩=(wr).cell? ⟨b,o,none⟩)∧(∀b o,b<(wr).heap.size→w'.frozen? ⟨b,o,none⟩=(wr).frozen? ⟨b,o,none⟩)) ((exact held_of (by exact eX))) (first|(go_at_call 103;refine (HFW.out _).mono ?_;rintro e w2 ⟨rfl,hb2⟩;have HE2:=Hm (show Ext wr w2 by exact eX)))
     clear hb2
     go_wp2
     go_ret2
     exact ⟨by rw [HP.out,HH2.out];rfl,HEW.out.trans (by have:=HE2.out;exact eX)⟩
    ·have hA' :(A==0)=false:=by simpa using hA
     have HN:=Hm (HH2.out.trans (decide_eq_false hA))
     clear hA
     go_wp2
     go_region_held3 (fun w' =>Ext (wr) w'∧(∀b o,b<(wr).heap.size→w'.cell? ⟨b,o,none⟩=(wr).cell? ⟨b,o,none⟩)∧(∀b o,b<(wr).heap.size→w'.frozen? ⟨b,o,none⟩=(wr).frozen? ⟨b,o,none⟩)) ((exact held_of (by exact eX))) (first|(go_at_call 103;refine (HFW.out _).mono ?_;rintro e w2 ⟨rfl,hb2⟩;have HE2:=Hm (show Ext wr w2 by exact eX)))
     clear hb2
     go_wp2
     go_ret2
     exact ⟨by rw [HP.out,HN.out];rfl,HEW.out.trans (by have:=HE2.out;exact eX)⟩
   ·obtain rfl:x=ps.length:=by omega
    have HN:Hid (hasR ro rv (ps.map RR.r)=false):=Hm (by
     rw [HHS.out]
     apply decide_eq_false
     rintro ⟨h1, -⟩
     rw [HP.out,List.length_map] at h1
     omega)
    clear hEw hhi hlo hlt HHS
    go_wp2
    refine wp_region_head 15 (fun w' =>Ext (wr) w'∧(∀b o,b<(wr).heap.size→w'.cell? ⟨b,o,none⟩=(wr).cell? ⟨b,o,none⟩)∧(∀b o,b<(wr).heap.size→w'.frozen? ⟨b,o,none⟩=(wr).frozen? ⟨b,o,none⟩)) (by kernel_rfl) (by decide) ?_
    have hA0:Hid ((fun w' =>Ext (wr) w'∧(∀b o,b<(wr).heap.size→w'.cell? ⟨b,o,none⟩=(wr).cell? ⟨b,o,none⟩)∧(∀b o,b<(wr).heap.size→w'.frozen? ⟨b,o,none⟩=(wr).frozen? ⟨b,o,none⟩)) wr.drew):=held_of (by exact eX)
    refine HG.on 0 35 hA0.out ?_
    try simp only [Act.put,List.setIfInBounds_toArray,List.set_cons_zero,List.set_cons_succ]
    refine HG.on 1 36 hA0.out ?_
    try simp only [Act.put,List.setIfInBounds_toArray,List.set_cons_zero,List.set_cons_succ]
    refine HG.on 2 37 hA0.out ?_
    try simp only [Act.put,List.setIfInBounds_toArray,List.set_cons_zero,List.set_cons_succ]
    refine HG.on 3 38 hA0.out ?_
    try simp only [Act.put,List.setIfInBounds_toArray,List.set_cons_zero,List.set_cons_succ]
    refine HG.on 4 39 hA0.out ?_
    try simp only [Act.put,List.setIfInBounds_toArray,List.set_cons_zero,List.set_cons_succ]
    refine wpHd_takeD (i:=5) (d:=some 40) (v:=undef) rfl rfl (by kernel_rfl) (by kernel_rfl) (by kernel_rfl) (fun _ _ _ h=>h) (Or.inr ⟨by rfl,rfl⟩) hA0.out ?_
    try simp only [Act.put,List.setIfInBounds_toArray,List.set_cons_zero,List.set_cons_succ]
    refine wpHd_takeD (i:=6) (d:=some 41) (v:=undef) rfl rfl (by kernel_rfl) (by kernel_rfl) (by kernel_rfl) (fun _ _ _ h=>h) (Or.inr ⟨by rfl,rfl⟩) hA0.out ?_
    try simp only [Act.put,List.setIfInBounds_toArray,List.set_cons_zero,List.set_cons_succ]
    refine wpHd_takeD (i:=7) (d:=some 42) (v:=undef) rfl rfl (by kernel_rfl) (by kernel_rfl) (by kernel_rfl) (fun _ _ _ h=>h) (Or.inr ⟨by rfl,rfl⟩) hA0.out ?_
    try simp only [Act.put,List.setIfInBounds_toArray,List.set_cons_zero,List.set_cons_succ]
    refine wpHd_takeD (i:=8) (d:=some 43) (v:=undef) rfl rfl (by kernel_rfl) (by kernel_rfl) (by kernel_rfl) (fun _ _ _ h=>h) (Or.inr ⟨by rfl,rfl⟩) hA0.out ?_
    try simp only [Act.put,List.setIfInBounds_toArray,List.set_cons_zero,List.set_cons_succ]
    refine wpHd_takeD (i:=9) (d:=some 44) (v:=undef) rfl rfl (by kernel_rfl) (by kernel_rfl) (by kernel_rfl) (fun _ _ _ h=>h) (Or.inr ⟨by rfl,rfl⟩) hA0.out ?_
    try simp only [Act.put,List.setIfInBounds_toArray,List.set_cons_zero,List.set_cons_succ]
    refine wpHd_takeD (i:=10) (d:=some 45) (v:=undef) rfl rfl (by kernel_rfl) (by kernel_rfl) (by kernel_rfl) (fun _ _ _ h=>h) (Or.inr ⟨by rfl,rfl⟩) hA0.out ?_
    try simp only [Act.put,List.setIfInBounds_toArray,List.set_cons_zero,List.set_cons_succ]
    refine wpHd_takeD (i:=11) (d:=some 46) (v:=undef) rfl rfl (by kernel_rfl) (by kernel_rfl) (by kernel_rfl) (fun _ _ _ h=>h) (Or.inr ⟨by rfl,rfl⟩) hA0.out ?_
    try simp only [Act.put,List.setIfInBounds_toArray,List.set_cons_zero,List.set_cons_succ]
    refine wpHd_takeD (i:=12) (d:=some 47) (v:=undef) rfl rfl (by kernel_rfl) (by kernel_rfl) (by kernel_rfl) (fun _ _ _ h=>h) (Or.inr ⟨by rfl,rfl⟩) hA0.out ?_
    try simp only [Act.put,List.setIfInBounds_toArray,List.set_cons_zero,List.set_cons_succ]
    refine HG.on 13 48 hA0.out ?_
    try simp only [Act.put,List.setIfInBounds_toArray,List.set_cons_zero,List.set_cons_succ]
    refine HG.on 14 6 hA0.out ?_
    try simp only [Act.put,List.setIfInBounds_toArray,List.set_cons_zero,List.set_cons_succ]
    refine wpHd_tail (by kernel_rfl) ?_
    simp only [List.drop_succ_cons,List.drop_zero]
    go_wp2
    go_ret2
    exact ⟨by rw [HP.out,HN.out];rfl,HEW.out.trans (by exact eX)⟩
theorem find_any (N g:Nat) (c:Value) (ps:List RR) (ro rv:Int) (w:World) (hc:Ca w N g c ps):
 Calls Tryz.prog 76 #[.pointer (some ⟨g,0,none⟩), .agg #[.int .u32 ro, .int .u32 rv]] w fun e w' =>e= .returned (.tuple #[.int .i64 (posR ro rv (ps.map RR.r):Nat), .bool (hasR ro rv (ps.map RR.r))])∧Ext w w' :=by
 obtain ⟨a,cap,rfl⟩:=hc.shape
 have HB:=Hm (fun W (h:Ext w W)=>bs_any ps a cap ro rv W (hc.rl.ext h) (by have:=hc.n64;omega) hc.ok.srt)
 have g0:=hc.ptr.cell
 have z0:=hc.ptr.lt
 clear hc
 go_enter Tryz.func76,Tryz.ntmps76
 go_wp2
 go_region_held3 (fun w' =>Ext (w.alloc (.cells #[.int .u32 ro, .int .u32 rv] 34)) w'∧(∀b o,b<(w.alloc (.cells #[.int .u32 ro, .int .u32 rv] 34)).heap.size→w'.cell? ⟨b,o,none⟩=(w.alloc (.cells #[.int .u32 ro, .int .u32 rv] 34)).cell? ⟨b,o,none⟩)∧(∀b o,b<(w.alloc (.cells #[.int .u32 ro, .int .u32 rv] 34)).heap.size→w'.frozen? ⟨b,o,none⟩=(w.alloc (.cells #[.int .u32 ro, .int .u32 rv] 34)).frozen? ⟨b,o,none⟩)) ((exact held_of (by exact eX))) (first|(go_at_call 102;refine (HB.out _ (by exact eX)).mono ?_;rintro e w2 ⟨rfl,hb2⟩))
 go_wp2
 go_ret2
 exact ⟨rfl,by exact eX⟩
open Go.RowKit Go.Lib Go.Shelf
theorem Tryz.infoRel:(Tryz.prog.info? 120).map (fun i=>(i.zero,i.size,i.bytes))=some (some (.agg #[.int .u32 0, .int .u32 0, .string ByteArray.empty, .int .u8 0, .slice none 0 0]),5,56):=by kernel_rfl
theorem run_copy_rowK {P:Program} (w:World) (dT sT ty elem:TypeId) (k g o dLen dCap:Nat) (a:Addr) (sLen sCap m:Nat) (cur:Array Value) (t:TypeId) (cs:List Value)
 (hu:P.underlying dT=some (.slice elem)) (hs:(P.info? elem).map (·.size)=some k)
 (hg:w.heap[g]? =some (.cells cur t (0,0))) (hm:Nat.min sLen dLen=m) (hn:cs.length=m*k)
 (hsrc:∀j v,cs[j]? =some v→w.cell? (a.add j)=some v) (hfit:o+cs.length≤cur.size) (h1:∀v∈cs,v.oneCell' =true):
 (Builtin.copy_ #[dT,sT] ty #[.slice (some ⟨g,o,none⟩) dLen dCap, .slice (some a) sLen sCap]).run P w= .ok (goInt m) (w.setRow g (splice cur.toList o cs).toArray):=by
 have hl:=run_loadCells_list (P:=P) w a cs hsrc
 rw [hn] at hl
 have hst:=run_storeCells_at P g o t cs 0 cur w hg (by simpa using hfit) h1
 cases hq:P.info? elem with
 |none=>simp [hq] at hs
 |some i=>
  have hi:i.size=k:=by simpa [hq] using hs
  simp [Builtin.copy_,run_underlying hu,Builtin.lenOf,Builtin.firstCells,sizeOf,typeInfo,hq,hi,hm,hl,hst,splice]
theorem owns_parts {w:World} {N n cap:Nat} {g o:Nat} {sp:Option _} {xs:List Value} (h:w.ownsRow N 120 5 (.slice (some ⟨g,o,sp⟩) n cap) n xs):
 o=0∧sp=none∧xs.length=n*5∧N≤g∧n≤cap∧cap≤maxLen∧∃cur:Array Value,Blk w g cur 120∧cur.size=cap*5∧cur.toList.take (n*5)=xs:=by
 obtain ⟨h1,h2|⟨g',cap',cur,hv,hg,hh,hn,hm,hs,ht⟩⟩:=h
 ·cases h2.1
 ·simp only [Value.slice.injEq,Option.some.injEq,Addr.mk.injEq] at hv
  obtain ⟨⟨rfl,rfl,rfl⟩, -,rfl⟩:=hv
  exact ⟨rfl,rfl,h1,hg,hn,hm,cur,hh,hs,ht⟩
theorem own_slice (a:Option Addr) (n c:Nat):(Value.slice a n c).ownBlock=a.map Addr.block:=by cases a<;>rfl
def InsPost (N n:Nat) (v:Value) (zs:List Value) (w:World) (e:Ending) (w' :World):Prop:=
 ∃v',e= .returned v'∧w'.ownsRow N 120 5 v' (n+1) zs∧w.grownBy w' v.ownBlock∧(v'.ownBlock=v.ownBlock∨∃b,v'.ownBlock=some b∧w.heap.size≤b)
theorem ins_end (N n:Nat) (a:Option Addr) (cap vb:Nat) (xs ys:List Value) (w:World) (hown:w.ownsRow N 120 5 (.slice a n cap) n xs) (hyl:ys.length=5) (hy:∀j u,ys[j]? =some u→w.cell? ((⟨vb,0,none⟩:Addr).add j)=some u) (h1:∀u∈ys,u.oneCell' =true) (hn:n≤1000) (hN:N≤w.heap.size):
 Calls Tryz.prog 77 #[.slice a n cap, .int .i64 n, .slice (some ⟨vb,0,none⟩) 1 1] w (InsPost N n (.slice a n cap) (xs++ys) w):=by
 obtain ⟨i0,hi,hz0,hz1,hz2⟩:=info_parts Tryz.infoRel
 have HO:=Hm hown
 have hcap:n≤cap:=owns_cap hown
 clear hown
 go_enter Tryz.func77,Tryz.ntmps77
 go_wp2_with (at_builtin;refine wpList_append_own_at _ rfl _ _ 82 rfl N 120 i0 _ 5 56 Tryz.underlying82 hi hz0 hz1 hz2 rfl (by decide) (.slice a n cap) n xs rfl HO.out _ 1 1 ys rfl (by simpa using hyl) hy h1 (by unfold maxLen;omega) (by omega) hN ?_)
 all_goals
  intro v' w2 hown' hgrow _ hat
  rw [own_slice] at hgrow hat
  have H1:=Hm hown'
  have H2:=Hm hgrow
  have H3:=Hm hat
  clear hown' hgrow hat
  go_wp2
  go_ret
  exact ⟨v',rfl,H1.out,by rw [own_slice];exact H2.out,by rw [own_slice];exact H3.out.imp id (fun h=>⟨_,h,Nat.le_refl _⟩)⟩
theorem splice_ins (cur:Array Value) (xs ys:List Value) (i n cap:Nat) (hc:cur.size=cap*5) (hx:cur.toList.take (n*5)=xs) (hyl:ys.length=5) (hi:i<n) (hr:n+1≤cap):
 (splice (splice cur.toList ((i+1)*5) (xs.drop (i*5))) (i*5) ys).take ((n+1)*5)=xs.take (i*5)++(ys++xs.drop (i*5))∧(splice (splice cur.toList ((i+1)*5) (xs.drop (i*5))) (i*5) ys).length=cap*5:=by
 have hcl:cur.toList.length=cap*5:=by simpa using hc
 have hxl:xs.length=n*5:=by rw [←hx,List.length_take,hcl];omega
 have hdl:(xs.drop (i*5)).length=(n - i)*5:=by rw [List.length_drop,hxl];omega
 have h1:(splice cur.toList ((i+1)*5) (xs.drop (i*5))).length=cap*5:=by rw [length_splice _ _ _ (by rw [hdl,hcl];omega),hcl]
 refine ⟨?_,by rw [length_splice _ _ _ (by rw [hyl,h1];omega),h1]⟩
 have e1:splice cur.toList ((i+1)*5) (xs.drop (i*5))=cur.toList.take ((i+1)*5)++(xs.drop (i*5)++cur.toList.drop ((n+1)*5)):=by
  unfold splice;rw [hdl];congr 3;omega
 have e2:(cur.toList.take ((i+1)*5)++(xs.drop (i*5)++cur.toList.drop ((n+1)*5))).take (i*5)=xs.take (i*5):=by
  rw [List.take_append_of_le_length (by rw [List.length_take];omega),List.take_take,←hx,List.take_take]
  congr 1;omega
 have e3:(cur.toList.take ((i+1)*5)++(xs.drop (i*5)++cur.toList.drop ((n+1)*5))).drop (i*5+ys.length)=xs.drop (i*5)++cur.toList.drop ((n+1)*5):=by
  have:(cur.toList.take ((i+1)*5)).length=i*5+ys.length:=by rw [List.length_take];omega
  exact List.drop_left' this
 rw [e1]
 unfold splice
 rw [e2,e3,←List.append_assoc,←List.append_assoc,List.append_assoc (xs.take (i*5)) ys,List.take_append_of_le_length (by simp only [List.length_append,List.length_take,hdl,hyl];omega),List.take_of_length_le (by simp only [List.length_append,List.length_take,hdl,hyl];omega)]
theorem ins_mid (N n i g cap vb:Nat) (xs ys:List Value) (w:World) (hown:w.ownsRow N 120 5 (.slice (some ⟨g,0,none⟩) n cap) n xs) (hyl:ys.length=5) (hvb:Blk w vb ys.toArray 120) (h1:∀u∈ys,u.oneCell' =true) (h1x:∀u∈xs,u.oneCell' =true)
 (hn:n≤1000) (hi:i<n) (hne:vb≠g) (hr:n+1≤cap):
 Calls Tryz.prog 77 #[.slice (some ⟨g,0,none⟩) n cap, .int .i64 i, .slice (some ⟨vb,0,none⟩) 1 1] w (InsPost N n (.slice (some ⟨g,0,none⟩) n cap) (xs.take (i*5)++(ys++xs.drop (i*5))) w):=by
 obtain ⟨-, -,hxl,hNg,hnc,hcm,cur,hB,hcs,hct⟩:=owns_parts hown
 have hsz:(Tryz.prog.info? 120).map (·.size)=some 5:=by
  obtain ⟨i0,hi,hz0,hz1,hz2⟩:=info_parts Tryz.infoRel
  rw [hi];simp [hz1]
 have hcap:cap≤9223372036854775807:=by unfold maxLen at hcm;omega
 have hov:∀lb cb W o,Blk W g cur 120→Blk W vb ys.toArray 120→(callFunc 105 #[.slice (some ⟨vb,0,none⟩) 1 1, .slice (some ⟨g,o,none⟩) lb cb]).run Tryz.prog W= .ok (.value (.bool false)) W:=fun lb cb W o q1 q2=>by
  rw [run_callFunc_extern Tryz.func105 (by kernel_rfl) (by kernel_rfl) (by kernel_rfl) (e:=Extern.SlicesOverlaps.overlaps #[82,82] #[4]) (by kernel_rfl),
   Lib.run_overlaps_apart W 82 4 120 Tryz.underlying82 5 (fun w=>by obtain ⟨i0,hi,hz0,hz1,hz2⟩:=info_parts Tryz.infoRel;simp [sizeOf,typeInfo,hi,hz1]) ⟨vb,0,none⟩ ⟨g,o,none⟩ 1 1 lb cb hne 120 120 ys.toArray.size cur.size (by unfold World.shape?;rw [show W.heap[vb]? =_ from q2]) (by unfold World.shape?;rw [show W.heap[g]? =_ from q1]) (by omega) (q2.frozen _) (q2.frozen _)]
  rfl
 have hz1: ¬ ((1:Int)=0):=by omega
 have hz2:((i:Int)==(n:Int))=false:=by simp;omega
 have hw1:IntKind.i64.wrap ((i:Int)+1)=(i:Int)+1:=by rw [IntKind.wrap_i64];omega
 have hw2:IntKind.i64.wrap ((n:Int)+1)=(n:Int)+1:=by rw [IntKind.wrap_i64];omega
 have hin:i≤n:=by omega
 have htn:((i:Int)+1).toNat=i+1:=by omega
 have htn2:((n:Int)+1).toNat=n+1:=by omega
 have hb1:(0:Int)≤(i:Int)+1:=by omega
 have hb3:(i:Int)≤(n:Int)+1:=by omega
 have hb5:(0:Int)≤(n:Int)+1:=by omega
 have hb2: ¬ (cap=i+1):=by omega
 have hb4: ¬ (cap=i):=by omega
 have HB:=Hm hB
 have HV:=Hm hvb
 have HOV:=Hm hov
 clear hB hvb hov hown
 have mixed:Tryz.prog.follows .mixedOrders=true:=by kernel_rfl
 have hcl:cur.toList.length=cap*5:=by simpa using hcs
 have hdl:(xs.drop (i*5)).length=(n - i)*5:=by rw [List.length_drop,hxl];omega
 have HCP1:Hid (∀ty dc sc,(Builtin.copy_ #[82,82] ty #[.slice (some ⟨g,(i+1)*5,none⟩) (n - i) dc, .slice (some ⟨g,i*5,none⟩) (n+1 - i) sc]).run Tryz.prog w.drew= .ok (goInt ((n - i:Nat):Int)) (w.drew.setRow g (splice cur.toList ((i+1)*5) (xs.drop (i*5))).toArray)):=Hm (fun ty dc sc=>
  run_copy_rowK w.drew 82 82 ty 120 5 g ((i+1)*5) (n - i) dc ⟨g,i*5,none⟩ (n+1 - i) sc (n - i) cur 120 (xs.drop (i*5)) Tryz.underlying82 hsz HB.out.drew (by simp only [Nat.min_def];split<;>omega) hdl
   (fun j v hj=>by
    rw [Addr.add_lit]
    rw [List.getElem?_drop,←hct,List.getElem?_take] at hj
    split at hj
    ·rw [HB.out.drew.cell];simpa using hj
    ·cases hj)
   (by rw [hdl,hcs];omega) (fun v hv=>h1x v (List.mem_of_mem_drop hv)))
 go_enter Tryz.func77,Tryz.ntmps77
 go_upto_region 15 with (simp only [HOV.out _ _ _ _ HB.out HV.out])
 go_region_law_o (refine step_copy_runI rfl _ _ 82 82 rfl _ _ (by simp [Act.eval,Act.put]) (by simp [Act.eval,Act.put]) (HCP1.out _ (cap - (i+1)) (cap - i)) ?_)
 obtain ⟨W1,hW1⟩:∃W1,W1=w.drew.setRow g (splice cur.toList ((i+1)*5) (xs.drop (i*5))).toArray:=⟨_,rfl⟩
 rw [←hW1]
 obtain ⟨hsp1,hsp2⟩:=splice_ins cur xs ys i n cap hcs hct hyl hi hr
 have hl1:(splice cur.toList ((i+1)*5) (xs.drop (i*5))).length=cap*5:=by rw [length_splice _ _ _ (by rw [hdl,hcl];omega),hcl]
 have hl1s:(splice cur.toList ((i+1)*5) (xs.drop (i*5))).toArray.size=cap*5:=by simpa using hl1
 have hB1:Blk W1 g (splice cur.toList ((i+1)*5) (xs.drop (i*5))).toArray 120:=by rw [hW1];exact setRow_heap w.drew g _ _ _ _ HB.out.drew
 have hV1:Blk W1 vb ys.toArray 120:=by rw [hW1];exact (setRow_other w.drew g vb _ hne).trans HV.out.drew
 have HK1:Hid (w.grownBy W1 (some g)):=Hm ⟨by rw [hW1];rfl,by rw [hW1];rfl,by rw [hW1];rfl,by rw [hW1];simp,fun k hk hkg=>by rw [hW1];exact setRow_other w.drew g k _ (fun e=>hkg (by rw [e]))⟩
 have HCP2:Hid (∀ty dc,(Builtin.copy_ #[82,82] ty #[.slice (some ⟨g,i*5,none⟩) (n+1 - i) dc, .slice (some ⟨vb,0,none⟩) 1 1]).run Tryz.prog W1= .ok (goInt ((1:Nat):Int)) (W1.setRow g (splice (splice cur.toList ((i+1)*5) (xs.drop (i*5))) (i*5) ys).toArray)):=Hm (fun ty dc=>
  run_copy_rowK W1 82 82 ty 120 5 g (i*5) (n+1 - i) dc ⟨vb,0,none⟩ 1 1 1 (splice cur.toList ((i+1)*5) (xs.drop (i*5))).toArray 120 ys Tryz.underlying82 hsz hB1 (by simp only [Nat.min_def];split<;>omega) (by rw [hyl])
   (fun j v hj=>by rw [Addr.add_lit,hV1.cell];simpa using hj) (by rw [hl1s,hyl];omega) h1)
 obtain ⟨L2,hL2⟩:∃L2,L2=splice (splice cur.toList ((i+1)*5) (xs.drop (i*5))) (i*5) ys:=⟨_,rfl⟩
 rw [←hL2] at hsp1 hsp2 HCP2
 have HS1:=Hm hsp1
 have HS2:=Hm hsp2
 have HB1:=Hm hB1
 clear hW1 hB1 hV1 hsp1 hsp2 HCP1 hl1 hL2
 obtain ⟨W2,hW2⟩:∃W2,W2=W1.setRow g L2.toArray:=⟨_,rfl⟩
 have hcp2:=HCP2.out 3 (cap - i)
 rw [←hW2] at hcp2
 have HB2:Hid (Blk W2 g L2.toArray 120):=Hm (by rw [hW2];exact setRow_heap W1 g _ _ _ _ HB1.out)
 have HK2:Hid (w.grownBy W2 (some g)):=Hm ⟨by rw [hW2];exact HK1.out.os,by rw [hW2];exact HK1.out.tape,by rw [hW2];exact HK1.out.output,by rw [hW2];simp;exact HK1.out.size,fun k hk hkg=>by rw [hW2,setRow_other W1 g k _ (fun e=>hkg (by rw [e]))];exact HK1.out.block k hk hkg⟩
 clear hW2 HCP2
 go_wp2
 go_ret
 refine ⟨_,rfl,⟨?_, .inr ⟨g,cap,L2.toArray,rfl,hNg,HB2.out,hr,hcm,by simpa using HS2.out,by simpa using HS1.out⟩⟩,HK2.out, .inl rfl⟩
 rw [List.length_append,List.length_append,List.length_take,List.length_drop,hxl,hyl];omega
theorem splice_new (R xs ys:List Value) (i n G:Nat) (hR:R.length=G*5) (hx:R.take (i*5)=xs.take (i*5)) (hxl:xs.length=n*5) (hyl:ys.length=5) (hi:i<n) (hr:n+1≤G):
 (splice (splice R (i*5) ys) ((i+1)*5) (xs.drop (i*5))).take ((n+1)*5)=xs.take (i*5)++(ys++xs.drop (i*5))∧(splice (splice R (i*5) ys) ((i+1)*5) (xs.drop (i*5))).length=G*5∧(splice R (i*5) ys).length=G*5:=by
 have hdl:(xs.drop (i*5)).length=(n - i)*5:=by rw [List.length_drop,hxl];omega
 have h1:(splice R (i*5) ys).length=G*5:=by rw [length_splice _ _ _ (by rw [hyl,hR];omega),hR]
 refine ⟨?_,by rw [length_splice _ _ _ (by rw [hdl,h1];omega),h1],h1⟩
 have e1:(splice R (i*5) ys).take ((i+1)*5)=xs.take (i*5)++ys:=by
  unfold splice
  rw [hx,←List.append_assoc]
  have:(xs.take (i*5)++ys).length=(i+1)*5:=by rw [List.length_append,List.length_take,hyl];omega
  exact List.take_left' this
 unfold splice at e1⊢
 rw [e1,←List.append_assoc,List.take_append_of_le_length (by simp only [List.length_append,List.length_take,hdl,hyl];omega),List.take_of_length_le (by simp only [List.length_append,List.length_take,hdl,hyl];omega),List.append_assoc]
theorem ins_grow (N n i g cap vb:Nat) (xs ys:List Value) (w:World) (hown:w.ownsRow N 120 5 (.slice (some ⟨g,0,none⟩) n cap) n xs) (hyl:ys.length=5) (hvb:Blk w vb ys.toArray 120) (h1:∀u∈ys,u.oneCell' =true) (h1x:∀u∈xs,u.oneCell' =true)
 (hn:n≤1000) (hi:i<n) (hr:cap<n+1) (hN:N≤w.heap.size):
 Calls Tryz.prog 77 #[.slice (some ⟨g,0,none⟩) n cap, .int .i64 i, .slice (some ⟨vb,0,none⟩) 1 1] w (InsPost N n (.slice (some ⟨g,0,none⟩) n cap) (xs.take (i*5)++(ys++xs.drop (i*5))) w):=by
 obtain ⟨-, -,hxl,hNg,hnc,hcm,cur,hB,hcs,hct⟩:=owns_parts hown
 obtain ⟨i0,hi0,hz0,hzs,hzb⟩:=info_parts Tryz.infoRel
 have hsz:(Tryz.prog.info? 120).map (·.size)=some 5:=by rw [hi0];simp [hzs]
 have hcn:cap=n:=by omega
 subst hcn
 have hbw:=hB.lt
 have hvw:=hvb.lt
 have hz1: ¬ ((1:Int)=0):=by omega
 have hz2:((i:Int)==(cap:Int))=false:=by simp;omega
 have hw1:IntKind.i64.wrap ((i:Int)+1)=(i:Int)+1:=by rw [IntKind.wrap_i64];omega
 have hw2:IntKind.i64.wrap ((cap:Int)+1)=(cap:Int)+1:=by rw [IntKind.wrap_i64];omega
 have hw3:IntKind.i64.wrap ((cap:Int)+1 - (i:Int))=((cap+1 - i:Nat):Int):=by rw [IntKind.wrap_i64];omega
 have hin:i≤cap:=by omega
 have htn:((i:Int)+1).toNat=i+1:=by omega
 have hb1:(0:Int)≤(i:Int)+1:=by omega
 have hb3:(i:Int)≤(cap:Int)+1:=by omega
 have hb4: ¬ (cap=i):=by omega
 have hik:i+(cap+1 - i)=cap+1:=by omega
 have mixed:Tryz.prog.follows .mixedOrders=true:=by kernel_rfl
 have hold:(Builtin.firstCells i0.size i (.slice (some ⟨g,0,none⟩) i cap)).run Tryz.prog w.drew= .ok (xs.take (i*5)).toArray w.drew:=by
  rw [hzs]
  exact run_firstCells_some w.drew 5 i ⟨g,0,none⟩ i cap (xs.take (i*5)) (by rw [List.length_take];omega) (fun j v hj=>by
   rw [Addr.add_lit,hB.drew.cell]
   rw [List.getElem?_take] at hj
   split at hj
   ·rw [←hct,List.getElem?_take] at hj
    split at hj
    ·simpa using hj
    ·cases hj
   ·cases hj)
 have hrz:∀ty,(Builtin.append_ #[82,3] ty #[.slice (some ⟨g,0,none⟩) i cap, .int .i64 ((cap+1 - i:Nat):Int)]).run Tryz.prog w=
  .ok (.slice (some ⟨w.heap.size,0,none⟩) (cap+1) (grownCap w (cap+1) cap 120)) _:=fun ty=>by
  have h:=Lib.run_append_grow_zeros w 82 3 ty 120 i0 _ .i64 .i64 Tryz.underlying82 Tryz.underlying3 hi0 hz0 (some ⟨g,0,none⟩) i cap (xs.take (i*5)) hold (cap+1 - i) (by omega) (by omega) (by omega) (by omega) (by rw [hzb];omega) (by rw [hzb,hik];exact growslice_fits hr (by omega))
  rw [hik] at h
  exact h
 obtain ⟨G,hG⟩:∃G,G=grownCap w (cap+1) cap 120:=⟨_,rfl⟩
 have hG1:cap+1≤G:=by rw [hG];exact grownCap_ge _ _ _ _
 have hG2:G≤maxLen:=by rw [hG];exact grownCap_le_maxLen _ _ _ _ (by unfold maxLen;omega)
 have hG63:G≤9223372036854775807:=by unfold maxLen at hG2;omega
 rw [←hG] at hrz
 obtain ⟨ROW,hROW⟩:∃ROW:Array Value,ROW=(xs.take (i*5)).toArray++Builtin.zeroCells (Value.agg #[.int .u32 0, .int .u32 0, .string ByteArray.empty, .int .u8 0, .slice none 0 0]).cells (cap+1 - i)++Builtin.zeroCells (Value.agg #[.int .u32 0, .int .u32 0, .string ByteArray.empty, .int .u8 0, .slice none 0 0]).cells (G - (cap+1)):=⟨_,rfl⟩
 rw [←hROW] at hrz
 have hRl:ROW.toList.length=G*5:=by
  rw [hROW]
  simp [Builtin.zeroCells,Value.cells]
  omega
 have hRt:ROW.toList.take (i*5)=xs.take (i*5):=by
  rw [hROW]
  have e:(xs.take (i*5)).length=i*5:=by rw [List.length_take];omega
  simp only [Array.toList_append,List.append_assoc]
  exact List.take_left' e
 obtain ⟨hsp1,hsp2,hsp3⟩:=splice_new ROW.toList xs ys i cap G hRl hRt hxl hyl hi hG1
 obtain ⟨W1,hW1⟩:∃W1,W1=w.drew.alloc (.cells ROW 120):=⟨_,rfl⟩
 rw [←hW1] at hrz
 have hB1:Blk W1 w.heap.size ROW 120:=by rw [hW1];exact Blk.new' _ _ rfl
 have hV1:Blk W1 vb ys.toArray 120:=by rw [hW1];exact hvb.drew.alloc _
 have hG1B:Blk W1 g cur 120:=by rw [hW1];exact hB.drew.alloc _
 have HX1:Hid (Ext w W1):=Hm (by rw [hW1];exact eX)
 obtain ⟨L1,hL1⟩:∃L1,L1=splice ROW.toList (i*5) ys:=⟨_,rfl⟩
 obtain ⟨L2,hL2⟩:∃L2,L2=splice (splice ROW.toList (i*5) ys) ((i+1)*5) (xs.drop (i*5)):=⟨_,rfl⟩
 rw [←hL2] at hsp1 hsp2
 rw [←hL1] at hsp3 hL2
 obtain ⟨W2,hW2⟩:∃W2,W2=W1.setRow w.heap.size L1.toArray:=⟨_,rfl⟩
 have hcpA:(Builtin.copy_ #[82,82] 3 #[.slice (some ⟨w.heap.size,i*5,none⟩) (cap+1 - i) (G - i), .slice (some ⟨vb,0,none⟩) 1 1]).run Tryz.prog W1= .ok (goInt ((1:Nat):Int)) W2:=by
  rw [hW2,hL1]
  exact run_copy_rowK W1 82 82 _ 120 5 w.heap.size (i*5) (cap+1 - i) _ ⟨vb,0,none⟩ 1 1 1 ROW 120 ys Tryz.underlying82 hsz hB1 (by simp only [Nat.min_def];split<;>omega) (by rw [hyl])
   (fun j v hj=>by rw [Addr.add_lit,hV1.cell];simpa using hj) (by have h9:ROW.size=G*5:=(by simpa using hRl);rw [hyl];omega) h1
 have hB2:Blk W2 w.heap.size L1.toArray 120:=by rw [hW2];exact setRow_heap W1 w.heap.size _ _ _ _ hB1
 have hG2B:Blk W2 g cur 120:=by rw [hW2];exact (setRow_other W1 w.heap.size g _ (by omega)).trans hG1B
 have HX2:Hid (Ext w W2):=Hm (by rw [hW2];exact below_setRow HX1.out (Nat.le_refl _) _)
 obtain ⟨W3,hW3⟩:∃W3,W3=W2.drew.setRow w.heap.size L2.toArray:=⟨_,rfl⟩
 have hdl:(xs.drop (i*5)).length=(cap - i)*5:=by rw [List.length_drop,hxl];omega
 have HCPB:Hid ((Builtin.copy_ #[82,82] 3 #[.slice (some ⟨w.heap.size,(i+1)*5,none⟩) (cap - i) (G - (i+1)), .slice (some ⟨g,i*5,none⟩) (cap - i) (cap - i)]).run Tryz.prog W2.drew= .ok (goInt ((cap - i:Nat):Int)) W3):=Hm (by
  rw [hW3,hL2]
  exact run_copy_rowK W2.drew 82 82 _ 120 5 w.heap.size ((i+1)*5) (cap - i) _ ⟨g,i*5,none⟩ (cap - i) _ (cap - i) L1.toArray 120 (xs.drop (i*5)) Tryz.underlying82 hsz hB2.drew (by simp only [Nat.min_def];split<;>omega) hdl
   (fun j v hj=>by
    rw [Addr.add_lit]
    rw [List.getElem?_drop,←hct,List.getElem?_take] at hj
    split at hj
    ·rw [hG2B.drew.cell];simpa using hj
    ·cases hj)
   (by
    rw [hdl];have:L1.toArray.size=G*5:=by simpa using hsp3
    omega) (fun v hv=>h1x v (List.mem_of_mem_drop hv)))
 have hB3:Blk W3 w.heap.size L2.toArray 120:=by rw [hW3];exact setRow_heap W2.drew w.heap.size _ _ _ _ hB2.drew
 have HX3:Hid (Ext w W3):=Hm (by rw [hW3];exact below_setRow HX2.out.drew (Nat.le_refl _) _)
 have HR:Hid (w.grownBy W3 (some g)):=Hm ⟨HX3.out.os,HX3.out.tape,HX3.out.output,HX3.out.size,fun k hk _=>HX3.out.block k hk⟩
 have HB3:=Hm hB3
 have HS1:=Hm hsp1
 have HS2:=Hm hsp2
 have HRZ:=Hm hrz
 have HCPA:=Hm hcpA
 have hGi: ¬ (G=i):=by omega
 have hGim: ¬ (G=i+1):=by omega
 clear hrz hW1 hW2 hW3 hL1 hL2 hROW hRl hRt hsp1 hsp2 hsp3 hB1 hB2 hB3 hV1 hG1B hG2B hold hvb hB hG hown hct hcs hcpA hik hi0 hz0 hzs hzb
 go_enter Tryz.func77,Tryz.ntmps77
 go_upto_region 10 with (at_builtin;refine Lib.wpList_append_run _ rfl _ _ _ _ rfl _ _ rfl rfl _ _ (HRZ.out _) ?_)
 have hcpA:=HCPA.out
 go_upto_region 11 with (fail)
 clear hcpA
 go_region_law_o (refine step_copy_runI rfl _ _ 82 82 rfl (.slice (some ⟨w.heap.size,(i+1)*5,none⟩) (cap - i) (G - (i+1))) (.slice (some ⟨g,i*5,none⟩) (cap - i) (cap - i)) (by simp [Act.eval,Act.put]) (by simp [Act.eval,Act.put]) HCPB.out ?_)
 go_wp2
 go_ret
 refine ⟨_,rfl,⟨?_, .inr ⟨w.heap.size,G,L2.toArray,rfl,hN,HB3.out,hG1,hG2,by simpa using HS2.out,by simpa using HS1.out⟩⟩,HR.out, .inr ⟨_,rfl,Nat.le_refl _⟩⟩
 rw [List.length_append,List.length_append,List.length_take,List.length_drop,hxl,hyl];omega
theorem ins_any (N n i cap vb:Nat) (a:Option Addr) (xs ys:List Value) (w:World) (hown:w.ownsRow N 120 5 (.slice a n cap) n xs) (hyl:ys.length=5) (hvb:Blk w vb ys.toArray 120) (h1:∀u∈ys,u.oneCell' =true) (h1x:∀u∈xs,u.oneCell' =true)
 (hn:n≤1000) (hi:i≤n) (hne:(Value.slice a n cap).ownBlock≠some vb) (hN:N≤w.heap.size):
 Calls Tryz.prog 77 #[.slice a n cap, .int .i64 i, .slice (some ⟨vb,0,none⟩) 1 1] w (InsPost N n (.slice a n cap) (xs.take (i*5)++(ys++xs.drop (i*5))) w):=by
 have hy:∀j u,ys[j]? =some u→w.cell? ((⟨vb,0,none⟩:Addr).add j)=some u:=fun j u hj=>by
  have e:(⟨vb,0,none⟩:Addr).add j=⟨vb,j,none⟩:=by rw [Addr.add_lit,Nat.zero_add]
  rw [e,hvb.cell]
  simpa using hj
 have hxl:xs.length=n*5:=hown.1
 rcases Nat.eq_or_lt_of_le hi with e|hlt
 ·subst e
  have:=ins_end N i a cap vb xs ys w hown hyl hy h1 hn hN
  rw [List.take_of_length_le (by omega),List.drop_eq_nil_of_le (by omega),List.append_nil]
  exact this
 ·rcases hown.2 with ⟨-,h0⟩|⟨g,cap',cur,hv,hrest⟩
  ·omega
  ·simp only [Value.slice.injEq] at hv
   obtain ⟨rfl, -,rfl⟩:=hv
   by_cases hr:n+1≤cap
   ·exact ins_mid N n i g cap vb xs ys w hown hyl hvb h1 h1x hn hlt (fun e=>hne (by rw [e];rfl)) hr
   ·exact ins_grow N n i g cap vb xs ys w hown hyl hvb h1 h1x hn hlt (by omega) hN
end Go.Proofs.YtodbhliidbclcaaGreat
namespace Go.Proofs.YtodbhliidbclcaaGreat
open Go.RowKit
theorem Tryz.infoRRel:(Tryz.prog.info? 77).map (fun i=>(i.zero,i.size,i.bytes))=some (some (.agg #[.int .u32 0, .int .u32 0, .string ByteArray.empty, .int .u8 0, .slice none 0 0]),5,56):=by kernel_rfl
def addP (ps:List RR) (q:RR):List RR:=if addE (ps.map RR.r) q.r=0 then insP ps q else ps
theorem addP_r (ps:List RR) (q:RR):(addP ps q).map RR.r=addL (ps.map RR.r) q.r:=by
 unfold addP addL
 split
 ·exact insP_r ps q
 ·rfl
theorem addP_mem {ps:List RR} {q x:RR} (h:x∈addP ps q):x=q∨x∈ps:=by
 unfold addP at h
 split at h
 ·exact insP_mem h
 ·exact .inr h
def RAddPost (ps:List RR) (a:Option Addr) (q:RR) (w:World) (e:Ending) (w' :World):Prop:=
 ∃a' c',e= .returned (.tuple #[.slice a' (addP ps q).length c', .int .i64 (addE (ps.map RR.r) q.r)])∧RL w' (.slice a' (addP ps q).length c') (addP ps q)∧(∀b o,a' =some ⟨b,o,none⟩→(addE (ps.map RR.r) q.r≠0∧a' =a)∨w.heap.size≤b)∧Ext w w'
theorem RAddPost.keep {ps:List RR} {a:Option Addr} {cap:Nat} {q:RR} {w w' :World} {E:Int} (h:addE (ps.map RR.r) q.r=E) (h0:E≠0) (hl:RL w (.slice a ps.length cap) ps) (he:Ext w w'):RAddPost ps a q w (.returned (.tuple #[.slice a ps.length cap, .int .i64 E])) w' :=by
 have e:addP ps q=ps:=by unfold addP;rw [h,if_neg h0]
 exact ⟨a,cap,by rw [e,h],by rw [e];exact hl.ext he,fun b o _=> .inl ⟨by rw [h];exact h0,rfl⟩,he⟩
theorem RAddPost.more {ps:List RR} {a a' :Option Addr} {c' :Nat} {q:RR} {w w' :World} (h:addE (ps.map RR.r) q.r=0) (hl:RL w' (.slice a' (insP ps q).length c') (insP ps q)) (hb:∀b o,a' =some ⟨b,o,none⟩→w.heap.size≤b) (he:Ext w w'):RAddPost ps a q w (.returned (.tuple #[.slice a' (insP ps q).length c', .int .i64 0])) w' :=by
 have e:addP ps q=insP ps q:=by unfold addP;rw [if_pos h]
 exact ⟨a',c',by rw [e,h],by rw [e];exact hl,fun b o h=> .inr (hb b o h),he⟩
theorem radd_any (ps:List RR) (a:Option Addr) (cap:Nat) (q:RR) (w:World) (hl:RL w (.slice a ps.length cap) ps) (hq:q.in w) (hb:q.r.wb) (hlen:ps.length≤1000):
 Calls Tryz.prog 44 #[.slice a ps.length cap,q.agg] w (RAddPost ps a q w):=by
 obtain ⟨i0,hi,hz0,hz1,hz2⟩:=info_parts Tryz.infoRRel
 obtain ⟨⟨oid,ver,nm,id,cols⟩,a2,c2⟩:=q
 unfold RR.agg
 unfold RR.in at hq
 obtain ⟨hb1,hb2,hb3⟩:=hb
 simp only at hq hb1 hb2 hb3⊢
 have HR8:=Hm (fun W (h:Ext w W)=>rright8_big oid ver nm id cols a2 c2 W (hq.ext h) (by omega) hb1 hb2)
 have HGT:=Hm (fun W (h:Ext w W)=>rget_any ps a cap oid ver W (hl.ext h) hlen)
 have HL:=Hm hl
 have HQ:=Hm hq
 have HAE:Hid (addE (ps.map RR.r) (⟨oid,ver,nm,id,cols⟩:Rl)=if (⟨oid,ver,nm,id,cols⟩:Rl).right≠0 then (⟨oid,ver,nm,id,cols⟩:Rl).right else if hasR oid ver (ps.map RR.r)=true then 9 else if 64≤(ps.map RR.r).length then 8 else 0):=Hm rfl
 rw [getP_is] at HGT
 obtain ⟨⟨⟨o1,v1,n1,i1,k1⟩,x1,y1⟩,hz⟩:∃z,z=(getP oid ver ps).getD RR.zero:=⟨_,rfl⟩
 rw [←hz] at HGT
 unfold RR.agg at HGT
 simp only at HGT
 clear hl hq hb1 hb2 hz
 obtain ⟨E,hE⟩:∃E,E=Rl.right (⟨oid,ver,nm,id,cols⟩:Rl):=⟨_,rfl⟩
 rw [←hE] at HR8 HAE
 by_cases h0:E=0
 case neg=>
  have h0' :(E !=0)=true:=by simpa using h0
  have HA:=Hm (HAE.out.trans (if_pos h0))
  have H0:=Hm h0
  clear h0 hE HAE
  go_enter Tryz.func44,Tryz.ntmps44
  go_wp2_with (go_at_call 57;refine (HR8.out _ (by exact eX)).mono ?_;rintro e w1 ⟨rfl,hb1⟩;have hE1:Ext w w1:=(by exact eX))
  go_ret2
  exact RAddPost.keep HA.out H0.out HL.out hE1
 subst h0
 have HAE2:=Hm (HAE.out.trans (if_neg (by simp)))
 clear HAE hE
 cases hh:hasR oid ver (ps.map RR.r) with
 |true=>
  rw [hh] at HGT HAE2
  have HA:=Hm (HAE2.out.trans (if_pos rfl))
  clear hh HAE2
  go_enter Tryz.func44,Tryz.ntmps44
  go_wp2_with (first
   |(go_at_call 57;refine (HR8.out _ (by exact eX)).mono ?_;rintro e w1 ⟨rfl,hb1⟩;have hE1:Ext w w1:=(by exact eX);have g0:=((Blk.new w #[.int .u32 oid, .int .u32 ver, .string nm, .int .u8 id, .slice a2 cols.length c2] 77).ext hb1).cell)
   |(go_at_call 29;refine (HGT.out _ (by exact eX)).mono ?_;rintro e w2 ⟨rfl,hb2⟩;have hE2:Ext w w2:=(by exact eX)))
  go_ret2
  exact RAddPost.keep HA.out (by decide) HL.out (by exact eX)
 |false=>
  rw [hh] at HGT HAE2
  have HHH:=Hm hh
  have HAE3:=Hm (HAE2.out.trans (if_neg (by simp)))
  rw [List.length_map] at HAE3
  clear hh HAE2
  by_cases h64:64≤ps.length
  ·have HA:=Hm (HAE3.out.trans (if_pos h64))
   clear HAE3
   go_enter Tryz.func44,Tryz.ntmps44
   go_wp2_with (first
    |(go_at_call 57;refine (HR8.out _ (by exact eX)).mono ?_;rintro e w1 ⟨rfl,hb1⟩;have hE1:Ext w w1:=(by exact eX);have g0:=((Blk.new w #[.int .u32 oid, .int .u32 ver, .string nm, .int .u8 id, .slice a2 cols.length c2] 77).ext hb1).cell)
    |(go_at_call 29;refine (HGT.out _ (by exact eX)).mono ?_;rintro e w2 ⟨rfl,hb2⟩;have hE2:Ext w w2:=(by exact eX)))
   go_ret2
   exact RAddPost.keep HA.out (by decide) HL.out (by exact eX)
  ·have HA:=Hm (HAE3.out.trans (if_neg h64))
   have h64' :ps.length<64:=by omega
   clear HAE3 h64
   have HPQ:Hid (addP ps (⟨⟨oid,ver,nm,id,cols⟩,a2,c2⟩:RR)=insP ps (⟨⟨oid,ver,nm,id,cols⟩,a2,c2⟩:RR)):=Hm (by unfold addP;rw [if_pos HA.out])
   obtain ⟨P,hP⟩:∃P,P=posR oid ver (ps.map RR.r):=⟨_,rfl⟩
   have HPP:=Hm hP
   have hPn:P≤ps.length:=by have:=posR_le oid ver (ps.map RR.r);rw [List.length_map] at this;omega
   clear hP
   go_enter Tryz.func44,Tryz.ntmps44
   go_wp2_with (first
    |(go_at_call 57;refine (HR8.out _ (by exact eX)).mono ?_;rintro e w1 ⟨rfl,hb1⟩;have hE1:Ext (w.alloc (.cells #[.int .u32 oid, .int .u32 ver, .string nm, .int .u8 id, .slice a2 cols.length c2] 77)) w1:=(by exact eX);have g0:=((Blk.new w #[.int .u32 oid, .int .u32 ver, .string nm, .int .u8 id, .slice a2 cols.length c2] 77).ext hb1).cell)
    |(go_at_call 29;refine (HGT.out _ (by exact eX)).mono ?_;rintro e w2 ⟨rfl,hb2⟩;have hE2:Ext (w.alloc (.cells #[.int .u32 oid, .int .u32 ver, .string nm, .int .u8 id, .slice a2 cols.length c2] 77)) w2:=(by exact eX)))
   have HE2:=Hm hE2
   clear g0 hb1 hb2 hE1 hE2
   go_loopw [9,10,11] (fun v pb i wr=>∃k:Nat,k≤ps.length∧i= .int .i64 k∧pb= .bool (decide (P<k))∧Hid (wr.ownsRow (w.heap.size+1) 77 5 v (outs ps (⟨⟨oid,ver,nm,id,cols⟩,a2,c2⟩:RR) k).length ((outs ps (⟨⟨oid,ver,nm,id,cols⟩,a2,c2⟩:RR) k).map RR.cells).flatten)∧Hid (Ext (w.alloc (.cells #[.int .u32 oid, .int .u32 ver, .string nm, .int .u8 id, .slice a2 cols.length c2] 77)) wr)) (fun _ _ i _=>ps.length - (intOf i).toNat)
   case atStart=>exact ⟨0,Nat.zero_le _,rfl,by rw [decide_eq_false (Nat.not_lt_zero _)],Hm (by rw [outs_zero];exact World.ownsRow_nil _ _ _ _),Hm (by have hE2:=HE2.out;exact eX)⟩
   case round=>
    obtain ⟨k,hk,rfl,rfl,hown,hE⟩:=hrel
    have HEW:=Hm (((Ext.refl w).alloc (.cells #[.int .u32 oid, .int .u32 ver, .string nm, .int .u8 id, .slice a2 cols.length c2] 77)).trans hE.out)
    have HB0:=Hm ((Blk.new w #[.int .u32 oid, .int .u32 ver, .string nm, .int .u8 id, .slice a2 cols.length c2] 77).ext hE.out)
    have g0:=HB0.out.cell
    have z0:=HB0.out.lt
    by_cases hlt:k<ps.length
    ·obtain ⟨b,o,rfl,hb,hx⟩:=HL.out.row.at_ (i:=k) (by simpa using hlt)
     have HF:=Hm (fun W (h:Ext w W)=>RR.at_ hlt hx hb h)
     obtain ⟨f0,f1,f2,f3,f4⟩:=HF.out _ HEW.out
     have hbw:b<wr.heap.size:=Nat.lt_of_lt_of_le hb HEW.out.size
     have HLT:Hid (k<P→aheadP ps[k].r.oid ps[k].r.ver oid ver):=Hm (fun h=>by have:=posR_lt oid ver (ps.map RR.r) k (by simpa using hlt) (by rw [←HPP.out];exact h);rwa [List.getElem_map] at this)
     have HEQ:Hid (k=P→¬ aheadP ps[k].r.oid ps[k].r.ver oid ver):=Hm (fun h=>by
      subst h
      have hp:=HPP.out
      have:=posR_at oid ver (ps.map RR.r) (by rw [←hp];simpa using hlt)
      simp only [←hp,List.getElem_map] at this
      exact this)
     have HNE:Hid (¬ (ps[k].r.oid=oid∧ps[k].r.ver=ver)):=Hm (fun h=>by
      have:=hasR_at (o:=oid) (v:=ver) (l:=ps.map RR.r) (i:=k) (by simpa using hlt) (by rw [List.getElem_map];exact h)
      rw [HHH.out] at this;cases this)
     have HO1:=Hm (fun h=>outs_lt (ps:=ps) (q:=(⟨⟨oid,ver,nm,id,cols⟩,a2,c2⟩:RR)) hlt (HPP.out ▸ h))
     have HO2:=Hm (fun h=>outs_eq (ps:=ps) (q:=(⟨⟨oid,ver,nm,id,cols⟩,a2,c2⟩:RR)) hlt (HPP.out ▸ h))
     have HO3:=Hm (fun h=>outs_gt (ps:=ps) (q:=(⟨⟨oid,ver,nm,id,cols⟩,a2,c2⟩:RR)) hlt (HPP.out ▸ h))
     obtain ⟨p,hp⟩:∃p,p=ps[k]:=⟨_,rfl⟩
     rw [←hp] at f0 f1 f2 f3 f4 HF HLT HEQ HNE HO1 HO2 HO3
     have hol:(outs ps (⟨⟨oid,ver,nm,id,cols⟩,a2,c2⟩:RR) k).length≤100:=by unfold outs;split<;>rw [List.length_take]<;>omega
     clear hx hp
     have hcl:(RR.cells p).length=5:=rfl
     have hql:(RR.cells (⟨⟨oid,ver,nm,id,cols⟩,a2,c2⟩:RR)).length=5:=rfl
     rcases Nat.lt_trichotomy k P with hkP|hkP|hkP
     ·have hab:aheadB oid ver p.r.oid p.r.ver=false:=decide_eq_false (by have:=HLT.out hkP;unfold aheadP at*;omega)
      have HAH:=Hm (fun W=>rahead_any oid ver p.r.oid p.r.ver W)
      rw [hab] at HAH
      have HO:=Hm (HO1.out hkP)
      have hd:decide (P<k)=false:=decide_eq_false (by omega)
      have hd2:decide (P<k+1)=false:=decide_eq_false (by omega)
      rw [hd]
      clear hab HLT HEQ HNE HO1 HO2 HO3 hd
      go_wp2
      go_region_held3 (fun w' =>Ext (wr) w'∧(∀b o,b<(wr).heap.size→w'.cell? ⟨b,o,none⟩=(wr).cell? ⟨b,o,none⟩)∧(∀b o,b<(wr).heap.size→w'.frozen? ⟨b,o,none⟩=(wr).frozen? ⟨b,o,none⟩)) ((exact held_of (by exact eX))) (first|(go_at_call 74;refine (HAH.out _).mono ?_;rintro e w3 ⟨rfl,hb3⟩;have HE3:=Hm (show Ext wr w3 by exact eX)))
      clear hb3 g0
      have HO3:=Hm (owns_ext hown.out HE3.out)
      have HX3:Hid (Ext (w.alloc (.cells #[.int .u32 oid, .int .u32 ver, .string nm, .int .u8 id, .slice a2 cols.length c2] 77)) w3):=Hm (hE.out.trans HE3.out)
      go_wp2_with (at_builtin;refine wpList_append_own _ rfl _ _ 22 rfl (w.heap.size+1) 77 i0 _ 5 56 Tryz.underlying22 hi hz0 hz1 hz2 rfl (by decide) _ _ _ rfl ((owns_ext HO3.out (by exact eX))) ⟨_,0,none⟩ 1 1 p.cells rfl rfl (cells_new _ #[.int .u32 p.r.oid, .int .u32 p.r.ver, .string p.r.nm, .int .u8 p.r.id, .slice p.a p.r.cols.length p.c] _) (by intro u hu;simp [RR.cells] at hu;rcases hu with rfl|rfl|rfl|rfl|rfl<;>rfl) (by unfold maxLen;omega) (by omega) (by have:=HEW.out.size;have:=HE3.out.size;simp;omega) ?_)
      intro v' w4 hown' hgrow _
      have HX4:Hid (Ext (w.alloc (.cells #[.int .u32 oid, .int .u32 ver, .string nm, .int .u8 id, .slice a2 cols.length c2] 77)) w4):=Hm (Below.grown ((HX3.out).alloc _) hgrow (by have:=HX3.out.size;simp at this⊢;omega) (fun g hg=>by have:=(HO3.out.lt g hg).1;simp;omega))
      have HO4:=Hm hown'
      clear hown' hgrow
      go_wp2
      go_roundw
      case rel=>exact ⟨k+1,by omega,by go_num,by rw [hd2],Hm (by rw [HO.out,List.map_append,List.flatten_append,List.length_append];simpa using HO4.out),HX4⟩
      case measure=>simp [intOf];omega
     ·have hab:aheadB oid ver p.r.oid p.r.ver=true:=decide_eq_true (by have h1:=HEQ.out hkP;have h2:=HNE.out;unfold aheadP at*;omega)
      have HAH:=Hm (fun W=>rahead_any oid ver p.r.oid p.r.ver W)
      rw [hab] at HAH
      have HO:=Hm (HO2.out hkP)
      have hd:decide (P<k)=false:=decide_eq_false (by omega)
      have hd2:decide (P<k+1)=true:=decide_eq_true (by omega)
      rw [hd]
      subst hkP
      clear hab HLT HEQ HNE HO1 HO2 HO3 hd
      go_wp2
      go_region_held3 (fun w' =>Ext (wr) w'∧(∀b o,b<(wr).heap.size→w'.cell? ⟨b,o,none⟩=(wr).cell? ⟨b,o,none⟩)∧(∀b o,b<(wr).heap.size→w'.frozen? ⟨b,o,none⟩=(wr).frozen? ⟨b,o,none⟩)) ((exact held_of (by exact eX))) (first|(go_at_call 74;refine (HAH.out _).mono ?_;rintro e w3 ⟨rfl,hb3⟩;have HE3:=Hm (show Ext wr w3 by exact eX)))
      clear hb3
      have HO3:=Hm (owns_ext hown.out HE3.out)
      have HX3:Hid (Ext (w.alloc (.cells #[.int .u32 oid, .int .u32 ver, .string nm, .int .u8 id, .slice a2 cols.length c2] 77)) w3):=Hm (hE.out.trans HE3.out)
      have hbw3:b<w3.heap.size:=Nat.lt_of_lt_of_le hbw HE3.out.size
      go_wp2_with (at_builtin;refine wpList_append_own _ rfl _ _ 22 rfl (w.heap.size+1) 77 i0 _ 5 56 Tryz.underlying22 hi hz0 hz1 hz2 rfl (by decide) _ _ _ rfl ((owns_ext HO3.out (by exact eX))) ⟨_,0,none⟩ 1 1 (RR.cells (⟨⟨oid,ver,nm,id,cols⟩,a2,c2⟩:RR)) rfl rfl (cells_new _ #[.int .u32 oid, .int .u32 ver, .string nm, .int .u8 id, .slice a2 cols.length c2] _) (by intro u hu;simp [RR.cells] at hu;rcases hu with rfl|rfl|rfl|rfl|rfl<;>rfl) (by unfold maxLen;omega) (by omega) (by have:=HEW.out.size;have:=HE3.out.size;simp;omega) ?_)
      intro v' w4 hown' hgrow _
      have HX4:Hid (Ext (w.alloc (.cells #[.int .u32 oid, .int .u32 ver, .string nm, .int .u8 id, .slice a2 cols.length c2] 77)) w4):=Hm (Below.grown ((HX3.out).alloc _) hgrow (by have:=HX3.out.size;simp at this⊢;omega) (fun g hg=>by have:=(HO3.out.lt g hg).1;simp;omega))
      have HO4:=Hm hown'
      clear f0 f1 f2 f3 f4
      obtain ⟨f0,f1,f2,f3,f4⟩:=HF.out w4 (((Ext.refl w).alloc _).trans HX4.out)
      have hbw4:b<w4.heap.size:=Nat.lt_of_lt_of_le hb (((Ext.refl w).alloc (.cells #[.int .u32 oid, .int .u32 ver, .string nm, .int .u8 id, .slice a2 cols.length c2] 77)).trans HX4.out).size
      have hz4:w.heap.size+1≤w4.heap.size:=by have:=HX4.out.size;simpa using this
      clear hown' hgrow g0
      go_wp2_with ((at_builtin;refine wpList_append_own _ rfl _ _ 22 rfl (w.heap.size+1) 77 i0 _ 5 56 Tryz.underlying22 hi hz0 hz1 hz2 rfl (by decide) _ _ _ rfl ((owns_ext HO4.out (by exact eX))) ⟨_,0,none⟩ 1 1 p.cells rfl rfl (cells_new _ #[.int .u32 p.r.oid, .int .u32 p.r.ver, .string p.r.nm, .int .u8 p.r.id, .slice p.a p.r.cols.length p.c] _) (by intro u hu;simp [RR.cells] at hu;rcases hu with rfl|rfl|rfl|rfl|rfl<;>rfl) (by unfold maxLen;omega) (by omega) (by simp;omega) ?_))
      intro v' w5 hown' hgrow _
      have HX5:Hid (Ext (w.alloc (.cells #[.int .u32 oid, .int .u32 ver, .string nm, .int .u8 id, .slice a2 cols.length c2] 77)) w5):=Hm (Below.grown ((HX4.out).alloc _) hgrow (by have:=HX4.out.size;simp at this⊢;omega) (fun g hg=>by have:=(HO4.out.lt g hg).1;simp;omega))
      have HO5:=Hm hown'
      clear hown' hgrow
      go_wp2
      go_roundw
      case rel=>exact ⟨k+1,by omega,by go_num,by rw [hd2],Hm (by rw [HO.out,List.map_append,List.map_append,List.flatten_append,List.flatten_append,List.length_append,List.length_append];simpa using HO5.out),HX5⟩
      case measure=>simp [intOf];omega
     ·have HO:=Hm (HO3.out hkP)
      have hd:decide (P<k)=true:=decide_eq_true (by omega)
      have hd2:decide (P<k+1)=true:=decide_eq_true (by omega)
      rw [hd]
      clear HLT HEQ HNE HO1 HO2 HO3 hd
      go_wp2
      refine wp_region_head 11 (fun w' =>Ext (wr) w'∧(∀b o,b<(wr).heap.size→w'.cell? ⟨b,o,none⟩=(wr).cell? ⟨b,o,none⟩)∧(∀b o,b<(wr).heap.size→w'.frozen? ⟨b,o,none⟩=(wr).frozen? ⟨b,o,none⟩)) (by kernel_rfl) (by decide) ?_
      have hA0:Hid ((fun w' =>Ext (wr) w'∧(∀b o,b<(wr).heap.size→w'.cell? ⟨b,o,none⟩=(wr).cell? ⟨b,o,none⟩)∧(∀b o,b<(wr).heap.size→w'.frozen? ⟨b,o,none⟩=(wr).frozen? ⟨b,o,none⟩)) wr.drew):=held_of (by exact eX)
      refine HG.on 0 37 hA0.out ?_
      try simp only [Act.put,List.setIfInBounds_toArray,List.set_cons_zero,List.set_cons_succ]
      refine HG.on 1 38 hA0.out ?_
      try simp only [Act.put,List.setIfInBounds_toArray,List.set_cons_zero,List.set_cons_succ]
      refine HG.on 2 39 hA0.out ?_
      try simp only [Act.put,List.setIfInBounds_toArray,List.set_cons_zero,List.set_cons_succ]
      refine wpHd_takeD (i:=3) (d:=some 40) (v:=undef) rfl rfl (by kernel_rfl) (by kernel_rfl) (by kernel_rfl) (fun _ _ _ h=>h) (Or.inr ⟨by rfl,rfl⟩) hA0.out ?_
      try simp only [Act.put,List.setIfInBounds_toArray,List.set_cons_zero,List.set_cons_succ]
      refine wpHd_takeD (i:=4) (d:=some 41) (v:=undef) rfl rfl (by kernel_rfl) (by kernel_rfl) (by kernel_rfl) (fun _ _ _ h=>h) (Or.inr ⟨by rfl,rfl⟩) hA0.out ?_
      try simp only [Act.put,List.setIfInBounds_toArray,List.set_cons_zero,List.set_cons_succ]
      refine wpHd_takeD (i:=5) (d:=some 42) (v:=undef) rfl rfl (by kernel_rfl) (by kernel_rfl) (by kernel_rfl) (fun _ _ _ h=>h) (Or.inr ⟨by rfl,rfl⟩) hA0.out ?_
      try simp only [Act.put,List.setIfInBounds_toArray,List.set_cons_zero,List.set_cons_succ]
      refine wpHd_takeD (i:=6) (d:=some 43) (v:=undef) rfl rfl (by kernel_rfl) (by kernel_rfl) (by kernel_rfl) (fun _ _ _ h=>h) (Or.inr ⟨by rfl,rfl⟩) hA0.out ?_
      try simp only [Act.put,List.setIfInBounds_toArray,List.set_cons_zero,List.set_cons_succ]
      refine wpHd_takeD (i:=7) (d:=some 44) (v:=undef) rfl rfl (by kernel_rfl) (by kernel_rfl) (by kernel_rfl) (fun _ _ _ h=>h) (Or.inr ⟨by rfl,rfl⟩) hA0.out ?_
      try simp only [Act.put,List.setIfInBounds_toArray,List.set_cons_zero,List.set_cons_succ]
      refine wpHd_takeD (i:=8) (d:=some 45) (v:=undef) rfl rfl (by kernel_rfl) (by kernel_rfl) (by kernel_rfl) (fun _ _ _ h=>h) (Or.inr ⟨by rfl,rfl⟩) hA0.out ?_
      try simp only [Act.put,List.setIfInBounds_toArray,List.set_cons_zero,List.set_cons_succ]
      refine wpHd_takeD (i:=9) (d:=some 46) (v:=undef) rfl rfl (by kernel_rfl) (by kernel_rfl) (by kernel_rfl) (fun _ _ _ h=>h) (Or.inr ⟨by rfl,rfl⟩) hA0.out ?_
      try simp only [Act.put,List.setIfInBounds_toArray,List.set_cons_zero,List.set_cons_succ]
      refine wpHd_takeD (i:=10) (d:=some 47) (v:=undef) rfl rfl (by kernel_rfl) (by kernel_rfl) (by kernel_rfl) (fun _ _ _ h=>h) (Or.inr ⟨by rfl,rfl⟩) hA0.out ?_
      try simp only [Act.put,List.setIfInBounds_toArray,List.set_cons_zero,List.set_cons_succ]
      refine wpHd_tail (by kernel_rfl) ?_
      simp only [List.drop_succ_cons,List.drop_zero]
      have HE3:Hid (Ext wr wr):=Hm (Ext.refl _)
      have HO3:=hown
      have HX3:=hE
      clear hA0 g0
      go_wp2_with (at_builtin;refine wpList_append_own _ rfl _ _ 22 rfl (w.heap.size+1) 77 i0 _ 5 56 Tryz.underlying22 hi hz0 hz1 hz2 rfl (by decide) _ _ _ rfl ((owns_ext HO3.out (by exact eX))) ⟨_,0,none⟩ 1 1 p.cells rfl rfl (cells_new _ #[.int .u32 p.r.oid, .int .u32 p.r.ver, .string p.r.nm, .int .u8 p.r.id, .slice p.a p.r.cols.length p.c] _) (by intro u hu;simp [RR.cells] at hu;rcases hu with rfl|rfl|rfl|rfl|rfl<;>rfl) (by unfold maxLen;omega) (by omega) (by have:=HEW.out.size;have:=HE3.out.size;simp;omega) ?_)
      intro v' w4 hown' hgrow _
      have HX4:Hid (Ext (w.alloc (.cells #[.int .u32 oid, .int .u32 ver, .string nm, .int .u8 id, .slice a2 cols.length c2] 77)) w4):=Hm (Below.grown ((HX3.out.drew).alloc (.cells #[.int .u32 p.r.oid, .int .u32 p.r.ver, .string p.r.nm, .int .u8 p.r.id, .slice p.a p.r.cols.length p.c] 77)) hgrow (by have:=HX3.out.size;simp at this⊢;omega) (fun g hg=>by have:=(HO3.out.lt g hg).1;simp;omega))
      have HO4:=Hm hown'
      clear hown' hgrow
      go_wp2
      go_roundw
      case rel=>exact ⟨k+1,by omega,by go_num,by rw [hd2],Hm (by rw [HO.out,List.map_append,List.flatten_append,List.length_append];simpa using HO4.out),HX4⟩
      case measure=>simp [intOf];omega
    ·have hkk:k=ps.length:=by omega
     subst hkk
     have hol:(outs ps (⟨⟨oid,ver,nm,id,cols⟩,a2,c2⟩:RR) ps.length).length≤100:=by unfold outs;split<;>rw [List.length_take]<;>omega
     have hql:(RR.cells (⟨⟨oid,ver,nm,id,cols⟩,a2,c2⟩:RR)).length=5:=rfl
     have HE3:Hid (Ext wr wr):=Hm (Ext.refl _)
     have HX3:=hE
     by_cases hPk:P<ps.length
     ·rw [decide_eq_true hPk]
      have HO:=Hm (outs_end (ps:=ps) (q:=(⟨⟨oid,ver,nm,id,cols⟩,a2,c2⟩:RR)) (by rw [←HPP.out];exact hPk))
      rw [HO.out] at hown
      obtain ⟨a',c',hv⟩:=owns_shape hown.out
      subst hv
      go_wp2
      go_ret2
      refine RAddPost.more HA.out ?_ (fun b o h=> ?_) HEW.out
      ·exact ⟨Sl.of_owns (base:=w.heap.size+1) (e:=77) (by rw [List.length_map];exact hown.out) (RR.len _),fun x hx=>(insP_mem hx).elim (fun e=>by rw [e];exact HQ.out.ext HEW.out) (fun h=>(HL.out.sl x h).ext HEW.out)⟩
      ·have:=(hown.out.lt b (by rw [h];rfl)).1
       omega
     ·have hPe:P=ps.length:=by omega
      rw [decide_eq_false hPk]
      have HO:=Hm (outs_last (ps:=ps) (q:=(⟨⟨oid,ver,nm,id,cols⟩,a2,c2⟩:RR)) (by rw [←HPP.out];exact hPe))
      clear hPe hPk
      go_wp2_with (at_builtin;refine wpList_append_own _ rfl _ _ 22 rfl (w.heap.size+1) 77 i0 _ 5 56 Tryz.underlying22 hi hz0 hz1 hz2 rfl (by decide) _ _ _ rfl ((owns_ext hown.out (by exact eX))) ⟨_,0,none⟩ 1 1 (RR.cells (⟨⟨oid,ver,nm,id,cols⟩,a2,c2⟩:RR)) rfl rfl (cells_new _ #[.int .u32 oid, .int .u32 ver, .string nm, .int .u8 id, .slice a2 cols.length c2] _) (by intro u hu;simp [RR.cells] at hu;rcases hu with rfl|rfl|rfl|rfl|rfl<;>rfl) (by unfold maxLen;omega) (by omega) (by have:=HEW.out.size;have:=HE3.out.size;simp;omega) ?_)
      intro v' w4 hown' hgrow _
      have HX4:Hid (Ext (w.alloc (.cells #[.int .u32 oid, .int .u32 ver, .string nm, .int .u8 id, .slice a2 cols.length c2] 77)) w4):=Hm (Below.grown ((HX3.out).alloc (.cells #[.int .u32 oid, .int .u32 ver, .string nm, .int .u8 id, .slice a2 cols.length c2] 77)) hgrow (by have:=HX3.out.size;simp at this⊢;omega) (fun g hg=>by have:=(hown.out.lt g hg).1;simp;omega))
      have hown2:w4.ownsRow (w.heap.size+1) 77 5 v' (insP ps (⟨⟨oid,ver,nm,id,cols⟩,a2,c2⟩:RR)).length ((insP ps (⟨⟨oid,ver,nm,id,cols⟩,a2,c2⟩:RR)).map RR.cells).flatten:=by
       rw [←HO.out,List.map_append,List.flatten_append,List.length_append];simpa using hown'
      obtain ⟨a',c',hv⟩:=owns_shape hown2
      subst hv
      have HO4:=Hm hown2
      have HEW4:=Hm (((Ext.refl w).alloc (.cells #[.int .u32 oid, .int .u32 ver, .string nm, .int .u8 id, .slice a2 cols.length c2] 77)).trans HX4.out)
      clear hown' hgrow hown2
      go_wp2
      go_ret2
      refine RAddPost.more HA.out ?_ (fun b o h=> ?_) HEW4.out
      ·exact ⟨Sl.of_owns (base:=w.heap.size+1) (e:=77) (by rw [List.length_map];exact HO4.out) (RR.len _),fun x hx=>(insP_mem hx).elim (fun e=>by rw [e];exact HQ.out.ext HEW4.out) (fun h=>(HL.out.sl x h).ext HEW4.out)⟩
      ·have:=(HO4.out.lt b (by rw [h];rfl)).1
       omega
def upP (ps:List RR):Nat→List RR
 |0=> []
 |k+1=>if h:k<ps.length then addP (upP ps k) ps[k] else upP ps k
theorem upP_succ {ps:List RR} {k:Nat} (h:k<ps.length):upP ps (k+1)=addP (upP ps k) ps[k]:=by
 conv=>lhs;unfold upP
 rw [dif_pos h]
theorem upP_r (ps:List RR):∀k,(upP ps k).map RR.r=ofUp (ps.map RR.r) k
 |0=>rfl
 |k+1=>by
  unfold upP ofUp
  by_cases h:k<ps.length
  ·rw [dif_pos h,dif_pos (by rw [List.length_map];exact h),addP_r,upP_r ps k,List.getElem_map]
  ·rw [dif_neg h,dif_neg (by rw [List.length_map];exact h)]
   exact upP_r ps k
theorem upP_mem {ps:List RR} :∀ {k:Nat} {x:RR},x∈upP ps k→x∈ps
 |0,x,h=>by cases h
 |k+1,x,h=>by
  unfold upP at h
  split at h
  ·rename_i hk
   rcases addP_mem h with rfl|h
   ·exact List.getElem_mem hk
   ·exact upP_mem h
  ·exact upP_mem h
theorem upP_64 (ps:List RR) (k:Nat):(upP ps k).length≤64:=by
 have:=(ofUp_ok (ps.map RR.r) k).n64
 rw [←upP_r,List.length_map] at this
 exact this
theorem ofAt_P {ps:List RR} {k:Nat} (h:k<ps.length):ofAt (ps.map RR.r) k=addE ((upP ps k).map RR.r) ps[k].r:=by
 unfold ofAt
 rw [dif_pos (by rw [List.length_map];exact h),upP_r,List.getElem_map]
def ofE (l:List Rl):Int:=firstE (ofAt l) l.length
def plE (f:Nat→Int):Nat→Nat
 |0=>0
 |n+1=>if firstE f n≠0 then plE f n else if f n≠0 then n else n+1
theorem plE_zero {f:Nat→Int} :∀ {n:Nat},(∀i,i<n→f i=0)→plE f n=n
 |0,_=>rfl
 |n+1,h=>by
  unfold plE
  rw [if_neg (by rw [firstE_zero (fun i hi=>h i (by omega))];simp),if_neg (by rw [h n (by omega)];simp)]
theorem plE_at {f:Nat→Int} {k:Nat} (h:∀i,i<k→f i=0) (h0:f k≠0):∀ {n:Nat},k<n→plE f n=k
 |0,hk=>by omega
 |n+1,hk=>by
  unfold plE
  by_cases e:k=n
  ·subst e
   rw [if_neg (by rw [firstE_zero h];simp),if_pos h0]
  ·rw [if_pos (by rw [firstE_at h (show k<n by omega) h0];exact h0),plE_at h h0 (by omega)]
def ofPl (l:List Rl):Nat:=plE (ofAt l) l.length
def ROfPost (ps:List RR) (w:World) (e:Ending) (w' :World):Prop:=
 ∃a' c' n,e= .returned (.tuple #[.slice a' n c', .int .i64 (ofPl (ps.map RR.r):Nat), .int .i64 (ofE (ps.map RR.r))])∧(ofE (ps.map RR.r)=0→n=(upP ps ps.length).length∧RL w' (.slice a' n c') (upP ps ps.length))∧(ofE (ps.map RR.r)≠0→a' =none∧n=0∧c' =0)∧Ext w w'
theorem rof_any (ps:List RR) (a:Option Addr) (cap:Nat) (w:World) (hl:RL w (.slice a ps.length cap) ps) (hb:∀p∈ps,p.r.wb) (hlen:ps.length≤9223372036854775807):
 Calls Tryz.prog 19 #[.slice a ps.length cap] w (ROfPost ps w):=by
 have HL:=Hm hl
 have HB:=Hm hb
 clear hl hb
 go_enter Tryz.func19,Tryz.ntmps19
 go_wp2
 go_loopw [5,6] (fun v i wr=>∃(k:Nat) (a' :Option Addr) (c' :Nat),k≤ps.length∧i= .int .i64 k∧v= .slice a' (upP ps k).length c'∧Hid (∀j,j<k→ofAt (ps.map RR.r) j=0)∧Hid (RL wr (.slice a' (upP ps k).length c') (upP ps k))∧Hid (Ext w wr)) (fun _ i _=>ps.length - (intOf i).toNat)
 case atStart=>exact ⟨0,none,0,Nat.zero_le _,rfl,rfl,Hm (fun j h=>by omega),Hm (RL.nil _),Hm (Ext.refl _)⟩
 case round=>
  obtain ⟨k,a',c',hk,rfl,rfl,hz,hr,hE⟩:=hrel
  by_cases hlt:k<ps.length
  ·obtain ⟨b,o,rfl,hb,hx⟩:=HL.out.row.at_ (i:=k) (by simpa using hlt)
   obtain ⟨f0,f1,f2,f3,f4⟩:=RR.at_ hlt hx hb hE.out
   have hbw:b<wr.heap.size:=Nat.lt_of_lt_of_le hb hE.out.size
   have hin:=HL.out.sl _ (List.getElem_mem hlt)
   have hwb:=HB.out _ (List.getElem_mem hlt)
   have HS:=Hm (upP_succ hlt)
   have HAT:=Hm (ofAt_P hlt)
   obtain ⟨p,hp⟩:∃p,p=ps[k]:=⟨_,rfl⟩
   rw [←hp] at f0 f1 f2 f3 f4 hin hwb HS HAT
   have HAD:=Hm (fun W (h:Ext wr W)=>radd_any (upP ps k) a' c' p W (hr.out.ext h) (hin.ext (hE.out.trans h)) hwb (by have:=upP_64 ps k;omega))
   unfold RAddPost RR.agg at HAD
   rw [←HS.out,←HAT.out] at HAD
   clear hx hp hin hwb
   obtain ⟨E,hEE⟩:∃E,E=ofAt (ps.map RR.r) k:=⟨_,rfl⟩
   rw [←hEE] at HAD
   by_cases h0:E=0
   ·have H0:=Hm (hEE.symm.trans h0)
    subst h0
    clear hEE
    go_wp2_with (go_at_call 44;refine (HAD.out _ (Ext.refl _)).mono ?_;rintro e w1 ⟨a1,c1,rfl,hl1, -,hb1⟩;have HL1:=Hm hl1;clear hl1)
    go_roundw
    case rel=>exact ⟨k+1,a1,c1,by omega,by go_num,rfl,Hm (fun j hj=>by
     by_cases e:j=k
     ·subst e;exact H0.out
     ·exact hz.out j (by omega)),HL1,Hm (hE.out.trans hb1)⟩
    case measure=>simp [intOf];omega
   ·have h0' :(E !=0)=true:=by simpa using h0
    have HF:=Hm (show ofE (ps.map RR.r)=E by unfold ofE;rw [firstE_at hz.out (by rw [List.length_map];exact hlt) (by rw [←hEE];exact h0),hEE])
    have HPL:=Hm (show ofPl (ps.map RR.r)=k from plE_at hz.out (by rw [←hEE];exact h0) (by rw [List.length_map];exact hlt))
    have H0:=Hm h0
    clear h0 hEE
    go_wp2_with (go_at_call 44;refine (HAD.out _ (Ext.refl _)).mono ?_;rintro e w1 ⟨a1,c1,rfl, -, -,hb1⟩)
    go_ret3
    exact ⟨none,0,0,by rw [HF.out,HPL.out];rfl,fun h=>absurd (HF.out.symm.trans h) H0.out,fun _=>⟨rfl,rfl,rfl⟩,hE.out.trans hb1⟩
  ·obtain rfl:k=ps.length:=by omega
   have HF:=Hm (show ofE (ps.map RR.r)=0 by unfold ofE;exact firstE_zero (by rw [List.length_map];exact hz.out))
   have HPL:=Hm (show ofPl (ps.map RR.r)=ps.length by unfold ofPl;rw [plE_zero (by rw [List.length_map];exact hz.out),List.length_map])
   go_wp2
   go_ret3
   exact ⟨a',c',_,by rw [HF.out,HPL.out];rfl,fun _=>⟨rfl,hr.out⟩,fun h=>absurd HF.out h,hE.out⟩
end Go.Proofs.YtodbhliidbclcaaGreat
